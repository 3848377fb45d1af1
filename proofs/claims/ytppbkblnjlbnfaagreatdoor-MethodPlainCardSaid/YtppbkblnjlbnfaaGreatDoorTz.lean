import Derived.Test.YtppbkblnjlbnfaaGreatDoorC25
import Derived.Test.YtppbkblnjlbnfaaGreatDoorC23
import Derived.Test.YtppbkblnjlbnfaaGreatDoorBack
import Derived.Test.YtppbkblnjlbnfaaGreatDoorMay
import Derived.Test.YtppbkblnjlbnfaaGreatDoorP13
import Derived.Test.YtppbkblnjlbnfaaGreatDoorRows
import Derived.ProofKit
import Derived.OpenShut
import Derived.HandedShaped
import Derived.Shelf.Vars
import Derived.Test.YtppbkblnjlbnfaaGreatDoorCards
import Derived.Test.YtppbkblnjlbnfaaGreatDoorTie
import Derived.Lib.LaidIn
import Derived.Lib.LaidU8T
import Derived.PinnedBridge
import Derived.Deep.DeepHandedRow
import Derived.Deep.DeepWitnessRowRef
import Derived.SizedLaws
set_option linter.unusedVariables false
set_option linter.unusedSimpArgs false
/-! What the laws of one address want (as in the walk of ShowParts). -/
namespace Go.Proofs.YtppbkblnjlbnfaaGreatDoor
open Go.RowKit
theorem few_ok {u : UV} {w : World} (hr : RdW w u.a u.pn u.xs) (h : PM.few u.pm = true) : u.Ok w := by
  obtain ⟨a, b, c, d, e, f, g, i, j⟩ := PM.few_all h
  exact ⟨Nat.le_trans c (by decide), Nat.le_trans d (by decide), Nat.le_trans e (by decide), Nat.le_trans f (by decide), Nat.le_trans g (by decide), Nat.le_trans i (by decide), Nat.le_trans j (by decide), Nat.le_trans a (by decide), fun s hs => Nat.le_trans (b s hs) (by decide), hr.s a⟩
theorem showUrl_len {u : UV} {w : World} (hu : u.Ok w) : (PM.showUrl u.pm).length ≤ 1000000000000 := by
  have hw : ∀ (is : Bool) (parts : List (List UInt8)), (∀ s ∈ parts, s.length ≤ 20000000000) → parts.length ≤ 3 → (PM.when is parts).length ≤ 60000000000 := fun is parts h1 h2 => by
    have := when_len is parts h1
    omega
  have hb : ∀ l : List UInt8, l.length ≤ 1000000 → l.length ≤ 20000000000 := fun l h => by omega
  have l1 := hw true [u.pm.scheme, [58], u.pm.opaque_] (by simp; exact ⟨hb _ hu.sc, hb _ hu.op⟩) (by simp)
  have l2 := hw (PM.isWeb u.pm) [[47, 47], u.pm.user] (by simp; exact hb _ hu.us) (by simp)
  have l3 := hw (!u.pm.pass.isEmpty) [[58], u.pm.pass] (by simp; exact hb _ hu.pa) (by simp)
  have l4 := hw (!u.pm.user.isEmpty || !u.pm.pass.isEmpty) [[64]] (by simp) (by simp)
  have l5 := hw (PM.isWeb u.pm) [PM.door u.pm, PM.pathShow u.pm.path] (by simp; exact ⟨door_len u hu.n, pathShow_len u.xs hu.xn hu.xl⟩) (by simp)
  have l6 := hw u.pm.hasQuery [[63], u.pm.query] (by simp; exact hb _ hu.qu) (by simp)
  have l7 := hw u.pm.hasFrag [[35], u.pm.frag] (by simp; exact hb _ hu.fr) (by simp)
  unfold PM.showUrl
  split
  · simp
  · simp only [List.length_append]
    omega
/-- Where a law of one address stands. -/
structure OneAt (u : UV) (w W : World) : Prop where
  one : W.heap[w.heap.size]? = some (.cells u.cells 27 (0, 0))
  be : Below w.heap.size w W
theorem OneAt.below {u : UV} {w W W' : World} (h : OneAt u w W) (hb : Below W.heap.size W W') : OneAt u w W' := ⟨heap_b hb h.one, b_then h.be hb⟩
theorem OneAt.new (u : UV) (w : World) : OneAt u w (w.alloc (.cells #[.string (mkS u.sc), .string (mkS u.us), .string (mkS u.pa), .int .i64 u.k, .string (mkS u.n), .int .i64 u.m, .int .i64 u.s0, .int .i64 u.s1, .int .i64 u.s2, .int .i64 u.s3, .int .i64 u.s4, .int .i64 u.s5, .int .i64 u.s6, .int .i64 u.s7, .int .i64 u.port, .slice u.a u.pn u.pc, .string (mkS u.op), .string (mkS u.qu), .string (mkS u.fr), .bool u.hq, .bool u.hf] 27)) := ⟨Go.heap_alloc_new _ _, by (repeat (first | exact Below.refl _ _ | apply b_alloc | apply b_drew | apply b_drewN | assumption | (refine b_then ?_ (by assumption))))⟩
end Go.Proofs.YtppbkblnjlbnfaaGreatDoor
/-! Plain: how long what is shown is; what is parsed of what is shown. -/
namespace Go.Proofs.YtppbkblnjlbnfaaGreatDoor
open Go.RowKit
theorem hostShow_len2 (h : PM.Host) (h2 : h.six.length = 8) : (PM.hostShow h).length ≤ h.name.length + 3100 := by
  unfold PM.hostShow
  split
  · split
    · omega
    · split
      · exact Nat.le_trans (fourShow_len _) (by omega)
      · have := sixShow_len h.six h2
        simp; omega
  · simp
theorem door_len2 (u : PM.Url) (h8 : u.host.six.length = 8) : (PM.door u).length ≤ u.host.name.length + 3200 := by
  have h1 := hostShow_len2 u.host h8
  have h2 : (PM.digs u.port.toNat).length ≤ 20 := by unfold PM.digs PM.rdig; rw [List.length_reverse]; exact rdigF_len _ _
  unfold PM.door
  split
  · simp
  · split
    · omega
    · rw [List.length_append, List.length_cons]
      omega
theorem when_len2 (is : Bool) (parts : List (List UInt8)) : (PM.when is parts).length ≤ parts.flatten.length := by
  unfold PM.when
  split
  · exact Nat.le_refl _
  · simp
theorem showUrl_len2 (u : PM.Url) (h8 : u.host.six.length = 8) : (PM.showUrl u).length ≤ u.scheme.length + u.opaque_.length + u.user.length + u.pass.length + (u.host.name.length + 3200) + (PM.pathShow u.path).length + u.query.length + u.frag.length + 10 := by
  have hd := door_len2 u h8
  have l1 := when_len2 true [u.scheme, [58], u.opaque_]
  have l2 := when_len2 (PM.isWeb u) [[47, 47], u.user]
  have l3 := when_len2 (!u.pass.isEmpty) [[58], u.pass]
  have l4 := when_len2 (!u.user.isEmpty || !u.pass.isEmpty) [[64]]
  have l5 := when_len2 (PM.isWeb u) [PM.door u, PM.pathShow u.path]
  have l6 := when_len2 u.hasQuery [[63], u.query]
  have l7 := when_len2 u.hasFrag [[35], u.frag]
  simp only [List.flatten_cons, List.flatten_nil, List.length_append, List.length_cons, List.length_nil] at l1 l2 l3 l4 l5 l6 l7
  unfold PM.showUrl
  split
  · simp
  · simp only [List.length_append]
    omega
/-- The bytes of all segments. -/
def tot (l : List (List UInt8)) : Nat := (l.map List.length).sum
theorem pathShow_tot (l : List (List UInt8)) : (PM.pathShow l).length = tot l + l.length := by
  unfold PM.pathShow tot
  induction l with
  | nil => rfl
  | cons x r ih =>
    simp only [List.flatMap_cons, List.length_append, List.length_cons, List.map_cons, List.sum_cons, ih]
    omega
theorem tot_app (a b : List (List UInt8)) : tot (a ++ b) = tot a + tot b := by simp [tot]
theorem tot_few (l : List (List UInt8)) (m : Nat) (h : ∀ x ∈ l, x.length ≤ m) : tot l ≤ l.length * m := by
  unfold tot
  induction l with
  | nil => simp
  | cons x r ih =>
    have h1 := h x (by simp)
    have h2 := ih (fun y hy => h y (by simp [hy]))
    simp only [List.map_cons, List.sum_cons, List.length_cons]
    rw [Nat.succ_mul]
    omega
theorem tot_dropLast (l : List (List UInt8)) : tot l.dropLast ≤ tot l := by
  induction l with
  | nil => simp [tot]
  | cons x r ih =>
    cases r with
    | nil => simp [tot]
    | cons y r =>
      rw [List.dropLast_cons_cons]
      unfold tot at ih ⊢
      simp only [List.map_cons, List.sum_cons] at ih ⊢
      omega
theorem tot_step (out : List (List UInt8)) (s : List UInt8) (last : Bool) : tot (PM.normStep out s last) ≤ tot out + s.length := by
  unfold PM.normStep
  split
  · rw [tot_app]
    simp [tot]
  · rw [tot_app]
    have h1 : tot (if PM.dots s = 2 then out.dropLast else out) ≤ tot out := by
      split
      · exact tot_dropLast out
      · exact Nat.le_refl _
    have h2 : tot (if last = true then [([] : List UInt8)] else []) = 0 := by
      cases last <;> simp [tot]
    omega
theorem tot_go (l : List (List UInt8)) : ∀ out, tot (PM.normGo out l) ≤ tot out + tot l := by
  induction l with
  | nil => intro out; simp [PM.normGo]
  | cons s r ih =>
    intro out
    cases r with
    | nil =>
      have := tot_step out s true
      simp only [PM.normGo, tot, List.map_cons, List.map_nil, List.sum_cons, List.sum_nil] at *
      omega
    | cons t r =>
      have h1 := tot_step out s false
      have h2 := ih (PM.normStep out s false)
      rw [PM.normGo]
      have e : tot (s :: t :: r) = s.length + tot (t :: r) := by simp [tot]
      omega
theorem tot_split (c : UInt8) (s : List UInt8) : tot (PM.splitB c s) ≤ s.length ∧ (PM.splitB c s).length ≤ s.length + 1 := by
  induction s with
  | nil => simp [PM.splitB, tot]
  | cons x r ih =>
    unfold PM.splitB
    split
    · simp [tot] at ih ⊢
      omega
    · split
      · simp [tot]
      · rename_i h t he
        rw [he] at ih
        simp [tot] at ih ⊢
        omega
theorem normGo_cnt (l : List (List UInt8)) : ∀ out, (PM.normGo out l).length ≤ out.length + l.length := by
  intro out
  have key : ∀ (out : List (List UInt8)) (s : List UInt8) (last : Bool), (PM.normStep out s last).length ≤ out.length + 1 := by
    intro out s last
    unfold PM.normStep
    split
    · simp
    · rw [List.length_append]
      have h1 : (if PM.dots s = 2 then out.dropLast else out).length ≤ out.length := by
        split
        · simp
        · exact Nat.le_refl _
      have h2 : (if last = true then [([] : List UInt8)] else []).length ≤ 1 := by
        cases last <;> simp
      omega
  induction l generalizing out with
  | nil => simp [PM.normGo]
  | cons s r ih =>
    cases r with
    | nil => exact key out s true
    | cons t r =>
      have h1 := key out s false
      have h2 := ih (PM.normStep out s false)
      rw [PM.normGo]
      simp only [List.length_cons] at h2 ⊢
      omega
theorem path_len2 (s : List UInt8) : tot (PM.pathParse s) ≤ 3 * s.length ∧ (PM.pathParse s).length ≤ 3 * s.length + 1 := by
  have hu : (PM.unslash s).length ≤ s.length := by
    unfold PM.unslash
    split <;> simp
  have he := PM.encode_len 3 (PM.unslash s)
  have h1 := tot_split 47 (PM.encode 3 (PM.unslash s))
  have h2 := tot_go (PM.splitB 47 (PM.encode 3 (PM.unslash s))) []
  have h3 := normGo_cnt (PM.splitB 47 (PM.encode 3 (PM.unslash s))) []
  have h4 : tot ([] : List (List UInt8)) = 0 := rfl
  simp only [List.length_nil] at h3
  unfold PM.pathParse PM.norm PM.pathSplit
  omega
/-- How long what is parsed is. -/
structure Short (n : Nat) (u : PM.Url) : Prop where
  sc : u.scheme.length ≤ n
  us : u.user.length ≤ 3 * n
  pa : u.pass.length ≤ 3 * n
  hn : u.host.name.length ≤ n
  pt : tot u.path ≤ 3 * n
  pn : u.path.length ≤ 3 * n + 1
  op : u.opaque_.length ≤ 3 * n
  qu : u.query.length ≤ 3 * n
  fr : u.frag.length ≤ 3 * n
theorem cut_len' (c : UInt8) (s : List UInt8) : (PM.cut c s).1.length ≤ s.length ∧ (PM.cut c s).2.1.length ≤ s.length := by
  unfold PM.cut
  split
  · refine ⟨(List.takeWhile_sublist _).length_le, ?_⟩
    dsimp only
    rw [List.length_drop]
    exact Nat.le_trans (Nat.sub_le _ _) (List.dropWhile_sublist _).length_le
  · exact ⟨Nat.le_refl _, Nat.zero_le _⟩
theorem trim_len (s : List UInt8) : (PM.clean s).length ≤ s.length := by
  have h1 : (PM.trim s).length ≤ s.length := by
    unfold PM.trim
    rw [List.length_reverse]
    refine Nat.le_trans (List.dropWhile_sublist _).length_le ?_
    rw [List.length_reverse]
    exact (List.dropWhile_sublist _).length_le
  unfold PM.clean
  exact Nat.le_trans (List.length_filter_le _ _) h1
theorem hostParse_len' {s : List UInt8} {h : PM.Host} (e : PM.hostParse s = some h) : h.name.length ≤ s.length := by
  by_cases h91 : s.head? = some 91
  · obtain ⟨r, rfl⟩ : ∃ r, s = 91 :: r := by
      cases s with
      | nil => simp at h91
      | cons x r => simp at h91; exact ⟨r, by rw [h91]⟩
    have hv : PM.hostParse (91 :: r) = if r.getLast? = some 93 then (match PM.sixParse r.dropLast with
      | some p => some ⟨3, [], 0, p⟩
      | none => none) else none := rfl
    rw [hv] at e
    split at e
    · split at e
      · simp at e
        subst e
        exact Nat.zero_le _
      · cases e
    · cases e
  · rw [PM.hostParse_plain h91] at e
    split at e
    · split at e
      · simp at e
        subst e
        exact Nat.zero_le _
      · cases e
    · split at e
      · simp at e
        subst e
        simp [PM.lower]
      · cases e
theorem doorName_len' (s : List UInt8) : (PM.doorName s).length ≤ s.length := by
  unfold PM.doorName
  split
  · have h1 := (List.takeWhile_sublist (l := s.drop (PM.doorAt s)) (· != 58)).length_le
    have h2 : (s.drop (PM.doorAt s)).length = s.length - PM.doorAt s := List.length_drop
    have h3 : (s.take (PM.doorAt s)).length = min (PM.doorAt s) s.length := List.length_take
    rw [List.length_append]
    omega
  · exact Nat.le_refl _
theorem user_len (s : List UInt8) : (PM.userOf s).length ≤ 3 * s.length ∧ (PM.passOf s).length ≤ 3 * s.length ∧ (PM.doorOf s).length ≤ s.length := by
  have h1 : (PM.aheadAt s).length ≤ s.length := by
    unfold PM.aheadAt
    rw [List.length_reverse, List.length_drop]
    have := (List.dropWhile_sublist (l := s.reverse) (· != 64)).length_le
    rw [List.length_reverse] at this
    omega
  have h0 : (PM.behindAt s).length ≤ s.length := by
    unfold PM.behindAt
    rw [List.length_reverse]
    have := (List.takeWhile_sublist (l := s.reverse) (· != 64)).length_le
    rw [List.length_reverse] at this
    omega
  have := cut_len' 58 (PM.aheadAt s)
  have h2 := PM.encode_len 4 (PM.cut 58 (PM.aheadAt s)).1
  have h3 := PM.encode_len 4 (PM.cut 58 (PM.aheadAt s)).2.1
  unfold PM.userOf PM.passOf PM.doorOf
  refine ⟨?_, ?_, ?_⟩ <;> split <;> first | omega | simp
theorem parse_short {s : List UInt8} {u : PM.Url} (h : PM.urlParse s = some u) : Short s.length u := by
  have hcl := trim_len s
  unfold PM.urlParse PM.parseC at h
  generalize PM.clean s = c at h hcl
  split at h
  · cases h
  · have hs : (PM.scheme c).1.length ≤ c.length ∧ (PM.scheme c).2.1.length ≤ c.length := by
      unfold PM.scheme
      have := cut_len' 58 c
      split
      · exact ⟨Nat.zero_le _, Nat.zero_le _⟩
      · exact ⟨by rw [PM.lower, List.length_map]; exact this.1, this.2⟩
    generalize (PM.scheme c).1 = sch at h hs
    generalize (PM.scheme c).2.1 = rest at h hs
    have ht : (PM.tail rest).1.length ≤ rest.length ∧ (PM.tail rest).2.1.length ≤ rest.length ∧ (PM.tail rest).2.2.1.length ≤ rest.length := by
      unfold PM.tail
      have h1 := cut_len' 35 rest
      have h2 := cut_len' 63 (PM.cut 35 rest).1
      exact ⟨Nat.le_trans h2.1 h1.1, Nat.le_trans h2.2 h1.1, h1.2⟩
    unfold PM.parseT at h
    generalize PM.tail rest = x at h ht
    have e1 := PM.encode_len 1 x.1
    have e2 := PM.encode_len 2 x.2.1
    have e3 := PM.encode_len 1 x.2.2.1
    split at h
    · simp only [Option.some.injEq] at h
      subst h
      exact ⟨by show sch.length ≤ _; omega, Nat.zero_le _, Nat.zero_le _, Nat.zero_le _, Nat.zero_le _, Nat.zero_le _, by show (PM.encode 1 x.1).length ≤ _; omega, by show (PM.encode 2 x.2.1).length ≤ _; omega, by show (PM.encode 1 x.2.2.1).length ≤ _; omega⟩
    · unfold PM.parseWeb at h
      split at h
      · cases h
      · rename_i t htt
        have hl : t.length ≤ x.1.length := by
          unfold PM.unslash2 at htt
          split at htt
          · rename_i r hr
            simp only [Option.some.injEq] at htt
            subst htt
            rw [hr]
            simp
            omega
          · cases htt
        have hw : (PM.where_ t).length ≤ t.length := (List.takeWhile_sublist _).length_le
        have hd : (t.dropWhile (· != 47)).length ≤ t.length := (List.dropWhile_sublist _).length_le
        have hu := user_len (PM.where_ t)
        have hp := path_len2 (t.dropWhile (· != 47))
        split at h
        · rename_i hh p hhp hpp
          have hn := hostParse_len' hhp
          have hdn := doorName_len' (PM.doorOf (PM.where_ t))
          simp only [Option.some.injEq] at h
          subst h
          exact ⟨by show sch.length ≤ _; omega, by show (PM.userOf _).length ≤ _; omega, by show (PM.passOf _).length ≤ _; omega, by show hh.name.length ≤ _; omega, by show tot (PM.pathParse _) ≤ _; omega, by show (PM.pathParse _).length ≤ _; omega, Nat.zero_le _, by show (PM.encode 2 x.2.1).length ≤ _; omega, by show (PM.encode 1 x.2.2.1).length ≤ _; omega⟩
        · cases h
theorem show_short {n : Nat} {u : PM.Url} (h : Short n u) (h8 : u.host.six.length = 8) : (PM.showUrl u).length ≤ 23 * n + 3211 := by
  have := showUrl_len2 u h8
  rw [pathShow_tot] at this
  obtain ⟨a, b, c, d, e, f, g, i, j⟩ := h
  omega
theorem show_few {u : PM.Url} (h : PM.few u = true) (h8 : u.host.six.length = 8) : (PM.showUrl u).length ≤ 30000 := by
  have := showUrl_len2 u h8
  obtain ⟨a, b, c, d, e, f, g, i, j⟩ := PM.few_all h
  have ht := tot_few u.path 300 b
  rw [pathShow_tot] at this
  omega
theorem show_none {u : PM.Url} (h : PM.urlMay u = false) : PM.showUrl u = [] := by
  unfold PM.showUrl
  rw [h]
  rfl
theorem show_some {u : PM.Url} (h : PM.urlMay u = true) : PM.showUrl u ≠ [] := by
  obtain ⟨r, hr⟩ := PM.show_scheme h
  rw [hr]
  simp
theorem parse_nil : PM.urlParse [] = none := by kernel_rfl
end Go.Proofs.YtppbkblnjlbnfaaGreatDoor
/-! An address as an argument: opened. -/
namespace Go.Proofs.YtppbkblnjlbnfaaGreatDoor
open Go.ChangeShapes Go.WideShapes Go.ChangeAt Go.RowKit
open Go.WideMaps Go.WideElems
open Go.ChangeMaps (open_string shut_string)
theorem list21 {α : Type} {l : List α} (h : l.length = 21) : ∃ c0 c1 c2 c3 c4 c5 c6 c7 c8 c9 c10 c11 c12 c13 c14 c15 c16 c17 c18 c19 c20, l = [c0, c1, c2, c3, c4, c5, c6, c7, c8, c9, c10, c11, c12, c13, c14, c15, c16, c17, c18, c19, c20] := by
  match l, h with
  | [c0, c1, c2, c3, c4, c5, c6, c7, c8, c9, c10, c11, c12, c13, c14, c15, c16, c17, c18, c19, c20], _ => exact ⟨c0, c1, c2, c3, c4, c5, c6, c7, c8, c9, c10, c11, c12, c13, c14, c15, c16, c17, c18, c19, c20, rfl⟩
theorem list8 {α : Type} {l : List α} (h : l.length = 8) : ∃ c0 c1 c2 c3 c4 c5 c6 c7, l = [c0, c1, c2, c3, c4, c5, c6, c7] := by
  match l, h with
  | [c0, c1, c2, c3, c4, c5, c6, c7], _ => exact ⟨c0, c1, c2, c3, c4, c5, c6, c7, rfl⟩
theorem some_of_lt {α : Type} {l : List α} {i : Nat} (h : i < l.length) : ∃ y, l[i]? = some y := ⟨l[i], by simp [h]⟩
section
variable {H : Type} {enc : TypeId × Value → H} {w : World} {base : Nat} {spare : Nat → Bool} {held : Bool} {fuel : Nat} {c : Value} {x : DataW H × List MemPlace}
theorem str_cell (h : DataW.trod enc Tryz.prog w base spare held fuel 9 [c] = some x) : ∃ l, c = .string (mkS l) := by
  obtain ⟨s, hs, _⟩ := DataW.trod_string Tryz.underlying9 h
  obtain ⟨l, rfl⟩ := mkS_surj s
  exact ⟨l, by simpa using hs⟩
theorem int_cell (h : DataW.trod enc Tryz.prog w base spare held fuel 3 [c] = some x) : ∃ n, c = .int .i64 n := by
  obtain ⟨n, hs, _⟩ := DataW.trod_int Tryz.underlying3 h
  exact ⟨n, by simpa using hs⟩
theorem bool_cell (h : DataW.trod enc Tryz.prog w base spare held fuel 4 [c] = some x) : ∃ n, c = .bool n := by
  obtain ⟨n, hs, _⟩ := DataW.trod_bool Tryz.underlying4 h
  exact ⟨n, by simpa using hs⟩
theorem strs_cell (h : DataW.trod enc Tryz.prog w base spare held fuel 25 [c] = some x) : ∃ a n k xs, c = .slice a n k ∧ RdW w a n xs := by
  rcases open_strings Tryz.underlying25 Tryz.underlying9 (by kernel_rfl) h with ⟨hcs, _⟩ | ⟨a, len, cap, ss, hcs, _, hl, _, hlen, _, hcell, _⟩
  · exact ⟨none, 0, 0, [], by simpa using hcs, rfl, .inl rfl⟩
  · have hc : c = .slice (some a) len cap := by simpa using hcs
    have hle : len ≤ ss.length := by rw [hlen]; split <;> omega
    refine ⟨some a, len, cap, (ss.take len).map (·.data.toList), hc, by simp; omega, ?_⟩
    rcases Nat.eq_zero_or_pos len with h0 | h0
    · subst h0
      exact .inl (by simp)
    · right
      obtain ⟨b, o, spot⟩ := a
      have hspot : spot = none := by simpa [Addr.add] using World.cell?_spot (hcell 0 (by omega))
      subst hspot
      have hca : ∀ j, j < len → w.cell? ⟨b, o + j, none⟩ = some (.string (ss.getD j ByteArray.empty)) := fun j hj => by rw [← Go.WideShapes.add_plain]; exact hcell j (by omega)
      refine ⟨b, o, rfl, cell_lt (hca 0 h0), fun j hj => ?_⟩
      have hj' : j < len := by simp at hj; omega
      rw [hca j hj']
      congr 2
      have hj2 : j < ss.length := by omega
      simp [List.getD, hj2, mkS]
theorem six_cells {p0 p1 p2 p3 p4 p5 p6 p7 : Value} (h : DataW.trod enc Tryz.prog w base spare held fuel 22 [p0, p1, p2, p3, p4, p5, p6, p7] = some x) : ∃ n0 n1 n2 n3 n4 n5 n6 n7, p0 = .int .i64 n0 ∧ p1 = .int .i64 n1 ∧ p2 = .int .i64 n2 ∧ p3 = .int .i64 n3 ∧ p4 = .int .i64 n4 ∧ p5 = .int .i64 n5 ∧ p6 = .int .i64 n6 ∧ p7 = .int .i64 n7 := by
  obtain ⟨xs, m, _, _, _, hlen, hf⟩ := DataW.trod_array Tryz.underlying22 h
  have hc : Tryz.prog.cellsOf 3 = 1 := by kernel_rfl
  rw [hc] at hf
  have g : ∀ i, i < 8 → ∃ y, xs[i]? = some y := fun i hi => some_of_lt (by omega)
  obtain ⟨y0, e0⟩ := g 0 (by decide)
  have h0 := hf 0 (by decide)
  rw [e0] at h0
  obtain ⟨n0, r0⟩ := int_cell (c := p0) h0
  obtain ⟨y1, e1⟩ := g 1 (by decide)
  have h1 := hf 1 (by decide)
  rw [e1] at h1
  obtain ⟨n1, r1⟩ := int_cell (c := p1) h1
  obtain ⟨y2, e2⟩ := g 2 (by decide)
  have h2 := hf 2 (by decide)
  rw [e2] at h2
  obtain ⟨n2, r2⟩ := int_cell (c := p2) h2
  obtain ⟨y3, e3⟩ := g 3 (by decide)
  have h3 := hf 3 (by decide)
  rw [e3] at h3
  obtain ⟨n3, r3⟩ := int_cell (c := p3) h3
  obtain ⟨y4, e4⟩ := g 4 (by decide)
  have h4 := hf 4 (by decide)
  rw [e4] at h4
  obtain ⟨n4, r4⟩ := int_cell (c := p4) h4
  obtain ⟨y5, e5⟩ := g 5 (by decide)
  have h5 := hf 5 (by decide)
  rw [e5] at h5
  obtain ⟨n5, r5⟩ := int_cell (c := p5) h5
  obtain ⟨y6, e6⟩ := g 6 (by decide)
  have h6 := hf 6 (by decide)
  rw [e6] at h6
  obtain ⟨n6, r6⟩ := int_cell (c := p6) h6
  obtain ⟨y7, e7⟩ := g 7 (by decide)
  have h7 := hf 7 (by decide)
  rw [e7] at h7
  obtain ⟨n7, r7⟩ := int_cell (c := p7) h7
  exact ⟨n0, n1, n2, n3, n4, n5, n6, n7, r0, r1, r2, r3, r4, r5, r6, r7⟩
theorem host_cells {a0 a1 a2 a3 a4 a5 a6 a7 a8 a9 a10 : Value} (h : DataW.trod enc Tryz.prog w base spare held fuel 24 [a0, a1, a2, a3, a4, a5, a6, a7, a8, a9, a10] = some x) : ∃ k n m n0 n1 n2 n3 n4 n5 n6 n7, a0 = .int .i64 k ∧ a1 = .string (mkS n) ∧ a2 = .int .i64 m ∧ a3 = .int .i64 n0 ∧ a4 = .int .i64 n1 ∧ a5 = .int .i64 n2 ∧ a6 = .int .i64 n3 ∧ a7 = .int .i64 n4 ∧ a8 = .int .i64 n5 ∧ a9 = .int .i64 n6 ∧ a10 = .int .i64 n7 := by
  have hu := Tryz.underlying24
  obtain ⟨xs, m, _, _, _, hlen, hf⟩ := DataW.trod_struct hu h
  have hc3 : Tryz.prog.cellsOf 3 = 1 := by kernel_rfl
  have hc9 : Tryz.prog.cellsOf 9 = 1 := by kernel_rfl
  have hc22 : Tryz.prog.cellsOf 22 = 8 := by kernel_rfl
  have g : ∀ i, i < 4 → ∃ y, xs[i]? = some y := fun i hi => some_of_lt (by rw [hlen]; exact hi)
  obtain ⟨y0, e0⟩ := g 0 (by decide)
  obtain ⟨y1, e1⟩ := g 1 (by decide)
  obtain ⟨y2, e2⟩ := g 2 (by decide)
  obtain ⟨y3, e3⟩ := g 3 (by decide)
  have h0 : DataW.trod enc Tryz.prog w base spare held m 3 (([a0, a1, a2, a3, a4, a5, a6, a7, a8, a9, a10].drop 0).take (Tryz.prog.cellsOf 3)) = xs[0]? := hf 0 _ rfl
  have h1 : DataW.trod enc Tryz.prog w base spare held m 9 (([a0, a1, a2, a3, a4, a5, a6, a7, a8, a9, a10].drop 1).take (Tryz.prog.cellsOf 9)) = xs[1]? := hf 1 _ rfl
  have h2 : DataW.trod enc Tryz.prog w base spare held m 3 (([a0, a1, a2, a3, a4, a5, a6, a7, a8, a9, a10].drop 2).take (Tryz.prog.cellsOf 3)) = xs[2]? := hf 2 _ rfl
  have h3 : DataW.trod enc Tryz.prog w base spare held m 22 (([a0, a1, a2, a3, a4, a5, a6, a7, a8, a9, a10].drop 3).take (Tryz.prog.cellsOf 22)) = xs[3]? := hf 3 _ rfl
  rw [hc3, e0] at h0
  rw [hc9, e1] at h1
  rw [hc3, e2] at h2
  rw [hc22, e3] at h3
  obtain ⟨k, r0⟩ := int_cell (c := a0) h0
  obtain ⟨n, r1⟩ := str_cell (c := a1) h1
  obtain ⟨m', r2⟩ := int_cell (c := a2) h2
  obtain ⟨n0, n1, n2, n3, n4, n5, n6, n7, q0, q1, q2, q3, q4, q5, q6, q7⟩ := six_cells h3
  exact ⟨k, n, m', n0, n1, n2, n3, n4, n5, n6, n7, r0, r1, r2, q0, q1, q2, q3, q4, q5, q6, q7⟩
set_option maxRecDepth 100000 in
theorem open_url {r : Reach} {b0 : Nat} {v : Value} {d : DataW H} {p : List MemPlace} (hv : Value.okWide Tryz.prog w r b0 27 v) (h : DataW.Trod enc Tryz.prog w base spare held 27 v d p) :
    ∃ u : UV, v = .agg u.cells ∧ RdW w u.a u.pn u.xs := by
  have hu := Tryz.underlying27
  obtain ⟨cs, rfl, hsz⟩ := okWide_struct hu hv
  obtain ⟨fuel, hf0⟩ := h
  have hC : Tryz.prog.cellsOf 27 = 21 := by kernel_rfl
  obtain ⟨l⟩ := cs
  have hl : l.length = 21 := by simpa [hC] using hsz
  obtain ⟨c0, c1, c2, c3, c4, c5, c6, c7, c8, c9, c10, c11, c12, c13, c14, c15, c16, c17, c18, c19, c20, rfl⟩ := list21 hl
  obtain ⟨xs, m, _, _, _, hlen, hf⟩ := DataW.trod_struct hu hf0
  have hc3 : Tryz.prog.cellsOf 3 = 1 := by kernel_rfl
  have hc4 : Tryz.prog.cellsOf 4 = 1 := by kernel_rfl
  have hc9 : Tryz.prog.cellsOf 9 = 1 := by kernel_rfl
  have hc24 : Tryz.prog.cellsOf 24 = 11 := by kernel_rfl
  have hc25 : Tryz.prog.cellsOf 25 = 1 := by kernel_rfl
  have g : ∀ i, i < 11 → ∃ y, xs[i]? = some y := fun i hi => some_of_lt (by rw [hlen]; exact hi)
  obtain ⟨y0, e0⟩ := g 0 (by decide)
  have h0 : DataW.trod enc Tryz.prog w base spare held m 9 (([c0, c1, c2, c3, c4, c5, c6, c7, c8, c9, c10, c11, c12, c13, c14, c15, c16, c17, c18, c19, c20].drop 0).take (Tryz.prog.cellsOf 9)) = xs[0]? := hf 0 _ rfl
  rw [hc9, e0] at h0
  obtain ⟨y1, e1⟩ := g 1 (by decide)
  have h1 : DataW.trod enc Tryz.prog w base spare held m 9 (([c0, c1, c2, c3, c4, c5, c6, c7, c8, c9, c10, c11, c12, c13, c14, c15, c16, c17, c18, c19, c20].drop 1).take (Tryz.prog.cellsOf 9)) = xs[1]? := hf 1 _ rfl
  rw [hc9, e1] at h1
  obtain ⟨y2, e2⟩ := g 2 (by decide)
  have h2 : DataW.trod enc Tryz.prog w base spare held m 9 (([c0, c1, c2, c3, c4, c5, c6, c7, c8, c9, c10, c11, c12, c13, c14, c15, c16, c17, c18, c19, c20].drop 2).take (Tryz.prog.cellsOf 9)) = xs[2]? := hf 2 _ rfl
  rw [hc9, e2] at h2
  obtain ⟨y3, e3⟩ := g 3 (by decide)
  have h3 : DataW.trod enc Tryz.prog w base spare held m 24 (([c0, c1, c2, c3, c4, c5, c6, c7, c8, c9, c10, c11, c12, c13, c14, c15, c16, c17, c18, c19, c20].drop 3).take (Tryz.prog.cellsOf 24)) = xs[3]? := hf 3 _ rfl
  rw [hc24, e3] at h3
  obtain ⟨y4, e4⟩ := g 4 (by decide)
  have h4 : DataW.trod enc Tryz.prog w base spare held m 3 (([c0, c1, c2, c3, c4, c5, c6, c7, c8, c9, c10, c11, c12, c13, c14, c15, c16, c17, c18, c19, c20].drop 14).take (Tryz.prog.cellsOf 3)) = xs[4]? := hf 4 _ rfl
  rw [hc3, e4] at h4
  obtain ⟨y5, e5⟩ := g 5 (by decide)
  have h5 : DataW.trod enc Tryz.prog w base spare held m 25 (([c0, c1, c2, c3, c4, c5, c6, c7, c8, c9, c10, c11, c12, c13, c14, c15, c16, c17, c18, c19, c20].drop 15).take (Tryz.prog.cellsOf 25)) = xs[5]? := hf 5 _ rfl
  rw [hc25, e5] at h5
  obtain ⟨y6, e6⟩ := g 6 (by decide)
  have h6 : DataW.trod enc Tryz.prog w base spare held m 9 (([c0, c1, c2, c3, c4, c5, c6, c7, c8, c9, c10, c11, c12, c13, c14, c15, c16, c17, c18, c19, c20].drop 16).take (Tryz.prog.cellsOf 9)) = xs[6]? := hf 6 _ rfl
  rw [hc9, e6] at h6
  obtain ⟨y7, e7⟩ := g 7 (by decide)
  have h7 : DataW.trod enc Tryz.prog w base spare held m 9 (([c0, c1, c2, c3, c4, c5, c6, c7, c8, c9, c10, c11, c12, c13, c14, c15, c16, c17, c18, c19, c20].drop 17).take (Tryz.prog.cellsOf 9)) = xs[7]? := hf 7 _ rfl
  rw [hc9, e7] at h7
  obtain ⟨y8, e8⟩ := g 8 (by decide)
  have h8 : DataW.trod enc Tryz.prog w base spare held m 9 (([c0, c1, c2, c3, c4, c5, c6, c7, c8, c9, c10, c11, c12, c13, c14, c15, c16, c17, c18, c19, c20].drop 18).take (Tryz.prog.cellsOf 9)) = xs[8]? := hf 8 _ rfl
  rw [hc9, e8] at h8
  obtain ⟨y9, e9⟩ := g 9 (by decide)
  have h9 : DataW.trod enc Tryz.prog w base spare held m 4 (([c0, c1, c2, c3, c4, c5, c6, c7, c8, c9, c10, c11, c12, c13, c14, c15, c16, c17, c18, c19, c20].drop 19).take (Tryz.prog.cellsOf 4)) = xs[9]? := hf 9 _ rfl
  rw [hc4, e9] at h9
  obtain ⟨y10, e10⟩ := g 10 (by decide)
  have h10 : DataW.trod enc Tryz.prog w base spare held m 4 (([c0, c1, c2, c3, c4, c5, c6, c7, c8, c9, c10, c11, c12, c13, c14, c15, c16, c17, c18, c19, c20].drop 20).take (Tryz.prog.cellsOf 4)) = xs[10]? := hf 10 _ rfl
  rw [hc4, e10] at h10
  obtain ⟨sc, r0⟩ := str_cell (c := c0) h0
  obtain ⟨us, r1⟩ := str_cell (c := c1) h1
  obtain ⟨pa, r2⟩ := str_cell (c := c2) h2
  obtain ⟨k, n, m', n0, n1, n2, n3, n4, n5, n6, n7, q0, q1, q2, q3, q4, q5, q6, q7, q8, q9, q10⟩ := host_cells (a0 := c3) (a1 := c4) (a2 := c5) (a3 := c6) (a4 := c7) (a5 := c8) (a6 := c9) (a7 := c10) (a8 := c11) (a9 := c12) (a10 := c13) h3
  obtain ⟨port, r4⟩ := int_cell (c := c14) h4
  obtain ⟨a, pn, pc, ps, r5, hr⟩ := strs_cell (c := c15) h5
  obtain ⟨op, r6⟩ := str_cell (c := c16) h6
  obtain ⟨qu, r7⟩ := str_cell (c := c17) h7
  obtain ⟨fr, r8⟩ := str_cell (c := c18) h8
  obtain ⟨hq, r9⟩ := bool_cell (c := c19) h9
  obtain ⟨hf', r10⟩ := bool_cell (c := c20) h10
  refine ⟨⟨sc, us, pa, k, n, m', n0, n1, n2, n3, n4, n5, n6, n7, port, a, pn, pc, ps, op, qu, fr, hq, hf'⟩, ?_, hr⟩
  subst r0 r1 r2 q0 q1 q2 q3 q4 q5 q6 q7 q8 q9 q10 r4 r5 r6 r7 r8 r9 r10
  rfl
end
end Go.Proofs.YtppbkblnjlbnfaaGreatDoor
/-! What every row of this program asks. -/
namespace Go.Proofs.YtppbkblnjlbnfaaGreatDoor
open Go.RowKit
theorem own : ownKnob Tryz.prog.godebug = none := by kernel_rfl
theorem laidOut : laidOutB Tryz.prog = true := by kernel_rfl
theorem gl_of {W : World} (h : W.ShapedOpen Tryz.prog) : Gl W := Go.Proofs.cell_of_shapedOpen_int (zero := #[.int .i64 0]) (t := 3) h (of_decide_eq_true (by kernel_rfl)) (by kernel_rfl) rfl (by kernel_rfl) (by kernel_rfl) Tryz.underlying3
end Go.Proofs.YtppbkblnjlbnfaaGreatDoor
/-! The two tables of unicode/utf8 that the rows list. -/
namespace Go.Proofs.YtppbkblnjlbnfaaGreatDoor
open Go.ChangeShapes Go.WideShapes Go.ChangeAt Go.RowKit Go.Lib Go.Shelf
def laidTwo : List (String × DataW Unit) := [("unicode/utf8.acceptRanges", Rows.laid_unicode_utf8_acceptRanges), ("unicode/utf8.first", Rows.laid_unicode_utf8_first)]
theorem accept_eq : (Rows.laid_unicode_utf8_acceptRanges : DataW Unit) = Lib.acceptData := by kernel_rfl
theorem first_eq : Rows.laid_unicode_utf8_first = Lib.firstData := Pinned.utf8First_eq
def tabRen : Ren := ⟨fun n => n, fun | 5 => 5 | 119 => 212 | 138 => 252 | 139 => 253 | n => n, fun | 3 => 2 | 4 => 3 | n => n⟩
theorem tabs_laid {W : World} (hL : laidMetH Tryz.prog laidTwo W) : Lib.Utf8Tabs 2 3 W := by
  have h := hL
  unfold laidTwo at h
  rw [accept_eq, first_eq] at h
  exact utf8Tabs_of_readsT (ρ := tabRen) ⟨by kernel_rfl, by kernel_rfl, by kernel_rfl, by kernel_rfl⟩ ⟨by kernel_rfl, by kernel_rfl, by kernel_rfl, by kernel_rfl, by kernel_rfl, by kernel_rfl, by kernel_rfl⟩ (Lib.laidMet.reads h (.tail _ (.head _))) (Lib.laidMet.reads h (.head _))
/-- The witness: the settled world, the two tables laid. -/
noncomputable def laidWorld (os : Os) : World :=
  let w0 := World.holding Tryz.prog os ⟨#[], #[], []⟩
  let put (h : Array Obj) (g : Nat) (cs : Array Value) : Array Obj := h.modify g fun
    | .cells _ t frozen => .cells cs t frozen
    | o => o
  let h1 := put w0.heap 2 (Lib.firstTab.map fun z => Value.int .u8 z).toArray
  let h2 := put h1 3 ((List.range 16).flatMap fun i => [Value.int .u8 (Lib.accLo i), Value.int .u8 (Lib.accHi i)]).toArray
  let h2 := put h2 0 #[.string ⟨#[67, 111, 110, 116, 101, 110, 116, 45, 69, 110, 99, 111, 100, 105, 110, 103]⟩, .string ⟨#[67, 111, 110, 116, 101, 110, 116, 45, 76, 97, 110, 103, 117, 97, 103, 101]⟩, .string ⟨#[67, 111, 110, 116, 101, 110, 116, 45, 76, 111, 99, 97, 116, 105, 111, 110]⟩, .string ⟨#[67, 111, 110, 116, 101, 110, 116, 45, 84, 121, 112, 101]⟩]
  { w0 with heap := h2 }
theorem laid_met (os : Os) (args : Array Value) : laidMet Tryz.prog laidTwo ((laidWorld os).forCall (fun _ _ => 0) ⟨#[], args, []⟩).memory := by
  unfold laidTwo
  rw [accept_eq, first_eq]
  exact (LaidIn.of_run (l := [("unicode/utf8.acceptRanges", Lib.acceptData), ("unicode/utf8.first", Lib.firstData)]) [3, 2] 8 (by kernel_rfl) (by kernel_rfl) (by kernel_rfl) (by kernel_rfl)).met
/-! Facts on the program alone, each on its own (in one theorem they take more memory than a process has). -/
theorem and2 {a b : Bool} (h : a = true) (k : b = true) : (a && b) = true := by rw [h, k]; rfl
noncomputable abbrev PP : Program := Tryz.pinned.checked.prog
theorem j_laidOut : laidOutB PP = true := by kernel_rfl
theorem j_rowed : mapsRowed PP = true := by kernel_rfl
theorem j_stops : (PP.stops == []) = true := by kernel_rfl
theorem j_knobs : (PP.stopKnobs == []) = true := by kernel_rfl
theorem j_plain : (Rows.placeStatusRow.plainKeys == PP.plainKeys) = true := by kernel_rfl
theorem j_heard : PP.stopsHeard = true := by kernel_rfl
theorem j_enter : PP.mayEnter = true := by kernel_rfl
theorem j_lift : (Rows.placeStatusRow.lifted == PP.liftsFinal) = true := by kernel_rfl
theorem j_main : Tryz.pinned.checked.prog.mainIs = some (Rows.placeStatusCard.stood.harness.1, Rows.placeStatusCard.stood.harness.2.toList) := by kernel_rfl
theorem j_make : (PP.make == some Rows.placeStatusRow.make) = true := by kernel_rfl
end Go.Proofs.YtppbkblnjlbnfaaGreatDoor
