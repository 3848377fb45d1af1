import Derived.Test.YtgegnnojobmdcaaGreatDoorC25
import Derived.Test.YtgegnnojobmdcaaGreatDoorC23
import Derived.Test.YtgegnnojobmdcaaGreatDoorBack
import Derived.Test.YtgegnnojobmdcaaGreatDoorMay
import Derived.Test.YtgegnnojobmdcaaGreatDoorP13
set_option linter.unusedVariables false
set_option linter.unusedSimpArgs false
/-! What the laws of one address want (as in the walk of ShowParts). -/
namespace Go.Proofs.YtgegnnojobmdcaaGreatDoor
open Go.RowKit
theorem few_ok {u : UV} {w : World} (hr : RdW w u.a u.pn u.xs) (h : PM.few u.pm = true) : u.Ok w := by
  obtain ⟨a, b, c, d, e, f, g, i, j⟩ := PM.few_all h
  exact ⟨Nat.le_trans c (by decide), Nat.le_trans d (by decide), Nat.le_trans e (by decide), Nat.le_trans f (by decide), Nat.le_trans g (by decide), Nat.le_trans i (by decide), Nat.le_trans j (by decide), Nat.le_trans a (by decide), fun s hs => Nat.le_trans (b s hs) (by decide), hr.s a⟩
theorem showUrl_len {u : UV} {w : World} (hu : u.Ok w) : (PM.showUrl u.pm).length ≤ 1000000000000 := by
  have hw : ∀ (is : Bool) (parts : List (List UInt8)), (∀ s ∈ parts, s.length ≤ 20000000000) → parts.length ≤ 3 → (PM.when is parts).length ≤ 60000000000 := fun is parts h1 h2 => by
    have := when_len is parts h1
    omega
  have hb : ∀ l : List UInt8, l.length ≤ 1000000 → l.length ≤ 20000000000 := fun l h => by omega
  have l1 := hw true [u.pm.scheme, [58], u.pm.opaque_] (by simp; exact ⟨hb _ hu.sc, hb _ hu.op⟩) (by simp)
  have l2 := hw (PM.isWeb u.pm) [[47, 47], u.pm.user] (by simp; exact hb _ hu.us) (by simp)
  have l3 := hw (!u.pm.pass.isEmpty) [[58], u.pm.pass] (by simp; exact hb _ hu.pa) (by simp)
  have l4 := hw (!u.pm.user.isEmpty || !u.pm.pass.isEmpty) [[64]] (by simp) (by simp)
  have l5 := hw (PM.isWeb u.pm) [PM.door u.pm, PM.pathShow u.pm.path] (by simp; exact ⟨door_len u hu.n, pathShow_len u.xs hu.xn hu.xl⟩) (by simp)
  have l6 := hw u.pm.hasQuery [[63], u.pm.query] (by simp; exact hb _ hu.qu) (by simp)
  have l7 := hw u.pm.hasFrag [[35], u.pm.frag] (by simp; exact hb _ hu.fr) (by simp)
  unfold PM.showUrl
  split
  · simp
  · simp only [List.length_append]
    omega
/-- Where a law of one address stands. -/
structure OneAt (u : UV) (w W : World) : Prop where
  one : W.heap[w.heap.size]? = some (.cells u.cells 27 (0, 0))
  be : Below w.heap.size w W
theorem OneAt.below {u : UV} {w W W' : World} (h : OneAt u w W) (hb : Below W.heap.size W W') : OneAt u w W' := ⟨heap_b hb h.one, b_then h.be hb⟩
theorem OneAt.new (u : UV) (w : World) : OneAt u w (w.alloc (.cells #[.string (mkS u.sc), .string (mkS u.us), .string (mkS u.pa), .int .i64 u.k, .string (mkS u.n), .int .i64 u.m, .int .i64 u.s0, .int .i64 u.s1, .int .i64 u.s2, .int .i64 u.s3, .int .i64 u.s4, .int .i64 u.s5, .int .i64 u.s6, .int .i64 u.s7, .int .i64 u.port, .slice u.a u.pn u.pc, .string (mkS u.op), .string (mkS u.qu), .string (mkS u.fr), .bool u.hq, .bool u.hf] 27)) := ⟨Go.heap_alloc_new _ _, by (repeat (first | exact Below.refl _ _ | apply b_alloc | apply b_drew | apply b_drewN | assumption | (refine b_then ?_ (by assumption))))⟩
end Go.Proofs.YtgegnnojobmdcaaGreatDoor
/-! Plain: how long what is shown is; what is parsed of what is shown. -/
namespace Go.Proofs.YtgegnnojobmdcaaGreatDoor
open Go.RowKit
theorem hostShow_len2 (h : PM.Host) (h2 : h.six.length = 8) : (PM.hostShow h).length ≤ h.name.length + 3100 := by
  unfold PM.hostShow
  split
  · split
    · omega
    · split
      · exact Nat.le_trans (fourShow_len _) (by omega)
      · have := sixShow_len h.six h2
        simp; omega
  · simp
theorem door_len2 (u : PM.Url) (h8 : u.host.six.length = 8) : (PM.door u).length ≤ u.host.name.length + 3200 := by
  have h1 := hostShow_len2 u.host h8
  have h2 : (PM.digs u.port.toNat).length ≤ 20 := by unfold PM.digs PM.rdig; rw [List.length_reverse]; exact rdigF_len _ _
  unfold PM.door
  split
  · simp
  · split
    · omega
    · rw [List.length_append, List.length_cons]
      omega
theorem when_len2 (is : Bool) (parts : List (List UInt8)) : (PM.when is parts).length ≤ parts.flatten.length := by
  unfold PM.when
  split
  · exact Nat.le_refl _
  · simp
theorem showUrl_len2 (u : PM.Url) (h8 : u.host.six.length = 8) : (PM.showUrl u).length ≤ u.scheme.length + u.opaque_.length + u.user.length + u.pass.length + (u.host.name.length + 3200) + (PM.pathShow u.path).length + u.query.length + u.frag.length + 10 := by
  have hd := door_len2 u h8
  have l1 := when_len2 true [u.scheme, [58], u.opaque_]
  have l2 := when_len2 (PM.isWeb u) [[47, 47], u.user]
  have l3 := when_len2 (!u.pass.isEmpty) [[58], u.pass]
  have l4 := when_len2 (!u.user.isEmpty || !u.pass.isEmpty) [[64]]
  have l5 := when_len2 (PM.isWeb u) [PM.door u, PM.pathShow u.path]
  have l6 := when_len2 u.hasQuery [[63], u.query]
  have l7 := when_len2 u.hasFrag [[35], u.frag]
  simp only [List.flatten_cons, List.flatten_nil, List.length_append, List.length_cons, List.length_nil] at l1 l2 l3 l4 l5 l6 l7
  unfold PM.showUrl
  split
  · simp
  · simp only [List.length_append]
    omega
/-- The bytes of all segments. -/
def tot (l : List (List UInt8)) : Nat := (l.map List.length).sum
theorem pathShow_tot (l : List (List UInt8)) : (PM.pathShow l).length = tot l + l.length := by
  unfold PM.pathShow tot
  induction l with
  | nil => rfl
  | cons x r ih =>
    simp only [List.flatMap_cons, List.length_append, List.length_cons, List.map_cons, List.sum_cons, ih]
    omega
theorem tot_app (a b : List (List UInt8)) : tot (a ++ b) = tot a + tot b := by simp [tot]
theorem tot_few (l : List (List UInt8)) (m : Nat) (h : ∀ x ∈ l, x.length ≤ m) : tot l ≤ l.length * m := by
  unfold tot
  induction l with
  | nil => simp
  | cons x r ih =>
    have h1 := h x (by simp)
    have h2 := ih (fun y hy => h y (by simp [hy]))
    simp only [List.map_cons, List.sum_cons, List.length_cons]
    rw [Nat.succ_mul]
    omega
theorem tot_dropLast (l : List (List UInt8)) : tot l.dropLast ≤ tot l := by
  induction l with
  | nil => simp [tot]
  | cons x r ih =>
    cases r with
    | nil => simp [tot]
    | cons y r =>
      rw [List.dropLast_cons_cons]
      unfold tot at ih ⊢
      simp only [List.map_cons, List.sum_cons] at ih ⊢
      omega
theorem tot_step (out : List (List UInt8)) (s : List UInt8) (last : Bool) : tot (PM.normStep out s last) ≤ tot out + s.length := by
  unfold PM.normStep
  split
  · rw [tot_app]
    simp [tot]
  · rw [tot_app]
    have h1 : tot (if PM.dots s = 2 then out.dropLast else out) ≤ tot out := by
      split
      · exact tot_dropLast out
      · exact Nat.le_refl _
    have h2 : tot (if last = true then [([] : List UInt8)] else []) = 0 := by
      cases last <;> simp [tot]
    omega
theorem tot_go (l : List (List UInt8)) : ∀ out, tot (PM.normGo out l) ≤ tot out + tot l := by
  induction l with
  | nil => intro out; simp [PM.normGo]
  | cons s r ih =>
    intro out
    cases r with
    | nil =>
      have := tot_step out s true
      simp only [PM.normGo, tot, List.map_cons, List.map_nil, List.sum_cons, List.sum_nil] at *
      omega
    | cons t r =>
      have h1 := tot_step out s false
      have h2 := ih (PM.normStep out s false)
      rw [PM.normGo]
      have e : tot (s :: t :: r) = s.length + tot (t :: r) := by simp [tot]
      omega
theorem tot_split (c : UInt8) (s : List UInt8) : tot (PM.splitB c s) ≤ s.length ∧ (PM.splitB c s).length ≤ s.length + 1 := by
  induction s with
  | nil => simp [PM.splitB, tot]
  | cons x r ih =>
    unfold PM.splitB
    split
    · simp [tot] at ih ⊢
      omega
    · split
      · simp [tot]
      · rename_i h t he
        rw [he] at ih
        simp [tot] at ih ⊢
        omega
theorem normGo_cnt (l : List (List UInt8)) : ∀ out, (PM.normGo out l).length ≤ out.length + l.length := by
  intro out
  have key : ∀ (out : List (List UInt8)) (s : List UInt8) (last : Bool), (PM.normStep out s last).length ≤ out.length + 1 := by
    intro out s last
    unfold PM.normStep
    split
    · simp
    · rw [List.length_append]
      have h1 : (if PM.dots s = 2 then out.dropLast else out).length ≤ out.length := by
        split
        · simp
        · exact Nat.le_refl _
      have h2 : (if last = true then [([] : List UInt8)] else []).length ≤ 1 := by
        cases last <;> simp
      omega
  induction l generalizing out with
  | nil => simp [PM.normGo]
  | cons s r ih =>
    cases r with
    | nil => exact key out s true
    | cons t r =>
      have h1 := key out s false
      have h2 := ih (PM.normStep out s false)
      rw [PM.normGo]
      simp only [List.length_cons] at h2 ⊢
      omega
theorem path_len2 (s : List UInt8) : tot (PM.pathParse s) ≤ 3 * s.length ∧ (PM.pathParse s).length ≤ 3 * s.length + 1 := by
  have hu : (PM.unslash s).length ≤ s.length := by
    unfold PM.unslash
    split <;> simp
  have he := PM.encode_len 3 (PM.unslash s)
  have h1 := tot_split 47 (PM.encode 3 (PM.unslash s))
  have h2 := tot_go (PM.splitB 47 (PM.encode 3 (PM.unslash s))) []
  have h3 := normGo_cnt (PM.splitB 47 (PM.encode 3 (PM.unslash s))) []
  have h4 : tot ([] : List (List UInt8)) = 0 := rfl
  simp only [List.length_nil] at h3
  unfold PM.pathParse PM.norm PM.pathSplit
  omega
/-- How long what is parsed is. -/
structure Short (n : Nat) (u : PM.Url) : Prop where
  sc : u.scheme.length ≤ n
  us : u.user.length ≤ 3 * n
  pa : u.pass.length ≤ 3 * n
  hn : u.host.name.length ≤ n
  pt : tot u.path ≤ 3 * n
  pn : u.path.length ≤ 3 * n + 1
  op : u.opaque_.length ≤ 3 * n
  qu : u.query.length ≤ 3 * n
  fr : u.frag.length ≤ 3 * n
theorem cut_len' (c : UInt8) (s : List UInt8) : (PM.cut c s).1.length ≤ s.length ∧ (PM.cut c s).2.1.length ≤ s.length := by
  unfold PM.cut
  split
  · refine ⟨(List.takeWhile_sublist _).length_le, ?_⟩
    dsimp only
    rw [List.length_drop]
    exact Nat.le_trans (Nat.sub_le _ _) (List.dropWhile_sublist _).length_le
  · exact ⟨Nat.le_refl _, Nat.zero_le _⟩
theorem trim_len (s : List UInt8) : (PM.clean s).length ≤ s.length := by
  have h1 : (PM.trim s).length ≤ s.length := by
    unfold PM.trim
    rw [List.length_reverse]
    refine Nat.le_trans (List.dropWhile_sublist _).length_le ?_
    rw [List.length_reverse]
    exact (List.dropWhile_sublist _).length_le
  unfold PM.clean
  exact Nat.le_trans (List.length_filter_le _ _) h1
theorem hostParse_len' {s : List UInt8} {h : PM.Host} (e : PM.hostParse s = some h) : h.name.length ≤ s.length := by
  by_cases h91 : s.head? = some 91
  · obtain ⟨r, rfl⟩ : ∃ r, s = 91 :: r := by
      cases s with
      | nil => simp at h91
      | cons x r => simp at h91; exact ⟨r, by rw [h91]⟩
    have hv : PM.hostParse (91 :: r) = if r.getLast? = some 93 then (match PM.sixParse r.dropLast with
      | some p => some ⟨3, [], 0, p⟩
      | none => none) else none := rfl
    rw [hv] at e
    split at e
    · split at e
      · simp at e
        subst e
        exact Nat.zero_le _
      · cases e
    · cases e
  · rw [PM.hostParse_plain h91] at e
    split at e
    · split at e
      · simp at e
        subst e
        exact Nat.zero_le _
      · cases e
    · split at e
      · simp at e
        subst e
        simp [PM.lower]
      · cases e
theorem doorName_len' (s : List UInt8) : (PM.doorName s).length ≤ s.length := by
  unfold PM.doorName
  split
  · have h1 := (List.takeWhile_sublist (l := s.drop (PM.doorAt s)) (· != 58)).length_le
    have h2 : (s.drop (PM.doorAt s)).length = s.length - PM.doorAt s := List.length_drop
    have h3 : (s.take (PM.doorAt s)).length = min (PM.doorAt s) s.length := List.length_take
    rw [List.length_append]
    omega
  · exact Nat.le_refl _
theorem user_len (s : List UInt8) : (PM.userOf s).length ≤ 3 * s.length ∧ (PM.passOf s).length ≤ 3 * s.length ∧ (PM.doorOf s).length ≤ s.length := by
  have h1 : (PM.aheadAt s).length ≤ s.length := by
    unfold PM.aheadAt
    rw [List.length_reverse, List.length_drop]
    have := (List.dropWhile_sublist (l := s.reverse) (· != 64)).length_le
    rw [List.length_reverse] at this
    omega
  have h0 : (PM.behindAt s).length ≤ s.length := by
    unfold PM.behindAt
    rw [List.length_reverse]
    have := (List.takeWhile_sublist (l := s.reverse) (· != 64)).length_le
    rw [List.length_reverse] at this
    omega
  have := cut_len' 58 (PM.aheadAt s)
  have h2 := PM.encode_len 4 (PM.cut 58 (PM.aheadAt s)).1
  have h3 := PM.encode_len 4 (PM.cut 58 (PM.aheadAt s)).2.1
  unfold PM.userOf PM.passOf PM.doorOf
  refine ⟨?_, ?_, ?_⟩ <;> split <;> first | omega | simp
theorem parse_short {s : List UInt8} {u : PM.Url} (h : PM.urlParse s = some u) : Short s.length u := by
  have hcl := trim_len s
  unfold PM.urlParse PM.parseC at h
  generalize PM.clean s = c at h hcl
  split at h
  · cases h
  · have hs : (PM.scheme c).1.length ≤ c.length ∧ (PM.scheme c).2.1.length ≤ c.length := by
      unfold PM.scheme
      have := cut_len' 58 c
      split
      · exact ⟨Nat.zero_le _, Nat.zero_le _⟩
      · exact ⟨by rw [PM.lower, List.length_map]; exact this.1, this.2⟩
    generalize (PM.scheme c).1 = sch at h hs
    generalize (PM.scheme c).2.1 = rest at h hs
    have ht : (PM.tail rest).1.length ≤ rest.length ∧ (PM.tail rest).2.1.length ≤ rest.length ∧ (PM.tail rest).2.2.1.length ≤ rest.length := by
      unfold PM.tail
      have h1 := cut_len' 35 rest
      have h2 := cut_len' 63 (PM.cut 35 rest).1
      exact ⟨Nat.le_trans h2.1 h1.1, Nat.le_trans h2.2 h1.1, h1.2⟩
    unfold PM.parseT at h
    generalize PM.tail rest = x at h ht
    have e1 := PM.encode_len 1 x.1
    have e2 := PM.encode_len 2 x.2.1
    have e3 := PM.encode_len 1 x.2.2.1
    split at h
    · simp only [Option.some.injEq] at h
      subst h
      exact ⟨by show sch.length ≤ _; omega, Nat.zero_le _, Nat.zero_le _, Nat.zero_le _, Nat.zero_le _, Nat.zero_le _, by show (PM.encode 1 x.1).length ≤ _; omega, by show (PM.encode 2 x.2.1).length ≤ _; omega, by show (PM.encode 1 x.2.2.1).length ≤ _; omega⟩
    · unfold PM.parseWeb at h
      split at h
      · cases h
      · rename_i t htt
        have hl : t.length ≤ x.1.length := by
          unfold PM.unslash2 at htt
          split at htt
          · rename_i r hr
            simp only [Option.some.injEq] at htt
            subst htt
            rw [hr]
            simp
            omega
          · cases htt
        have hw : (PM.where_ t).length ≤ t.length := (List.takeWhile_sublist _).length_le
        have hd : (t.dropWhile (· != 47)).length ≤ t.length := (List.dropWhile_sublist _).length_le
        have hu := user_len (PM.where_ t)
        have hp := path_len2 (t.dropWhile (· != 47))
        split at h
        · rename_i hh p hhp hpp
          have hn := hostParse_len' hhp
          have hdn := doorName_len' (PM.doorOf (PM.where_ t))
          simp only [Option.some.injEq] at h
          subst h
          exact ⟨by show sch.length ≤ _; omega, by show (PM.userOf _).length ≤ _; omega, by show (PM.passOf _).length ≤ _; omega, by show hh.name.length ≤ _; omega, by show tot (PM.pathParse _) ≤ _; omega, by show (PM.pathParse _).length ≤ _; omega, Nat.zero_le _, by show (PM.encode 2 x.2.1).length ≤ _; omega, by show (PM.encode 1 x.2.2.1).length ≤ _; omega⟩
        · cases h
theorem show_short {n : Nat} {u : PM.Url} (h : Short n u) (h8 : u.host.six.length = 8) : (PM.showUrl u).length ≤ 23 * n + 3211 := by
  have := showUrl_len2 u h8
  rw [pathShow_tot] at this
  obtain ⟨a, b, c, d, e, f, g, i, j⟩ := h
  omega
theorem show_few {u : PM.Url} (h : PM.few u = true) (h8 : u.host.six.length = 8) : (PM.showUrl u).length ≤ 30000 := by
  have := showUrl_len2 u h8
  obtain ⟨a, b, c, d, e, f, g, i, j⟩ := PM.few_all h
  have ht := tot_few u.path 300 b
  rw [pathShow_tot] at this
  omega
theorem show_none {u : PM.Url} (h : PM.urlMay u = false) : PM.showUrl u = [] := by
  unfold PM.showUrl
  rw [h]
  rfl
theorem show_some {u : PM.Url} (h : PM.urlMay u = true) : PM.showUrl u ≠ [] := by
  obtain ⟨r, hr⟩ := PM.show_scheme h
  rw [hr]
  simp
theorem parse_nil : PM.urlParse [] = none := by kernel_rfl
end Go.Proofs.YtgegnnojobmdcaaGreatDoor
