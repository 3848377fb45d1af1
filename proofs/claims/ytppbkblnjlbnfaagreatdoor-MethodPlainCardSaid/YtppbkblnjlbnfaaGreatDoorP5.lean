import Derived.Test.YtppbkblnjlbnfaaGreatDoorP4
import Derived.Laws.CopyRow
import Derived.Laws.IdiomCopy
/-! Contract: six.Parse. -/
set_option linter.unusedVariables false
namespace Go.Proofs.YtppbkblnjlbnfaaGreatDoor
open Go.RowKit
theorem cut2_index (l : List UInt8) : ((PM.cut2 l).2.2 = true → Lib.index l [58, 58] = ((PM.cut2 l).1.length : Int) ∧ l = (PM.cut2 l).1 ++ 58 :: 58 :: (PM.cut2 l).2.1) ∧ ((PM.cut2 l).2.2 = false → Lib.index l [58, 58] = -1 ∧ PM.cut2 l = (l, [], false)) := by
  induction l with
  | nil => exact ⟨fun h => by simp [PM.cut2] at h, fun _ => ⟨rfl, rfl⟩⟩
  | cons x r ih =>
    have hp : List.isPrefixOf [58, 58] (x :: r) = (x == 58 && (r.head? == some 58)) := by
      cases r with
      | nil => simp [List.isPrefixOf]
      | cons y t =>
        have sym : ∀ a : UInt8, (58 == a) = (a == 58) := fun a => by rw [Bool.eq_iff_iff, beq_iff_eq, beq_iff_eq]; exact eq_comm
        simp only [List.isPrefixOf, List.head?_cons, Bool.and_true, sym]
        simp
    rw [Lib.index, hp]
    by_cases hc : x = 58 ∧ r.head? = some 58
    · have e : PM.cut2 (x :: r) = ([], r.drop 1, true) := by rw [PM.cut2, if_pos hc]
      rw [e]
      refine ⟨fun _ => ⟨?_, ?_⟩, fun h => by simp at h⟩
      · rw [if_pos (by simp [hc.1, hc.2])]
        rfl
      · obtain ⟨rfl, h2⟩ := hc
        cases r with
        | nil => simp at h2
        | cons y t => simp at h2; subst h2; rfl
    · have hcf : (x == 58 && (r.head? == some 58)) = false := by
        rw [Bool.eq_false_iff]
        simp only [ne_eq, Bool.and_eq_true, beq_iff_eq]
        exact hc
      rw [hcf]
      simp only [Bool.false_eq_true, if_false]
      cases hf : (PM.cut2 r).2.2
      · obtain ⟨h1, h2⟩ := ih.2 hf
        have e : PM.cut2 (x :: r) = (x :: r, [], false) := by rw [PM.cut2, if_neg hc, hf]; simp
        rw [e, h1]
        exact ⟨fun h => by simp at h, fun _ => ⟨rfl, rfl⟩⟩
      · obtain ⟨h1, h2⟩ := ih.1 hf
        have e : PM.cut2 (x :: r) = (x :: (PM.cut2 r).1, (PM.cut2 r).2.1, true) := by rw [PM.cut2, if_neg hc, hf]; simp
        rw [e, h1]
        refine ⟨fun _ => ⟨?_, ?_⟩, fun h => by simp at h⟩
        · have : ¬ (((PM.cut2 r).1.length : Int) = -1) := by omega
          simp only [beq_iff_eq, this, if_false, List.length_cons]
          omega
        · rw [List.cons_append, ← h2]
theorem cut_two (l : List UInt8) : Lib.cut l [58, 58] = PM.cut2 l := by
  obtain ⟨h1, h2⟩ := cut2_index l
  generalize PM.cut2 l = q at h1 h2 ⊢
  obtain ⟨P, Q, f⟩ := q
  dsimp only at h1 h2
  unfold Lib.cut
  cases f
  · obtain ⟨a, b⟩ := h2 rfl
    rw [a, b]
    rfl
  · obtain ⟨a, b⟩ := h1 rfl
    rw [a, if_pos (by omega)]
    have e : ((P.length : Int)).toNat = P.length := by omega
    have e1 : l.take P.length = P := by rw [b]; simp
    have e2 : l.drop (P.length + 2) = Q := by rw [b, ← List.drop_drop]; simp
    rw [e, e1]
    show (P, l.drop (P.length + 2), true) = _
    rw [e2]
theorem Cut2_c (s : List UInt8) (hs : s.length ≤ 1000000000) (w : World) (hg : Gl w) :
    Calls Tryz.prog 62 #[.string (mkS s), .string ⟨#[58, 58]⟩] w fun e w' => e = .returned (.tuple #[.string (mkS (PM.cut2 s).1), .string (mkS (PM.cut2 s).2.1), .bool (PM.cut2 s).2.2]) ∧ Below w.heap.size w w' := by
  obtain ⟨m, hm⟩ := hg
  refine (Tryz.strings_Cut (mkS s) (mkS [58, 58]) m w (by rw [mkS_size]; omega) hm).mono ?_
  rintro e w' ⟨rfl, n, rfl⟩
  rw [mkS_data, mkS_data, cut_two]
  exact ⟨rfl, b_drewN (Below.refl _ _) n⟩
theorem cut2_len (l : List UInt8) : (PM.cut2 l).1.length ≤ l.length ∧ (PM.cut2 l).2.1.length ≤ l.length := by
  obtain ⟨h1, h2⟩ := cut2_index l
  cases hf : (PM.cut2 l).2.2
  · rw [(h2 hf).2]; simp
  · have := congrArg List.length (h1 hf).2
    rw [List.length_append, List.length_cons, List.length_cons] at this
    omega
theorem obj_b {w W : World} (hb : Below w.heap.size w W) {b : Nat} {o : Obj} (h : w.heap[b]? = some o) : W.heap[b]? = some o := (hb.block b (Array.getElem?_eq_some_iff.1 h).1).trans h
theorem row_below {B : Nat} {w w1 : World} (h : Below B w w1) {b : Nat} (hb : B ≤ b) (cs' : Array Value) : Below B w (w1.setRow b cs') :=
  ⟨h.os, h.tape, h.output, by simpa [World.setRow] using h.size, fun k hk => by
    rw [← h.block k hk]
    simp [World.setRow, Array.getElem?_modify, show b ≠ k by omega]⟩
theorem own_keep {w W : World} {B : Nat} {e : TypeId} {sz : Nat} {v : Value} {n : Nat} {xs : List Value} (h : w.ownsRow B e sz v n xs) (hb : Below w.heap.size w W) : W.ownsRow B e sz v n xs := by
  refine ⟨h.1, ?_⟩
  rcases h.2 with h | ⟨g, cap, cur, h1, h2, h3, h4⟩
  · exact .inl h
  · exact .inr ⟨g, cap, cur, h1, h2, obj_b hb h3, h4⟩
theorem results_cell_tmp {P : Program} {fn : Func} {p t : Tmp} {ty : TypeId} (h : fn.results = #[.cell p ty, .tmp t]) (tmps : Array Value) (w : World) (g : Nat) (tt : TypeId) (cs : Array Value) (fr : Nat × Nat) (d : TypeDesc)
    (hp : tmps.getD p undef = .pointer (some ⟨g, 0, none⟩)) (hg : w.heap[g]? = some (.cells cs tt fr))
    (hu : P.underlying ty = some d) (hd : (match d with | .struct _ | .array _ _ => true | _ => false) = true) (hi : (P.info? ty).map (·.size) = some cs.size) :
    (results fn tmps).run P w = .ok (.tuple #[.agg cs, tmps.getD t undef]) w := by
  have hp' : tmps[p]?.getD undef = .pointer (some ⟨g, 0, none⟩) := by simpa using hp
  simp [results, h, hp', asAddr, run_loadVar_row w g tt ty cs fr d hg hu hd hi]
def zsix : Array Value := #[.int .i64 0, .int .i64 0, .int .i64 0, .int .i64 0, .int .i64 0, .int .i64 0, .int .i64 0, .int .i64 0]
theorem zsix_one : zsix.all (·.oneCell') = true := by
  unfold zsix
  simp [Value.oneCell']
theorem pieces_len : ∀ (xs : List (List UInt8)) (l : List Int), PM.pieces xs = some l → l.length = xs.length := by
  intro xs
  induction xs with
  | nil => intro l h; simp [PM.pieces] at h; subst h; rfl
  | cons x r ih =>
    intro l h
    unfold PM.pieces at h
    cases hx : PM.piece x with
    | none => rw [hx] at h; simp at h
    | some n =>
      cases hr : PM.pieces r with
      | none => rw [hx, hr] at h; simp at h
      | some t =>
        rw [hx, hr] at h
        simp at h
        subst h
        simp [ih t hr]
theorem sixSplit_len {s : List UInt8} {l : List Int} (h : PM.sixSplit s = some l) : l.length ≤ s.length + 1 := by
  unfold PM.sixSplit at h
  split at h
  · simp at h; subst h; simp
  · rw [pieces_len _ _ h]
    exact (splitB_len 58 s).1
theorem own_form {W : World} {B : Nat} {e : TypeId} {v : Value} {n : Nat} {xs : List Value} (h : W.ownsRow B e 1 v n xs) : ∃ a c, v = .slice a n c := by
  rcases h.2 with ⟨rfl, rfl⟩ | ⟨g, cap, cur, rfl, _⟩
  · exact ⟨_, _, rfl⟩
  · exact ⟨_, _, rfl⟩
theorem intsL_one (l : List Int) : ∀ v ∈ intsL l, v.oneCell' = true := by
  intro v hv
  obtain ⟨n, _, rfl⟩ := List.mem_map.1 hv
  rfl
theorem six_one (a : List Int) (h : a.length ≤ 8) : zsix.toList.take 0 ++ intsL a ++ zsix.toList.drop (0 + a.length) = intsL (a ++ List.replicate (8 - a.length) 0) := by
  have e : zsix.toList = intsL (List.replicate 8 0) := rfl
  rw [e]
  unfold intsL
  rw [List.take_zero, List.nil_append, Nat.zero_add, ← List.map_drop, List.drop_replicate, ← List.map_append]
def o2 (b : List Int) : Nat := if b.length = 0 then 0 else 8 - b.length
theorem six_two (a b : List Int) (h : a.length + b.length ≤ 8) : (intsL (a ++ List.replicate (8 - a.length) 0)).take (o2 b) ++ intsL b ++ (intsL (a ++ List.replicate (8 - a.length) 0)).drop (o2 b + b.length) = intsL (a ++ (List.replicate (8 - (a.length + b.length)) 0 ++ b)) := by
  unfold o2
  by_cases hb : b.length = 0
  · have : b = [] := List.eq_nil_of_length_eq_zero hb
    subst this
    simp [intsL]
  · rw [if_neg hb]
    have e1 : 8 - b.length + b.length = 8 := by omega
    rw [e1]
    have e2 : (intsL (a ++ List.replicate (8 - a.length) 0)).drop 8 = [] := List.drop_of_length_le (by simp [intsL]; omega)
    rw [e2, List.append_nil]
    unfold intsL
    rw [← List.map_take, ← List.map_append]
    congr 1
    rw [List.take_append, List.take_of_length_le (by omega), List.take_replicate, List.append_assoc]
    congr 3
    omega
theorem slice_o2 (g : Nat) (b : List Int) (h : b.length ≤ 8) (V : World) : (Instr.sliceAt 22 (.pointer (some ⟨g, 0, none⟩)) (some (.int .i64 (8 - (b.length : Int)))) none none).run Tryz.prog V = .ok (.slice (some ⟨g, o2 b, none⟩) b.length b.length) V := by
  unfold o2
  by_cases hb : b.length = 0
  · rw [hb]
    exact slice8_e g V
  · rw [if_neg hb]
    have := slice8_l g (8 - b.length) (by omega) V
    rw [show ((8 - b.length : Nat) : Int) = 8 - (b.length : Int) by omega, show 8 - (8 - b.length) = b.length by omega] at this
    exact this
theorem obj_setRow {w : World} {g b : Nat} {o : Option Obj} (h : w.heap[b]? = o) (hg : g ≠ b) (cs : Array Value) : (w.setRow g cs).heap[b]? = o := by
  rw [← h]
  simp [World.setRow, Array.getElem?_modify, hg]
theorem own_setRow {W : World} {g B : Nat} {sz : Nat} {v : Value} {n : Nat} {xs : List Value} (h : W.ownsRow B 3 sz v n xs) (hg : g < B) (cs : Array Value) : (W.setRow g cs).ownsRow B 3 sz v n xs := by
  refine ⟨h.1, ?_⟩
  rcases h.2 with h | ⟨k, cap, cur, h1, h2, h3, h4⟩
  · exact .inl h
  · exact .inr ⟨k, cap, cur, h1, h2, obj_setRow h3 (by omega) cs, h4⟩
set_option maxRecDepth 100000 in
theorem copy_own (W : World) (g o dLen dCap B : Nat) (va : Option Addr) (vc : Nat) (l : List Int) (cur : Array Value) (t : TypeId) (hg : W.heap[g]? = some (.cells cur t (0, 0))) (hown : W.ownsRow B 3 1 (.slice va l.length vc) l.length (intsL l)) (hd : l.length ≤ dLen) (hfit : o + l.length ≤ cur.size) :
    (Builtin.copy_ #[223, 223] 3 #[.slice (some ⟨g, o, none⟩) dLen dCap, .slice va l.length vc]).run Tryz.prog W = .ok (.int .i64 (l.length : Int)) (W.setRow g (cur.toList.take o ++ intsL l ++ cur.toList.drop (o + l.length)).toArray) := by
  have hll : (intsL l).length = l.length := by simp [intsL]
  rcases hown.2 with ⟨hv, h0⟩ | ⟨h, cap, cu, hv, _, hh, hle, _, _, hcs⟩
  · have hl : l = [] := List.eq_nil_of_length_eq_zero h0
    subst hl
    injection hv with h1 h2 h3
    subst h1
    have := run_copy_none (P := Tryz.prog) W 223 223 3 3 (some ⟨g, o, none⟩) none dLen dCap 0 vc Tryz.underlying223 (by kernel_rfl) (by simp)
    have e : (cur.toList.take o ++ intsL [] ++ cur.toList.drop (o + 0)).toArray = cur := by simp [intsL]
    show (Builtin.copy_ _ _ #[_, .slice none 0 vc]).run _ _ = .ok (.int .i64 ((0 : Nat) : Int)) (W.setRow g (cur.toList.take o ++ intsL [] ++ cur.toList.drop (o + 0)).toArray)
    rw [e, setRow_self W g cur t (0, 0) hg]
    exact this
  · injection hv with h1 h2 h3
    subst h1 h3
    have := run_copy_row (P := Tryz.prog) W 223 223 3 3 g o dLen dCap ⟨h, 0, none⟩ l.length vc cur t (intsL l) Tryz.underlying223 (by kernel_rfl) hg (by rw [hll]; exact (Nat.min_eq_left hd).symm) (by
      intro j v hj
      have hjl : j < l.length := by rw [← hll]; exact (List.getElem?_eq_some_iff.1 hj).1
      rw [show (⟨h, 0, none⟩ : Addr).add j = ⟨h, j, none⟩ by unfold Addr.add; split <;> simp_all]
      rw [Lib.cell_of_heap hh]
      rw [← hcs, List.getElem?_take, if_pos (by omega)] at hj
      simpa using hj) (by rw [hll]; exact hfit) (intsL_one l)
    rw [hll] at this
    exact this
def sixV (o : Option (List Int)) : Value := match o with
  | some p => .tuple #[.agg (ints p), .bool true]
  | none => .tuple #[.agg zsix, .bool false]
set_option maxRecDepth 100000 in
set_option maxHeartbeats 2000000 in
theorem SixParse_c (s : List UInt8) (hs : s.length ≤ 1000000) (w : World) (hg : Gl w) : Calls Tryz.prog 176 #[.string (mkS s)] w fun e w' => e = .returned (sixV (PM.sixParse s)) ∧ Below w.heap.size w w' := by
  have hc := fun W hg => Cut2_c s (by omega) W hg
  obtain ⟨hl1, hl2⟩ := cut2_len s
  have hv : PM.sixParse s = (match PM.sixSplit (PM.cut2 s).1, PM.sixSplit (PM.cut2 s).2.1 with
    | some a, some b => PM.sixOf a b (PM.cut2 s).2.2
    | _, _ => none) := rfl
  have hA := fun W hg => SixSplit_c (PM.cut2 s).1 (by omega) W hg
  have hB := fun W hg => SixSplit_c (PM.cut2 s).2.1 (by omega) W hg
  have hla : ∀ l, PM.sixSplit (PM.cut2 s).1 = some l → l.length ≤ 1000001 := fun l h => by have := sixSplit_len h; omega
  have hlb : ∀ l, PM.sixSplit (PM.cut2 s).2.1 = some l → l.length ≤ 1000001 := fun l h => by have := sixSplit_len h; omega
  generalize PM.sixSplit (PM.cut2 s).1 = oa at hA hv hla
  generalize PM.sixSplit (PM.cut2 s).2.1 = ob at hB hv hlb
  generalize (PM.cut2 s).1 = A at hc hA
  generalize (PM.cut2 s).2.1 = B at hc hB
  generalize (PM.cut2 s).2.2 = gap at hc hv
  have hR : Hid (((w.alloc (.cells zsix 22)).alloc (.cells zsix 22)).heap[w.heap.size]? = some (.cells zsix 22 (0, 0))) := heap_two _ _ _
  have hP : Hid (((w.alloc (.cells zsix 22)).alloc (.cells zsix 22)).heap[w.heap.size + 1]? = some (.cells zsix 22 (0, 0))) := Go.heap_alloc2_new _ _ _
  have hb0 : Hid (Below w.heap.size w ((w.alloc (.cells zsix 22)).alloc (.cells zsix 22))) := by exact b_alloc (b_alloc (Below.refl _ _) _) _
  unfold zsix at hR hP hb0
  have HV := Lib.hid hv
  have HC := Lib.hid hc
  have HA := Lib.hid hA
  have HB := Lib.hid hB
  have HG := Lib.hid hg
  clear hv hc hA hB hg
  go_enter Tryz.func176, Tryz.ntmps176
  go_upto_region 2 with fail
  generalize ((w.alloc (.cells #[.int .i64 0, .int .i64 0, .int .i64 0, .int .i64 0, .int .i64 0, .int .i64 0, .int .i64 0, .int .i64 0] 22)).alloc (.cells #[.int .i64 0, .int .i64 0, .int .i64 0, .int .i64 0, .int .i64 0, .int .i64 0, .int .i64 0, .int .i64 0] 22)) = V0 at hR hP hb0 ⊢
  go_wp2_with fail
  refine (HC.out _ (HG.out.below hb0.out)).mono ?_
  rintro e V1 ⟨rfl, hb⟩
  replace hR := Lib.hid (obj_b hb hR.out)
  replace hP := Lib.hid (obj_b hb hP.out)
  replace hb0 := Lib.hid (b_then hb0.out hb)
  clear hb
  go_wp2_with fail
  refine (HA.out _ (HG.out.below hb0.out)).mono ?_
  rintro e V2 hpa
  have hb := hpa.1
  have hz2 : Hid (w.heap.size + 1 < V2.heap.size) := Nat.lt_of_lt_of_le (h_lt hP.out) hb.size
  replace hR := Lib.hid (obj_b hb hR.out)
  replace hP := Lib.hid (obj_b hb hP.out)
  replace hb0 := Lib.hid (b_then hb0.out hb)
  clear hb
  cases oa with
  | none =>
    obtain ⟨hb, v, rfl, rfl⟩ := hpa
    clear hb
    go_wp2_with fail
    refine (HB.out _ (HG.out.below hb0.out)).mono ?_
    rintro e V3 hpb
    have hb := hpb.1
    replace hR := Lib.hid (obj_b hb hR.out)
    replace hP := Lib.hid (obj_b hb hP.out)
    replace hb0 := Lib.hid (b_then hb0.out hb)
    clear hb
    cases ob with
    | none =>
      obtain ⟨hb, v, rfl, rfl⟩ := hpb
      clear hb
      go_wp2_with (refine wpList_store_row rfl 22 _ _ rfl w.heap.size zsix rfl rfl 22 _ hR.out (by kernel_rfl) rfl zsix_one ?_)
      refine bodyPost_ret (results_cell_tmp (fr := (0, 0)) rfl _ _ w.heap.size 22 zsix _ rfl (setRow_heap _ _ _ _ _ _ hR.out) Tryz.underlying22 rfl (by kernel_rfl)) rfl ?_
      refine ⟨?_, row_below hb0.out (Nat.le_refl _) _⟩
      rw [HV.out]
      rfl
    | some b =>
      obtain ⟨hb, v, rfl, ho⟩ := hpb
      obtain ⟨va, vc, rfl⟩ := own_form ho
      clear hb ho
      go_wp2_with (refine wpList_store_row rfl 22 _ _ rfl w.heap.size zsix rfl rfl 22 _ hR.out (by kernel_rfl) rfl zsix_one ?_)
      refine bodyPost_ret (results_cell_tmp (fr := (0, 0)) rfl _ _ w.heap.size 22 zsix _ rfl (setRow_heap _ _ _ _ _ _ hR.out) Tryz.underlying22 rfl (by kernel_rfl)) rfl ?_
      refine ⟨?_, row_below hb0.out (Nat.le_refl _) _⟩
      rw [HV.out]
      rfl
  | some a =>
    obtain ⟨hb, v, rfl, hoa⟩ := hpa
    clear hb
    obtain ⟨va, vc, rfl⟩ := own_form hoa
    have hal := hla a rfl
    have HOA := Lib.hid hoa
    clear hoa hla
    go_wp2_with fail
    refine (HB.out _ (HG.out.below hb0.out)).mono ?_
    rintro e V3 hpb
    have hb := hpb.1
    replace hR := Lib.hid (obj_b hb hR.out)
    replace hP := Lib.hid (obj_b hb hP.out)
    replace hb0 := Lib.hid (b_then hb0.out hb)
    replace HOA := Lib.hid (own_keep HOA.out hb)
    clear hb
    cases ob with
    | none =>
      obtain ⟨hb, v, rfl, rfl⟩ := hpb
      clear hb
      go_wp2_with (refine wpList_store_row rfl 22 _ _ rfl w.heap.size zsix rfl rfl 22 _ hR.out (by kernel_rfl) rfl zsix_one ?_)
      refine bodyPost_ret (results_cell_tmp (fr := (0, 0)) rfl _ _ w.heap.size 22 zsix _ rfl (setRow_heap _ _ _ _ _ _ hR.out) Tryz.underlying22 rfl (by kernel_rfl)) rfl ?_
      refine ⟨?_, row_below hb0.out (Nat.le_refl _) _⟩
      rw [HV.out]
      rfl
    | some b =>
      obtain ⟨hb, v, rfl, hob⟩ := hpb
      clear hb
      obtain ⟨vb, vd, rfl⟩ := own_form hob
      have hbl := hlb b rfl
      have HOB := Lib.hid hob
      clear hob hlb
      have hof : PM.sixOf a b gap = if (gap && decide (8 ≤ a.length + b.length)) || (!gap && decide (a.length + b.length ≠ 8)) then none else some (a ++ (List.replicate (8 - (a.length + b.length)) 0 ++ b)) := rfl
      have HOF := Lib.hid hof
      clear hof
      have good : a.length + b.length ≤ 8 → (a.length + b.length < 8 ∨ gap = false) → PM.sixOf a b gap = some (a ++ (List.replicate (8 - (a.length + b.length)) 0 ++ b)) → True := fun _ _ _ => trivial
      cases gap
      · by_cases h8 : a.length + b.length = 8
        · have h8' : ((a.length : Int) + (b.length : Int) != 8) = false := by simp; omega
          have hz1 := h_lt hP.out
          have hcp := copy_own V3 (w.heap.size + 1) 0 8 8 V1.heap.size va vc a zsix 22 hP.out HOA.out (by omega) (by show 0 + a.length ≤ 8; omega)
          rw [six_one a (by omega)] at hcp
          have hC1 : (V3.setRow (w.heap.size + 1) (intsL (a ++ List.replicate (8 - a.length) 0)).toArray).heap[w.heap.size + 1]? = some (.cells (intsL (a ++ List.replicate (8 - a.length) 0)).toArray 22 (0, 0)) := setRow_heap _ _ _ _ _ _ hP.out
          have hR1 : (V3.setRow (w.heap.size + 1) (intsL (a ++ List.replicate (8 - a.length) 0)).toArray).heap[w.heap.size]? = some (.cells zsix 22 (0, 0)) := obj_setRow hR.out (by omega) _
          have hb1 : Below w.heap.size w (V3.setRow (w.heap.size + 1) (intsL (a ++ List.replicate (8 - a.length) 0)).toArray) := row_below hb0.out (by omega) _
          have ho1 := own_setRow HOB.out (show w.heap.size + 1 < V2.heap.size by have := hz2.out; omega) (intsL (a ++ List.replicate (8 - a.length) 0)).toArray
          have hcp2 := copy_own (V3.setRow (w.heap.size + 1) (intsL (a ++ List.replicate (8 - a.length) 0)).toArray) (w.heap.size + 1) (o2 b) b.length b.length V2.heap.size vb vd b _ 22 hC1 ho1 (Nat.le_refl _) (by unfold o2; simp [intsL]; split <;> omega)
          rw [six_two a b (by omega)] at hcp2
          have hs2 := slice_o2 (w.heap.size + 1) b (by omega)
          have hC2 : ((V3.setRow (w.heap.size + 1) (intsL (a ++ List.replicate (8 - a.length) 0)).toArray).setRow (w.heap.size + 1) (intsL (a ++ (List.replicate (8 - (a.length + b.length)) 0 ++ b))).toArray).heap[w.heap.size + 1]? = some (.cells (intsL (a ++ (List.replicate (8 - (a.length + b.length)) 0 ++ b))).toArray 22 (0, 0)) := setRow_heap _ _ _ _ _ _ hC1
          have hR2 : ((V3.setRow (w.heap.size + 1) (intsL (a ++ List.replicate (8 - a.length) 0)).toArray).setRow (w.heap.size + 1) (intsL (a ++ (List.replicate (8 - (a.length + b.length)) 0 ++ b))).toArray).heap[w.heap.size]? = some (.cells zsix 22 (0, 0)) := obj_setRow hR1 (by omega) _
          have hb2 : Below w.heap.size w ((V3.setRow (w.heap.size + 1) (intsL (a ++ List.replicate (8 - a.length) 0)).toArray).setRow (w.heap.size + 1) (intsL (a ++ (List.replicate (8 - (a.length + b.length)) 0 ++ b))).toArray) := row_below hb1 (by omega) _
          have hone := intsL_one (a ++ (List.replicate (8 - (a.length + b.length)) 0 ++ b))
          have hsz8 : (intsL (a ++ (List.replicate (8 - (a.length + b.length)) 0 ++ b))).length = 8 := by simp [intsL]; omega
          have hfin : PM.sixParse s = some (a ++ (List.replicate (8 - (a.length + b.length)) 0 ++ b)) := by
            rw [HV.out]
            show PM.sixOf a b false = _
            rw [HOF.out, if_neg (by simp; omega)]
          have hval : ints (a ++ (List.replicate (8 - (a.length + b.length)) 0 ++ b)) = (intsL (a ++ (List.replicate (8 - (a.length + b.length)) 0 ++ b))).toArray := rfl
          have HFIN := Lib.hid hfin
          have HVAL := Lib.hid hval
          have HC1 := Lib.hid hC1
          have HC2 := Lib.hid hC2
          have HR2 := Lib.hid hR2
          have HB2 := Lib.hid hb2
          have HONE := Lib.hid hone
          have HSZ := Lib.hid hsz8
          clear hC1 hR1 hb1 ho1 hC2 hR2 hb2 hone hsz8 hfin hval hz1
          generalize (intsL (a ++ (List.replicate (8 - (a.length + b.length)) 0 ++ b))) = C2 at hcp2 HC2 HR2 HB2 HONE HSZ HVAL
          generalize (intsL (a ++ List.replicate (8 - a.length) 0)) = C1 at hcp hcp2 HC1 HC2 HR2 HB2
          go_upto_region 10 with fail
          generalize (V3.setRow (w.heap.size + 1) C1.toArray).setRow (w.heap.size + 1) C2.toArray = V5 at HC2 HR2 HB2 ⊢
          clear hcp hcp2 HC1 hs2
          have hall : C2.toArray.all (·.oneCell') = true := by
            rw [List.all_toArray, List.all_eq_true]
            exact HONE.out
          have h8z : (8 : Nat) = C2.toArray.size := by rw [List.size_toArray, HSZ.out]
          have hinfo : (Tryz.prog.info? 22).map (·.size) = some C2.toArray.size := by rw [← h8z]; kernel_rfl
          have H8 := Lib.hid h8z
          clear h8z
          go_wp2_with (first
            | (refine wpList_load_row rfl 22 _ rfl (w.heap.size + 1) rfl 22 _ (0, 0) _ HC2.out Tryz.underlying22 rfl hinfo ?_)
            | (refine wpList_store_row rfl 22 _ _ rfl w.heap.size C2.toArray rfl rfl 22 _ HR2.out hinfo H8.out hall ?_))
          refine bodyPost_ret (results_cell_tmp (fr := (0, 0)) rfl _ _ w.heap.size 22 C2.toArray _ rfl (setRow_heap _ _ _ _ _ _ HR2.out) Tryz.underlying22 rfl hinfo) rfl ?_
          refine ⟨?_, row_below HB2.out (Nat.le_refl _) _⟩
          rw [HFIN.out]
          show _ = Ending.returned (.tuple #[.agg (ints _), .bool true])
          rw [HVAL.out]
          rfl
        · have h8' : ((a.length : Int) + (b.length : Int) != 8) = true := by simp; omega
          go_wp2_with (refine wpList_store_row rfl 22 _ _ rfl w.heap.size zsix rfl rfl 22 _ hR.out (by kernel_rfl) rfl zsix_one ?_)
          refine bodyPost_ret (results_cell_tmp (fr := (0, 0)) rfl _ _ w.heap.size 22 zsix _ rfl (setRow_heap _ _ _ _ _ _ hR.out) Tryz.underlying22 rfl (by kernel_rfl)) rfl ?_
          refine ⟨?_, row_below hb0.out (Nat.le_refl _) _⟩
          show _ = Ending.returned (sixV (PM.sixParse s))
          rw [HV.out]
          show _ = Ending.returned (sixV (PM.sixOf a b false))
          rw [HOF.out, if_pos (by simp; omega)]
          rfl
      · by_cases h8 : a.length + b.length < 8
        · have h8' : ¬ ((8 : Int) ≤ (a.length : Int) + (b.length : Int)) := by omega
          have hz1 := h_lt hP.out
          have hcp := copy_own V3 (w.heap.size + 1) 0 8 8 V1.heap.size va vc a zsix 22 hP.out HOA.out (by omega) (by show 0 + a.length ≤ 8; omega)
          rw [six_one a (by omega)] at hcp
          have hC1 : (V3.setRow (w.heap.size + 1) (intsL (a ++ List.replicate (8 - a.length) 0)).toArray).heap[w.heap.size + 1]? = some (.cells (intsL (a ++ List.replicate (8 - a.length) 0)).toArray 22 (0, 0)) := setRow_heap _ _ _ _ _ _ hP.out
          have hR1 : (V3.setRow (w.heap.size + 1) (intsL (a ++ List.replicate (8 - a.length) 0)).toArray).heap[w.heap.size]? = some (.cells zsix 22 (0, 0)) := obj_setRow hR.out (by omega) _
          have hb1 : Below w.heap.size w (V3.setRow (w.heap.size + 1) (intsL (a ++ List.replicate (8 - a.length) 0)).toArray) := row_below hb0.out (by omega) _
          have ho1 := own_setRow HOB.out (show w.heap.size + 1 < V2.heap.size by have := hz2.out; omega) (intsL (a ++ List.replicate (8 - a.length) 0)).toArray
          have hcp2 := copy_own (V3.setRow (w.heap.size + 1) (intsL (a ++ List.replicate (8 - a.length) 0)).toArray) (w.heap.size + 1) (o2 b) b.length b.length V2.heap.size vb vd b _ 22 hC1 ho1 (Nat.le_refl _) (by unfold o2; simp [intsL]; split <;> omega)
          rw [six_two a b (by omega)] at hcp2
          have hs2 := slice_o2 (w.heap.size + 1) b (by omega)
          have hC2 : ((V3.setRow (w.heap.size + 1) (intsL (a ++ List.replicate (8 - a.length) 0)).toArray).setRow (w.heap.size + 1) (intsL (a ++ (List.replicate (8 - (a.length + b.length)) 0 ++ b))).toArray).heap[w.heap.size + 1]? = some (.cells (intsL (a ++ (List.replicate (8 - (a.length + b.length)) 0 ++ b))).toArray 22 (0, 0)) := setRow_heap _ _ _ _ _ _ hC1
          have hR2 : ((V3.setRow (w.heap.size + 1) (intsL (a ++ List.replicate (8 - a.length) 0)).toArray).setRow (w.heap.size + 1) (intsL (a ++ (List.replicate (8 - (a.length + b.length)) 0 ++ b))).toArray).heap[w.heap.size]? = some (.cells zsix 22 (0, 0)) := obj_setRow hR1 (by omega) _
          have hb2 : Below w.heap.size w ((V3.setRow (w.heap.size + 1) (intsL (a ++ List.replicate (8 - a.length) 0)).toArray).setRow (w.heap.size + 1) (intsL (a ++ (List.replicate (8 - (a.length + b.length)) 0 ++ b))).toArray) := row_below hb1 (by omega) _
          have hone := intsL_one (a ++ (List.replicate (8 - (a.length + b.length)) 0 ++ b))
          have hsz8 : (intsL (a ++ (List.replicate (8 - (a.length + b.length)) 0 ++ b))).length = 8 := by simp [intsL]; omega
          have hfin : PM.sixParse s = some (a ++ (List.replicate (8 - (a.length + b.length)) 0 ++ b)) := by
            rw [HV.out]
            show PM.sixOf a b true = _
            rw [HOF.out, if_neg (by simp; omega)]
          have hval : ints (a ++ (List.replicate (8 - (a.length + b.length)) 0 ++ b)) = (intsL (a ++ (List.replicate (8 - (a.length + b.length)) 0 ++ b))).toArray := rfl
          have HFIN := Lib.hid hfin
          have HVAL := Lib.hid hval
          have HC1 := Lib.hid hC1
          have HC2 := Lib.hid hC2
          have HR2 := Lib.hid hR2
          have HB2 := Lib.hid hb2
          have HONE := Lib.hid hone
          have HSZ := Lib.hid hsz8
          clear hC1 hR1 hb1 ho1 hC2 hR2 hb2 hone hsz8 hfin hval hz1
          generalize (intsL (a ++ (List.replicate (8 - (a.length + b.length)) 0 ++ b))) = C2 at hcp2 HC2 HR2 HB2 HONE HSZ HVAL
          generalize (intsL (a ++ List.replicate (8 - a.length) 0)) = C1 at hcp hcp2 HC1 HC2 HR2 HB2
          go_upto_region 10 with fail
          generalize (V3.setRow (w.heap.size + 1) C1.toArray).setRow (w.heap.size + 1) C2.toArray = V5 at HC2 HR2 HB2 ⊢
          clear hcp hcp2 HC1 hs2
          have hall : C2.toArray.all (·.oneCell') = true := by
            rw [List.all_toArray, List.all_eq_true]
            exact HONE.out
          have h8z : (8 : Nat) = C2.toArray.size := by rw [List.size_toArray, HSZ.out]
          have hinfo : (Tryz.prog.info? 22).map (·.size) = some C2.toArray.size := by rw [← h8z]; kernel_rfl
          have H8 := Lib.hid h8z
          clear h8z
          go_wp2_with (first
            | (refine wpList_load_row rfl 22 _ rfl (w.heap.size + 1) rfl 22 _ (0, 0) _ HC2.out Tryz.underlying22 rfl hinfo ?_)
            | (refine wpList_store_row rfl 22 _ _ rfl w.heap.size C2.toArray rfl rfl 22 _ HR2.out hinfo H8.out hall ?_))
          refine bodyPost_ret (results_cell_tmp (fr := (0, 0)) rfl _ _ w.heap.size 22 C2.toArray _ rfl (setRow_heap _ _ _ _ _ _ HR2.out) Tryz.underlying22 rfl hinfo) rfl ?_
          refine ⟨?_, row_below HB2.out (Nat.le_refl _) _⟩
          rw [HFIN.out]
          show _ = Ending.returned (.tuple #[.agg (ints _), .bool true])
          rw [HVAL.out]
          rfl
        · have h8' : ((8 : Int) ≤ (a.length : Int) + (b.length : Int)) := by omega
          go_wp2_with (refine wpList_store_row rfl 22 _ _ rfl w.heap.size zsix rfl rfl 22 _ hR.out (by kernel_rfl) rfl zsix_one ?_)
          refine bodyPost_ret (results_cell_tmp (fr := (0, 0)) rfl _ _ w.heap.size 22 zsix _ rfl (setRow_heap _ _ _ _ _ _ hR.out) Tryz.underlying22 rfl (by kernel_rfl)) rfl ?_
          refine ⟨?_, row_below hb0.out (Nat.le_refl _) _⟩
          show _ = Ending.returned (sixV (PM.sixParse s))
          rw [HV.out]
          show _ = Ending.returned (sixV (PM.sixOf a b true))
          rw [HOF.out, if_pos (by simp; omega)]
          rfl
end Go.Proofs.YtppbkblnjlbnfaaGreatDoor
