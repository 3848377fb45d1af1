import Derived.Test.YtppbkblnjlbnfaaGreatDoorP5
import Derived.Test.YtppbkblnjlbnfaaGreatDoorC25
/-! Contract: host.Parse. -/
set_option linter.unusedVariables false
namespace Go.Proofs.YtppbkblnjlbnfaaGreatDoor
open Go.RowKit
theorem prefix_one (c : UInt8) (s : List UInt8) : Lib.hasPrefix s [c] = (s.head? == some c) ∧ Lib.trimPrefix s [c] = if s.head? = some c then s.drop 1 else s := by
  have h : Lib.hasPrefix s [c] = (s.head? == some c) := by
    unfold Lib.hasPrefix
    cases s with
    | nil => rfl
    | cons x r =>
      rw [Bool.eq_iff_iff]
      simp only [List.isPrefixOf, Bool.and_true, beq_iff_eq, List.head?_cons, Option.some.injEq]
      exact eq_comm
  refine ⟨h, ?_⟩
  unfold Lib.trimPrefix
  rw [h]
  by_cases hc : s.head? = some c <;> simp [hc]
theorem CutPre_c (c : UInt8) (s : List UInt8) (d : ByteArray) (hd : d = mkS [c]) (w : World) : Calls Tryz.prog 110 #[.string (mkS s), .string d] w fun e w' => e = .returned (.tuple #[.string (mkS (if s.head? = some c then s.drop 1 else s)), .bool (s.head? == some c)]) ∧ w' = w := by
  subst hd
  have h := Tryz.strings_CutPrefix (mkS s) (mkS [c]) w
  rw [mkS_data, mkS_data, (prefix_one c s).1, (prefix_one c s).2] at h
  exact h
theorem suffix_one (c : UInt8) (s : List UInt8) : Lib.hasSuffix s [c] = (s.getLast? == some c) ∧ Lib.trimSuffix s [c] = if s.getLast? = some c then s.dropLast else s := by
  have h : Lib.hasSuffix s [c] = (s.getLast? == some c) := by
    unfold Lib.hasSuffix
    rw [Bool.eq_iff_iff, List.isSuffixOf_iff_suffix, beq_iff_eq, List.singleton_suffix_iff_getLast?_eq_some]
  refine ⟨h, ?_⟩
  unfold Lib.trimSuffix
  rw [h]
  by_cases hc : s.getLast? = some c
  · rw [hc]
    simp [List.dropLast_eq_take]
  · simp [hc]
theorem CutSuffix_c (c : UInt8) (s : List UInt8) (hs : s.length ≤ 1000000) (d : ByteArray) (hd : d = mkS [c]) (w : World) : Calls Tryz.prog 175 #[.string (mkS s), .string d] w fun e w' => e = .returned (.tuple #[.string (mkS (if s.getLast? = some c then s.dropLast else s)), .bool (s.getLast? == some c)]) ∧ w' = w := by
  subst hd
  have h := Tryz.strings_CutSuffix (mkS s) (mkS [c]) w (by rw [mkS_size]; omega)
  rw [mkS_data, mkS_data, (suffix_one c s).1, (suffix_one c s).2] at h
  exact h
def zhost : Array Value := #[.int .i64 0, .string ⟨#[]⟩, .int .i64 0, .int .i64 0, .int .i64 0, .int .i64 0, .int .i64 0, .int .i64 0, .int .i64 0, .int .i64 0, .int .i64 0]
def hcells (h : PM.Host) : Array Value := #[.int .i64 h.kind, .string (mkS h.name), .int .i64 h.num, .int .i64 (h.six.getD 0 0), .int .i64 (h.six.getD 1 0), .int .i64 (h.six.getD 2 0), .int .i64 (h.six.getD 3 0), .int .i64 (h.six.getD 4 0), .int .i64 (h.six.getD 5 0), .int .i64 (h.six.getD 6 0), .int .i64 (h.six.getD 7 0)]
def hostPV (o : Option PM.Host) : Value := match o with
  | some h => .tuple #[.agg (hcells h), .bool true]
  | none => .tuple #[.agg zhost, .bool false]
theorem zhost_one : zhost.all (·.oneCell') = true := by
  unfold zhost
  simp [Value.oneCell']
theorem hcells_one (h : PM.Host) : (hcells h).all (·.oneCell') = true := by
  unfold hcells
  simp [Value.oneCell']
theorem sixOf_len {a b : List Int} {g : Bool} {p : List Int} (h : PM.sixOf a b g = some p) : p.length = 8 := by
  unfold PM.sixOf at h
  split at h
  · simp at h
  · rename_i hc
    simp at h
    subst h
    cases g <;> simp at hc ⊢ <;> omega
theorem sixParse_len {s : List UInt8} {p : List Int} (h : PM.sixParse s = some p) : p.length = 8 := by
  unfold PM.sixParse at h
  split at h
  · exact sixOf_len h
  · simp at h
theorem eight {p : List Int} (h : p.length = 8) : ∃ p0 p1 p2 p3 p4 p5 p6 p7, p = [p0, p1, p2, p3, p4, p5, p6, p7] := by
  match p, h with
  | [p0, p1, p2, p3, p4, p5, p6, p7], _ => exact ⟨p0, p1, p2, p3, p4, p5, p6, p7, rfl⟩
theorem six_form (o : Option (List Int)) (h : ∀ p, o = some p → p.length = 8) : ∃ q0 q1 q2 q3 q4 q5 q6 q7 : Int, sixV o = .tuple #[.agg #[.int .i64 q0, .int .i64 q1, .int .i64 q2, .int .i64 q3, .int .i64 q4, .int .i64 q5, .int .i64 q6, .int .i64 q7], .bool o.isSome] ∧ (o.isSome = true → o = some [q0, q1, q2, q3, q4, q5, q6, q7]) := by
  cases o with
  | none => exact ⟨0, 0, 0, 0, 0, 0, 0, 0, rfl, fun h => by simp at h⟩
  | some p =>
    obtain ⟨p0, p1, p2, p3, p4, p5, p6, p7, rfl⟩ := eight (h p rfl)
    exact ⟨p0, p1, p2, p3, p4, p5, p6, p7, rfl, fun _ => rfl⟩
set_option maxRecDepth 100000 in
set_option maxHeartbeats 2000000 in
theorem HostParse_c (s : List UInt8) (hs : s.length ≤ 1000000) (w : World) (hg : Gl w) : Calls Tryz.prog 148 #[.string (mkS s)] w fun e w' => e = .returned (hostPV (PM.hostParse s)) ∧ Below w.heap.size w w' := by
  have hcp := CutPre_c 91 s ⟨#[91]⟩ rfl
  have hR : Hid ((w.alloc (.cells #[.int .i64 0, .string ⟨#[]⟩, .int .i64 0, .int .i64 0, .int .i64 0, .int .i64 0, .int .i64 0, .int .i64 0, .int .i64 0, .int .i64 0, .int .i64 0] 24)).heap[w.heap.size]? = some (.cells zhost 24 (0, 0))) := Go.heap_alloc_new _ _
  have hb0 : Hid (Below w.heap.size w (w.alloc (.cells #[.int .i64 0, .string ⟨#[]⟩, .int .i64 0, .int .i64 0, .int .i64 0, .int .i64 0, .int .i64 0, .int .i64 0, .int .i64 0, .int .i64 0, .int .i64 0] 24))) := by exact b_alloc (Below.refl _ _) _
  have HG := Lib.hid hg
  clear hg
  by_cases h91 : s.head? = some 91
  · obtain ⟨r, rfl⟩ : ∃ r, s = 91 :: r := by
      cases s with
      | nil => simp at h91
      | cons x r => simp at h91; exact ⟨r, by rw [h91]⟩
    have hv : PM.hostParse (91 :: r) = if r.getLast? = some 93 then (match PM.sixParse r.dropLast with
      | some p => some ⟨3, [], 0, p⟩
      | none => none) else none := rfl
    have hcs := fun W => CutSuffix_c 93 r (by simp at hs; omega) ⟨#[93]⟩ rfl W
    have hrl : r.length ≤ 1000000 := by simp at hs; omega
    simp only [List.head?_cons, if_true, List.drop_one, List.tail_cons, BEq.rfl] at hcp
    clear h91
    obtain ⟨t, is, ht, hcs2, hv2⟩ : ∃ (t : List UInt8) (is : Bool), t.length ≤ 1000000 ∧ (∀ W, Calls Tryz.prog 175 #[.string (mkS r), .string ⟨#[93]⟩] W fun e w' => e = .returned (.tuple #[.string (mkS t), .bool is]) ∧ w' = W) ∧ PM.hostParse (91 :: r) = if is then (match PM.sixParse t with
      | some p => some ⟨3, [], 0, p⟩
      | none => none) else none := by
      by_cases h93 : r.getLast? = some 93
      · refine ⟨r.dropLast, true, by simp; omega, fun W => ?_, by rw [hv, if_pos h93]; rfl⟩
        have h := hcs W
        rw [if_pos h93, h93] at h
        exact h
      · refine ⟨r, false, hrl, fun W => ?_, by rw [hv, if_neg h93]; rfl⟩
        have h := hcs W
        rw [if_neg h93, beq_eq_false_iff_ne.2 h93] at h
        exact h
    clear hv hcs hs hrl
    have hsp := SixParse_c t ht
    obtain ⟨q0, q1, q2, q3, q4, q5, q6, q7, hq, hq2⟩ := six_form (PM.sixParse t) (fun p h => sixParse_len h)
    rw [hq] at hsp
    clear hq
    have hfin : PM.hostParse (91 :: r) = if is = true ∧ (PM.sixParse t).isSome = true then some ⟨3, [], 0, [q0, q1, q2, q3, q4, q5, q6, q7]⟩ else none := by
      rw [hv2]
      cases is
      · rfl
      · cases hp : PM.sixParse t with
        | none => rfl
        | some p =>
          rw [hp] at hq2
          rw [hq2 rfl]
          rfl
    generalize (PM.sixParse t).isSome = can at hsp hfin
    have HV := Lib.hid hfin
    have HSP := Lib.hid hsp
    have HCP := Lib.hid hcp
    have HCS := Lib.hid hcs2
    clear hfin hq2 hv2 hsp hcp hcs2
    go_enter Tryz.func148, Tryz.ntmps148
    go_upto_region 1 with fail
    generalize w.alloc (.cells #[.int .i64 0, .string ⟨#[]⟩, .int .i64 0, .int .i64 0, .int .i64 0, .int .i64 0, .int .i64 0, .int .i64 0, .int .i64 0, .int .i64 0, .int .i64 0] 24) = V0 at hR hb0 ⊢
    go_wp2_with fail
    refine (HCP.out _).mono ?_
    rintro e V1 ⟨rfl, rfl⟩
    go_wp2_with fail
    refine (HCS.out _).mono ?_
    rintro e V2 ⟨rfl, rfl⟩
    go_wp2_with fail
    refine (HSP.out _ (HG.out.below hb0.out)).mono ?_
    rintro e V3 ⟨rfl, hb⟩
    replace hR := Lib.hid (obj_b hb hR.out)
    replace hb0 := Lib.hid (b_then hb0.out hb)
    clear hb
    have hR2 : ∀ cs, Hid ((V3.alloc (.cells cs 22)).heap[w.heap.size]? = some (.cells zhost 24 (0, 0))) := fun cs => Lib.hid (obj_b (b_alloc (Below.refl _ _) _) hR.out)
    have hb2 : ∀ cs, Hid (Below w.heap.size w (V3.alloc (.cells cs 22))) := fun cs => Lib.hid (b_alloc hb0.out _)
    cases is
    · go_wp2_with (refine wpList_store_row rfl 24 _ _ rfl w.heap.size zhost rfl rfl 24 _ (hR2 _).out (by kernel_rfl) rfl zhost_one ?_)
      refine bodyPost_ret (results_cell_tmp (fr := (0, 0)) rfl _ _ w.heap.size 24 zhost _ rfl (setRow_heap _ _ _ _ _ _ (hR2 _).out) Tryz.underlying24 rfl (by kernel_rfl)) rfl ?_
      refine ⟨?_, row_below (hb2 _).out (Nat.le_refl _) _⟩
      rw [HV.out]
      rfl
    · cases can
      · go_wp2_with (refine wpList_store_row rfl 24 _ _ rfl w.heap.size zhost rfl rfl 24 _ (hR2 _).out (by kernel_rfl) rfl zhost_one ?_)
        refine bodyPost_ret (results_cell_tmp (fr := (0, 0)) rfl _ _ w.heap.size 24 zhost _ rfl (setRow_heap _ _ _ _ _ _ (hR2 _).out) Tryz.underlying24 rfl (by kernel_rfl)) rfl ?_
        refine ⟨?_, row_below (hb2 _).out (Nat.le_refl _) _⟩
        rw [HV.out]
        rfl
      · go_wp2_with fail
        refine (host_pieces_c q0 q1 q2 q3 q4 q5 q6 q7 _).mono ?_
        rintro e V4 ⟨rfl, hb⟩
        have hR4 := Lib.hid (obj_b hb (hR2 _).out)
        have hb4 := Lib.hid (b_then (hb2 _).out hb)
        clear hb
        go_wp2_with (refine wpList_store_row rfl 24 _ _ rfl w.heap.size #[.int .i64 3, .string ⟨#[]⟩, .int .i64 0, .int .i64 q0, .int .i64 q1, .int .i64 q2, .int .i64 q3, .int .i64 q4, .int .i64 q5, .int .i64 q6, .int .i64 q7] rfl rfl 24 _ hR4.out (by kernel_rfl) rfl (by simp [Value.oneCell']) ?_)
        refine bodyPost_ret (results_cell_tmp (fr := (0, 0)) rfl _ _ w.heap.size 24 #[.int .i64 3, .string ⟨#[]⟩, .int .i64 0, .int .i64 q0, .int .i64 q1, .int .i64 q2, .int .i64 q3, .int .i64 q4, .int .i64 q5, .int .i64 q6, .int .i64 q7] _ rfl (setRow_heap _ _ _ _ _ _ hR4.out) Tryz.underlying24 rfl (by kernel_rfl)) rfl ?_
        refine ⟨?_, row_below hb4.out (Nat.le_refl _) _⟩
        rw [HV.out]
        rfl
  · have hcp0 := hcp
    rw [if_neg h91, beq_eq_false_iff_ne.2 h91] at hcp0
    clear hcp
    have hv := PM.hostParse_plain h91
    have HCP := Lib.hid hcp0
    have HV := Lib.hid hv
    clear hv hcp0 h91
    have HLK := Lib.hid (fun W => Looks_c s (by omega) W)
    have HLO := Lib.hid (fun W => Lower_c s (by omega) W)
    have HF := Lib.hid (fun W hg => FourParse_c s hs W hg)
    have hll : (PM.lower s).length ≤ 1000000 := by simp [PM.lower]; omega
    have HFI := Lib.hid (fun W hg => fits_c (PM.lower s) hll W hg)
    have HD := Lib.hid (fun W => host_domain_c (PM.lower s) W)
    have hfv : fourV s = (match PM.fourParse s with
      | some n => .tuple #[.int .i64 (n : Int), .bool true]
      | none => .tuple #[.int .i64 0, .bool false]) := rfl
    have HFV := Lib.hid hfv
    clear hfv hll hs
    generalize PM.looks s = lk at HLK HV
    generalize PM.fits (PM.lower s) = fi at HFI HV
    generalize PM.lower s = lo at HLO HFI HD HV
    go_enter Tryz.func148, Tryz.ntmps148
    go_upto_region 1 with fail
    generalize w.alloc (.cells #[.int .i64 0, .string ⟨#[]⟩, .int .i64 0, .int .i64 0, .int .i64 0, .int .i64 0, .int .i64 0, .int .i64 0, .int .i64 0, .int .i64 0, .int .i64 0] 24) = V0 at hR hb0 ⊢
    go_wp2_with fail
    refine (HCP.out _).mono ?_
    rintro e V1 ⟨rfl, rfl⟩
    go_wp2_with fail
    refine (HLK.out _).mono ?_
    rintro e V2 ⟨rfl, rfl⟩
    cases lk
    · go_wp2_with fail
      refine (HLO.out _).mono ?_
      rintro e V3 ⟨rfl, hb⟩
      replace hR := Lib.hid (obj_b hb hR.out)
      replace hb0 := Lib.hid (b_then hb0.out hb)
      clear hb
      go_wp2_with fail
      refine (HFI.out _ (HG.out.below hb0.out)).mono ?_
      rintro e V4 ⟨rfl, hb⟩
      replace hR := Lib.hid (obj_b hb hR.out)
      replace hb0 := Lib.hid (b_then hb0.out hb)
      clear hb
      cases fi
      · go_wp2_with (refine wpList_store_row rfl 24 _ _ rfl w.heap.size zhost rfl rfl 24 _ hR.out (by kernel_rfl) rfl zhost_one ?_)
        refine bodyPost_ret (results_cell_tmp (fr := (0, 0)) rfl _ _ w.heap.size 24 zhost _ rfl (setRow_heap _ _ _ _ _ _ hR.out) Tryz.underlying24 rfl (by kernel_rfl)) rfl ?_
        refine ⟨?_, row_below hb0.out (Nat.le_refl _) _⟩
        rw [HV.out]
        rfl
      · go_wp2_with fail
        refine (HD.out _).mono ?_
        rintro e V5 ⟨rfl, hb⟩
        replace hR := Lib.hid (obj_b hb hR.out)
        replace hb0 := Lib.hid (b_then hb0.out hb)
        clear hb
        go_wp2_with (refine wpList_store_row rfl 24 _ _ rfl w.heap.size #[.int .i64 1, .string (mkS lo), .int .i64 0, .int .i64 0, .int .i64 0, .int .i64 0, .int .i64 0, .int .i64 0, .int .i64 0, .int .i64 0, .int .i64 0] rfl rfl 24 _ hR.out (by kernel_rfl) rfl (by simp [Value.oneCell']) ?_)
        refine bodyPost_ret (results_cell_tmp (fr := (0, 0)) rfl _ _ w.heap.size 24 #[.int .i64 1, .string (mkS lo), .int .i64 0, .int .i64 0, .int .i64 0, .int .i64 0, .int .i64 0, .int .i64 0, .int .i64 0, .int .i64 0, .int .i64 0] _ rfl (setRow_heap _ _ _ _ _ _ hR.out) Tryz.underlying24 rfl (by kernel_rfl)) rfl ?_
        refine ⟨?_, row_below hb0.out (Nat.le_refl _) _⟩
        rw [HV.out]
        rfl
    · go_wp2_with fail
      refine (HF.out _ (HG.out.below hb0.out)).mono ?_
      rintro e V3 ⟨rfl, hb⟩
      replace hR := Lib.hid (obj_b hb hR.out)
      replace hb0 := Lib.hid (b_then hb0.out hb)
      clear hb
      rw [HFV.out]
      generalize PM.fourParse s = o at HV
      cases o with
      | none =>
        go_wp2_with (refine wpList_store_row rfl 24 _ _ rfl w.heap.size zhost rfl rfl 24 _ hR.out (by kernel_rfl) rfl zhost_one ?_)
        refine bodyPost_ret (results_cell_tmp (fr := (0, 0)) rfl _ _ w.heap.size 24 zhost _ rfl (setRow_heap _ _ _ _ _ _ hR.out) Tryz.underlying24 rfl (by kernel_rfl)) rfl ?_
        refine ⟨?_, row_below hb0.out (Nat.le_refl _) _⟩
        rw [HV.out]
        rfl
      | some n =>
        go_wp2_with fail
        refine (host_number_c n _).mono ?_
        rintro e V5 ⟨rfl, hb⟩
        replace hR := Lib.hid (obj_b hb hR.out)
        replace hb0 := Lib.hid (b_then hb0.out hb)
        clear hb
        go_wp2_with (refine wpList_store_row rfl 24 _ _ rfl w.heap.size #[.int .i64 2, .string ⟨#[]⟩, .int .i64 n, .int .i64 0, .int .i64 0, .int .i64 0, .int .i64 0, .int .i64 0, .int .i64 0, .int .i64 0, .int .i64 0] rfl rfl 24 _ hR.out (by kernel_rfl) rfl (by simp [Value.oneCell']) ?_)
        refine bodyPost_ret (results_cell_tmp (fr := (0, 0)) rfl _ _ w.heap.size 24 #[.int .i64 2, .string ⟨#[]⟩, .int .i64 n, .int .i64 0, .int .i64 0, .int .i64 0, .int .i64 0, .int .i64 0, .int .i64 0, .int .i64 0, .int .i64 0] _ rfl (setRow_heap _ _ _ _ _ _ hR.out) Tryz.underlying24 rfl (by kernel_rfl)) rfl ?_
        refine ⟨?_, row_below hb0.out (Nat.le_refl _) _⟩
        rw [HV.out]
        rfl
end Go.Proofs.YtppbkblnjlbnfaaGreatDoor
