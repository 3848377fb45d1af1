/-
OriginNull: whatever comes in, the law's call returns true, and the arguments read behind the call as they did before; no condition on them. The row lists the two tables of unicode/utf8 (first, acceptRanges); the card ties them.
-/
import Derived.Test.YtlcckikfmlhgjaaGreatDoorAw12
import Derived.Test.YtlcckikfmlhgjaaGreatDoorTz
import Derived.Test.YtlcckikfmlhgjaaGreatDoorOq
set_option linter.unusedVariables false
set_option linter.unusedSimpArgs false
/-! The walk of OriginNull. -/
namespace Go.Proofs.YtlcckikfmlhgjaaGreatDoor
open Go.RowKit
/-- Where a law of two origins stands. -/
structure DuoO (a b : OV) (bb : Nat) (w W : World) : Prop where
  a : W.heap[w.heap.size]? = some (.cells a.cells 35 (0, 0))
  b : W.heap[bb]? = some (.cells b.cells 35 (0, 0))
  be : Below w.heap.size w W
theorem DuoO.below {a b : OV} {bb : Nat} {w W W' : World} (h : DuoO a b bb w W) (hb : Below W.heap.size W W') : DuoO a b bb w W' := ⟨heap_b hb h.a, heap_b hb h.b, b_then h.be hb⟩
theorem PM_same_no {a b : PM.Origin} (h : (a.opq || !PM.originMay a) = true) : PM.originSame a b = false ∧ PM.originSame b a = false ∧ PM.originShow a = PM.nul := by
  have h1 : ∀ c, PM.originSame a c = false := fun c => by
    unfold PM.originSame
    rcases Bool.or_eq_true _ _ ▸ h with h | h
    · rw [h]; cases PM.originMay a <;> rfl
    · have : PM.originMay a = false := by simpa using h
      rw [this]; rfl
  refine ⟨h1 b, ?_, ?_⟩
  · cases e : PM.originSame b a
    · rfl
    · have e' := e
      unfold PM.originSame at e'
      have : b = a := (PM.originEq_iff b a).1 (by cases hh : PM.originEq b a; · rw [hh] at e'; simp at e'
                                                  · rfl)
      rw [this, h1] at e
      cases e
  · apply PM.originShow_no
    rcases Bool.or_eq_true _ _ ▸ h with h | h
    · exact .inl h
    · exact .inr (by simpa using h)
theorem PM_same_yes {a : PM.Origin} (h : (a.opq || !PM.originMay a) = false) : PM.originSame a a = true ∧ (∀ b, PM.originSame a b = PM.originEq a b) ∧ ∃ r, PM.originShow a = (a.sch ++ [58, 47, 47]) ++ (PM.hostShow a.host ++ r) := by
  rw [Bool.or_eq_false_iff] at h
  have hm : PM.originMay a = true := by simpa using h.2
  have h1 : ∀ b, PM.originSame a b = PM.originEq a b := fun b => by
    unfold PM.originSame
    rw [hm, h.1]
    rfl
  refine ⟨by rw [h1]; exact PM.originEq_refl a, h1, ?_⟩
  rw [PM.originShow_eq hm h.1]
  unfold PM.odoor
  split
  · exact ⟨[], by simp⟩
  · exact ⟨_, by simp; rfl⟩
set_option maxRecDepth 100000 in
set_option maxHeartbeats 16000000 in
theorem OriginNull_c (a b : OV) (w : World) (hg : Gl w) (hT : Lib.Utf8Tabs 1 2 w) : Calls Tryz.prog 7 #[.agg a.cells, .agg b.cells] w fun e w' => e = .returned (.bool true) ∧ Below w.heap.size w w' := by
  have HG := Lib.hid hg
  have HTB := Lib.hid hT
  clear hg hT
  have HB : Hid (Below w.heap.size w ((w.alloc (.cells a.cells 35)).alloc (.cells b.cells 35))) := Lib.hid (b_alloc (b_alloc (Below.refl _ _) _) _)
  have Ha : Hid (((w.alloc (.cells a.cells 35)).alloc (.cells b.cells 35)).heap[w.heap.size]? = some (.cells a.cells 35 (0, 0))) := Lib.hid (heap_b (b_alloc (Below.refl _ _) _) (by have h := Go.heap_alloc_new w (.cells a.cells 35); simpa using h))
  have Hb : Hid (((w.alloc (.cells a.cells 35)).alloc (.cells b.cells 35)).heap[w.heap.size + 1]? = some (.cells b.cells 35 (0, 0))) := Lib.hid ((by have h := Go.heap_alloc_new (w.alloc (.cells a.cells 35)) (.cells b.cells 35); simpa using h))
  go_enter Tryz.func7, Tryz.ntmps7
  go_upto_region 1 with fail
  generalize (w.alloc (.cells a.cells 35)).alloc (.cells b.cells 35) = V0 at HB Ha Hb ⊢
  generalize hbb : w.heap.size + 1 = bb at Hb ⊢
  have hlw_bb : w.heap.size ≤ bb := by omega
  have hne_b_a : w.heap.size < bb := by omega
  clear hbb
  go_wp2_with fail
  refine (awake12_c _ (HG.out.below HB.out) (tabs_below HTB.out HB.out)).mono ?_
  rintro e V1 ⟨rfl, hb⟩
  replace HB := Lib.hid (b_then HB.out hb)
  replace Hb := Lib.hid (obj_b hb Hb.out)
  replace Ha := Lib.hid (obj_b hb Ha.out)
  clear hb
  obtain ⟨c0, c1, c2, c3, c4, c5, c6, c7, c8, c9, c10, c11, c12, c13⟩ := OvAt.of_heap Ha.out
  obtain ⟨d0, d1, d2, d3, d4, d5, d6, d7, d8, d9, d10, d11, d12, d13⟩ := OvAt.of_heap Hb.out
  by_cases hl : 300 < a.sc.length
  · have hl2 : (300 : Int) < (a.sc.length : Int) := by omega
    go_wp2
    go_ret
    exact ⟨rfl, HB.out⟩
  have k0 : ¬ (300 : Int) < (a.sc.length : Int) := by omega
  clear hl
  by_cases hl : 300 < a.n.length
  · have hl2 : (300 : Int) < (a.n.length : Int) := by omega
    go_wp2
    go_ret
    exact ⟨rfl, HB.out⟩
  have k1 : ¬ (300 : Int) < (a.n.length : Int) := by omega
  clear hl
  by_cases hl : 300 < b.sc.length
  · have hl2 : (300 : Int) < (b.sc.length : Int) := by omega
    go_wp2
    go_ret
    exact ⟨rfl, HB.out⟩
  have k2 : ¬ (300 : Int) < (b.sc.length : Int) := by omega
  clear hl
  by_cases hl : 300 < b.n.length
  · have hl2 : (300 : Int) < (b.n.length : Int) := by omega
    go_wp2
    go_ret
    exact ⟨rfl, HB.out⟩
  have k3 : ¬ (300 : Int) < (b.n.length : Int) := by omega
  clear hl
  have hoa : a.Ok := ⟨by omega, by omega⟩
  have hob : b.Ok := ⟨by omega, by omega⟩
  have Oa := Lib.hid hoa
  have Ob := Lib.hid hob
  clear hoa hob
  obtain ⟨S, hS⟩ : ∃ S, PM.originShow a.pm = S := ⟨_, rfl⟩
  have HS := Lib.hid hS
  clear hS
  go_wp2_with (first | go_skip | (refine wpList_load_g 35 _ rfl (by kernel_rfl) w.heap.size rfl Ha.out Tryz.underlying35 rfl (by kernel_rfl) ?_))
  refine (Show_o_c a _ Oa.out (HG.out.below HB.out)).mono ?_
  rw [HS.out]
  rintro e V2 ⟨rfl, hb⟩
  replace HB := Lib.hid (b_then HB.out hb)
  replace Hb := Lib.hid (obj_b hb Hb.out)
  replace Ha := Lib.hid (obj_b hb Ha.out)
  clear hb
  clear k0 k1 k2 k3 c0 c1 c2 c3 c4 c5 c6 c7 c8 c9 c10 c11 c12 c13 d0 d1 d2 d3 d4 d5 d6 d7 d8 d9 d10 d11 d12 d13
  obtain ⟨c0, c1, c2, c3, c4, c5, c6, c7, c8, c9, c10, c11, c12, c13⟩ := OvAt.of_heap Ha.out
  obtain ⟨m, hm⟩ : ∃ m, PM.originMay a.pm = m := ⟨_, rfl⟩
  have HM := Lib.hid hm
  clear hm
  cases hq : a.q
  rotate_left
  · have HQ := Lib.hid hq
    rw [hq] at c0
    clear hq
    have hno := PM_same_no (a := a.pm) (b := b.pm) (by show (a.q || _) = true; rw [HQ.out]; rfl)
    have hno2 := PM_same_no (a := a.pm) (b := a.pm) (by show (a.q || _) = true; rw [HQ.out]; rfl)
    have N1 := Lib.hid hno.1
    have N2 := Lib.hid hno.2.1
    have N3 := Lib.hid hno2.1
    have hS2 : S = PM.nul := by rw [← HS.out]; exact hno.2.2
    subst hS2
    clear hno hno2
    unfold PM.nul
    go_wp2_with (first | go_skip | (refine wpList_load_g 35 _ rfl (by kernel_rfl) w.heap.size rfl Ha.out Tryz.underlying35 rfl (by kernel_rfl) ?_) | (refine wpList_load_g 35 _ rfl (by kernel_rfl) bb rfl Hb.out Tryz.underlying35 rfl (by kernel_rfl) ?_))
    refine (Same_o_c a b _ Oa.out (HG.out.below HB.out)).mono ?_
    rw [N1.out]
    rintro e V3 ⟨rfl, hb⟩
    replace HB := Lib.hid (b_then HB.out hb)
    replace Hb := Lib.hid (obj_b hb Hb.out)
    replace Ha := Lib.hid (obj_b hb Ha.out)
    clear hb
    go_wp2_with (first | go_skip | (refine wpList_load_g 35 _ rfl (by kernel_rfl) w.heap.size rfl Ha.out Tryz.underlying35 rfl (by kernel_rfl) ?_) | (refine wpList_load_g 35 _ rfl (by kernel_rfl) bb rfl Hb.out Tryz.underlying35 rfl (by kernel_rfl) ?_))
    refine (Same_o_c b a _ Ob.out (HG.out.below HB.out)).mono ?_
    rw [N2.out]
    rintro e V4 ⟨rfl, hb⟩
    replace HB := Lib.hid (b_then HB.out hb)
    replace Hb := Lib.hid (obj_b hb Hb.out)
    replace Ha := Lib.hid (obj_b hb Ha.out)
    clear hb
    go_wp2_with (first | go_skip | (refine wpList_load_g 35 _ rfl (by kernel_rfl) w.heap.size rfl Ha.out Tryz.underlying35 rfl (by kernel_rfl) ?_) | (refine wpList_load_g 35 _ rfl (by kernel_rfl) bb rfl Hb.out Tryz.underlying35 rfl (by kernel_rfl) ?_))
    refine (Same_o_c a a _ Oa.out (HG.out.below HB.out)).mono ?_
    rw [N3.out]
    rintro e V5 ⟨rfl, hb⟩
    replace HB := Lib.hid (b_then HB.out hb)
    replace Hb := Lib.hid (obj_b hb Hb.out)
    replace Ha := Lib.hid (obj_b hb Ha.out)
    clear hb
    go_wp2
    go_ret
    exact ⟨rfl, HB.out⟩
  have HQ := Lib.hid hq
  rw [hq] at c0
  clear hq
  go_wp2_with (first | go_skip | (refine wpList_load_g 35 _ rfl (by kernel_rfl) w.heap.size rfl Ha.out Tryz.underlying35 rfl (by kernel_rfl) ?_))
  refine (May_c a _ Oa.out (HG.out.below HB.out)).mono ?_
  rw [HM.out]
  rintro e V6 ⟨rfl, hb⟩
  replace HB := Lib.hid (b_then HB.out hb)
  replace Hb := Lib.hid (obj_b hb Hb.out)
  replace Ha := Lib.hid (obj_b hb Ha.out)
  clear hb
  clear c0 c1 c2 c3 c4 c5 c6 c7 c8 c9 c10 c11 c12 c13
  obtain ⟨c0, c1, c2, c3, c4, c5, c6, c7, c8, c9, c10, c11, c12, c13⟩ := OvAt.of_heap Ha.out
  cases m
  · skip
    have hno := PM_same_no (a := a.pm) (b := b.pm) (by show (a.q || !PM.originMay a.pm) = true; rw [HM.out, HQ.out]; rfl)
    have hno2 := PM_same_no (a := a.pm) (b := a.pm) (by show (a.q || !PM.originMay a.pm) = true; rw [HM.out, HQ.out]; rfl)
    have N1 := Lib.hid hno.1
    have N2 := Lib.hid hno.2.1
    have N3 := Lib.hid hno2.1
    have hS2 : S = PM.nul := by rw [← HS.out]; exact hno.2.2
    subst hS2
    clear hno hno2
    unfold PM.nul
    go_wp2_with (first | go_skip | (refine wpList_load_g 35 _ rfl (by kernel_rfl) w.heap.size rfl Ha.out Tryz.underlying35 rfl (by kernel_rfl) ?_) | (refine wpList_load_g 35 _ rfl (by kernel_rfl) bb rfl Hb.out Tryz.underlying35 rfl (by kernel_rfl) ?_))
    refine (Same_o_c a b _ Oa.out (HG.out.below HB.out)).mono ?_
    rw [N1.out]
    rintro e V7 ⟨rfl, hb⟩
    replace HB := Lib.hid (b_then HB.out hb)
    replace Hb := Lib.hid (obj_b hb Hb.out)
    replace Ha := Lib.hid (obj_b hb Ha.out)
    clear hb
    go_wp2_with (first | go_skip | (refine wpList_load_g 35 _ rfl (by kernel_rfl) w.heap.size rfl Ha.out Tryz.underlying35 rfl (by kernel_rfl) ?_) | (refine wpList_load_g 35 _ rfl (by kernel_rfl) bb rfl Hb.out Tryz.underlying35 rfl (by kernel_rfl) ?_))
    refine (Same_o_c b a _ Ob.out (HG.out.below HB.out)).mono ?_
    rw [N2.out]
    rintro e V8 ⟨rfl, hb⟩
    replace HB := Lib.hid (b_then HB.out hb)
    replace Hb := Lib.hid (obj_b hb Hb.out)
    replace Ha := Lib.hid (obj_b hb Ha.out)
    clear hb
    go_wp2_with (first | go_skip | (refine wpList_load_g 35 _ rfl (by kernel_rfl) w.heap.size rfl Ha.out Tryz.underlying35 rfl (by kernel_rfl) ?_) | (refine wpList_load_g 35 _ rfl (by kernel_rfl) bb rfl Hb.out Tryz.underlying35 rfl (by kernel_rfl) ?_))
    refine (Same_o_c a a _ Oa.out (HG.out.below HB.out)).mono ?_
    rw [N3.out]
    rintro e V9 ⟨rfl, hb⟩
    replace HB := Lib.hid (b_then HB.out hb)
    replace Hb := Lib.hid (obj_b hb Hb.out)
    replace Ha := Lib.hid (obj_b hb Ha.out)
    clear hb
    go_wp2
    go_ret
    exact ⟨rfl, HB.out⟩
  have hyes := PM_same_yes (a := a.pm) (by show (a.q || !PM.originMay a.pm) = false; rw [HM.out, HQ.out]; rfl)
  have Y1 := Lib.hid hyes.1
  have Y2 := Lib.hid (hyes.2.1 b.pm)
  obtain ⟨r, hr⟩ := hyes.2.2
  have hE := eq_origin a b
  obtain ⟨D, hD⟩ : ∃ D, PM.originEq a.pm b.pm = D := ⟨_, rfl⟩
  rw [hD] at hE
  have HD := Lib.hid hD
  have HE := Lib.hid hE
  have hr2 : S = (a.sc ++ [58, 47, 47]) ++ (PM.hostShow ⟨a.k, a.n, a.m, [a.s0, a.s1, a.s2, a.s3, a.s4, a.s5, a.s6, a.s7]⟩ ++ r) := by rw [← HS.out]; exact hr
  have HR := Lib.hid hr2
  clear hyes hr hD hE hr2
  go_wp2_with fail
  refine (hostShow_c a.k a.n a.m a.s0 a.s1 a.s2 a.s3 a.s4 a.s5 a.s6 a.s7 Oa.out.n _ (HG.out.below HB.out)).mono ?_
  rintro e V40 ⟨rfl, hb⟩
  replace HB := Lib.hid (b_then HB.out hb)
  replace Hb := Lib.hid (obj_b hb Hb.out)
  replace Ha := Lib.hid (obj_b hb Ha.out)
  clear hb
  clear c0 c1 c2 c3 c4 c5 c6 c7 c8 c9 c10 c11 c12 c13
  have hsl : (PM.hostShow ⟨a.k, a.n, a.m, [a.s0, a.s1, a.s2, a.s3, a.s4, a.s5, a.s6, a.s7]⟩).length ≤ 2000000 := hostShow_len a.host Oa.out.n rfl
  have hsc := Oa.out.sc
  obtain ⟨Hs, hHs⟩ : ∃ Hs, PM.hostShow ⟨a.k, a.n, a.m, [a.s0, a.s1, a.s2, a.s3, a.s4, a.s5, a.s6, a.s7]⟩ = Hs := ⟨_, rfl⟩
  rw [hHs] at HR hsl ⊢
  clear hHs
  have hS' := HR.out
  have q1 : ((a.sc.length : Int) + 3 + Hs.length ≤ S.length) := by rw [hS']; simp; omega
  have q2 : (S.take a.sc.length == a.sc) = true := by rw [hS']; simp
  have q3 : ((S.drop a.sc.length).take 3 == [58, 47, 47]) = true := by rw [hS']; simp
  have q4 : ((S.drop (a.sc.length + 3)).take Hs.length == Hs) = true := by rw [hS', List.drop_left' (by simp)]; simp
  have n3 : a.sc.length + 3 + Hs.length ≤ S.length := by rw [hS']; simp; omega
  have n1 : a.sc.length ≤ S.length := by omega
  have n2 : a.sc.length + 3 ≤ S.length := by omega
  have q0 : ((a.sc.length : Int) ≤ S.length) := by omega
  have q5 : ((a.sc.length : Int) + 3 ≤ S.length) := by omega
  have w3 : IntKind.i64.wrap ((a.sc.length : Int) + 3) = (a.sc.length : Int) + 3 := by rw [IntKind.wrap_i64]; omega
  have p3 : (0 : Int) ≤ (a.sc.length : Int) + 3 := by omega
  have t3 : ((a.sc.length : Int) + 3).toNat = a.sc.length + 3 := by omega
  have s3 : (a.sc.length : Int) ≤ (a.sc.length : Int) + 3 := by omega
  have w4 : IntKind.i64.wrap ((a.sc.length : Int) + 3 + (Hs.length : Int)) = (a.sc.length : Int) + 3 + (Hs.length : Int) := by rw [IntKind.wrap_i64]; omega
  have p4 : (0 : Int) ≤ (a.sc.length : Int) + 3 + (Hs.length : Int) := by omega
  have t4 : ((a.sc.length : Int) + 3 + (Hs.length : Int)).toNat = a.sc.length + 3 + Hs.length := by omega
  have s4 : (a.sc.length : Int) + 3 ≤ (a.sc.length : Int) + 3 + (Hs.length : Int) := by omega
  clear hS'
  have HOab : ∀ W, Gl W → Calls Tryz.prog 30 #[.agg a.cells, .agg b.cells] W fun e w' => e = .returned (.bool D) ∧ Below W.heap.size W w' := fun W hg => by
    have := Same_o_c a b W Oa.out hg
    rw [Y2.out, HD.out] at this
    exact this
  have HAB := Lib.hid HOab
  clear HOab
  have hE := HE.out
  go_wp2_with fail
  refine wp_region_noPanic ?_
  refine wp_region_held_drew (S := fun W' => DuoO a b bb w W') (by kernel_rfl) (DuoO.below ⟨Ha.out, Hb.out, HB.out⟩ (b_drew (Below.refl _ _))) (fun hS0 => ?_)
  refine wpAnyH_take (i := 0) (v := ?_) rfl (by kernel_rfl) (by kernel_rfl) (by kernel_rfl) (fun _ _ _ h => h) (Or.inl ⟨by kernel_rfl, fun W hW => ?_⟩) (by assumption) ?_
  rotate_left
  · refine yield_row 35 (.tmp 2) ?_ w.heap.size ?_ hW.a Tryz.underlying35 rfl (by kernel_rfl)
    · rfl
    · rfl
  (try simp only [List.getElem_toArray, List.getElem_cons_zero, List.getElem_cons_succ, Act.put, List.setIfInBounds_toArray, List.set_cons_zero, List.set_cons_succ])
  refine wpAnyH_take (i := 1) (v := ?_) rfl (by kernel_rfl) (by kernel_rfl) (by kernel_rfl) (fun _ _ _ h => h) (Or.inl ⟨by kernel_rfl, fun W hW => ?_⟩) (by assumption) ?_
  rotate_left
  · refine yield_row 35 (.tmp 2) ?_ w.heap.size ?_ hW.a Tryz.underlying35 rfl (by kernel_rfl)
    · rfl
    · rfl
  (try simp only [List.getElem_toArray, List.getElem_cons_zero, List.getElem_cons_succ, Act.put, List.setIfInBounds_toArray, List.set_cons_zero, List.set_cons_succ])
  refine wpAnyH_ready (rs := [2]) (by kernel_rfl) (by simp) ?_
  refine AllReadyH.cons rfl (fun K hK => ?_) AllReadyH.nil
  go_simp
  refine (Same_o_c a a _ Oa.out (HG.out.below hS0.be)).mono ?_
  rw [Y1.out]
  rintro e U1 ⟨rfl, hb⟩
  have hSn := hS0.below hb
  clear hb hS0
  refine hK.out _ _ hSn (fun _ => ?_)
  clear hK K
  (try simp only [List.getElem_toArray, List.getElem_cons_zero, List.getElem_cons_succ, Act.put, List.setIfInBounds_toArray, List.set_cons_zero, List.set_cons_succ])
  refine wpAnyH_take (i := 3) (v := ?_) rfl (by kernel_rfl) (by kernel_rfl) (by kernel_rfl) (fun _ _ _ h => h) (Or.inl ⟨by kernel_rfl, fun W hW => ?_⟩) (by assumption) ?_
  rotate_left
  · go_simp
    try with_reducible rfl
  (try simp only [List.getElem_toArray, List.getElem_cons_zero, List.getElem_cons_succ, Act.put, List.setIfInBounds_toArray, List.set_cons_zero, List.set_cons_succ])
  refine wpAnyH_take (i := 4) (v := ?_) rfl (by kernel_rfl) (by kernel_rfl) (by kernel_rfl) (fun _ _ _ h => h) (Or.inl ⟨by kernel_rfl, fun W hW => ?_⟩) (by assumption) ?_
  rotate_left
  · go_simp
    try with_reducible rfl
  (try simp only [List.getElem_toArray, List.getElem_cons_zero, List.getElem_cons_succ, Act.put, List.setIfInBounds_toArray, List.set_cons_zero, List.set_cons_succ])
  refine wpAnyH_take (i := 5) (v := ?_) rfl (by kernel_rfl) (by kernel_rfl) (by kernel_rfl) (fun _ _ _ h => h) (Or.inl ⟨by kernel_rfl, fun W hW => ?_⟩) (by assumption) ?_
  rotate_left
  · go_simp
    try with_reducible rfl
  (try simp only [List.getElem_toArray, List.getElem_cons_zero, List.getElem_cons_succ, Act.put, List.setIfInBounds_toArray, List.set_cons_zero, List.set_cons_succ])
  refine wpAnyH_take (i := 6) (v := ?_) rfl (by kernel_rfl) (by kernel_rfl) (by kernel_rfl) (fun _ _ _ h => h) (Or.inl ⟨by kernel_rfl, fun W hW => ?_⟩) (by assumption) ?_
  rotate_left
  · go_simp
    try with_reducible rfl
  (try simp only [List.getElem_toArray, List.getElem_cons_zero, List.getElem_cons_succ, Act.put, List.setIfInBounds_toArray, List.set_cons_zero, List.set_cons_succ])
  refine wpAnyH_take (i := 7) (v := ?_) rfl (by kernel_rfl) (by kernel_rfl) (by kernel_rfl) (fun _ _ _ h => h) (Or.inl ⟨by kernel_rfl, fun W hW => ?_⟩) (by assumption) ?_
  rotate_left
  · go_simp
    try with_reducible rfl
  (try simp only [List.getElem_toArray, List.getElem_cons_zero, List.getElem_cons_succ, Act.put, List.setIfInBounds_toArray, List.set_cons_zero, List.set_cons_succ])
  refine wpAnyH_take (i := 8) (v := ?_) rfl (by kernel_rfl) (by kernel_rfl) (by kernel_rfl) (fun _ _ _ h => h) (Or.inl ⟨by kernel_rfl, fun W hW => ?_⟩) (by assumption) ?_
  rotate_left
  · go_simp
    try with_reducible rfl
  (try simp only [List.getElem_toArray, List.getElem_cons_zero, List.getElem_cons_succ, Act.put, List.setIfInBounds_toArray, List.set_cons_zero, List.set_cons_succ])
  refine wpAnyH_take (i := 9) (v := ?_) rfl (by kernel_rfl) (by kernel_rfl) (by kernel_rfl) (fun _ _ _ h => h) (Or.inl ⟨by kernel_rfl, fun W hW => ?_⟩) (by assumption) ?_
  rotate_left
  · go_simp
    try with_reducible rfl
  (try simp only [List.getElem_toArray, List.getElem_cons_zero, List.getElem_cons_succ, Act.put, List.setIfInBounds_toArray, List.set_cons_zero, List.set_cons_succ])
  refine wpAnyH_take (i := 10) (v := ?_) rfl (by kernel_rfl) (by kernel_rfl) (by kernel_rfl) (fun _ _ _ h => h) (Or.inl ⟨by kernel_rfl, fun W hW => ?_⟩) (by assumption) ?_
  rotate_left
  · go_simp
    try with_reducible rfl
  (try simp only [List.getElem_toArray, List.getElem_cons_zero, List.getElem_cons_succ, Act.put, List.setIfInBounds_toArray, List.set_cons_zero, List.set_cons_succ])
  refine wpAnyH_take (i := 11) (v := ?_) rfl (by kernel_rfl) (by kernel_rfl) (by kernel_rfl) (fun _ _ _ h => h) (Or.inl ⟨by kernel_rfl, fun W hW => ?_⟩) (by assumption) ?_
  rotate_left
  · go_simp
    try with_reducible rfl
  (try simp only [List.getElem_toArray, List.getElem_cons_zero, List.getElem_cons_succ, Act.put, List.setIfInBounds_toArray, List.set_cons_zero, List.set_cons_succ])
  refine wpAnyH_take (i := 12) (v := ?_) rfl (by kernel_rfl) (by kernel_rfl) (by kernel_rfl) (fun _ _ _ h => h) (Or.inl ⟨by kernel_rfl, fun W hW => ?_⟩) (by assumption) ?_
  rotate_left
  · go_simp
    try with_reducible rfl
  (try simp only [List.getElem_toArray, List.getElem_cons_zero, List.getElem_cons_succ, Act.put, List.setIfInBounds_toArray, List.set_cons_zero, List.set_cons_succ])
  refine wpAnyH_take (i := 13) (v := ?_) rfl (by kernel_rfl) (by kernel_rfl) (by kernel_rfl) (fun _ _ _ h => h) (Or.inl ⟨by kernel_rfl, fun W hW => ?_⟩) (by assumption) ?_
  rotate_left
  · go_simp
    try with_reducible rfl
  (try simp only [List.getElem_toArray, List.getElem_cons_zero, List.getElem_cons_succ, Act.put, List.setIfInBounds_toArray, List.set_cons_zero, List.set_cons_succ])
  refine wpAnyH_take (i := 14) (v := ?_) rfl (by kernel_rfl) (by kernel_rfl) (by kernel_rfl) (fun _ _ _ h => h) (Or.inl ⟨by kernel_rfl, fun W hW => ?_⟩) (by assumption) ?_
  rotate_left
  · go_simp
    try with_reducible rfl
  (try simp only [List.getElem_toArray, List.getElem_cons_zero, List.getElem_cons_succ, Act.put, List.setIfInBounds_toArray, List.set_cons_zero, List.set_cons_succ])
  refine wpAnyH_take (i := 15) (v := ?_) rfl (by kernel_rfl) (by kernel_rfl) (by kernel_rfl) (fun _ _ _ h => h) (Or.inl ⟨by kernel_rfl, fun W hW => ?_⟩) (by assumption) ?_
  rotate_left
  · go_simp
    try with_reducible rfl
  (try simp only [List.getElem_toArray, List.getElem_cons_zero, List.getElem_cons_succ, Act.put, List.setIfInBounds_toArray, List.set_cons_zero, List.set_cons_succ])
  refine wpAnyH_take (i := 16) (v := ?_) rfl (by kernel_rfl) (by kernel_rfl) (by kernel_rfl) (fun _ _ _ h => h) (Or.inl ⟨by kernel_rfl, fun W hW => ?_⟩) (by assumption) ?_
  rotate_left
  · go_simp
    try with_reducible rfl
  (try simp only [List.getElem_toArray, List.getElem_cons_zero, List.getElem_cons_succ, Act.put, List.setIfInBounds_toArray, List.set_cons_zero, List.set_cons_succ])
  refine wpAnyH_take (i := 17) (v := ?_) rfl (by kernel_rfl) (by kernel_rfl) (by kernel_rfl) (fun _ _ _ h => h) (Or.inl ⟨by kernel_rfl, fun W hW => ?_⟩) (by assumption) ?_
  rotate_left
  · go_simp
    try with_reducible rfl
  (try simp only [List.getElem_toArray, List.getElem_cons_zero, List.getElem_cons_succ, Act.put, List.setIfInBounds_toArray, List.set_cons_zero, List.set_cons_succ])
  refine wpAnyH_take (i := 18) (v := ?_) rfl (by kernel_rfl) (by kernel_rfl) (by kernel_rfl) (fun _ _ _ h => h) (Or.inl ⟨by kernel_rfl, fun W hW => ?_⟩) (by assumption) ?_
  rotate_left
  · obtain ⟨c0, c1, c2, c3, c4, c5, c6, c7, c8, c9, c10, c11, c12, c13⟩ := OvAt.of_heap hW.a
    go_simp
    try with_reducible rfl
  (try simp only [List.getElem_toArray, List.getElem_cons_zero, List.getElem_cons_succ, Act.put, List.setIfInBounds_toArray, List.set_cons_zero, List.set_cons_succ])
  refine wpAnyH_take (i := 19) (v := ?_) rfl (by kernel_rfl) (by kernel_rfl) (by kernel_rfl) (fun _ _ _ h => h) (Or.inl ⟨by kernel_rfl, fun W hW => ?_⟩) (by assumption) ?_
  rotate_left
  · go_simp
    try with_reducible rfl
  (try simp only [List.getElem_toArray, List.getElem_cons_zero, List.getElem_cons_succ, Act.put, List.setIfInBounds_toArray, List.set_cons_zero, List.set_cons_succ])
  refine wpAnyH_take (i := 20) (v := ?_) rfl (by kernel_rfl) (by kernel_rfl) (by kernel_rfl) (fun _ _ _ h => h) (Or.inl ⟨by kernel_rfl, fun W hW => ?_⟩) (by assumption) ?_
  rotate_left
  · go_simp
    try with_reducible rfl
  (try simp only [List.getElem_toArray, List.getElem_cons_zero, List.getElem_cons_succ, Act.put, List.setIfInBounds_toArray, List.set_cons_zero, List.set_cons_succ])
  refine wpAnyH_take (i := 21) (v := ?_) rfl (by kernel_rfl) (by kernel_rfl) (by kernel_rfl) (fun _ _ _ h => h) (Or.inl ⟨by kernel_rfl, fun W hW => ?_⟩) (by assumption) ?_
  rotate_left
  · go_simp
    try with_reducible rfl
  (try simp only [List.getElem_toArray, List.getElem_cons_zero, List.getElem_cons_succ, Act.put, List.setIfInBounds_toArray, List.set_cons_zero, List.set_cons_succ])
  refine wpAnyH_take (i := 22) (v := ?_) rfl (by kernel_rfl) (by kernel_rfl) (by kernel_rfl) (fun _ _ _ h => h) (Or.inl ⟨by kernel_rfl, fun W hW => ?_⟩) (by assumption) ?_
  rotate_left
  · go_simp
    try with_reducible rfl
  (try simp only [List.getElem_toArray, List.getElem_cons_zero, List.getElem_cons_succ, Act.put, List.setIfInBounds_toArray, List.set_cons_zero, List.set_cons_succ])
  refine wpAnyH_take (i := 23) (v := ?_) rfl (by kernel_rfl) (by kernel_rfl) (by kernel_rfl) (fun _ _ _ h => h) (Or.inl ⟨by kernel_rfl, fun W hW => ?_⟩) (by assumption) ?_
  rotate_left
  · go_simp
    try with_reducible rfl
  (try simp only [List.getElem_toArray, List.getElem_cons_zero, List.getElem_cons_succ, Act.put, List.setIfInBounds_toArray, List.set_cons_zero, List.set_cons_succ])
  refine wpAnyH_take (i := 24) (v := ?_) rfl (by kernel_rfl) (by kernel_rfl) (by kernel_rfl) (fun _ _ _ h => h) (Or.inl ⟨by kernel_rfl, fun W hW => ?_⟩) (by assumption) ?_
  rotate_left
  · go_simp
    try with_reducible rfl
  (try simp only [List.getElem_toArray, List.getElem_cons_zero, List.getElem_cons_succ, Act.put, List.setIfInBounds_toArray, List.set_cons_zero, List.set_cons_succ])
  refine wpAnyH_take (i := 25) (v := ?_) rfl (by kernel_rfl) (by kernel_rfl) (by kernel_rfl) (fun _ _ _ h => h) (Or.inl ⟨by kernel_rfl, fun W hW => ?_⟩) (by assumption) ?_
  rotate_left
  · go_simp
    try with_reducible rfl
  (try simp only [List.getElem_toArray, List.getElem_cons_zero, List.getElem_cons_succ, Act.put, List.setIfInBounds_toArray, List.set_cons_zero, List.set_cons_succ])
  refine wpAnyH_take (i := 26) (v := ?_) rfl (by kernel_rfl) (by kernel_rfl) (by kernel_rfl) (fun _ _ _ h => h) (Or.inl ⟨by kernel_rfl, fun W hW => ?_⟩) (by assumption) ?_
  rotate_left
  · go_simp
    try with_reducible rfl
  (try simp only [List.getElem_toArray, List.getElem_cons_zero, List.getElem_cons_succ, Act.put, List.setIfInBounds_toArray, List.set_cons_zero, List.set_cons_succ])
  refine wpAnyH_take (i := 27) (v := ?_) rfl (by kernel_rfl) (by kernel_rfl) (by kernel_rfl) (fun _ _ _ h => h) (Or.inl ⟨by kernel_rfl, fun W hW => ?_⟩) (by assumption) ?_
  rotate_left
  · go_simp
    try with_reducible rfl
  (try simp only [List.getElem_toArray, List.getElem_cons_zero, List.getElem_cons_succ, Act.put, List.setIfInBounds_toArray, List.set_cons_zero, List.set_cons_succ])
  refine wpAnyH_take (i := 28) (v := ?_) rfl (by kernel_rfl) (by kernel_rfl) (by kernel_rfl) (fun _ _ _ h => h) (Or.inl ⟨by kernel_rfl, fun W hW => ?_⟩) (by assumption) ?_
  rotate_left
  · go_simp
    try with_reducible rfl
  (try simp only [List.getElem_toArray, List.getElem_cons_zero, List.getElem_cons_succ, Act.put, List.setIfInBounds_toArray, List.set_cons_zero, List.set_cons_succ])
  refine wpAnyH_take (i := 29) (v := ?_) rfl (by kernel_rfl) (by kernel_rfl) (by kernel_rfl) (fun _ _ _ h => h) (Or.inl ⟨by kernel_rfl, fun W hW => ?_⟩) (by assumption) ?_
  rotate_left
  · go_simp
    try with_reducible rfl
  (try simp only [List.getElem_toArray, List.getElem_cons_zero, List.getElem_cons_succ, Act.put, List.setIfInBounds_toArray, List.set_cons_zero, List.set_cons_succ])
  refine wpAnyH_take (i := 30) (v := ?_) rfl (by kernel_rfl) (by kernel_rfl) (by kernel_rfl) (fun _ _ _ h => h) (Or.inl ⟨by kernel_rfl, fun W hW => ?_⟩) (by assumption) ?_
  rotate_left
  · go_simp
    try with_reducible rfl
  (try simp only [List.getElem_toArray, List.getElem_cons_zero, List.getElem_cons_succ, Act.put, List.setIfInBounds_toArray, List.set_cons_zero, List.set_cons_succ])
  refine wpAnyH_take (i := 31) (v := ?_) rfl (by kernel_rfl) (by kernel_rfl) (by kernel_rfl) (fun _ _ _ h => h) (Or.inl ⟨by kernel_rfl, fun W hW => ?_⟩) (by assumption) ?_
  rotate_left
  · go_simp
    try with_reducible rfl
  (try simp only [List.getElem_toArray, List.getElem_cons_zero, List.getElem_cons_succ, Act.put, List.setIfInBounds_toArray, List.set_cons_zero, List.set_cons_succ])
  refine wpAnyH_take (i := 32) (v := ?_) rfl (by kernel_rfl) (by kernel_rfl) (by kernel_rfl) (fun _ _ _ h => h) (Or.inl ⟨by kernel_rfl, fun W hW => ?_⟩) (by assumption) ?_
  rotate_left
  · go_simp
    try with_reducible rfl
  (try simp only [List.getElem_toArray, List.getElem_cons_zero, List.getElem_cons_succ, Act.put, List.setIfInBounds_toArray, List.set_cons_zero, List.set_cons_succ])
  refine wpAnyH_take (i := 33) (v := ?_) rfl (by kernel_rfl) (by kernel_rfl) (by kernel_rfl) (fun _ _ _ h => h) (Or.inl ⟨by kernel_rfl, fun W hW => ?_⟩) (by assumption) ?_
  rotate_left
  · go_simp
    try with_reducible rfl
  (try simp only [List.getElem_toArray, List.getElem_cons_zero, List.getElem_cons_succ, Act.put, List.setIfInBounds_toArray, List.set_cons_zero, List.set_cons_succ])
  refine wpAnyH_take (i := 34) (v := ?_) rfl (by kernel_rfl) (by kernel_rfl) (by kernel_rfl) (fun _ _ _ h => h) (Or.inl ⟨by kernel_rfl, fun W hW => ?_⟩) (by assumption) ?_
  rotate_left
  · go_simp
    try with_reducible rfl
  (try simp only [List.getElem_toArray, List.getElem_cons_zero, List.getElem_cons_succ, Act.put, List.setIfInBounds_toArray, List.set_cons_zero, List.set_cons_succ])
  refine wpAnyH_take (i := 35) (v := ?_) rfl (by kernel_rfl) (by kernel_rfl) (by kernel_rfl) (fun _ _ _ h => h) (Or.inl ⟨by kernel_rfl, fun W hW => ?_⟩) (by assumption) ?_
  rotate_left
  · go_simp
    try with_reducible rfl
  (try simp only [List.getElem_toArray, List.getElem_cons_zero, List.getElem_cons_succ, Act.put, List.setIfInBounds_toArray, List.set_cons_zero, List.set_cons_succ])
  refine wpAnyH_take (i := 36) (v := ?_) rfl (by kernel_rfl) (by kernel_rfl) (by kernel_rfl) (fun _ _ _ h => h) (Or.inl ⟨by kernel_rfl, fun W hW => ?_⟩) (by assumption) ?_
  rotate_left
  · go_simp
    try with_reducible rfl
  (try simp only [List.getElem_toArray, List.getElem_cons_zero, List.getElem_cons_succ, Act.put, List.setIfInBounds_toArray, List.set_cons_zero, List.set_cons_succ])
  refine wpAnyH_take (i := 37) (v := ?_) rfl (by kernel_rfl) (by kernel_rfl) (by kernel_rfl) (fun _ _ _ h => h) (Or.inl ⟨by kernel_rfl, fun W hW => ?_⟩) (by assumption) ?_
  rotate_left
  · go_simp
    try with_reducible rfl
  (try simp only [List.getElem_toArray, List.getElem_cons_zero, List.getElem_cons_succ, Act.put, List.setIfInBounds_toArray, List.set_cons_zero, List.set_cons_succ])
  refine wpAnyH_take (i := 38) (v := ?_) rfl (by kernel_rfl) (by kernel_rfl) (by kernel_rfl) (fun _ _ _ h => h) (Or.inl ⟨by kernel_rfl, fun W hW => ?_⟩) (by assumption) ?_
  rotate_left
  · go_simp
    try with_reducible rfl
  (try simp only [List.getElem_toArray, List.getElem_cons_zero, List.getElem_cons_succ, Act.put, List.setIfInBounds_toArray, List.set_cons_zero, List.set_cons_succ])
  refine wpAnyH_take (i := 39) (v := ?_) rfl (by kernel_rfl) (by kernel_rfl) (by kernel_rfl) (fun _ _ _ h => h) (Or.inl ⟨by kernel_rfl, fun W hW => ?_⟩) (by assumption) ?_
  rotate_left
  · go_simp
    try with_reducible rfl
  (try simp only [List.getElem_toArray, List.getElem_cons_zero, List.getElem_cons_succ, Act.put, List.setIfInBounds_toArray, List.set_cons_zero, List.set_cons_succ])
  refine wpAnyH_take (i := 40) (v := ?_) rfl (by kernel_rfl) (by kernel_rfl) (by kernel_rfl) (fun _ _ _ h => h) (Or.inl ⟨by kernel_rfl, fun W hW => ?_⟩) (by assumption) ?_
  rotate_left
  · go_simp
    try with_reducible rfl
  (try simp only [List.getElem_toArray, List.getElem_cons_zero, List.getElem_cons_succ, Act.put, List.setIfInBounds_toArray, List.set_cons_zero, List.set_cons_succ])
  refine wpAnyH_take (i := 41) (v := ?_) rfl (by kernel_rfl) (by kernel_rfl) (by kernel_rfl) (fun _ _ _ h => h) (Or.inl ⟨by kernel_rfl, fun W hW => ?_⟩) (by assumption) ?_
  rotate_left
  · go_simp
    try with_reducible rfl
  (try simp only [List.getElem_toArray, List.getElem_cons_zero, List.getElem_cons_succ, Act.put, List.setIfInBounds_toArray, List.set_cons_zero, List.set_cons_succ])
  refine wpAnyH_take (i := 42) (v := ?_) rfl (by kernel_rfl) (by kernel_rfl) (by kernel_rfl) (fun _ _ _ h => h) (Or.inl ⟨by kernel_rfl, fun W hW => ?_⟩) (by assumption) ?_
  rotate_left
  · go_simp
    try with_reducible rfl
  (try simp only [List.getElem_toArray, List.getElem_cons_zero, List.getElem_cons_succ, Act.put, List.setIfInBounds_toArray, List.set_cons_zero, List.set_cons_succ])
  refine wpAnyH_take (i := 43) (v := ?_) rfl (by kernel_rfl) (by kernel_rfl) (by kernel_rfl) (fun _ _ _ h => h) (Or.inl ⟨by kernel_rfl, fun W hW => ?_⟩) (by assumption) ?_
  rotate_left
  · refine yield_row 35 (.tmp 2) ?_ w.heap.size ?_ hW.a Tryz.underlying35 rfl (by kernel_rfl)
    · rfl
    · rfl
  (try simp only [List.getElem_toArray, List.getElem_cons_zero, List.getElem_cons_succ, Act.put, List.setIfInBounds_toArray, List.set_cons_zero, List.set_cons_succ])
  refine wpAnyH_take (i := 44) (v := ?_) rfl (by kernel_rfl) (by kernel_rfl) (by kernel_rfl) (fun _ _ _ h => h) (Or.inl ⟨by kernel_rfl, fun W hW => ?_⟩) (by assumption) ?_
  rotate_left
  · refine yield_row 35 (.tmp 3) ?_ bb ?_ hW.b Tryz.underlying35 rfl (by kernel_rfl)
    · rfl
    · rfl
  (try simp only [List.getElem_toArray, List.getElem_cons_zero, List.getElem_cons_succ, Act.put, List.setIfInBounds_toArray, List.set_cons_zero, List.set_cons_succ])
  refine wpAnyH_take (i := 46) (v := ?_) rfl (by kernel_rfl) (by kernel_rfl) (by kernel_rfl) (fun _ _ _ h => h) (Or.inl ⟨by kernel_rfl, fun W hW => ?_⟩) (by assumption) ?_
  rotate_left
  · refine yield_row 35 (.tmp 2) ?_ w.heap.size ?_ hW.a Tryz.underlying35 rfl (by kernel_rfl)
    · rfl
    · rfl
  (try simp only [List.getElem_toArray, List.getElem_cons_zero, List.getElem_cons_succ, Act.put, List.setIfInBounds_toArray, List.set_cons_zero, List.set_cons_succ])
  refine wpAnyH_take (i := 47) (v := ?_) rfl (by kernel_rfl) (by kernel_rfl) (by kernel_rfl) (fun _ _ _ h => h) (Or.inl ⟨by kernel_rfl, fun W hW => ?_⟩) (by assumption) ?_
  rotate_left
  · refine yield_row 35 (.tmp 3) ?_ bb ?_ hW.b Tryz.underlying35 rfl (by kernel_rfl)
    · rfl
    · rfl
  (try simp only [List.getElem_toArray, List.getElem_cons_zero, List.getElem_cons_succ, Act.put, List.setIfInBounds_toArray, List.set_cons_zero, List.set_cons_succ])
  refine wpAnyH_take (i := 48) (v := ?_) rfl (by kernel_rfl) (by kernel_rfl) (by kernel_rfl) (fun _ _ _ h => h) (Or.inl ⟨by kernel_rfl, fun W hW => ?_⟩) (by assumption) ?_
  rotate_left
  · go_simp
    try with_reducible rfl
  (try simp only [List.getElem_toArray, List.getElem_cons_zero, List.getElem_cons_succ, Act.put, List.setIfInBounds_toArray, List.set_cons_zero, List.set_cons_succ])
  refine wpAnyH_ready (rs := [45]) (by kernel_rfl) (by simp) ?_
  refine AllReadyH.cons rfl (fun K hK => ?_) AllReadyH.nil
  go_simp
  refine (HAB.out _ (HG.out.below hSn.be)).mono ?_
  rintro e U2 ⟨rfl, hb⟩
  replace hSn := hSn.below hb
  clear hb
  refine hK.out _ _ hSn (fun _ => ?_)
  clear hK K
  (try simp only [List.getElem_toArray, List.getElem_cons_zero, List.getElem_cons_succ, Act.put, List.setIfInBounds_toArray, List.set_cons_zero, List.set_cons_succ])
  refine wpAnyH_take (i := 49) (v := ?_) rfl (by kernel_rfl) (by kernel_rfl) (by kernel_rfl) (fun _ _ _ h => h) (Or.inl ⟨by kernel_rfl, fun W hW => ?_⟩) (by assumption) ?_
  rotate_left
  · go_simp
    try with_reducible rfl
  (try simp only [List.getElem_toArray, List.getElem_cons_zero, List.getElem_cons_succ, Act.put, List.setIfInBounds_toArray, List.set_cons_zero, List.set_cons_succ])
  refine wpAnyH_take (i := 50) (v := ?_) rfl (by kernel_rfl) (by kernel_rfl) (by kernel_rfl) (fun _ _ _ h => h) (Or.inl ⟨by kernel_rfl, fun W hW => ?_⟩) (by assumption) ?_
  rotate_left
  · go_simp
    try with_reducible rfl
  (try simp only [List.getElem_toArray, List.getElem_cons_zero, List.getElem_cons_succ, Act.put, List.setIfInBounds_toArray, List.set_cons_zero, List.set_cons_succ])
  refine wpAnyH_take (i := 51) (v := ?_) rfl (by kernel_rfl) (by kernel_rfl) (by kernel_rfl) (fun _ _ _ h => h) (Or.inl ⟨by kernel_rfl, fun W hW => ?_⟩) (by assumption) ?_
  rotate_left
  · go_simp
    try with_reducible rfl
  (try simp only [List.getElem_toArray, List.getElem_cons_zero, List.getElem_cons_succ, Act.put, List.setIfInBounds_toArray, List.set_cons_zero, List.set_cons_succ])
  refine wpAnyH_done (by kernel_rfl) ?_ _
  refine NoPanic.normal ?_
  go_wp2
  go_ret
  exact ⟨rfl, hSn.be⟩
end Go.Proofs.YtlcckikfmlhgjaaGreatDoor
/-! The row of OriginNull. -/
namespace Go.Proofs.YtlcckikfmlhgjaaGreatDoor
open Go.ChangeShapes Go.WideShapes Go.ChangeAt Go.RowKit
open Go.WideMaps Go.WideElems
open Go.ChangeMaps (open_string shut_string)
theorem originNull_reads (os : Os) {H : Type} (enc : TypeId × Value → H) : ∃ x, DataW.whole enc Tryz.prog ((laidWorld os).forCall (fun _ _ => 0) ⟨#[], #[.agg #[.bool false, .string ⟨#[]⟩, .int .i64 0, .string ⟨#[]⟩, .int .i64 0, .int .i64 0, .int .i64 0, .int .i64 0, .int .i64 0, .int .i64 0, .int .i64 0, .int .i64 0, .int .i64 0, .int .i64 0], .agg #[.bool false, .string ⟨#[]⟩, .int .i64 0, .string ⟨#[]⟩, .int .i64 0, .int .i64 0, .int .i64 0, .int .i64 0, .int .i64 0, .int .i64 0, .int .i64 0, .int .i64 0, .int .i64 0, .int .i64 0]], []⟩).memory Tryz.f7.params.toList Rows.originNullSpec.vars false (#[.agg #[.bool false, .string ⟨#[]⟩, .int .i64 0, .string ⟨#[]⟩, .int .i64 0, .int .i64 0, .int .i64 0, .int .i64 0, .int .i64 0, .int .i64 0, .int .i64 0, .int .i64 0, .int .i64 0, .int .i64 0], .agg #[.bool false, .string ⟨#[]⟩, .int .i64 0, .string ⟨#[]⟩, .int .i64 0, .int .i64 0, .int .i64 0, .int .i64 0, .int .i64 0, .int .i64 0, .int .i64 0, .int .i64 0, .int .i64 0, .int .i64 0]] : Array Value).toList 8 = some x :=
  Option.isSome_iff_exists.1 (by kernel_rfl)
set_option maxRecDepth 100000 in
theorem originNull_lifted (os : Os) (started : os.Started) (H : Type) (enc : TypeId × Value → H) (F : Stop.Interp) :
    ReturnsInHanded {} Tryz.checked os 7 .any ((OpenSpec.ofChange Rows.originNullSpec).preRow enc Tryz.prog Tryz.f7 Rows.originNullRow.domain false Rows.originNullRow.laid) (((OpenSpec.ofChange Rows.originNullSpec).at F).post enc Tryz.prog Tryz.f7 false true false false) := by
  obtain ⟨x, hx⟩ := originNull_reads os enc
  refine returnsInHanded_of_row (C := Tryz.checked) (s := OpenSpec.ofChange Rows.originNullSpec) own started (by kernel_rfl) Tryz.func7
    (witness_row_atRef (enc := enc) (C := Tryz.checked) false (laidWorld os) #[.agg #[.bool false, .string ⟨#[]⟩, .int .i64 0, .string ⟨#[]⟩, .int .i64 0, .int .i64 0, .int .i64 0, .int .i64 0, .int .i64 0, .int .i64 0, .int .i64 0, .int .i64 0, .int .i64 0, .int .i64 0], .agg #[.bool false, .string ⟨#[]⟩, .int .i64 0, .string ⟨#[]⟩, .int .i64 0, .int .i64 0, .int .i64 0, .int .i64 0, .int .i64 0, .int .i64 0, .int .i64 0, .int .i64 0, .int .i64 0, .int .i64 0]] rfl (by kernel_rfl) (by kernel_rfl) (by kernel_rfl)
      (OpenSpec.preRow_of_cond 8 hx rfl (fun k hk => by cases hk) (by kernel_rfl) (laid_met os _))) ?_
  intro W base args ds gs before hval0 hW _ _ _ hL hsh _
  have hval : ∀ (j : Nat) t v, Tryz.f7.params[j]? = some t → args[j]? = some v → Value.okWide Tryz.prog W .any base t v := hval0
  have hW' := hW
  obtain ⟨p, q, hA0, hV, rfl, hfz, hnd⟩ := hW
  have hA : DataW.TrodAll enc Tryz.prog W 0 (fun _ => true) true Tryz.f7.params.toList args.toList ds p := hA0
  rw [Tryz.params7] at hA hval
  obtain ⟨v0, v1, d0, d1, p0, p1, rfl, rfl, rfl, h0, h1⟩ := trodAll_two hA
  obtain ⟨rfl, rfl⟩ := trodVars_none hV
  simp only [List.append_nil] at hfz hnd hW'
  have hlt : ∀ x ∈ p0 ++ p1, x.block < W.heap.size := fun x hx => hW'.lt x hx
  have h0k := h0
  obtain ⟨o0, rfl⟩ := open_origin (hval 0 35 v0 rfl rfl) h0
  have h1k := h1
  obtain ⟨o1, rfl⟩ := open_origin (hval 1 35 v1 rfl rfl) h1
  refine (OriginNull_c o0 o1 W  (gl_of hsh) (tabs_laid hL)).mono fun e W' ⟨he, hb⟩ => ?_
  subst he
  refine ⟨_, rfl, _, _, _, [], p0 ++ p1, [], hW', ?_, ?_, ?_, hb.frame _, fun h => by cases h⟩
  · exact trodAll_mk1 (shut_bool Tryz.underlying4 _)
  · exact trodAll_mk2 (Below.trod laidOut (by kernel_rfl) (of_decide_eq_true (by kernel_rfl)) h0k hb (fun x hx => hlt x (by simp [hx]))) (Below.trod laidOut (by kernel_rfl) (of_decide_eq_true (by kernel_rfl)) h1k hb (fun x hx => hlt x (by simp [hx])))
  · rfl
theorem originNull_k0 : Rows.originNullRow.wf (OpenSpec.ofChange (OpenSpec.ofChange Rows.originNullSpec).bare) = true := by kernel_rfl
theorem originNull_k3 : Tryz.f7.params.all (PP.readableRec ·) = true := by kernel_rfl
theorem originNull_k4 : namedTie PP Rows.originNullRow.named (OpenSpec.ofChange Rows.originNullSpec).bare.vars = true := by kernel_rfl
theorem originNull_k5 : (Rows.originNullRow.stops == []) = true := by kernel_rfl
theorem originNull_k7 : (Rows.originNullRow.knobs == []) = true := by kernel_rfl
theorem originNull_k9 : (Rows.originNullRow.inPlace == PP.inPlace 7) = true := by kernel_rfl
theorem originNull_k10 : (Rows.originNullRow.unfollowed == PP.unfollowed 7) = true := by kernel_rfl
theorem originNull_k11 : (Rows.originNullRow.recurses == PP.recurses 7) = true := by kernel_rfl
theorem originNull_k12 : (Rows.originNullRow.named == PP.varsNamed 7) = true := by kernel_rfl
theorem originNull_k13 : (Rows.originNullRow.maps == (Tryz.f7.params.toList ++ (OpenSpec.ofChange Rows.originNullSpec).bare.plain.varTypes PP).any (PP.mapsRec ·)) = true := by kernel_rfl
theorem originNull_k14 : (Rows.originNullRow.ifaces == (Tryz.f7.params.toList ++ (OpenSpec.ofChange Rows.originNullSpec).bare.plain.varTypes PP).any (PP.ifacesRec ·)) = true := by kernel_rfl
theorem originNull_k15 : (Rows.originNullRow.mapsOut == PP.mapsAmong Tryz.f7.resultTypes.toList) = true := by kernel_rfl
theorem originNull_k16 : (Rows.originNullRow.loops == (Tryz.f7.params.toList ++ (OpenSpec.ofChange Rows.originNullSpec).bare.plain.varTypes PP).any (PP.loopsFrom ·)) = true := by kernel_rfl
theorem originNull_k17 : (Rows.originNullRow.wideKeys == (Tryz.f7.params.toList ++ (OpenSpec.ofChange Rows.originNullSpec).bare.plain.varTypes PP ++ Tryz.f7.resultTypes.toList).any (PP.wideKeysFrom ·)) = true := by kernel_rfl
theorem originNull_k18 : (OpenSpec.ofChange Rows.originNullSpec).bare.vars.all (PP.varReadable ·) = true := by kernel_rfl
theorem originNull_k19 : Tryz.f7.resultTypes.all (fun t => PP.readableRec t && decide (t < PP.types.size)) = true := by kernel_rfl
theorem originNull_k20 : (Rows.originNullRow.ifacesOut == Tryz.f7.resultTypes.toList.any (PP.ifacesRec ·)) = true := by kernel_rfl
theorem originNull_k21 : (Rows.originNullRow.loopsOut == Tryz.f7.resultTypes.toList.any (PP.loopsFrom ·)) = true := by kernel_rfl
theorem originNull_k23 : Rows.originNullRow.shortTexts.isNone = true := by kernel_rfl
theorem originNull_k28 : (Rows.originNullRow.kinds == (if Rows.originNullRow.domain.isEmpty then [] else Tryz.f7.params.toList.map fun t => match PP.underlying t with | some (.int k) => some k | _ => none)) = true := by kernel_rfl
theorem originNull_k29 : (Rows.originNullRow.pinned == Rows.originNullRow.pinnedBy) = true := by kernel_rfl
theorem originNull_k30 : (Rows.originNullRow.veiled == (Tryz.f7.params.toList ++ (OpenSpec.ofChange Rows.originNullSpec).bare.plain.varTypes PP ++ Tryz.f7.resultTypes.toList).any (PP.veiledRec ·)) = true := by kernel_rfl
theorem originNull_k31 : Rows.originNullRow.veiledFits PP Tryz.f7.params.toList (Tryz.f7.params.toList ++ (OpenSpec.ofChange Rows.originNullSpec).bare.plain.varTypes PP ++ Tryz.f7.resultTypes.toList) = true := by kernel_rfl
set_option maxRecDepth 100000 in
theorem originNull_closed : joinedFacts PP 7 Tryz.f7 (OpenSpec.ofChange Rows.originNullSpec).bare Rows.originNullRow = true := and2 (and2 (and2 (and2 (and2 (and2 (and2 (and2 (and2 (and2 (and2 (and2 (and2 (and2 (and2 (and2 (and2 (and2 (and2 (and2 (and2 (and2 (and2 (and2 (and2 (and2 (and2 (and2 (and2 (and2 (and2 (originNull_k0) j_laidOut) j_rowed) originNull_k3) originNull_k4) originNull_k5) j_stops) originNull_k7) j_knobs) originNull_k9) originNull_k10) originNull_k11) originNull_k12) originNull_k13) originNull_k14) originNull_k15) originNull_k16) originNull_k17) originNull_k18) originNull_k19) originNull_k20) originNull_k21) j_plain) originNull_k23) j_heard) j_enter) j_lift) j_make) originNull_k28) originNull_k29) originNull_k30) originNull_k31
theorem originNull_named : Tryz.pinned.checked.prog.funcNamed Rows.originNullRow.func = some 7 := by kernel_rfl
theorem originNull_text : Rows.originNullRow.wfByText (OpenSpec.ofChange Rows.originNullSpec) = true := by kernel_rfl
theorem originNull_goes : false = Rows.originNullRow.goesBy Tryz.pinned.checked.prog := by kernel_rfl
theorem originNull_said : Rows.OriginNullSaid :=
  OpenClaim.holds_of_cond 7 Tryz.f7 rfl rfl rfl rfl rfl rfl rfl ⟨rfl, rfl, rfl, rfl, rfl⟩ rfl rfl rfl rfl rfl originNull_named Tryz.func7 originNull_closed
    (of_decide_eq_true (by kernel_rfl)) (by unfold Func.isWrapper; first | (rw [if_pos (by decide +kernel)]; kernel_rfl) | (rw [if_neg (by decide +kernel)]; exact ⟨rfl, rfl⟩))
    (fun os started H enc _ F => by rw [OpenClaim.pre_eq_preRow]; exact originNull_lifted os started H enc F)
theorem originNull_plain (f : FuncId) (fn : Func) (hf : Tryz.pinned.checked.prog.funcNamed "postmark/postmarklaw12.OriginNull" = some f) (hfn : Tryz.pinned.checked.prog.funcs[f]? = some fn) :
    true = Tryz.pinned.checked.prog.looks [] ∧ ∀ (j : Nat) t, fn.params[j]? = some t → Tryz.pinned.checked.prog.wantsStandIn t = false := by
  obtain rfl : f = 7 := Option.some.inj ((show Tryz.prog.funcNamed "postmark/postmarklaw12.OriginNull" = some 7 by kernel_rfl).symm.trans hf) |>.symm
  obtain rfl : fn = Tryz.f7 := (Option.some.inj (Tryz.func7.symm.trans hfn)).symm
  refine ⟨by kernel_rfl, fun j t ht => ?_⟩
  rw [Tryz.params7] at ht
  have hm := Array.mem_of_getElem? ht
  simp only [Array.mem_def, List.mem_cons, List.not_mem_nil, or_false] at hm
  rcases hm with rfl | rfl
  · exact (show Tryz.prog.wantsStandIn 35 = false by kernel_rfl)
  · exact (show Tryz.prog.wantsStandIn 35 = false by kernel_rfl)
theorem originNull_holds : Rows.OriginNullCardSaid :=
  Claim7.holds_tied_plain_at .later [] _ _ _ _ originNull_said (fun _ h => by cases h) originNull_text (fun _ h => by cases h) originNull_row_tie rfl ⟨rfl, rfl⟩ j_main rfl originNull_plain originNull_goes
#print axioms originNull_holds
end Go.Proofs.YtlcckikfmlhgjaaGreatDoor
