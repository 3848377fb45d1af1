/-
TaintStays: whatever comes in, the law's call returns true, and the arguments read behind the call as they did before; no condition on them. The row lists the two tables of unicode/utf8 (first, acceptRanges); the card ties them.
-/
import Derived.Test.YtlcckikfmlhgjaaGreatDoorAw19
import Derived.Test.YtlcckikfmlhgjaaGreatDoorTz
import Derived.Test.YtlcckikfmlhgjaaGreatDoorOq
set_option linter.unusedVariables false
set_option linter.unusedSimpArgs false
/-! The walk of TaintStays. -/
namespace Go.Proofs.YtlcckikfmlhgjaaGreatDoor
open Go.RowKit
set_option maxRecDepth 100000 in
set_option maxHeartbeats 16000000 in
theorem TaintStays_c (o : OV) (u v : UV) (w : World) (hu : RdW w u.a u.pn u.xs) (hv : RdW w v.a v.pn v.xs) (hg : Gl w) (hT : Lib.Utf8Tabs 1 2 w) : Calls Tryz.prog 8 #[.agg o.cells, .agg u.cells, .agg v.cells] w fun e w' => e = .returned (.bool true) ∧ Below w.heap.size w w' := by
  have HG := Lib.hid hg
  have HTB := Lib.hid hT
  have Ru := Lib.hid hu
  have Rv := Lib.hid hv
  clear hg hT hu hv
  have HB : Hid (Below w.heap.size w (((w.alloc (.cells o.cells 35)).alloc (.cells u.cells 27)).alloc (.cells v.cells 27))) := Lib.hid (b_alloc (b_alloc (b_alloc (Below.refl _ _) _) _) _)
  have Ho : Hid ((((w.alloc (.cells o.cells 35)).alloc (.cells u.cells 27)).alloc (.cells v.cells 27)).heap[w.heap.size]? = some (.cells o.cells 35 (0, 0))) := Lib.hid (heap_b (b_alloc (b_alloc (Below.refl _ _) _) _) (by have h := Go.heap_alloc_new w (.cells o.cells 35); simpa using h))
  have Hu : Hid ((((w.alloc (.cells o.cells 35)).alloc (.cells u.cells 27)).alloc (.cells v.cells 27)).heap[w.heap.size + 1]? = some (.cells u.cells 27 (0, 0))) := Lib.hid (heap_b (b_alloc (Below.refl _ _) _) (by have h := Go.heap_alloc_new (w.alloc (.cells o.cells 35)) (.cells u.cells 27); simpa using h))
  have Hv : Hid ((((w.alloc (.cells o.cells 35)).alloc (.cells u.cells 27)).alloc (.cells v.cells 27)).heap[w.heap.size + 1 + 1]? = some (.cells v.cells 27 (0, 0))) := Lib.hid ((by have h := Go.heap_alloc_new ((w.alloc (.cells o.cells 35)).alloc (.cells u.cells 27)) (.cells v.cells 27); simpa using h))
  go_enter Tryz.func8, Tryz.ntmps8
  go_upto_region 1 with fail
  generalize ((w.alloc (.cells o.cells 35)).alloc (.cells u.cells 27)).alloc (.cells v.cells 27) = V0 at HB Ho Hu Hv ⊢
  generalize hbv : w.heap.size + 1 + 1 = bv at Hv ⊢
  have hlw_bv : w.heap.size ≤ bv := by omega
  generalize hbu : w.heap.size + 1 = bu at Hu ⊢
  have hlw_bu : w.heap.size ≤ bu := by omega
  have hne_u_o : w.heap.size < bu := by omega
  have hne_v_o : w.heap.size < bv := by omega
  have hne_v_u : bu < bv := by omega
  clear hbv hbu
  go_wp2_with fail
  refine (awake19_c _ (HG.out.below HB.out) (tabs_below HTB.out HB.out)).mono ?_
  rintro e V1 ⟨rfl, hb⟩
  replace HB := Lib.hid (b_then HB.out hb)
  replace Hv := Lib.hid (obj_b hb Hv.out)
  replace Hu := Lib.hid (obj_b hb Hu.out)
  replace Ho := Lib.hid (obj_b hb Ho.out)
  clear hb
  go_wp2_with (first | go_skip | (refine wpList_load_g 27 _ rfl (by kernel_rfl) bu rfl Hu.out Tryz.underlying27 rfl (by kernel_rfl) ?_))
  refine (Few_c u _ (Ru.out.below HB.out)).mono ?_
  rintro e V2 ⟨rfl, hb⟩
  replace HB := Lib.hid (b_then HB.out hb)
  replace Hv := Lib.hid (obj_b hb Hv.out)
  replace Hu := Lib.hid (obj_b hb Hu.out)
  replace Ho := Lib.hid (obj_b hb Ho.out)
  clear hb
  go_wp2_with (first | go_skip | (refine wpList_load_g 27 _ rfl (by kernel_rfl) bv rfl Hv.out Tryz.underlying27 rfl (by kernel_rfl) ?_))
  refine (Few_c v _ (Rv.out.below HB.out)).mono ?_
  rintro e V3 ⟨rfl, hb⟩
  replace HB := Lib.hid (b_then HB.out hb)
  replace Hv := Lib.hid (obj_b hb Hv.out)
  replace Hu := Lib.hid (obj_b hb Hu.out)
  replace Ho := Lib.hid (obj_b hb Ho.out)
  clear hb
  obtain ⟨c0, c1, c2, c3, c4, c5, c6, c7, c8, c9, c10, c11, c12, c13⟩ := OvAt.of_heap Ho.out
  cases hfu : PM.few u.pm
  · go_wp2
    go_ret
    exact ⟨rfl, HB.out⟩
  have Ou := Lib.hid (few_ok (Ru.out.below HB.out) hfu)
  have OKu := Lib.hid (fun W (hb : Below w.heap.size w W) => few_ok (Ru.out.below hb) hfu)
  clear hfu
  cases hfv : PM.few v.pm
  · go_wp2
    go_ret
    exact ⟨rfl, HB.out⟩
  have Ov := Lib.hid (few_ok (Rv.out.below HB.out) hfv)
  have OKv := Lib.hid (fun W (hb : Below w.heap.size w W) => few_ok (Rv.out.below hb) hfv)
  clear hfv
  by_cases hl : 300 < o.sc.length
  · have hl2 : (300 : Int) < (o.sc.length : Int) := by omega
    go_wp2
    go_ret
    exact ⟨rfl, HB.out⟩
  have k0 : ¬ (300 : Int) < (o.sc.length : Int) := by omega
  clear hl
  by_cases hl : 300 < o.n.length
  · have hl2 : (300 : Int) < (o.n.length : Int) := by omega
    go_wp2
    go_ret
    exact ⟨rfl, HB.out⟩
  have k1 : ¬ (300 : Int) < (o.n.length : Int) := by omega
  clear hl
  have hoo : o.Ok := ⟨by omega, by omega⟩
  have Oo := Lib.hid hoo
  clear hoo
  obtain ⟨D, hD⟩ : ∃ D, PM.both u.pm v.pm = D := ⟨_, rfl⟩
  have HD := Lib.hid hD
  obtain ⟨M, hM⟩ : ∃ M, PM.originSame o.pm (PM.originOf u.pm) = M := ⟨_, rfl⟩
  have HM := Lib.hid hM
  clear hD hM
  have HY : Hid (PM.taintOf true o.pm u.pm v.pm = true) := Lib.hid rfl
  cases D
  · skip
    cases M
    · skip
      have h0 : PM.taintOf false o.pm u.pm v.pm = true := by
        unfold PM.taintOf
        rw [HD.out, HM.out]
        rfl
      have H0 := Lib.hid h0
      clear h0
      go_wp2_with (first | go_skip | (refine wpList_load_g 35 _ rfl (by kernel_rfl) w.heap.size rfl Ho.out Tryz.underlying35 rfl (by kernel_rfl) ?_) | (refine wpList_load_g 27 _ rfl (by kernel_rfl) bu rfl Hu.out Tryz.underlying27 rfl (by kernel_rfl) ?_) | (refine wpList_load_g 27 _ rfl (by kernel_rfl) bv rfl Hv.out Tryz.underlying27 rfl (by kernel_rfl) ?_))
      refine (Taint_c false o u v _ Oo.out Ou.out Ov.out (HG.out.below HB.out)).mono ?_
      rw [H0.out]
      rintro e V4 ⟨rfl, hb⟩
      replace HB := Lib.hid (b_then HB.out hb)
      replace Hv := Lib.hid (obj_b hb Hv.out)
      replace Hu := Lib.hid (obj_b hb Hu.out)
      replace Ho := Lib.hid (obj_b hb Ho.out)
      replace Ou := Lib.hid (Ou.out.below hb)
      replace Ov := Lib.hid (Ov.out.below hb)
      clear hb
      clear k0 k1 c0 c1 c2 c3 c4 c5 c6 c7 c8 c9 c10 c11 c12 c13
      go_wp2_with fail
      refine wp_region_noPanic ?_
      refine wp_region_held_drew (S := fun W' => TaS o u v bu bv w W') (by kernel_rfl) (TaS.below ⟨Ho.out, Hu.out, Hv.out, HB.out⟩ (b_drew (Below.refl _ _))) (fun hS0 => ?_)
      refine wpAnyH_take (i := 0) (v := ?_) rfl (by kernel_rfl) (by kernel_rfl) (by kernel_rfl) (fun _ _ _ h => h) (Or.inl ⟨by kernel_rfl, fun W hW => ?_⟩) (by assumption) ?_
      rotate_left
      · refine yield_row 35 (.tmp 3) ?_ w.heap.size ?_ hW.ho Tryz.underlying35 rfl (by kernel_rfl)
        · rfl
        · rfl
      (try simp only [List.getElem_toArray, List.getElem_cons_zero, List.getElem_cons_succ, Act.put, List.setIfInBounds_toArray, List.set_cons_zero, List.set_cons_succ])
      refine wpAnyH_take (i := 1) (v := ?_) rfl (by kernel_rfl) (by kernel_rfl) (by kernel_rfl) (fun _ _ _ h => h) (Or.inl ⟨by kernel_rfl, fun W hW => ?_⟩) (by assumption) ?_
      rotate_left
      · refine yield_row 27 (.tmp 4) ?_ bu ?_ hW.hu Tryz.underlying27 rfl (by kernel_rfl)
        · rfl
        · rfl
      (try simp only [List.getElem_toArray, List.getElem_cons_zero, List.getElem_cons_succ, Act.put, List.setIfInBounds_toArray, List.set_cons_zero, List.set_cons_succ])
      refine wpAnyH_ready (rs := [2]) (by kernel_rfl) (by simp) ?_
      refine AllReadyH.cons rfl (fun K hK => ?_) AllReadyH.nil
      go_simp
      refine (Of_c u _ (Ou.out.below (b_drew (Below.refl _ _))) (HG.out.below hS0.be)).mono ?_
      rintro e U1 ⟨rfl, hb⟩
      have hSn := hS0.below hb
      clear hb hS0
      refine hK.out _ _ hSn (fun _ => ?_)
      clear hK K
      (try simp only [List.getElem_toArray, List.getElem_cons_zero, List.getElem_cons_succ, Act.put, List.setIfInBounds_toArray, List.set_cons_zero, List.set_cons_succ])
      refine wpAnyH_ready (rs := [3]) (by kernel_rfl) (by simp) ?_
      refine AllReadyH.cons rfl (fun K hK => ?_) AllReadyH.nil
      go_simp
      refine (Same_o_c o (ofOV u) _ Oo.out (HG.out.below hSn.be)).mono ?_
      rw [ofOV_pm, HM.out]
      rintro e U2 ⟨rfl, hb⟩
      replace hSn := hSn.below hb
      clear hb
      refine hK.out _ _ hSn (fun _ => ?_)
      clear hK K
      (try simp only [List.getElem_toArray, List.getElem_cons_zero, List.getElem_cons_succ, Act.put, List.setIfInBounds_toArray, List.set_cons_zero, List.set_cons_succ])
      refine wpAnyH_take (i := 4) (v := ?_) rfl (by kernel_rfl) (by kernel_rfl) (by kernel_rfl) (fun _ _ _ h => h) (Or.inl ⟨by kernel_rfl, fun W hW => ?_⟩) (by assumption) ?_
      rotate_left
      · go_simp
        try with_reducible rfl
      (try simp only [List.getElem_toArray, List.getElem_cons_zero, List.getElem_cons_succ, Act.put, List.setIfInBounds_toArray, List.set_cons_zero, List.set_cons_succ])
      refine wpAnyH_done (by kernel_rfl) ?_ _
      refine NoPanic.normal ?_
      replace Ho := Lib.hid hSn.ho
      replace Hu := Lib.hid hSn.hu
      replace Hv := Lib.hid hSn.hv
      replace HB := Lib.hid hSn.be
      clear hSn
      have Ou := Lib.hid (OKu.out _ HB.out)
      have Ov := Lib.hid (OKv.out _ HB.out)
      go_wp2_with (first | go_skip | (refine wpList_load_g 35 _ rfl (by kernel_rfl) w.heap.size rfl Ho.out Tryz.underlying35 rfl (by kernel_rfl) ?_) | (refine wpList_load_g 27 _ rfl (by kernel_rfl) bu rfl Hu.out Tryz.underlying27 rfl (by kernel_rfl) ?_) | (refine wpList_load_g 27 _ rfl (by kernel_rfl) bv rfl Hv.out Tryz.underlying27 rfl (by kernel_rfl) ?_))
      refine (Taint_c true o u v _ Oo.out Ou.out Ov.out (HG.out.below HB.out)).mono ?_
      rw [HY.out]
      rintro e V51 ⟨rfl, hb⟩
      replace HB := Lib.hid (b_then HB.out hb)
      replace Hv := Lib.hid (obj_b hb Hv.out)
      replace Hu := Lib.hid (obj_b hb Hu.out)
      replace Ho := Lib.hid (obj_b hb Ho.out)
      replace Ou := Lib.hid (Ou.out.below hb)
      replace Ov := Lib.hid (Ov.out.below hb)
      clear hb
      go_wp2_with (first | go_skip | (refine wpList_load_g 27 _ rfl (by kernel_rfl) bu rfl Hu.out Tryz.underlying27 rfl (by kernel_rfl) ?_) | (refine wpList_load_g 27 _ rfl (by kernel_rfl) bv rfl Hv.out Tryz.underlying27 rfl (by kernel_rfl) ?_))
      refine (Both_c u v _ Ou.out Ov.out (HG.out.below HB.out)).mono ?_
      rw [HD.out]
      rintro e V52 ⟨rfl, hb⟩
      replace HB := Lib.hid (b_then HB.out hb)
      replace Hv := Lib.hid (obj_b hb Hv.out)
      replace Hu := Lib.hid (obj_b hb Hu.out)
      replace Ho := Lib.hid (obj_b hb Ho.out)
      replace Ou := Lib.hid (Ou.out.below hb)
      replace Ov := Lib.hid (Ov.out.below hb)
      clear hb
      go_wp2
      go_ret
      exact ⟨rfl, HB.out⟩
    · skip
      have h0 : PM.taintOf false o.pm u.pm v.pm = false := by
        unfold PM.taintOf
        rw [HD.out, HM.out]
        rfl
      have H0 := Lib.hid h0
      clear h0
      go_wp2_with (first | go_skip | (refine wpList_load_g 35 _ rfl (by kernel_rfl) w.heap.size rfl Ho.out Tryz.underlying35 rfl (by kernel_rfl) ?_) | (refine wpList_load_g 27 _ rfl (by kernel_rfl) bu rfl Hu.out Tryz.underlying27 rfl (by kernel_rfl) ?_) | (refine wpList_load_g 27 _ rfl (by kernel_rfl) bv rfl Hv.out Tryz.underlying27 rfl (by kernel_rfl) ?_))
      refine (Taint_c false o u v _ Oo.out Ou.out Ov.out (HG.out.below HB.out)).mono ?_
      rw [H0.out]
      rintro e V4 ⟨rfl, hb⟩
      replace HB := Lib.hid (b_then HB.out hb)
      replace Hv := Lib.hid (obj_b hb Hv.out)
      replace Hu := Lib.hid (obj_b hb Hu.out)
      replace Ho := Lib.hid (obj_b hb Ho.out)
      replace Ou := Lib.hid (Ou.out.below hb)
      replace Ov := Lib.hid (Ov.out.below hb)
      clear hb
      clear k0 k1 c0 c1 c2 c3 c4 c5 c6 c7 c8 c9 c10 c11 c12 c13
      go_wp2_with fail
      refine wp_region_noPanic ?_
      refine wp_region_held_drew (S := fun W' => TaS o u v bu bv w W') (by kernel_rfl) (TaS.below ⟨Ho.out, Hu.out, Hv.out, HB.out⟩ (b_drew (Below.refl _ _))) (fun hS0 => ?_)
      refine wpAnyH_take (i := 0) (v := ?_) rfl (by kernel_rfl) (by kernel_rfl) (by kernel_rfl) (fun _ _ _ h => h) (Or.inl ⟨by kernel_rfl, fun W hW => ?_⟩) (by assumption) ?_
      rotate_left
      · refine yield_row 35 (.tmp 3) ?_ w.heap.size ?_ hW.ho Tryz.underlying35 rfl (by kernel_rfl)
        · rfl
        · rfl
      (try simp only [List.getElem_toArray, List.getElem_cons_zero, List.getElem_cons_succ, Act.put, List.setIfInBounds_toArray, List.set_cons_zero, List.set_cons_succ])
      refine wpAnyH_take (i := 1) (v := ?_) rfl (by kernel_rfl) (by kernel_rfl) (by kernel_rfl) (fun _ _ _ h => h) (Or.inl ⟨by kernel_rfl, fun W hW => ?_⟩) (by assumption) ?_
      rotate_left
      · refine yield_row 27 (.tmp 4) ?_ bu ?_ hW.hu Tryz.underlying27 rfl (by kernel_rfl)
        · rfl
        · rfl
      (try simp only [List.getElem_toArray, List.getElem_cons_zero, List.getElem_cons_succ, Act.put, List.setIfInBounds_toArray, List.set_cons_zero, List.set_cons_succ])
      refine wpAnyH_ready (rs := [2]) (by kernel_rfl) (by simp) ?_
      refine AllReadyH.cons rfl (fun K hK => ?_) AllReadyH.nil
      go_simp
      refine (Of_c u _ (Ou.out.below (b_drew (Below.refl _ _))) (HG.out.below hS0.be)).mono ?_
      rintro e U3 ⟨rfl, hb⟩
      have hSn := hS0.below hb
      clear hb hS0
      refine hK.out _ _ hSn (fun _ => ?_)
      clear hK K
      (try simp only [List.getElem_toArray, List.getElem_cons_zero, List.getElem_cons_succ, Act.put, List.setIfInBounds_toArray, List.set_cons_zero, List.set_cons_succ])
      refine wpAnyH_ready (rs := [3]) (by kernel_rfl) (by simp) ?_
      refine AllReadyH.cons rfl (fun K hK => ?_) AllReadyH.nil
      go_simp
      refine (Same_o_c o (ofOV u) _ Oo.out (HG.out.below hSn.be)).mono ?_
      rw [ofOV_pm, HM.out]
      rintro e U4 ⟨rfl, hb⟩
      replace hSn := hSn.below hb
      clear hb
      refine hK.out _ _ hSn (fun _ => ?_)
      clear hK K
      (try simp only [List.getElem_toArray, List.getElem_cons_zero, List.getElem_cons_succ, Act.put, List.setIfInBounds_toArray, List.set_cons_zero, List.set_cons_succ])
      refine wpAnyH_take (i := 4) (v := ?_) rfl (by kernel_rfl) (by kernel_rfl) (by kernel_rfl) (fun _ _ _ h => h) (Or.inl ⟨by kernel_rfl, fun W hW => ?_⟩) (by assumption) ?_
      rotate_left
      · go_simp
        try with_reducible rfl
      (try simp only [List.getElem_toArray, List.getElem_cons_zero, List.getElem_cons_succ, Act.put, List.setIfInBounds_toArray, List.set_cons_zero, List.set_cons_succ])
      refine wpAnyH_done (by kernel_rfl) ?_ _
      refine NoPanic.normal ?_
      replace Ho := Lib.hid hSn.ho
      replace Hu := Lib.hid hSn.hu
      replace Hv := Lib.hid hSn.hv
      replace HB := Lib.hid hSn.be
      clear hSn
      have Ou := Lib.hid (OKu.out _ HB.out)
      have Ov := Lib.hid (OKv.out _ HB.out)
      go_wp2_with (first | go_skip | (refine wpList_load_g 35 _ rfl (by kernel_rfl) w.heap.size rfl Ho.out Tryz.underlying35 rfl (by kernel_rfl) ?_) | (refine wpList_load_g 27 _ rfl (by kernel_rfl) bu rfl Hu.out Tryz.underlying27 rfl (by kernel_rfl) ?_) | (refine wpList_load_g 27 _ rfl (by kernel_rfl) bv rfl Hv.out Tryz.underlying27 rfl (by kernel_rfl) ?_))
      refine (Taint_c true o u v _ Oo.out Ou.out Ov.out (HG.out.below HB.out)).mono ?_
      rw [HY.out]
      rintro e V51 ⟨rfl, hb⟩
      replace HB := Lib.hid (b_then HB.out hb)
      replace Hv := Lib.hid (obj_b hb Hv.out)
      replace Hu := Lib.hid (obj_b hb Hu.out)
      replace Ho := Lib.hid (obj_b hb Ho.out)
      replace Ou := Lib.hid (Ou.out.below hb)
      replace Ov := Lib.hid (Ov.out.below hb)
      clear hb
      go_wp2_with (first | go_skip | (refine wpList_load_g 27 _ rfl (by kernel_rfl) bu rfl Hu.out Tryz.underlying27 rfl (by kernel_rfl) ?_) | (refine wpList_load_g 27 _ rfl (by kernel_rfl) bv rfl Hv.out Tryz.underlying27 rfl (by kernel_rfl) ?_))
      refine (Both_c u v _ Ou.out Ov.out (HG.out.below HB.out)).mono ?_
      rw [HD.out]
      rintro e V52 ⟨rfl, hb⟩
      replace HB := Lib.hid (b_then HB.out hb)
      replace Hv := Lib.hid (obj_b hb Hv.out)
      replace Hu := Lib.hid (obj_b hb Hu.out)
      replace Ho := Lib.hid (obj_b hb Ho.out)
      replace Ou := Lib.hid (Ou.out.below hb)
      replace Ov := Lib.hid (Ov.out.below hb)
      clear hb
      go_wp2
      go_ret
      exact ⟨rfl, HB.out⟩
  · skip
    cases M
    · skip
      have h0 : PM.taintOf false o.pm u.pm v.pm = false := by
        unfold PM.taintOf
        rw [HD.out, HM.out]
        rfl
      have H0 := Lib.hid h0
      clear h0
      go_wp2_with (first | go_skip | (refine wpList_load_g 35 _ rfl (by kernel_rfl) w.heap.size rfl Ho.out Tryz.underlying35 rfl (by kernel_rfl) ?_) | (refine wpList_load_g 27 _ rfl (by kernel_rfl) bu rfl Hu.out Tryz.underlying27 rfl (by kernel_rfl) ?_) | (refine wpList_load_g 27 _ rfl (by kernel_rfl) bv rfl Hv.out Tryz.underlying27 rfl (by kernel_rfl) ?_))
      refine (Taint_c false o u v _ Oo.out Ou.out Ov.out (HG.out.below HB.out)).mono ?_
      rw [H0.out]
      rintro e V4 ⟨rfl, hb⟩
      replace HB := Lib.hid (b_then HB.out hb)
      replace Hv := Lib.hid (obj_b hb Hv.out)
      replace Hu := Lib.hid (obj_b hb Hu.out)
      replace Ho := Lib.hid (obj_b hb Ho.out)
      replace Ou := Lib.hid (Ou.out.below hb)
      replace Ov := Lib.hid (Ov.out.below hb)
      clear hb
      clear k0 k1 c0 c1 c2 c3 c4 c5 c6 c7 c8 c9 c10 c11 c12 c13
      go_wp2_with fail
      refine wp_region_noPanic ?_
      refine wp_region_held_drew (S := fun W' => TaS o u v bu bv w W') (by kernel_rfl) (TaS.below ⟨Ho.out, Hu.out, Hv.out, HB.out⟩ (b_drew (Below.refl _ _))) (fun hS0 => ?_)
      refine wpAnyH_take (i := 0) (v := ?_) rfl (by kernel_rfl) (by kernel_rfl) (by kernel_rfl) (fun _ _ _ h => h) (Or.inl ⟨by kernel_rfl, fun W hW => ?_⟩) (by assumption) ?_
      rotate_left
      · refine yield_row 35 (.tmp 3) ?_ w.heap.size ?_ hW.ho Tryz.underlying35 rfl (by kernel_rfl)
        · rfl
        · rfl
      (try simp only [List.getElem_toArray, List.getElem_cons_zero, List.getElem_cons_succ, Act.put, List.setIfInBounds_toArray, List.set_cons_zero, List.set_cons_succ])
      refine wpAnyH_take (i := 1) (v := ?_) rfl (by kernel_rfl) (by kernel_rfl) (by kernel_rfl) (fun _ _ _ h => h) (Or.inl ⟨by kernel_rfl, fun W hW => ?_⟩) (by assumption) ?_
      rotate_left
      · refine yield_row 27 (.tmp 4) ?_ bu ?_ hW.hu Tryz.underlying27 rfl (by kernel_rfl)
        · rfl
        · rfl
      (try simp only [List.getElem_toArray, List.getElem_cons_zero, List.getElem_cons_succ, Act.put, List.setIfInBounds_toArray, List.set_cons_zero, List.set_cons_succ])
      refine wpAnyH_ready (rs := [2]) (by kernel_rfl) (by simp) ?_
      refine AllReadyH.cons rfl (fun K hK => ?_) AllReadyH.nil
      go_simp
      refine (Of_c u _ (Ou.out.below (b_drew (Below.refl _ _))) (HG.out.below hS0.be)).mono ?_
      rintro e U5 ⟨rfl, hb⟩
      have hSn := hS0.below hb
      clear hb hS0
      refine hK.out _ _ hSn (fun _ => ?_)
      clear hK K
      (try simp only [List.getElem_toArray, List.getElem_cons_zero, List.getElem_cons_succ, Act.put, List.setIfInBounds_toArray, List.set_cons_zero, List.set_cons_succ])
      refine wpAnyH_ready (rs := [3]) (by kernel_rfl) (by simp) ?_
      refine AllReadyH.cons rfl (fun K hK => ?_) AllReadyH.nil
      go_simp
      refine (Same_o_c o (ofOV u) _ Oo.out (HG.out.below hSn.be)).mono ?_
      rw [ofOV_pm, HM.out]
      rintro e U6 ⟨rfl, hb⟩
      replace hSn := hSn.below hb
      clear hb
      refine hK.out _ _ hSn (fun _ => ?_)
      clear hK K
      (try simp only [List.getElem_toArray, List.getElem_cons_zero, List.getElem_cons_succ, Act.put, List.setIfInBounds_toArray, List.set_cons_zero, List.set_cons_succ])
      refine wpAnyH_take (i := 4) (v := ?_) rfl (by kernel_rfl) (by kernel_rfl) (by kernel_rfl) (fun _ _ _ h => h) (Or.inl ⟨by kernel_rfl, fun W hW => ?_⟩) (by assumption) ?_
      rotate_left
      · go_simp
        try with_reducible rfl
      (try simp only [List.getElem_toArray, List.getElem_cons_zero, List.getElem_cons_succ, Act.put, List.setIfInBounds_toArray, List.set_cons_zero, List.set_cons_succ])
      refine wpAnyH_done (by kernel_rfl) ?_ _
      refine NoPanic.normal ?_
      replace Ho := Lib.hid hSn.ho
      replace Hu := Lib.hid hSn.hu
      replace Hv := Lib.hid hSn.hv
      replace HB := Lib.hid hSn.be
      clear hSn
      have Ou := Lib.hid (OKu.out _ HB.out)
      have Ov := Lib.hid (OKv.out _ HB.out)
      go_wp2_with (first | go_skip | (refine wpList_load_g 35 _ rfl (by kernel_rfl) w.heap.size rfl Ho.out Tryz.underlying35 rfl (by kernel_rfl) ?_) | (refine wpList_load_g 27 _ rfl (by kernel_rfl) bu rfl Hu.out Tryz.underlying27 rfl (by kernel_rfl) ?_) | (refine wpList_load_g 27 _ rfl (by kernel_rfl) bv rfl Hv.out Tryz.underlying27 rfl (by kernel_rfl) ?_))
      refine (Taint_c true o u v _ Oo.out Ou.out Ov.out (HG.out.below HB.out)).mono ?_
      rw [HY.out]
      rintro e V51 ⟨rfl, hb⟩
      replace HB := Lib.hid (b_then HB.out hb)
      replace Hv := Lib.hid (obj_b hb Hv.out)
      replace Hu := Lib.hid (obj_b hb Hu.out)
      replace Ho := Lib.hid (obj_b hb Ho.out)
      replace Ou := Lib.hid (Ou.out.below hb)
      replace Ov := Lib.hid (Ov.out.below hb)
      clear hb
      go_wp2_with (first | go_skip | (refine wpList_load_g 27 _ rfl (by kernel_rfl) bu rfl Hu.out Tryz.underlying27 rfl (by kernel_rfl) ?_) | (refine wpList_load_g 27 _ rfl (by kernel_rfl) bv rfl Hv.out Tryz.underlying27 rfl (by kernel_rfl) ?_))
      refine (Both_c u v _ Ou.out Ov.out (HG.out.below HB.out)).mono ?_
      rw [HD.out]
      rintro e V52 ⟨rfl, hb⟩
      replace HB := Lib.hid (b_then HB.out hb)
      replace Hv := Lib.hid (obj_b hb Hv.out)
      replace Hu := Lib.hid (obj_b hb Hu.out)
      replace Ho := Lib.hid (obj_b hb Ho.out)
      replace Ou := Lib.hid (Ou.out.below hb)
      replace Ov := Lib.hid (Ov.out.below hb)
      clear hb
      go_wp2
      go_ret
      exact ⟨rfl, HB.out⟩
    · skip
      have h0 : PM.taintOf false o.pm u.pm v.pm = false := by
        unfold PM.taintOf
        rw [HD.out, HM.out]
        rfl
      have H0 := Lib.hid h0
      clear h0
      go_wp2_with (first | go_skip | (refine wpList_load_g 35 _ rfl (by kernel_rfl) w.heap.size rfl Ho.out Tryz.underlying35 rfl (by kernel_rfl) ?_) | (refine wpList_load_g 27 _ rfl (by kernel_rfl) bu rfl Hu.out Tryz.underlying27 rfl (by kernel_rfl) ?_) | (refine wpList_load_g 27 _ rfl (by kernel_rfl) bv rfl Hv.out Tryz.underlying27 rfl (by kernel_rfl) ?_))
      refine (Taint_c false o u v _ Oo.out Ou.out Ov.out (HG.out.below HB.out)).mono ?_
      rw [H0.out]
      rintro e V4 ⟨rfl, hb⟩
      replace HB := Lib.hid (b_then HB.out hb)
      replace Hv := Lib.hid (obj_b hb Hv.out)
      replace Hu := Lib.hid (obj_b hb Hu.out)
      replace Ho := Lib.hid (obj_b hb Ho.out)
      replace Ou := Lib.hid (Ou.out.below hb)
      replace Ov := Lib.hid (Ov.out.below hb)
      clear hb
      clear k0 k1 c0 c1 c2 c3 c4 c5 c6 c7 c8 c9 c10 c11 c12 c13
      go_wp2_with fail
      refine wp_region_noPanic ?_
      refine wp_region_held_drew (S := fun W' => TaS o u v bu bv w W') (by kernel_rfl) (TaS.below ⟨Ho.out, Hu.out, Hv.out, HB.out⟩ (b_drew (Below.refl _ _))) (fun hS0 => ?_)
      refine wpAnyH_take (i := 0) (v := ?_) rfl (by kernel_rfl) (by kernel_rfl) (by kernel_rfl) (fun _ _ _ h => h) (Or.inl ⟨by kernel_rfl, fun W hW => ?_⟩) (by assumption) ?_
      rotate_left
      · refine yield_row 35 (.tmp 3) ?_ w.heap.size ?_ hW.ho Tryz.underlying35 rfl (by kernel_rfl)
        · rfl
        · rfl
      (try simp only [List.getElem_toArray, List.getElem_cons_zero, List.getElem_cons_succ, Act.put, List.setIfInBounds_toArray, List.set_cons_zero, List.set_cons_succ])
      refine wpAnyH_take (i := 1) (v := ?_) rfl (by kernel_rfl) (by kernel_rfl) (by kernel_rfl) (fun _ _ _ h => h) (Or.inl ⟨by kernel_rfl, fun W hW => ?_⟩) (by assumption) ?_
      rotate_left
      · refine yield_row 27 (.tmp 4) ?_ bu ?_ hW.hu Tryz.underlying27 rfl (by kernel_rfl)
        · rfl
        · rfl
      (try simp only [List.getElem_toArray, List.getElem_cons_zero, List.getElem_cons_succ, Act.put, List.setIfInBounds_toArray, List.set_cons_zero, List.set_cons_succ])
      refine wpAnyH_ready (rs := [2]) (by kernel_rfl) (by simp) ?_
      refine AllReadyH.cons rfl (fun K hK => ?_) AllReadyH.nil
      go_simp
      refine (Of_c u _ (Ou.out.below (b_drew (Below.refl _ _))) (HG.out.below hS0.be)).mono ?_
      rintro e U7 ⟨rfl, hb⟩
      have hSn := hS0.below hb
      clear hb hS0
      refine hK.out _ _ hSn (fun _ => ?_)
      clear hK K
      (try simp only [List.getElem_toArray, List.getElem_cons_zero, List.getElem_cons_succ, Act.put, List.setIfInBounds_toArray, List.set_cons_zero, List.set_cons_succ])
      refine wpAnyH_ready (rs := [3]) (by kernel_rfl) (by simp) ?_
      refine AllReadyH.cons rfl (fun K hK => ?_) AllReadyH.nil
      go_simp
      refine (Same_o_c o (ofOV u) _ Oo.out (HG.out.below hSn.be)).mono ?_
      rw [ofOV_pm, HM.out]
      rintro e U8 ⟨rfl, hb⟩
      replace hSn := hSn.below hb
      clear hb
      refine hK.out _ _ hSn (fun _ => ?_)
      clear hK K
      (try simp only [List.getElem_toArray, List.getElem_cons_zero, List.getElem_cons_succ, Act.put, List.setIfInBounds_toArray, List.set_cons_zero, List.set_cons_succ])
      refine wpAnyH_take (i := 4) (v := ?_) rfl (by kernel_rfl) (by kernel_rfl) (by kernel_rfl) (fun _ _ _ h => h) (Or.inl ⟨by kernel_rfl, fun W hW => ?_⟩) (by assumption) ?_
      rotate_left
      · go_simp
        try with_reducible rfl
      (try simp only [List.getElem_toArray, List.getElem_cons_zero, List.getElem_cons_succ, Act.put, List.setIfInBounds_toArray, List.set_cons_zero, List.set_cons_succ])
      refine wpAnyH_done (by kernel_rfl) ?_ _
      refine NoPanic.normal ?_
      replace Ho := Lib.hid hSn.ho
      replace Hu := Lib.hid hSn.hu
      replace Hv := Lib.hid hSn.hv
      replace HB := Lib.hid hSn.be
      clear hSn
      have Ou := Lib.hid (OKu.out _ HB.out)
      have Ov := Lib.hid (OKv.out _ HB.out)
      go_wp2_with (first | go_skip | (refine wpList_load_g 35 _ rfl (by kernel_rfl) w.heap.size rfl Ho.out Tryz.underlying35 rfl (by kernel_rfl) ?_) | (refine wpList_load_g 27 _ rfl (by kernel_rfl) bu rfl Hu.out Tryz.underlying27 rfl (by kernel_rfl) ?_) | (refine wpList_load_g 27 _ rfl (by kernel_rfl) bv rfl Hv.out Tryz.underlying27 rfl (by kernel_rfl) ?_))
      refine (Taint_c true o u v _ Oo.out Ou.out Ov.out (HG.out.below HB.out)).mono ?_
      rw [HY.out]
      rintro e V51 ⟨rfl, hb⟩
      replace HB := Lib.hid (b_then HB.out hb)
      replace Hv := Lib.hid (obj_b hb Hv.out)
      replace Hu := Lib.hid (obj_b hb Hu.out)
      replace Ho := Lib.hid (obj_b hb Ho.out)
      replace Ou := Lib.hid (Ou.out.below hb)
      replace Ov := Lib.hid (Ov.out.below hb)
      clear hb
      go_wp2_with (first | go_skip | (refine wpList_load_g 27 _ rfl (by kernel_rfl) bu rfl Hu.out Tryz.underlying27 rfl (by kernel_rfl) ?_) | (refine wpList_load_g 27 _ rfl (by kernel_rfl) bv rfl Hv.out Tryz.underlying27 rfl (by kernel_rfl) ?_))
      refine (Both_c u v _ Ou.out Ov.out (HG.out.below HB.out)).mono ?_
      rw [HD.out]
      rintro e V52 ⟨rfl, hb⟩
      replace HB := Lib.hid (b_then HB.out hb)
      replace Hv := Lib.hid (obj_b hb Hv.out)
      replace Hu := Lib.hid (obj_b hb Hu.out)
      replace Ho := Lib.hid (obj_b hb Ho.out)
      replace Ou := Lib.hid (Ou.out.below hb)
      replace Ov := Lib.hid (Ov.out.below hb)
      clear hb
      go_wp2
      go_ret
      exact ⟨rfl, HB.out⟩
end Go.Proofs.YtlcckikfmlhgjaaGreatDoor
/-! The row of TaintStays. -/
namespace Go.Proofs.YtlcckikfmlhgjaaGreatDoor
open Go.ChangeShapes Go.WideShapes Go.ChangeAt Go.RowKit
open Go.WideMaps Go.WideElems
open Go.ChangeMaps (open_string shut_string)
theorem taintStays_reads (os : Os) {H : Type} (enc : TypeId × Value → H) : ∃ x, DataW.whole enc Tryz.prog ((laidWorld os).forCall (fun _ _ => 0) ⟨#[], #[.agg #[.bool false, .string ⟨#[]⟩, .int .i64 0, .string ⟨#[]⟩, .int .i64 0, .int .i64 0, .int .i64 0, .int .i64 0, .int .i64 0, .int .i64 0, .int .i64 0, .int .i64 0, .int .i64 0, .int .i64 0], .agg #[.string ⟨#[]⟩, .string ⟨#[]⟩, .string ⟨#[]⟩, .int .i64 0, .string ⟨#[]⟩, .int .i64 0, .int .i64 0, .int .i64 0, .int .i64 0, .int .i64 0, .int .i64 0, .int .i64 0, .int .i64 0, .int .i64 0, .int .i64 0, .slice none 0 0, .string ⟨#[]⟩, .string ⟨#[]⟩, .string ⟨#[]⟩, .bool false, .bool false], .agg #[.string ⟨#[]⟩, .string ⟨#[]⟩, .string ⟨#[]⟩, .int .i64 0, .string ⟨#[]⟩, .int .i64 0, .int .i64 0, .int .i64 0, .int .i64 0, .int .i64 0, .int .i64 0, .int .i64 0, .int .i64 0, .int .i64 0, .int .i64 0, .slice none 0 0, .string ⟨#[]⟩, .string ⟨#[]⟩, .string ⟨#[]⟩, .bool false, .bool false]], []⟩).memory Tryz.f8.params.toList Rows.taintStaysSpec.vars false (#[.agg #[.bool false, .string ⟨#[]⟩, .int .i64 0, .string ⟨#[]⟩, .int .i64 0, .int .i64 0, .int .i64 0, .int .i64 0, .int .i64 0, .int .i64 0, .int .i64 0, .int .i64 0, .int .i64 0, .int .i64 0], .agg #[.string ⟨#[]⟩, .string ⟨#[]⟩, .string ⟨#[]⟩, .int .i64 0, .string ⟨#[]⟩, .int .i64 0, .int .i64 0, .int .i64 0, .int .i64 0, .int .i64 0, .int .i64 0, .int .i64 0, .int .i64 0, .int .i64 0, .int .i64 0, .slice none 0 0, .string ⟨#[]⟩, .string ⟨#[]⟩, .string ⟨#[]⟩, .bool false, .bool false], .agg #[.string ⟨#[]⟩, .string ⟨#[]⟩, .string ⟨#[]⟩, .int .i64 0, .string ⟨#[]⟩, .int .i64 0, .int .i64 0, .int .i64 0, .int .i64 0, .int .i64 0, .int .i64 0, .int .i64 0, .int .i64 0, .int .i64 0, .int .i64 0, .slice none 0 0, .string ⟨#[]⟩, .string ⟨#[]⟩, .string ⟨#[]⟩, .bool false, .bool false]] : Array Value).toList 8 = some x :=
  Option.isSome_iff_exists.1 (by kernel_rfl)
set_option maxRecDepth 100000 in
theorem taintStays_lifted (os : Os) (started : os.Started) (H : Type) (enc : TypeId × Value → H) (F : Stop.Interp) :
    ReturnsInHanded {} Tryz.checked os 8 .any ((OpenSpec.ofChange Rows.taintStaysSpec).preRow enc Tryz.prog Tryz.f8 Rows.taintStaysRow.domain false Rows.taintStaysRow.laid) (((OpenSpec.ofChange Rows.taintStaysSpec).at F).post enc Tryz.prog Tryz.f8 false true false false) := by
  obtain ⟨x, hx⟩ := taintStays_reads os enc
  refine returnsInHanded_of_row (C := Tryz.checked) (s := OpenSpec.ofChange Rows.taintStaysSpec) own started (by kernel_rfl) Tryz.func8
    (witness_row_atRef (enc := enc) (C := Tryz.checked) false (laidWorld os) #[.agg #[.bool false, .string ⟨#[]⟩, .int .i64 0, .string ⟨#[]⟩, .int .i64 0, .int .i64 0, .int .i64 0, .int .i64 0, .int .i64 0, .int .i64 0, .int .i64 0, .int .i64 0, .int .i64 0, .int .i64 0], .agg #[.string ⟨#[]⟩, .string ⟨#[]⟩, .string ⟨#[]⟩, .int .i64 0, .string ⟨#[]⟩, .int .i64 0, .int .i64 0, .int .i64 0, .int .i64 0, .int .i64 0, .int .i64 0, .int .i64 0, .int .i64 0, .int .i64 0, .int .i64 0, .slice none 0 0, .string ⟨#[]⟩, .string ⟨#[]⟩, .string ⟨#[]⟩, .bool false, .bool false], .agg #[.string ⟨#[]⟩, .string ⟨#[]⟩, .string ⟨#[]⟩, .int .i64 0, .string ⟨#[]⟩, .int .i64 0, .int .i64 0, .int .i64 0, .int .i64 0, .int .i64 0, .int .i64 0, .int .i64 0, .int .i64 0, .int .i64 0, .int .i64 0, .slice none 0 0, .string ⟨#[]⟩, .string ⟨#[]⟩, .string ⟨#[]⟩, .bool false, .bool false]] rfl (by kernel_rfl) (by kernel_rfl) (by kernel_rfl)
      (OpenSpec.preRow_of_cond 8 hx rfl (fun k hk => by cases hk) (by kernel_rfl) (laid_met os _))) ?_
  intro W base args ds gs before hval0 hW _ _ _ hL hsh _
  have hval : ∀ (j : Nat) t v, Tryz.f8.params[j]? = some t → args[j]? = some v → Value.okWide Tryz.prog W .any base t v := hval0
  have hW' := hW
  obtain ⟨p, q, hA0, hV, rfl, hfz, hnd⟩ := hW
  have hA : DataW.TrodAll enc Tryz.prog W 0 (fun _ => true) true Tryz.f8.params.toList args.toList ds p := hA0
  rw [Tryz.params8] at hA hval
  obtain ⟨v0, v1, v2, d0, d1, d2, p0, p1, p2, rfl, rfl, rfl, h0, h1, h2⟩ := trodAll_three hA
  obtain ⟨rfl, rfl⟩ := trodVars_none hV
  simp only [List.append_nil] at hfz hnd hW'
  have hlt : ∀ x ∈ p0 ++ p1 ++ p2, x.block < W.heap.size := fun x hx => hW'.lt x hx
  have h0k := h0
  obtain ⟨o0, rfl⟩ := open_origin (hval 0 35 v0 rfl rfl) h0
  have h1k := h1
  obtain ⟨u1, rfl, hr1⟩ := open_url (hval 1 27 v1 rfl rfl) h1
  have h2k := h2
  obtain ⟨u2, rfl, hr2⟩ := open_url (hval 2 27 v2 rfl rfl) h2
  refine (TaintStays_c o0 u1 u2 W hr1 hr2 (gl_of hsh) (tabs_laid hL)).mono fun e W' ⟨he, hb⟩ => ?_
  subst he
  refine ⟨_, rfl, _, _, _, [], p0 ++ p1 ++ p2, [], hW', ?_, ?_, ?_, hb.frame _, fun h => by cases h⟩
  · exact trodAll_mk1 (shut_bool Tryz.underlying4 _)
  · have h3 := trodAll_mk3 (Below.trod laidOut (by kernel_rfl) (of_decide_eq_true (by kernel_rfl)) h0k hb (fun x hx => hlt x (by simp [hx]))) (Below.trod laidOut (by kernel_rfl) (of_decide_eq_true (by kernel_rfl)) h1k hb (fun x hx => hlt x (by simp [hx]))) (Below.trod laidOut (by kernel_rfl) (of_decide_eq_true (by kernel_rfl)) h2k hb (fun x hx => hlt x (by simp [hx])))
    rw [← List.append_assoc] at h3
    exact h3
  · rfl
theorem taintStays_k0 : Rows.taintStaysRow.wf (OpenSpec.ofChange (OpenSpec.ofChange Rows.taintStaysSpec).bare) = true := by kernel_rfl
theorem taintStays_k3 : Tryz.f8.params.all (PP.readableRec ·) = true := by kernel_rfl
theorem taintStays_k4 : namedTie PP Rows.taintStaysRow.named (OpenSpec.ofChange Rows.taintStaysSpec).bare.vars = true := by kernel_rfl
theorem taintStays_k5 : (Rows.taintStaysRow.stops == []) = true := by kernel_rfl
theorem taintStays_k7 : (Rows.taintStaysRow.knobs == []) = true := by kernel_rfl
theorem taintStays_k9 : (Rows.taintStaysRow.inPlace == PP.inPlace 8) = true := by kernel_rfl
theorem taintStays_k10 : (Rows.taintStaysRow.unfollowed == PP.unfollowed 8) = true := by kernel_rfl
theorem taintStays_k11 : (Rows.taintStaysRow.recurses == PP.recurses 8) = true := by kernel_rfl
theorem taintStays_k12 : (Rows.taintStaysRow.named == PP.varsNamed 8) = true := by kernel_rfl
theorem taintStays_k13 : (Rows.taintStaysRow.maps == (Tryz.f8.params.toList ++ (OpenSpec.ofChange Rows.taintStaysSpec).bare.plain.varTypes PP).any (PP.mapsRec ·)) = true := by kernel_rfl
theorem taintStays_k14 : (Rows.taintStaysRow.ifaces == (Tryz.f8.params.toList ++ (OpenSpec.ofChange Rows.taintStaysSpec).bare.plain.varTypes PP).any (PP.ifacesRec ·)) = true := by kernel_rfl
theorem taintStays_k15 : (Rows.taintStaysRow.mapsOut == PP.mapsAmong Tryz.f8.resultTypes.toList) = true := by kernel_rfl
theorem taintStays_k16 : (Rows.taintStaysRow.loops == (Tryz.f8.params.toList ++ (OpenSpec.ofChange Rows.taintStaysSpec).bare.plain.varTypes PP).any (PP.loopsFrom ·)) = true := by kernel_rfl
theorem taintStays_k17 : (Rows.taintStaysRow.wideKeys == (Tryz.f8.params.toList ++ (OpenSpec.ofChange Rows.taintStaysSpec).bare.plain.varTypes PP ++ Tryz.f8.resultTypes.toList).any (PP.wideKeysFrom ·)) = true := by kernel_rfl
theorem taintStays_k18 : (OpenSpec.ofChange Rows.taintStaysSpec).bare.vars.all (PP.varReadable ·) = true := by kernel_rfl
theorem taintStays_k19 : Tryz.f8.resultTypes.all (fun t => PP.readableRec t && decide (t < PP.types.size)) = true := by kernel_rfl
theorem taintStays_k20 : (Rows.taintStaysRow.ifacesOut == Tryz.f8.resultTypes.toList.any (PP.ifacesRec ·)) = true := by kernel_rfl
theorem taintStays_k21 : (Rows.taintStaysRow.loopsOut == Tryz.f8.resultTypes.toList.any (PP.loopsFrom ·)) = true := by kernel_rfl
theorem taintStays_k23 : Rows.taintStaysRow.shortTexts.isNone = true := by kernel_rfl
theorem taintStays_k28 : (Rows.taintStaysRow.kinds == (if Rows.taintStaysRow.domain.isEmpty then [] else Tryz.f8.params.toList.map fun t => match PP.underlying t with | some (.int k) => some k | _ => none)) = true := by kernel_rfl
theorem taintStays_k29 : (Rows.taintStaysRow.pinned == Rows.taintStaysRow.pinnedBy) = true := by kernel_rfl
theorem taintStays_k30 : (Rows.taintStaysRow.veiled == (Tryz.f8.params.toList ++ (OpenSpec.ofChange Rows.taintStaysSpec).bare.plain.varTypes PP ++ Tryz.f8.resultTypes.toList).any (PP.veiledRec ·)) = true := by kernel_rfl
theorem taintStays_k31 : Rows.taintStaysRow.veiledFits PP Tryz.f8.params.toList (Tryz.f8.params.toList ++ (OpenSpec.ofChange Rows.taintStaysSpec).bare.plain.varTypes PP ++ Tryz.f8.resultTypes.toList) = true := by kernel_rfl
set_option maxRecDepth 100000 in
theorem taintStays_closed : joinedFacts PP 8 Tryz.f8 (OpenSpec.ofChange Rows.taintStaysSpec).bare Rows.taintStaysRow = true := and2 (and2 (and2 (and2 (and2 (and2 (and2 (and2 (and2 (and2 (and2 (and2 (and2 (and2 (and2 (and2 (and2 (and2 (and2 (and2 (and2 (and2 (and2 (and2 (and2 (and2 (and2 (and2 (and2 (and2 (and2 (taintStays_k0) j_laidOut) j_rowed) taintStays_k3) taintStays_k4) taintStays_k5) j_stops) taintStays_k7) j_knobs) taintStays_k9) taintStays_k10) taintStays_k11) taintStays_k12) taintStays_k13) taintStays_k14) taintStays_k15) taintStays_k16) taintStays_k17) taintStays_k18) taintStays_k19) taintStays_k20) taintStays_k21) j_plain) taintStays_k23) j_heard) j_enter) j_lift) j_make) taintStays_k28) taintStays_k29) taintStays_k30) taintStays_k31
theorem taintStays_named : Tryz.pinned.checked.prog.funcNamed Rows.taintStaysRow.func = some 8 := by kernel_rfl
theorem taintStays_text : Rows.taintStaysRow.wfByText (OpenSpec.ofChange Rows.taintStaysSpec) = true := by kernel_rfl
theorem taintStays_goes : false = Rows.taintStaysRow.goesBy Tryz.pinned.checked.prog := by kernel_rfl
theorem taintStays_said : Rows.TaintStaysSaid :=
  OpenClaim.holds_of_cond 8 Tryz.f8 rfl rfl rfl rfl rfl rfl rfl ⟨rfl, rfl, rfl, rfl, rfl⟩ rfl rfl rfl rfl rfl taintStays_named Tryz.func8 taintStays_closed
    (of_decide_eq_true (by kernel_rfl)) (by unfold Func.isWrapper; first | (rw [if_pos (by decide +kernel)]; kernel_rfl) | (rw [if_neg (by decide +kernel)]; exact ⟨rfl, rfl⟩))
    (fun os started H enc _ F => by rw [OpenClaim.pre_eq_preRow]; exact taintStays_lifted os started H enc F)
theorem taintStays_plain (f : FuncId) (fn : Func) (hf : Tryz.pinned.checked.prog.funcNamed "postmark/postmarklaw19.TaintStays" = some f) (hfn : Tryz.pinned.checked.prog.funcs[f]? = some fn) :
    true = Tryz.pinned.checked.prog.looks [] ∧ ∀ (j : Nat) t, fn.params[j]? = some t → Tryz.pinned.checked.prog.wantsStandIn t = false := by
  obtain rfl : f = 8 := Option.some.inj ((show Tryz.prog.funcNamed "postmark/postmarklaw19.TaintStays" = some 8 by kernel_rfl).symm.trans hf) |>.symm
  obtain rfl : fn = Tryz.f8 := (Option.some.inj (Tryz.func8.symm.trans hfn)).symm
  refine ⟨by kernel_rfl, fun j t ht => ?_⟩
  rw [Tryz.params8] at ht
  have hm := Array.mem_of_getElem? ht
  simp only [Array.mem_def, List.mem_cons, List.not_mem_nil, or_false] at hm
  rcases hm with rfl | rfl | rfl
  · exact (show Tryz.prog.wantsStandIn 35 = false by kernel_rfl)
  · exact (show Tryz.prog.wantsStandIn 27 = false by kernel_rfl)
  · exact (show Tryz.prog.wantsStandIn 27 = false by kernel_rfl)
theorem taintStays_holds : Rows.TaintStaysCardSaid :=
  Claim7.holds_tied_plain_at .later [] _ _ _ _ taintStays_said (fun _ h => by cases h) taintStays_text (fun _ h => by cases h) taintStays_row_tie rfl ⟨rfl, rfl⟩ j_main rfl taintStays_plain taintStays_goes
#print axioms taintStays_holds
end Go.Proofs.YtlcckikfmlhgjaaGreatDoor
