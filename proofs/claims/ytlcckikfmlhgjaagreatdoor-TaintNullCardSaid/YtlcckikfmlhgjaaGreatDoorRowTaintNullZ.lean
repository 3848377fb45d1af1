/-
TaintNull: whatever comes in, the law's call returns true, and the arguments read behind the call as they did before; no condition on them. The row lists the two tables of unicode/utf8 (first, acceptRanges); the card ties them.
-/
import Derived.Test.YtlcckikfmlhgjaaGreatDoorAw19
import Derived.Test.YtlcckikfmlhgjaaGreatDoorTz
import Derived.Test.YtlcckikfmlhgjaaGreatDoorOq
set_option linter.unusedVariables false
set_option linter.unusedSimpArgs false
/-! The walk of TaintNull. -/
namespace Go.Proofs.YtlcckikfmlhgjaaGreatDoor
open Go.RowKit
set_option maxRecDepth 100000 in
set_option maxHeartbeats 16000000 in
theorem TaintNull_c (q : QV) (w : World) (hr : RdW w q.u.a q.u.pn q.u.xs) (hf : RdFW w q.ha q.hn q.hs) (hg : Gl w) (hT : Lib.Utf8Tabs 1 2 w) : Calls Tryz.prog 9 #[.agg q.cells] w fun e w' => e = .returned (.bool true) ∧ Below w.heap.size w w' := by
  have HG := Lib.hid hg
  have HTB := Lib.hid hT
  have R := Lib.hid hr
  clear hg hT hr hf
  have HB : Hid (Below w.heap.size w (w.alloc (.cells q.cells 45))) := Lib.hid (b_alloc (Below.refl _ _) _)
  have Hq : Hid ((w.alloc (.cells q.cells 45)).heap[w.heap.size]? = some (.cells q.cells 45 (0, 0))) := Lib.hid ((by have h := Go.heap_alloc_new w (.cells q.cells 45); simpa using h))
  go_enter Tryz.func9, Tryz.ntmps9
  go_upto_region 1 with fail
  generalize w.alloc (.cells q.cells 45) = V0 at HB Hq ⊢
  go_wp2_with fail
  refine (awake19_c _ (HG.out.below HB.out) (tabs_below HTB.out HB.out)).mono ?_
  rintro e V1 ⟨rfl, hb⟩
  replace HB := Lib.hid (b_then HB.out hb)
  replace Hq := Lib.hid (obj_b hb Hq.out)
  clear hb
  go_wp2_with (first | go_skip | (refine wpList_load_g 45 _ rfl (by kernel_rfl) w.heap.size rfl Hq.out Tryz.underlying45 rfl (by kernel_rfl) ?_))
  refine (FewReq_c q _ (R.out.below HB.out)).mono ?_
  rintro e V2 ⟨rfl, hb⟩
  replace HB := Lib.hid (b_then HB.out hb)
  replace Hq := Lib.hid (obj_b hb Hq.out)
  clear hb
  cases hfw : qfew q
  · go_wp2
    go_ret
    exact ⟨rfl, HB.out⟩
  have OK := Lib.hid (fun W (hb : Below w.heap.size w W) => (qfew_ok (R.out.below hb) hfw).1)
  clear hfw
  cases hz : PM.quiet q.pm
  rotate_left
  · have hs := PM.sends_no hz
    have HZ := Lib.hid hz
    have HS := Lib.hid hs
    have hp : PM.plainM q.me = true := by
      have h := hz
      unfold PM.quiet at h
      exact (Bool.and_eq_true_iff.1 h).1
    unfold PM.plainM at hp
    rw [← beq_list, ← beq_list] at hp
    unfold PM.GET PM.HEAD at hp
    have HP := Lib.hid hp
    clear hs hz hp
    go_wp2_with (first | go_skip | (refine wpList_load_g 45 _ rfl (by kernel_rfl) w.heap.size rfl Hq.out Tryz.underlying45 rfl (by kernel_rfl) ?_))
    refine (Sends_c q _ (OK.out _ HB.out) (HG.out.below HB.out)).mono ?_
    rw [HS.out]
    rintro e V3 ⟨rfl, hb⟩
    replace HB := Lib.hid (b_then HB.out hb)
    replace Hq := Lib.hid (obj_b hb Hq.out)
    clear hb
    go_wp2_with (first | go_skip | (refine wpList_load_g 45 _ rfl (by kernel_rfl) w.heap.size rfl Hq.out Tryz.underlying45 rfl (by kernel_rfl) ?_))
    refine (Quiet_c q _ (OK.out _ HB.out) (HG.out.below HB.out)).mono ?_
    rw [HZ.out]
    rintro e V4 ⟨rfl, hb⟩
    replace HB := Lib.hid (b_then HB.out hb)
    replace Hq := Lib.hid (obj_b hb Hq.out)
    clear hb
    have c21 : V4.cell? ⟨w.heap.size, 21, none⟩ = some (.string (mkS q.me)) := by rw [Lib.cell_of_heap Hq.out]; rfl
    cases hG : (q.me == [71, 69, 84])
    · have hH : (q.me == [72, 69, 65, 68]) = true := by
        have h := HP.out
        rw [hG, Bool.false_or] at h
        exact h
      go_wp2
      go_ret
      exact ⟨rfl, HB.out⟩
    · skip
      go_wp2
      go_ret
      exact ⟨rfl, HB.out⟩
  obtain ⟨S, hsd, hS0⟩ : ∃ S, PM.sends q.pm = (S, true) ∧ (S = [110, 117, 108, 108] ∨ (PM.originShow q.o.pm = S ∧ q.ta = false)) := by
    rw [PM.sends_yes hz]
    cases hc : (q.pm.tainted || (!decide (q.pm.mode = 1) && PM.hide q.pm))
    · exact ⟨_, rfl, .inr ⟨rfl, (Bool.or_eq_false_iff.1 hc).1⟩⟩
    · exact ⟨_, rfl, .inl rfl⟩
  have hh := (PM.taint_null q.pm (by rw [hsd])).2.1
  have HS := Lib.hid hsd
  have HZ := Lib.hid hz
  have HH : Hid ((PM.home q.pm && (!q.cr && (q.me == [71, 69, 84]))) = false) := Lib.hid (by rw [beq_list]; exact hh)
  clear hsd hz hh
  obtain ⟨H, hH⟩ : ∃ H, PM.home q.pm = H := ⟨_, rfl⟩
  rw [hH] at HH
  have HM : Hid (PM.originSame q.o.pm (ofOV q.u).pm = H) := Lib.hid (by rw [← home_pm]; exact hH)
  clear hH
  go_wp2_with (first | go_skip | (refine wpList_load_g 45 _ rfl (by kernel_rfl) w.heap.size rfl Hq.out Tryz.underlying45 rfl (by kernel_rfl) ?_))
  refine (Sends_c q _ (OK.out _ HB.out) (HG.out.below HB.out)).mono ?_
  rw [HS.out]
  rintro e V3 ⟨rfl, hb⟩
  replace HB := Lib.hid (b_then HB.out hb)
  replace Hq := Lib.hid (obj_b hb Hq.out)
  clear hb
  have OO := Lib.hid (OK.out _ HB.out).o
  cases H
  · skip
    go_wp2_with fail
    refine wp_region_noPanic ?_
    refine wp_region_held_drew (S := fun W' => QAt w.heap.size q w W') (by kernel_rfl) (QAt.below ⟨Hq.out, HB.out⟩ (b_drew (Below.refl _ _))) (fun hS0 => ?_)
    refine wpAnyH_take (i := 0) (v := ?_) rfl (by kernel_rfl) (by kernel_rfl) (by kernel_rfl) (fun _ _ _ h => h) (Or.inl ⟨by kernel_rfl, fun W hW => ?_⟩) (by assumption) ?_
    rotate_left
    · go_simp
      try with_reducible rfl
    (try simp only [List.getElem_toArray, List.getElem_cons_zero, List.getElem_cons_succ, Act.put, List.setIfInBounds_toArray, List.set_cons_zero, List.set_cons_succ])
    refine wpAnyH_take (i := 1) (v := ?_) rfl (by kernel_rfl) (by kernel_rfl) (by kernel_rfl) (fun _ _ _ h => h) (Or.inl ⟨by kernel_rfl, fun W hW => ?_⟩) (by assumption) ?_
    rotate_left
    · refine yield_mid 35 (.tmp 41) ?_ w.heap.size 24 ?_ q.o.cells (q_org hW.hq) Tryz.underlying35 rfl (by kernel_rfl)
      · rfl
      · rfl
    (try simp only [List.getElem_toArray, List.getElem_cons_zero, List.getElem_cons_succ, Act.put, List.setIfInBounds_toArray, List.set_cons_zero, List.set_cons_succ])
    refine wpAnyH_take (i := 2) (v := ?_) rfl (by kernel_rfl) (by kernel_rfl) (by kernel_rfl) (fun _ _ _ h => h) (Or.inl ⟨by kernel_rfl, fun W hW => ?_⟩) (by assumption) ?_
    rotate_left
    · go_simp
      try with_reducible rfl
    (try simp only [List.getElem_toArray, List.getElem_cons_zero, List.getElem_cons_succ, Act.put, List.setIfInBounds_toArray, List.set_cons_zero, List.set_cons_succ])
    refine wpAnyH_take (i := 3) (v := ?_) rfl (by kernel_rfl) (by kernel_rfl) (by kernel_rfl) (fun _ _ _ h => h) (Or.inl ⟨by kernel_rfl, fun W hW => ?_⟩) (by assumption) ?_
    rotate_left
    · refine yield_mid 27 (.tmp 43) ?_ w.heap.size 0 ?_ q.u.cells (q_url hW.hq) Tryz.underlying27 rfl (by kernel_rfl)
      · rfl
      · rfl
    (try simp only [List.getElem_toArray, List.getElem_cons_zero, List.getElem_cons_succ, Act.put, List.setIfInBounds_toArray, List.set_cons_zero, List.set_cons_succ])
    refine wpAnyH_ready (rs := [4]) (by kernel_rfl) (by simp) ?_
    refine AllReadyH.cons rfl (fun K hK => ?_) AllReadyH.nil
    go_simp
    refine (Of_c q.u _ (OK.out _ hS0.be).u (HG.out.below hS0.be)).mono ?_
    rintro e U1 ⟨rfl, hb⟩
    have hSn := hS0.below hb
    clear hb hS0
    refine hK.out _ _ hSn (fun _ => ?_)
    clear hK K
    (try simp only [List.getElem_toArray, List.getElem_cons_zero, List.getElem_cons_succ, Act.put, List.setIfInBounds_toArray, List.set_cons_zero, List.set_cons_succ])
    refine wpAnyH_ready (rs := [5]) (by kernel_rfl) (by simp) ?_
    refine AllReadyH.cons rfl (fun K hK => ?_) AllReadyH.nil
    go_simp
    refine (Same_o_c q.o (ofOV q.u) _ OO.out (HG.out.below hSn.be)).mono ?_
    rw [HM.out]
    rintro e U2 ⟨rfl, hb⟩
    replace hSn := hSn.below hb
    clear hb
    refine hK.out _ _ hSn (fun _ => ?_)
    clear hK K
    (try simp only [List.getElem_toArray, List.getElem_cons_zero, List.getElem_cons_succ, Act.put, List.setIfInBounds_toArray, List.set_cons_zero, List.set_cons_succ])
    refine wpAnyH_take (i := 6) (v := ?_) rfl (by kernel_rfl) (by kernel_rfl) (by kernel_rfl) (fun _ _ _ h => h) (Or.inl ⟨by kernel_rfl, fun W hW => ?_⟩) (by assumption) ?_
    rotate_left
    · go_simp
      try with_reducible rfl
    (try simp only [List.getElem_toArray, List.getElem_cons_zero, List.getElem_cons_succ, Act.put, List.setIfInBounds_toArray, List.set_cons_zero, List.set_cons_succ])
    refine wpAnyH_take (i := 7) (v := undef) rfl (by kernel_rfl) (by kernel_rfl) (by kernel_rfl) (fun _ _ _ h => h) (Or.inr ⟨by kernel_rfl, rfl⟩) (by assumption) ?_
    (try simp only [List.getElem_toArray, List.getElem_cons_zero, List.getElem_cons_succ, Act.put, List.setIfInBounds_toArray, List.set_cons_zero, List.set_cons_succ])
    refine wpAnyH_take (i := 8) (v := undef) rfl (by kernel_rfl) (by kernel_rfl) (by kernel_rfl) (fun _ _ _ h => h) (Or.inr ⟨by kernel_rfl, rfl⟩) (by assumption) ?_
    (try simp only [List.getElem_toArray, List.getElem_cons_zero, List.getElem_cons_succ, Act.put, List.setIfInBounds_toArray, List.set_cons_zero, List.set_cons_succ])
    refine wpAnyH_take (i := 9) (v := undef) rfl (by kernel_rfl) (by kernel_rfl) (by kernel_rfl) (fun _ _ _ h => h) (Or.inr ⟨by kernel_rfl, rfl⟩) (by assumption) ?_
    (try simp only [List.getElem_toArray, List.getElem_cons_zero, List.getElem_cons_succ, Act.put, List.setIfInBounds_toArray, List.set_cons_zero, List.set_cons_succ])
    refine wpAnyH_take (i := 10) (v := ?_) rfl (by kernel_rfl) (by kernel_rfl) (by kernel_rfl) (fun _ _ _ h => h) (Or.inl ⟨by kernel_rfl, fun W hW => ?_⟩) (by assumption) ?_
    rotate_left
    · go_simp
      try with_reducible rfl
    (try simp only [List.getElem_toArray, List.getElem_cons_zero, List.getElem_cons_succ, Act.put, List.setIfInBounds_toArray, List.set_cons_zero, List.set_cons_succ])
    refine wpAnyH_take (i := 11) (v := ?_) rfl (by kernel_rfl) (by kernel_rfl) (by kernel_rfl) (fun _ _ _ h => h) (Or.inl ⟨by kernel_rfl, fun W hW => ?_⟩) (by assumption) ?_
    rotate_left
    · go_simp
      try with_reducible rfl
    (try simp only [List.getElem_toArray, List.getElem_cons_zero, List.getElem_cons_succ, Act.put, List.setIfInBounds_toArray, List.set_cons_zero, List.set_cons_succ])
    refine wpAnyH_take (i := 12) (v := undef) rfl (by kernel_rfl) (by kernel_rfl) (by kernel_rfl) (fun _ _ _ h => h) (Or.inr ⟨by kernel_rfl, rfl⟩) (by assumption) ?_
    (try simp only [List.getElem_toArray, List.getElem_cons_zero, List.getElem_cons_succ, Act.put, List.setIfInBounds_toArray, List.set_cons_zero, List.set_cons_succ])
    refine wpAnyH_take (i := 13) (v := undef) rfl (by kernel_rfl) (by kernel_rfl) (by kernel_rfl) (fun _ _ _ h => h) (Or.inr ⟨by kernel_rfl, rfl⟩) (by assumption) ?_
    (try simp only [List.getElem_toArray, List.getElem_cons_zero, List.getElem_cons_succ, Act.put, List.setIfInBounds_toArray, List.set_cons_zero, List.set_cons_succ])
    refine wpAnyH_take (i := 14) (v := undef) rfl (by kernel_rfl) (by kernel_rfl) (by kernel_rfl) (fun _ _ _ h => h) (Or.inr ⟨by kernel_rfl, rfl⟩) (by assumption) ?_
    (try simp only [List.getElem_toArray, List.getElem_cons_zero, List.getElem_cons_succ, Act.put, List.setIfInBounds_toArray, List.set_cons_zero, List.set_cons_succ])
    refine wpAnyH_take (i := 15) (v := ?_) rfl (by kernel_rfl) (by kernel_rfl) (by kernel_rfl) (fun _ _ _ h => h) (Or.inl ⟨by kernel_rfl, fun W hW => ?_⟩) (by assumption) ?_
    rotate_left
    · go_simp
      try with_reducible rfl
    (try simp only [List.getElem_toArray, List.getElem_cons_zero, List.getElem_cons_succ, Act.put, List.setIfInBounds_toArray, List.set_cons_zero, List.set_cons_succ])
    refine wpAnyH_take (i := 16) (v := ?_) rfl (by kernel_rfl) (by kernel_rfl) (by kernel_rfl) (fun _ _ _ h => h) (Or.inl ⟨by kernel_rfl, fun W hW => ?_⟩) (by assumption) ?_
    rotate_left
    · go_simp
      try with_reducible rfl
    (try simp only [List.getElem_toArray, List.getElem_cons_zero, List.getElem_cons_succ, Act.put, List.setIfInBounds_toArray, List.set_cons_zero, List.set_cons_succ])
    refine wpAnyH_done (by kernel_rfl) ?_ _
    refine NoPanic.normal ?_
    replace Hq := Lib.hid hSn.hq
    replace HB := Lib.hid hSn.be
    clear hSn
    rcases hS0 with rfl | ⟨hS1, hta⟩
    · skip
      go_wp2_with (first | go_skip | (refine wpList_load_g 45 _ rfl (by kernel_rfl) w.heap.size rfl Hq.out Tryz.underlying45 rfl (by kernel_rfl) ?_))
      refine (Quiet_c q _ (OK.out _ HB.out) (HG.out.below HB.out)).mono ?_
      rw [HZ.out]
      rintro e V61 ⟨rfl, hb⟩
      replace HB := Lib.hid (b_then HB.out hb)
      replace Hq := Lib.hid (obj_b hb Hq.out)
      clear hb
      go_wp2
      go_ret
      exact ⟨rfl, HB.out⟩
    · have HSH := Lib.hid hS1
      have HTA := Lib.hid hta
      clear hS1 hta
      cases hN : (S == [110, 117, 108, 108])
      · skip
        go_wp2_with (first | go_skip | (refine wpList_load_mg 35 _ rfl (by kernel_rfl) w.heap.size 24 rfl q.o.cells (q_org Hq.out) Tryz.underlying35 rfl (by kernel_rfl) ?_))
        refine (Show_o_c q.o _ (OK.out _ HB.out).o (HG.out.below HB.out)).mono ?_
        rw [HSH.out]
        rintro e V71 ⟨rfl, hb⟩
        replace HB := Lib.hid (b_then HB.out hb)
        replace Hq := Lib.hid (obj_b hb Hq.out)
        clear hb
        have c42 : V71.cell? ⟨w.heap.size, 42, none⟩ = some (.bool false) := by rw [Lib.cell_of_heap Hq.out, ← HTA.out]; rfl
        go_wp2_with (first | go_skip | (refine wpList_load_g 45 _ rfl (by kernel_rfl) w.heap.size rfl Hq.out Tryz.underlying45 rfl (by kernel_rfl) ?_))
        refine (Quiet_c q _ (OK.out _ HB.out) (HG.out.below HB.out)).mono ?_
        rw [HZ.out]
        rintro e V72 ⟨rfl, hb⟩
        replace HB := Lib.hid (b_then HB.out hb)
        replace Hq := Lib.hid (obj_b hb Hq.out)
        clear hb
        go_wp2
        go_ret
        exact ⟨rfl, HB.out⟩
      · skip
        go_wp2_with (first | go_skip | (refine wpList_load_g 45 _ rfl (by kernel_rfl) w.heap.size rfl Hq.out Tryz.underlying45 rfl (by kernel_rfl) ?_))
        refine (Quiet_c q _ (OK.out _ HB.out) (HG.out.below HB.out)).mono ?_
        rw [HZ.out]
        rintro e V81 ⟨rfl, hb⟩
        replace HB := Lib.hid (b_then HB.out hb)
        replace Hq := Lib.hid (obj_b hb Hq.out)
        clear hb
        go_wp2
        go_ret
        exact ⟨rfl, HB.out⟩
  · skip
    cases hcr : q.cr
    · have hG : (q.me == [71, 69, 84]) = false := by
        have h := HH.out
        rw [hcr] at h
        simpa using h
      have HCR := Lib.hid hcr
      clear hcr
      go_wp2_with fail
      refine wp_region_noPanic ?_
      refine wp_region_held_drew (S := fun W' => QAt w.heap.size q w W') (by kernel_rfl) (QAt.below ⟨Hq.out, HB.out⟩ (b_drew (Below.refl _ _))) (fun hS0 => ?_)
      refine wpAnyH_take (i := 0) (v := ?_) rfl (by kernel_rfl) (by kernel_rfl) (by kernel_rfl) (fun _ _ _ h => h) (Or.inl ⟨by kernel_rfl, fun W hW => ?_⟩) (by assumption) ?_
      rotate_left
      · go_simp
        try with_reducible rfl
      (try simp only [List.getElem_toArray, List.getElem_cons_zero, List.getElem_cons_succ, Act.put, List.setIfInBounds_toArray, List.set_cons_zero, List.set_cons_succ])
      refine wpAnyH_take (i := 1) (v := ?_) rfl (by kernel_rfl) (by kernel_rfl) (by kernel_rfl) (fun _ _ _ h => h) (Or.inl ⟨by kernel_rfl, fun W hW => ?_⟩) (by assumption) ?_
      rotate_left
      · refine yield_mid 35 (.tmp 41) ?_ w.heap.size 24 ?_ q.o.cells (q_org hW.hq) Tryz.underlying35 rfl (by kernel_rfl)
        · rfl
        · rfl
      (try simp only [List.getElem_toArray, List.getElem_cons_zero, List.getElem_cons_succ, Act.put, List.setIfInBounds_toArray, List.set_cons_zero, List.set_cons_succ])
      refine wpAnyH_take (i := 2) (v := ?_) rfl (by kernel_rfl) (by kernel_rfl) (by kernel_rfl) (fun _ _ _ h => h) (Or.inl ⟨by kernel_rfl, fun W hW => ?_⟩) (by assumption) ?_
      rotate_left
      · go_simp
        try with_reducible rfl
      (try simp only [List.getElem_toArray, List.getElem_cons_zero, List.getElem_cons_succ, Act.put, List.setIfInBounds_toArray, List.set_cons_zero, List.set_cons_succ])
      refine wpAnyH_take (i := 3) (v := ?_) rfl (by kernel_rfl) (by kernel_rfl) (by kernel_rfl) (fun _ _ _ h => h) (Or.inl ⟨by kernel_rfl, fun W hW => ?_⟩) (by assumption) ?_
      rotate_left
      · refine yield_mid 27 (.tmp 43) ?_ w.heap.size 0 ?_ q.u.cells (q_url hW.hq) Tryz.underlying27 rfl (by kernel_rfl)
        · rfl
        · rfl
      (try simp only [List.getElem_toArray, List.getElem_cons_zero, List.getElem_cons_succ, Act.put, List.setIfInBounds_toArray, List.set_cons_zero, List.set_cons_succ])
      refine wpAnyH_ready (rs := [4]) (by kernel_rfl) (by simp) ?_
      refine AllReadyH.cons rfl (fun K hK => ?_) AllReadyH.nil
      go_simp
      refine (Of_c q.u _ (OK.out _ hS0.be).u (HG.out.below hS0.be)).mono ?_
      rintro e U3 ⟨rfl, hb⟩
      have hSn := hS0.below hb
      clear hb hS0
      refine hK.out _ _ hSn (fun _ => ?_)
      clear hK K
      (try simp only [List.getElem_toArray, List.getElem_cons_zero, List.getElem_cons_succ, Act.put, List.setIfInBounds_toArray, List.set_cons_zero, List.set_cons_succ])
      refine wpAnyH_ready (rs := [5]) (by kernel_rfl) (by simp) ?_
      refine AllReadyH.cons rfl (fun K hK => ?_) AllReadyH.nil
      go_simp
      refine (Same_o_c q.o (ofOV q.u) _ OO.out (HG.out.below hSn.be)).mono ?_
      rw [HM.out]
      rintro e U4 ⟨rfl, hb⟩
      replace hSn := hSn.below hb
      clear hb
      refine hK.out _ _ hSn (fun _ => ?_)
      clear hK K
      (try simp only [List.getElem_toArray, List.getElem_cons_zero, List.getElem_cons_succ, Act.put, List.setIfInBounds_toArray, List.set_cons_zero, List.set_cons_succ])
      refine wpAnyH_take (i := 6) (v := ?_) rfl (by kernel_rfl) (by kernel_rfl) (by kernel_rfl) (fun _ _ _ h => h) (Or.inl ⟨by kernel_rfl, fun W hW => ?_⟩) (by assumption) ?_
      rotate_left
      · go_simp
        try with_reducible rfl
      (try simp only [List.getElem_toArray, List.getElem_cons_zero, List.getElem_cons_succ, Act.put, List.setIfInBounds_toArray, List.set_cons_zero, List.set_cons_succ])
      refine wpAnyH_take (i := 7) (v := ?_) rfl (by kernel_rfl) (by kernel_rfl) (by kernel_rfl) (fun _ _ _ h => h) (Or.inl ⟨by kernel_rfl, fun W hW => ?_⟩) (by assumption) ?_
      rotate_left
      · go_simp
        try with_reducible rfl
      (try simp only [List.getElem_toArray, List.getElem_cons_zero, List.getElem_cons_succ, Act.put, List.setIfInBounds_toArray, List.set_cons_zero, List.set_cons_succ])
      refine wpAnyH_take (i := 8) (v := ?_) rfl (by kernel_rfl) (by kernel_rfl) (by kernel_rfl) (fun _ _ _ h => h) (Or.inl ⟨by kernel_rfl, fun W hW => ?_⟩) (by assumption) ?_
      rotate_left
      · have c43 : W.cell? ⟨w.heap.size, 43, none⟩ = some (.bool false) := by rw [Lib.cell_of_heap hW.hq, show QV.cells q = QV.cells { q with cr := false } from by rw [← HCR.out]]; rfl
        have c21 : W.cell? ⟨w.heap.size, 21, none⟩ = some (.string (mkS q.me)) := by rw [Lib.cell_of_heap hW.hq]; rfl
        go_simp
        try with_reducible rfl
      (try simp only [List.getElem_toArray, List.getElem_cons_zero, List.getElem_cons_succ, Act.put, List.setIfInBounds_toArray, List.set_cons_zero, List.set_cons_succ])
      refine wpAnyH_take (i := 9) (v := ?_) rfl (by kernel_rfl) (by kernel_rfl) (by kernel_rfl) (fun _ _ _ h => h) (Or.inl ⟨by kernel_rfl, fun W hW => ?_⟩) (by assumption) ?_
      rotate_left
      · go_simp
        try with_reducible rfl
      (try simp only [List.getElem_toArray, List.getElem_cons_zero, List.getElem_cons_succ, Act.put, List.setIfInBounds_toArray, List.set_cons_zero, List.set_cons_succ])
      refine wpAnyH_take (i := 10) (v := ?_) rfl (by kernel_rfl) (by kernel_rfl) (by kernel_rfl) (fun _ _ _ h => h) (Or.inl ⟨by kernel_rfl, fun W hW => ?_⟩) (by assumption) ?_
      rotate_left
      · go_simp
        try with_reducible rfl
      (try simp only [List.getElem_toArray, List.getElem_cons_zero, List.getElem_cons_succ, Act.put, List.setIfInBounds_toArray, List.set_cons_zero, List.set_cons_succ])
      refine wpAnyH_take (i := 11) (v := ?_) rfl (by kernel_rfl) (by kernel_rfl) (by kernel_rfl) (fun _ _ _ h => h) (Or.inl ⟨by kernel_rfl, fun W hW => ?_⟩) (by assumption) ?_
      rotate_left
      · go_simp
        try with_reducible rfl
      (try simp only [List.getElem_toArray, List.getElem_cons_zero, List.getElem_cons_succ, Act.put, List.setIfInBounds_toArray, List.set_cons_zero, List.set_cons_succ])
      refine wpAnyH_take (i := 12) (v := ?_) rfl (by kernel_rfl) (by kernel_rfl) (by kernel_rfl) (fun _ _ _ h => h) (Or.inl ⟨by kernel_rfl, fun W hW => ?_⟩) (by assumption) ?_
      rotate_left
      · go_simp
        try with_reducible rfl
      (try simp only [List.getElem_toArray, List.getElem_cons_zero, List.getElem_cons_succ, Act.put, List.setIfInBounds_toArray, List.set_cons_zero, List.set_cons_succ])
      refine wpAnyH_take (i := 13) (v := ?_) rfl (by kernel_rfl) (by kernel_rfl) (by kernel_rfl) (fun _ _ _ h => h) (Or.inl ⟨by kernel_rfl, fun W hW => ?_⟩) (by assumption) ?_
      rotate_left
      · have c43 : W.cell? ⟨w.heap.size, 43, none⟩ = some (.bool false) := by rw [Lib.cell_of_heap hW.hq, show QV.cells q = QV.cells { q with cr := false } from by rw [← HCR.out]]; rfl
        have c21 : W.cell? ⟨w.heap.size, 21, none⟩ = some (.string (mkS q.me)) := by rw [Lib.cell_of_heap hW.hq]; rfl
        go_simp
        try with_reducible rfl
      (try simp only [List.getElem_toArray, List.getElem_cons_zero, List.getElem_cons_succ, Act.put, List.setIfInBounds_toArray, List.set_cons_zero, List.set_cons_succ])
      refine wpAnyH_take (i := 14) (v := ?_) rfl (by kernel_rfl) (by kernel_rfl) (by kernel_rfl) (fun _ _ _ h => h) (Or.inl ⟨by kernel_rfl, fun W hW => ?_⟩) (by assumption) ?_
      rotate_left
      · go_simp
        try with_reducible rfl
      (try simp only [List.getElem_toArray, List.getElem_cons_zero, List.getElem_cons_succ, Act.put, List.setIfInBounds_toArray, List.set_cons_zero, List.set_cons_succ])
      refine wpAnyH_take (i := 15) (v := ?_) rfl (by kernel_rfl) (by kernel_rfl) (by kernel_rfl) (fun _ _ _ h => h) (Or.inl ⟨by kernel_rfl, fun W hW => ?_⟩) (by assumption) ?_
      rotate_left
      · go_simp
        try with_reducible rfl
      (try simp only [List.getElem_toArray, List.getElem_cons_zero, List.getElem_cons_succ, Act.put, List.setIfInBounds_toArray, List.set_cons_zero, List.set_cons_succ])
      refine wpAnyH_take (i := 16) (v := ?_) rfl (by kernel_rfl) (by kernel_rfl) (by kernel_rfl) (fun _ _ _ h => h) (Or.inl ⟨by kernel_rfl, fun W hW => ?_⟩) (by assumption) ?_
      rotate_left
      · go_simp
        try with_reducible rfl
      (try simp only [List.getElem_toArray, List.getElem_cons_zero, List.getElem_cons_succ, Act.put, List.setIfInBounds_toArray, List.set_cons_zero, List.set_cons_succ])
      refine wpAnyH_done (by kernel_rfl) ?_ _
      refine NoPanic.normal ?_
      replace Hq := Lib.hid hSn.hq
      replace HB := Lib.hid hSn.be
      clear hSn
      rcases hS0 with rfl | ⟨hS1, hta⟩
      · skip
        go_wp2_with (first | go_skip | (refine wpList_load_g 45 _ rfl (by kernel_rfl) w.heap.size rfl Hq.out Tryz.underlying45 rfl (by kernel_rfl) ?_))
        refine (Quiet_c q _ (OK.out _ HB.out) (HG.out.below HB.out)).mono ?_
        rw [HZ.out]
        rintro e V61 ⟨rfl, hb⟩
        replace HB := Lib.hid (b_then HB.out hb)
        replace Hq := Lib.hid (obj_b hb Hq.out)
        clear hb
        go_wp2
        go_ret
        exact ⟨rfl, HB.out⟩
      · have HSH := Lib.hid hS1
        have HTA := Lib.hid hta
        clear hS1 hta
        cases hN : (S == [110, 117, 108, 108])
        · skip
          go_wp2_with (first | go_skip | (refine wpList_load_mg 35 _ rfl (by kernel_rfl) w.heap.size 24 rfl q.o.cells (q_org Hq.out) Tryz.underlying35 rfl (by kernel_rfl) ?_))
          refine (Show_o_c q.o _ (OK.out _ HB.out).o (HG.out.below HB.out)).mono ?_
          rw [HSH.out]
          rintro e V71 ⟨rfl, hb⟩
          replace HB := Lib.hid (b_then HB.out hb)
          replace Hq := Lib.hid (obj_b hb Hq.out)
          clear hb
          have c42 : V71.cell? ⟨w.heap.size, 42, none⟩ = some (.bool false) := by rw [Lib.cell_of_heap Hq.out, ← HTA.out]; rfl
          go_wp2_with (first | go_skip | (refine wpList_load_g 45 _ rfl (by kernel_rfl) w.heap.size rfl Hq.out Tryz.underlying45 rfl (by kernel_rfl) ?_))
          refine (Quiet_c q _ (OK.out _ HB.out) (HG.out.below HB.out)).mono ?_
          rw [HZ.out]
          rintro e V72 ⟨rfl, hb⟩
          replace HB := Lib.hid (b_then HB.out hb)
          replace Hq := Lib.hid (obj_b hb Hq.out)
          clear hb
          go_wp2
          go_ret
          exact ⟨rfl, HB.out⟩
        · skip
          go_wp2_with (first | go_skip | (refine wpList_load_g 45 _ rfl (by kernel_rfl) w.heap.size rfl Hq.out Tryz.underlying45 rfl (by kernel_rfl) ?_))
          refine (Quiet_c q _ (OK.out _ HB.out) (HG.out.below HB.out)).mono ?_
          rw [HZ.out]
          rintro e V81 ⟨rfl, hb⟩
          replace HB := Lib.hid (b_then HB.out hb)
          replace Hq := Lib.hid (obj_b hb Hq.out)
          clear hb
          go_wp2
          go_ret
          exact ⟨rfl, HB.out⟩
    · have HCR := Lib.hid hcr
      clear hcr
      go_wp2_with fail
      refine wp_region_noPanic ?_
      refine wp_region_held_drew (S := fun W' => QAt w.heap.size q w W') (by kernel_rfl) (QAt.below ⟨Hq.out, HB.out⟩ (b_drew (Below.refl _ _))) (fun hS0 => ?_)
      refine wpAnyH_take (i := 0) (v := ?_) rfl (by kernel_rfl) (by kernel_rfl) (by kernel_rfl) (fun _ _ _ h => h) (Or.inl ⟨by kernel_rfl, fun W hW => ?_⟩) (by assumption) ?_
      rotate_left
      · go_simp
        try with_reducible rfl
      (try simp only [List.getElem_toArray, List.getElem_cons_zero, List.getElem_cons_succ, Act.put, List.setIfInBounds_toArray, List.set_cons_zero, List.set_cons_succ])
      refine wpAnyH_take (i := 1) (v := ?_) rfl (by kernel_rfl) (by kernel_rfl) (by kernel_rfl) (fun _ _ _ h => h) (Or.inl ⟨by kernel_rfl, fun W hW => ?_⟩) (by assumption) ?_
      rotate_left
      · refine yield_mid 35 (.tmp 41) ?_ w.heap.size 24 ?_ q.o.cells (q_org hW.hq) Tryz.underlying35 rfl (by kernel_rfl)
        · rfl
        · rfl
      (try simp only [List.getElem_toArray, List.getElem_cons_zero, List.getElem_cons_succ, Act.put, List.setIfInBounds_toArray, List.set_cons_zero, List.set_cons_succ])
      refine wpAnyH_take (i := 2) (v := ?_) rfl (by kernel_rfl) (by kernel_rfl) (by kernel_rfl) (fun _ _ _ h => h) (Or.inl ⟨by kernel_rfl, fun W hW => ?_⟩) (by assumption) ?_
      rotate_left
      · go_simp
        try with_reducible rfl
      (try simp only [List.getElem_toArray, List.getElem_cons_zero, List.getElem_cons_succ, Act.put, List.setIfInBounds_toArray, List.set_cons_zero, List.set_cons_succ])
      refine wpAnyH_take (i := 3) (v := ?_) rfl (by kernel_rfl) (by kernel_rfl) (by kernel_rfl) (fun _ _ _ h => h) (Or.inl ⟨by kernel_rfl, fun W hW => ?_⟩) (by assumption) ?_
      rotate_left
      · refine yield_mid 27 (.tmp 43) ?_ w.heap.size 0 ?_ q.u.cells (q_url hW.hq) Tryz.underlying27 rfl (by kernel_rfl)
        · rfl
        · rfl
      (try simp only [List.getElem_toArray, List.getElem_cons_zero, List.getElem_cons_succ, Act.put, List.setIfInBounds_toArray, List.set_cons_zero, List.set_cons_succ])
      refine wpAnyH_ready (rs := [4]) (by kernel_rfl) (by simp) ?_
      refine AllReadyH.cons rfl (fun K hK => ?_) AllReadyH.nil
      go_simp
      refine (Of_c q.u _ (OK.out _ hS0.be).u (HG.out.below hS0.be)).mono ?_
      rintro e U5 ⟨rfl, hb⟩
      have hSn := hS0.below hb
      clear hb hS0
      refine hK.out _ _ hSn (fun _ => ?_)
      clear hK K
      (try simp only [List.getElem_toArray, List.getElem_cons_zero, List.getElem_cons_succ, Act.put, List.setIfInBounds_toArray, List.set_cons_zero, List.set_cons_succ])
      refine wpAnyH_ready (rs := [5]) (by kernel_rfl) (by simp) ?_
      refine AllReadyH.cons rfl (fun K hK => ?_) AllReadyH.nil
      go_simp
      refine (Same_o_c q.o (ofOV q.u) _ OO.out (HG.out.below hSn.be)).mono ?_
      rw [HM.out]
      rintro e U6 ⟨rfl, hb⟩
      replace hSn := hSn.below hb
      clear hb
      refine hK.out _ _ hSn (fun _ => ?_)
      clear hK K
      (try simp only [List.getElem_toArray, List.getElem_cons_zero, List.getElem_cons_succ, Act.put, List.setIfInBounds_toArray, List.set_cons_zero, List.set_cons_succ])
      refine wpAnyH_take (i := 6) (v := ?_) rfl (by kernel_rfl) (by kernel_rfl) (by kernel_rfl) (fun _ _ _ h => h) (Or.inl ⟨by kernel_rfl, fun W hW => ?_⟩) (by assumption) ?_
      rotate_left
      · go_simp
        try with_reducible rfl
      (try simp only [List.getElem_toArray, List.getElem_cons_zero, List.getElem_cons_succ, Act.put, List.setIfInBounds_toArray, List.set_cons_zero, List.set_cons_succ])
      refine wpAnyH_take (i := 7) (v := ?_) rfl (by kernel_rfl) (by kernel_rfl) (by kernel_rfl) (fun _ _ _ h => h) (Or.inl ⟨by kernel_rfl, fun W hW => ?_⟩) (by assumption) ?_
      rotate_left
      · go_simp
        try with_reducible rfl
      (try simp only [List.getElem_toArray, List.getElem_cons_zero, List.getElem_cons_succ, Act.put, List.setIfInBounds_toArray, List.set_cons_zero, List.set_cons_succ])
      refine wpAnyH_take (i := 8) (v := ?_) rfl (by kernel_rfl) (by kernel_rfl) (by kernel_rfl) (fun _ _ _ h => h) (Or.inl ⟨by kernel_rfl, fun W hW => ?_⟩) (by assumption) ?_
      rotate_left
      · have c43 : W.cell? ⟨w.heap.size, 43, none⟩ = some (.bool true) := by rw [Lib.cell_of_heap hW.hq, show QV.cells q = QV.cells { q with cr := true } from by rw [← HCR.out]]; rfl
        have c21 : W.cell? ⟨w.heap.size, 21, none⟩ = some (.string (mkS q.me)) := by rw [Lib.cell_of_heap hW.hq]; rfl
        go_simp
        try with_reducible rfl
      (try simp only [List.getElem_toArray, List.getElem_cons_zero, List.getElem_cons_succ, Act.put, List.setIfInBounds_toArray, List.set_cons_zero, List.set_cons_succ])
      refine wpAnyH_take (i := 9) (v := ?_) rfl (by kernel_rfl) (by kernel_rfl) (by kernel_rfl) (fun _ _ _ h => h) (Or.inl ⟨by kernel_rfl, fun W hW => ?_⟩) (by assumption) ?_
      rotate_left
      · go_simp
        try with_reducible rfl
      (try simp only [List.getElem_toArray, List.getElem_cons_zero, List.getElem_cons_succ, Act.put, List.setIfInBounds_toArray, List.set_cons_zero, List.set_cons_succ])
      refine wpAnyH_take (i := 10) (v := ?_) rfl (by kernel_rfl) (by kernel_rfl) (by kernel_rfl) (fun _ _ _ h => h) (Or.inl ⟨by kernel_rfl, fun W hW => ?_⟩) (by assumption) ?_
      rotate_left
      · go_simp
        try with_reducible rfl
      (try simp only [List.getElem_toArray, List.getElem_cons_zero, List.getElem_cons_succ, Act.put, List.setIfInBounds_toArray, List.set_cons_zero, List.set_cons_succ])
      refine wpAnyH_take (i := 11) (v := ?_) rfl (by kernel_rfl) (by kernel_rfl) (by kernel_rfl) (fun _ _ _ h => h) (Or.inl ⟨by kernel_rfl, fun W hW => ?_⟩) (by assumption) ?_
      rotate_left
      · go_simp
        try with_reducible rfl
      (try simp only [List.getElem_toArray, List.getElem_cons_zero, List.getElem_cons_succ, Act.put, List.setIfInBounds_toArray, List.set_cons_zero, List.set_cons_succ])
      refine wpAnyH_take (i := 12) (v := undef) rfl (by kernel_rfl) (by kernel_rfl) (by kernel_rfl) (fun _ _ _ h => h) (Or.inr ⟨by kernel_rfl, rfl⟩) (by assumption) ?_
      (try simp only [List.getElem_toArray, List.getElem_cons_zero, List.getElem_cons_succ, Act.put, List.setIfInBounds_toArray, List.set_cons_zero, List.set_cons_succ])
      refine wpAnyH_take (i := 13) (v := undef) rfl (by kernel_rfl) (by kernel_rfl) (by kernel_rfl) (fun _ _ _ h => h) (Or.inr ⟨by kernel_rfl, rfl⟩) (by assumption) ?_
      (try simp only [List.getElem_toArray, List.getElem_cons_zero, List.getElem_cons_succ, Act.put, List.setIfInBounds_toArray, List.set_cons_zero, List.set_cons_succ])
      refine wpAnyH_take (i := 14) (v := undef) rfl (by kernel_rfl) (by kernel_rfl) (by kernel_rfl) (fun _ _ _ h => h) (Or.inr ⟨by kernel_rfl, rfl⟩) (by assumption) ?_
      (try simp only [List.getElem_toArray, List.getElem_cons_zero, List.getElem_cons_succ, Act.put, List.setIfInBounds_toArray, List.set_cons_zero, List.set_cons_succ])
      refine wpAnyH_take (i := 15) (v := ?_) rfl (by kernel_rfl) (by kernel_rfl) (by kernel_rfl) (fun _ _ _ h => h) (Or.inl ⟨by kernel_rfl, fun W hW => ?_⟩) (by assumption) ?_
      rotate_left
      · go_simp
        try with_reducible rfl
      (try simp only [List.getElem_toArray, List.getElem_cons_zero, List.getElem_cons_succ, Act.put, List.setIfInBounds_toArray, List.set_cons_zero, List.set_cons_succ])
      refine wpAnyH_take (i := 16) (v := ?_) rfl (by kernel_rfl) (by kernel_rfl) (by kernel_rfl) (fun _ _ _ h => h) (Or.inl ⟨by kernel_rfl, fun W hW => ?_⟩) (by assumption) ?_
      rotate_left
      · go_simp
        try with_reducible rfl
      (try simp only [List.getElem_toArray, List.getElem_cons_zero, List.getElem_cons_succ, Act.put, List.setIfInBounds_toArray, List.set_cons_zero, List.set_cons_succ])
      refine wpAnyH_done (by kernel_rfl) ?_ _
      refine NoPanic.normal ?_
      replace Hq := Lib.hid hSn.hq
      replace HB := Lib.hid hSn.be
      clear hSn
      rcases hS0 with rfl | ⟨hS1, hta⟩
      · skip
        go_wp2_with (first | go_skip | (refine wpList_load_g 45 _ rfl (by kernel_rfl) w.heap.size rfl Hq.out Tryz.underlying45 rfl (by kernel_rfl) ?_))
        refine (Quiet_c q _ (OK.out _ HB.out) (HG.out.below HB.out)).mono ?_
        rw [HZ.out]
        rintro e V61 ⟨rfl, hb⟩
        replace HB := Lib.hid (b_then HB.out hb)
        replace Hq := Lib.hid (obj_b hb Hq.out)
        clear hb
        go_wp2
        go_ret
        exact ⟨rfl, HB.out⟩
      · have HSH := Lib.hid hS1
        have HTA := Lib.hid hta
        clear hS1 hta
        cases hN : (S == [110, 117, 108, 108])
        · skip
          go_wp2_with (first | go_skip | (refine wpList_load_mg 35 _ rfl (by kernel_rfl) w.heap.size 24 rfl q.o.cells (q_org Hq.out) Tryz.underlying35 rfl (by kernel_rfl) ?_))
          refine (Show_o_c q.o _ (OK.out _ HB.out).o (HG.out.below HB.out)).mono ?_
          rw [HSH.out]
          rintro e V71 ⟨rfl, hb⟩
          replace HB := Lib.hid (b_then HB.out hb)
          replace Hq := Lib.hid (obj_b hb Hq.out)
          clear hb
          have c42 : V71.cell? ⟨w.heap.size, 42, none⟩ = some (.bool false) := by rw [Lib.cell_of_heap Hq.out, ← HTA.out]; rfl
          go_wp2_with (first | go_skip | (refine wpList_load_g 45 _ rfl (by kernel_rfl) w.heap.size rfl Hq.out Tryz.underlying45 rfl (by kernel_rfl) ?_))
          refine (Quiet_c q _ (OK.out _ HB.out) (HG.out.below HB.out)).mono ?_
          rw [HZ.out]
          rintro e V72 ⟨rfl, hb⟩
          replace HB := Lib.hid (b_then HB.out hb)
          replace Hq := Lib.hid (obj_b hb Hq.out)
          clear hb
          go_wp2
          go_ret
          exact ⟨rfl, HB.out⟩
        · skip
          go_wp2_with (first | go_skip | (refine wpList_load_g 45 _ rfl (by kernel_rfl) w.heap.size rfl Hq.out Tryz.underlying45 rfl (by kernel_rfl) ?_))
          refine (Quiet_c q _ (OK.out _ HB.out) (HG.out.below HB.out)).mono ?_
          rw [HZ.out]
          rintro e V81 ⟨rfl, hb⟩
          replace HB := Lib.hid (b_then HB.out hb)
          replace Hq := Lib.hid (obj_b hb Hq.out)
          clear hb
          go_wp2
          go_ret
          exact ⟨rfl, HB.out⟩
end Go.Proofs.YtlcckikfmlhgjaaGreatDoor
/-! The row of TaintNull. -/
namespace Go.Proofs.YtlcckikfmlhgjaaGreatDoor
open Go.ChangeShapes Go.WideShapes Go.ChangeAt Go.RowKit
open Go.WideMaps Go.WideElems
open Go.ChangeMaps (open_string shut_string)
theorem taintNull_reads (os : Os) {H : Type} (enc : TypeId × Value → H) : ∃ x, DataW.whole enc Tryz.prog ((laidWorld os).forCall (fun _ _ => 0) ⟨#[], #[.agg zreq], []⟩).memory Tryz.f9.params.toList Rows.taintNullSpec.vars false (#[.agg zreq] : Array Value).toList 8 = some x :=
  Option.isSome_iff_exists.1 (by kernel_rfl)
set_option maxRecDepth 100000 in
theorem taintNull_lifted (os : Os) (started : os.Started) (H : Type) (enc : TypeId × Value → H) (F : Stop.Interp) :
    ReturnsInHanded {} Tryz.checked os 9 .any ((OpenSpec.ofChange Rows.taintNullSpec).preRow enc Tryz.prog Tryz.f9 Rows.taintNullRow.domain false Rows.taintNullRow.laid) (((OpenSpec.ofChange Rows.taintNullSpec).at F).post enc Tryz.prog Tryz.f9 false true false false) := by
  obtain ⟨x, hx⟩ := taintNull_reads os enc
  refine returnsInHanded_of_row (C := Tryz.checked) (s := OpenSpec.ofChange Rows.taintNullSpec) own started (by kernel_rfl) Tryz.func9
    (witness_row_atRef (enc := enc) (C := Tryz.checked) false (laidWorld os) #[.agg zreq] rfl (by kernel_rfl) (by kernel_rfl) (by kernel_rfl)
      (OpenSpec.preRow_of_cond 8 hx rfl (fun k hk => by cases hk) (by kernel_rfl) (laid_met os _))) ?_
  intro W base args ds gs before hval0 hW _ _ _ hL hsh _
  have hval : ∀ (j : Nat) t v, Tryz.f9.params[j]? = some t → args[j]? = some v → Value.okWide Tryz.prog W .any base t v := hval0
  have hW' := hW
  obtain ⟨p, q, hA0, hV, rfl, hfz, hnd⟩ := hW
  have hA : DataW.TrodAll enc Tryz.prog W 0 (fun _ => true) true Tryz.f9.params.toList args.toList ds p := hA0
  rw [Tryz.params9] at hA hval
  obtain ⟨v0, d0, rfl, rfl, h0⟩ := trodAll_one hA
  obtain ⟨rfl, rfl⟩ := trodVars_none hV
  simp only [List.append_nil] at hfz hnd hW'
  have hlt : ∀ x ∈ p, x.block < W.heap.size := fun x hx => hW'.lt x hx
  have h0k := h0
  obtain ⟨q0, rfl, hr0, hf0⟩ := open_req (hval 0 45 v0 rfl rfl) h0
  refine (TaintNull_c q0 W hr0 hf0 (gl_of hsh) (tabs_laid hL)).mono fun e W' ⟨he, hb⟩ => ?_
  subst he
  refine ⟨_, rfl, _, _, _, [], p, [], hW', ?_, ?_, ?_, hb.frame _, fun h => by cases h⟩
  · exact trodAll_mk1 (shut_bool Tryz.underlying4 _)
  · exact trodAll_mk1 (Below.trod laidOut (by kernel_rfl) (of_decide_eq_true (by kernel_rfl)) h0k hb hlt)
  · rfl
theorem taintNull_k0 : Rows.taintNullRow.wf (OpenSpec.ofChange (OpenSpec.ofChange Rows.taintNullSpec).bare) = true := by kernel_rfl
theorem taintNull_k3 : Tryz.f9.params.all (PP.readableRec ·) = true := by kernel_rfl
theorem taintNull_k4 : namedTie PP Rows.taintNullRow.named (OpenSpec.ofChange Rows.taintNullSpec).bare.vars = true := by kernel_rfl
theorem taintNull_k5 : (Rows.taintNullRow.stops == []) = true := by kernel_rfl
theorem taintNull_k7 : (Rows.taintNullRow.knobs == []) = true := by kernel_rfl
theorem taintNull_k9 : (Rows.taintNullRow.inPlace == PP.inPlace 9) = true := by kernel_rfl
theorem taintNull_k10 : (Rows.taintNullRow.unfollowed == PP.unfollowed 9) = true := by kernel_rfl
theorem taintNull_k11 : (Rows.taintNullRow.recurses == PP.recurses 9) = true := by kernel_rfl
theorem taintNull_k12 : (Rows.taintNullRow.named == PP.varsNamed 9) = true := by kernel_rfl
theorem taintNull_k13 : (Rows.taintNullRow.maps == (Tryz.f9.params.toList ++ (OpenSpec.ofChange Rows.taintNullSpec).bare.plain.varTypes PP).any (PP.mapsRec ·)) = true := by kernel_rfl
theorem taintNull_k14 : (Rows.taintNullRow.ifaces == (Tryz.f9.params.toList ++ (OpenSpec.ofChange Rows.taintNullSpec).bare.plain.varTypes PP).any (PP.ifacesRec ·)) = true := by kernel_rfl
theorem taintNull_k15 : (Rows.taintNullRow.mapsOut == PP.mapsAmong Tryz.f9.resultTypes.toList) = true := by kernel_rfl
theorem taintNull_k16 : (Rows.taintNullRow.loops == (Tryz.f9.params.toList ++ (OpenSpec.ofChange Rows.taintNullSpec).bare.plain.varTypes PP).any (PP.loopsFrom ·)) = true := by kernel_rfl
theorem taintNull_k17 : (Rows.taintNullRow.wideKeys == (Tryz.f9.params.toList ++ (OpenSpec.ofChange Rows.taintNullSpec).bare.plain.varTypes PP ++ Tryz.f9.resultTypes.toList).any (PP.wideKeysFrom ·)) = true := by kernel_rfl
theorem taintNull_k18 : (OpenSpec.ofChange Rows.taintNullSpec).bare.vars.all (PP.varReadable ·) = true := by kernel_rfl
theorem taintNull_k19 : Tryz.f9.resultTypes.all (fun t => PP.readableRec t && decide (t < PP.types.size)) = true := by kernel_rfl
theorem taintNull_k20 : (Rows.taintNullRow.ifacesOut == Tryz.f9.resultTypes.toList.any (PP.ifacesRec ·)) = true := by kernel_rfl
theorem taintNull_k21 : (Rows.taintNullRow.loopsOut == Tryz.f9.resultTypes.toList.any (PP.loopsFrom ·)) = true := by kernel_rfl
theorem taintNull_k23 : Rows.taintNullRow.shortTexts.isNone = true := by kernel_rfl
theorem taintNull_k28 : (Rows.taintNullRow.kinds == (if Rows.taintNullRow.domain.isEmpty then [] else Tryz.f9.params.toList.map fun t => match PP.underlying t with | some (.int k) => some k | _ => none)) = true := by kernel_rfl
theorem taintNull_k29 : (Rows.taintNullRow.pinned == Rows.taintNullRow.pinnedBy) = true := by kernel_rfl
theorem taintNull_k30 : (Rows.taintNullRow.veiled == (Tryz.f9.params.toList ++ (OpenSpec.ofChange Rows.taintNullSpec).bare.plain.varTypes PP ++ Tryz.f9.resultTypes.toList).any (PP.veiledRec ·)) = true := by kernel_rfl
theorem taintNull_k31 : Rows.taintNullRow.veiledFits PP Tryz.f9.params.toList (Tryz.f9.params.toList ++ (OpenSpec.ofChange Rows.taintNullSpec).bare.plain.varTypes PP ++ Tryz.f9.resultTypes.toList) = true := by kernel_rfl
set_option maxRecDepth 100000 in
theorem taintNull_closed : joinedFacts PP 9 Tryz.f9 (OpenSpec.ofChange Rows.taintNullSpec).bare Rows.taintNullRow = true := and2 (and2 (and2 (and2 (and2 (and2 (and2 (and2 (and2 (and2 (and2 (and2 (and2 (and2 (and2 (and2 (and2 (and2 (and2 (and2 (and2 (and2 (and2 (and2 (and2 (and2 (and2 (and2 (and2 (and2 (and2 (taintNull_k0) j_laidOut) j_rowed) taintNull_k3) taintNull_k4) taintNull_k5) j_stops) taintNull_k7) j_knobs) taintNull_k9) taintNull_k10) taintNull_k11) taintNull_k12) taintNull_k13) taintNull_k14) taintNull_k15) taintNull_k16) taintNull_k17) taintNull_k18) taintNull_k19) taintNull_k20) taintNull_k21) j_plain) taintNull_k23) j_heard) j_enter) j_lift) j_make) taintNull_k28) taintNull_k29) taintNull_k30) taintNull_k31
theorem taintNull_named : Tryz.pinned.checked.prog.funcNamed Rows.taintNullRow.func = some 9 := by kernel_rfl
theorem taintNull_text : Rows.taintNullRow.wfByText (OpenSpec.ofChange Rows.taintNullSpec) = true := by kernel_rfl
theorem taintNull_goes : false = Rows.taintNullRow.goesBy Tryz.pinned.checked.prog := by kernel_rfl
theorem taintNull_said : Rows.TaintNullSaid :=
  OpenClaim.holds_of_cond 9 Tryz.f9 rfl rfl rfl rfl rfl rfl rfl ⟨rfl, rfl, rfl, rfl, rfl⟩ rfl rfl rfl rfl rfl taintNull_named Tryz.func9 taintNull_closed
    (of_decide_eq_true (by kernel_rfl)) (by unfold Func.isWrapper; first | (rw [if_pos (by decide +kernel)]; kernel_rfl) | (rw [if_neg (by decide +kernel)]; exact ⟨rfl, rfl⟩))
    (fun os started H enc _ F => by rw [OpenClaim.pre_eq_preRow]; exact taintNull_lifted os started H enc F)
theorem taintNull_plain (f : FuncId) (fn : Func) (hf : Tryz.pinned.checked.prog.funcNamed "postmark/postmarklaw19.TaintNull" = some f) (hfn : Tryz.pinned.checked.prog.funcs[f]? = some fn) :
    true = Tryz.pinned.checked.prog.looks [] ∧ ∀ (j : Nat) t, fn.params[j]? = some t → Tryz.pinned.checked.prog.wantsStandIn t = false := by
  obtain rfl : f = 9 := Option.some.inj ((show Tryz.prog.funcNamed "postmark/postmarklaw19.TaintNull" = some 9 by kernel_rfl).symm.trans hf) |>.symm
  obtain rfl : fn = Tryz.f9 := (Option.some.inj (Tryz.func9.symm.trans hfn)).symm
  refine ⟨by kernel_rfl, fun j t ht => ?_⟩
  rw [Tryz.params9] at ht
  have hm := Array.mem_of_getElem? ht
  simp only [Array.mem_def, List.mem_cons, List.not_mem_nil, or_false] at hm
  rcases hm with rfl
  · exact (show Tryz.prog.wantsStandIn 45 = false by kernel_rfl)
theorem taintNull_holds : Rows.TaintNullCardSaid :=
  Claim7.holds_tied_plain_at .later [] _ _ _ _ taintNull_said (fun _ h => by cases h) taintNull_text (fun _ h => by cases h) taintNull_row_tie rfl ⟨rfl, rfl⟩ j_main rfl taintNull_plain taintNull_goes
#print axioms taintNull_holds
end Go.Proofs.YtlcckikfmlhgjaaGreatDoor
