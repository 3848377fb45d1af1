import Derived.Test.YtphigjogeejdjaaGreatDoorTm
/-! Contract: taint.Sends. -/
set_option linter.unusedVariables false
set_option linter.unusedSimpArgs false
namespace Go.Proofs.YtphigjogeejdjaaGreatDoor
open Go.RowKit
theorem home_not (q : QV) : (!PM.home q.pm) = !PM.originSame q.o.pm (ofOV q.u).pm := by rw [home_pm]
set_option maxRecDepth 100000 in
set_option maxHeartbeats 8000000 in
theorem hides3_c (b : Nat) (q : QV) (w : World) (hq : q.Ok w) (hg : Gl w) (h : w.heap[b]? = some (.cells q.cells 32 (0, 0))) : Calls Tryz.prog 91 #[.pointer (some ⟨b, 0, none⟩)] w fun e w' => e = .returned (.bool (!PM.home q.pm)) ∧ Below w.heap.size w w' := by
  have HG := Lib.hid hg
  have OQ := Lib.hid hq
  have HQ : Hid (QAt b q w w) := Lib.hid ⟨h, Below.refl _ _⟩
  have HM := Lib.hid (home_not q)
  have hou := ofOV_ok hq.u
  have HOU := Lib.hid hou
  clear hg hq h hou
  go_enter Tryz.func91, Tryz.ntmps91
  go_wp2_with fail
  refine wp_region_noPanic ?_
  refine wp_region_held_drew (S := fun W' => QAt b q w W') (by kernel_rfl) (HQ.out.below (b_drew (Below.refl _ _))) (fun hS0 => ?_)
  refine wpAnyH_take (i := 0) (v := ?_) rfl (by kernel_rfl) (by kernel_rfl) (by kernel_rfl) (fun _ _ _ h => h) (Or.inl ⟨by kernel_rfl, fun W hW => ?_⟩) (by assumption) ?_
  rotate_left
  · go_simp
    try with_reducible rfl
  (try simp only [List.getElem_toArray, List.getElem_cons_zero, List.getElem_cons_succ, Act.put, List.setIfInBounds_toArray, List.set_cons_zero, List.set_cons_succ])
  refine wpAnyH_take (i := 1) (v := ?_) rfl (by kernel_rfl) (by kernel_rfl) (by kernel_rfl) (fun _ _ _ h => h) (Or.inl ⟨by kernel_rfl, fun W hW => ?_⟩) (by assumption) ?_
  rotate_left
  · refine yield_mid 30 (.tmp 2) ?_ b 24 ?_ q.o.cells (q_org hW.hq) Tryz.underlying30 rfl (by kernel_rfl)
    · rfl
    · rfl
  (try simp only [List.getElem_toArray, List.getElem_cons_zero, List.getElem_cons_succ, Act.put, List.setIfInBounds_toArray, List.set_cons_zero, List.set_cons_succ])
  refine wpAnyH_take (i := 2) (v := ?_) rfl (by kernel_rfl) (by kernel_rfl) (by kernel_rfl) (fun _ _ _ h => h) (Or.inl ⟨by kernel_rfl, fun W hW => ?_⟩) (by assumption) ?_
  rotate_left
  · go_simp
    try with_reducible rfl
  (try simp only [List.getElem_toArray, List.getElem_cons_zero, List.getElem_cons_succ, Act.put, List.setIfInBounds_toArray, List.set_cons_zero, List.set_cons_succ])
  refine wpAnyH_take (i := 3) (v := ?_) rfl (by kernel_rfl) (by kernel_rfl) (by kernel_rfl) (fun _ _ _ h => h) (Or.inl ⟨by kernel_rfl, fun W hW => ?_⟩) (by assumption) ?_
  rotate_left
  · refine yield_mid 27 (.tmp 4) ?_ b 0 ?_ q.u.cells (q_url hW.hq) Tryz.underlying27 rfl (by kernel_rfl)
    · rfl
    · rfl
  (try simp only [List.getElem_toArray, List.getElem_cons_zero, List.getElem_cons_succ, Act.put, List.setIfInBounds_toArray, List.set_cons_zero, List.set_cons_succ])
  refine wpAnyH_ready (rs := [4]) (by kernel_rfl) (by simp) ?_
  refine AllReadyH.cons rfl (fun K hK => ?_) AllReadyH.nil
  go_simp
  refine (Of_c q.u _ (OQ.out.u.below hS0.be) (HG.out.below hS0.be)).mono ?_
  rintro e U1 ⟨rfl, hb⟩
  have hSn := hS0.below hb
  clear hb hS0
  refine hK.out _ _ hSn (fun _ => ?_)
  clear hK K
  (try simp only [List.getElem_toArray, List.getElem_cons_zero, List.getElem_cons_succ, Act.put, List.setIfInBounds_toArray, List.set_cons_zero, List.set_cons_succ])
  refine wpAnyH_ready (rs := [5]) (by kernel_rfl) (by simp) ?_
  refine AllReadyH.cons rfl (fun K hK => ?_) AllReadyH.nil
  go_simp
  refine (Same_o_c q.o (ofOV q.u) _ OQ.out.o (HG.out.below hSn.be)).mono ?_
  rintro e U2 ⟨rfl, hb⟩
  replace hSn := hSn.below hb
  clear hb
  refine hK.out _ _ hSn (fun _ => ?_)
  clear hK K
  (try simp only [List.getElem_toArray, List.getElem_cons_zero, List.getElem_cons_succ, Act.put, List.setIfInBounds_toArray, List.set_cons_zero, List.set_cons_succ])
  refine wpAnyH_take (i := 6) (v := ?_) rfl (by kernel_rfl) (by kernel_rfl) (by kernel_rfl) (fun _ _ _ h => h) (Or.inl ⟨by kernel_rfl, fun W hW => ?_⟩) (by assumption) ?_
  rotate_left
  · go_simp
    try with_reducible rfl
  (try simp only [List.getElem_toArray, List.getElem_cons_zero, List.getElem_cons_succ, Act.put, List.setIfInBounds_toArray, List.set_cons_zero, List.set_cons_succ])
  refine wpAnyH_take (i := 7) (v := ?_) rfl (by kernel_rfl) (by kernel_rfl) (by kernel_rfl) (fun _ _ _ h => h) (Or.inl ⟨by kernel_rfl, fun W hW => ?_⟩) (by assumption) ?_
  rotate_left
  · go_simp
    try with_reducible rfl
  (try simp only [List.getElem_toArray, List.getElem_cons_zero, List.getElem_cons_succ, Act.put, List.setIfInBounds_toArray, List.set_cons_zero, List.set_cons_succ])
  refine wpAnyH_done (by kernel_rfl) ?_ _
  refine NoPanic.normal ?_
  go_wp2
  go_ret
  exact ⟨ret_bool HM.out.symm, hSn.be⟩
set_option maxRecDepth 100000 in
set_option maxHeartbeats 8000000 in
theorem Sends_c (q : QV) (w : World) (hq : q.Ok w) (hg : Gl w) : Calls Tryz.prog 17 #[.agg q.cells] w fun e w' => e = .returned (.tuple #[.string (mkS (PM.sends q.pm).1), .bool (PM.sends q.pm).2]) ∧ Below w.heap.size w w' := by
  have HG := Lib.hid hg
  have Hq : Hid ((w.alloc (.cells q.cells 32)).heap[w.heap.size]? = some (.cells q.cells 32 (0, 0))) := Lib.hid (Go.heap_alloc_new _ _)
  have HB : Hid (Below w.heap.size w (w.alloc (.cells q.cells 32))) := Lib.hid (b_alloc (Below.refl _ _) _)
  have OQ := Lib.hid hq
  clear hg hq
  go_enter Tryz.func17, Tryz.ntmps17
  go_upto_region 1 with fail
  generalize w.alloc (.cells q.cells 32) = V0 at Hq HB ⊢
  obtain ⟨z, hz⟩ : ∃ z, PM.quiet q.pm = z := ⟨_, rfl⟩
  have HZ := Lib.hid hz
  clear hz
  go_wp2_with (first | go_skip | (refine wpList_load_g 32 _ rfl (by kernel_rfl) w.heap.size rfl Hq.out Tryz.underlying32 rfl (by kernel_rfl) ?_))
  refine (Quiet_c q _ (OQ.out.below HB.out) (HG.out.below HB.out)).mono ?_
  rw [HZ.out]
  rintro e V1 ⟨rfl, hb⟩
  replace HB := Lib.hid (b_then HB.out hb)
  replace Hq := Lib.hid (obj_b hb Hq.out)
  clear hb
  cases z
  rotate_left
  · have hs := PM.sends_no HZ.out
    have HS := Lib.hid hs
    clear hs
    go_wp2
    go_ret2
    exact ⟨by rw [HS.out]; rfl, HB.out⟩
  have hs := PM.sends_yes HZ.out
  have HS := Lib.hid hs
  clear hs
  by_cases hp1 : q.po = 1
  · have HPO := Lib.hid hp1
    clear hp1
    go_wp2_with fail
    refine wp_region_noPanic ?_
    refine wp_region_held_drew (S := fun W' => QAt w.heap.size q w W') (by kernel_rfl) (QAt.below ⟨Hq.out, HB.out⟩ (b_drew (Below.refl _ _))) (fun hS0 => ?_)
    refine wpAnyH_take (i := 0) (v := ?_) rfl (by kernel_rfl) (by kernel_rfl) (by kernel_rfl) (fun _ _ _ h => h) (Or.inl ⟨by kernel_rfl, fun W hW => ?_⟩) (by assumption) ?_
    rotate_left
    · refine yield_row 32 (.tmp 1) ?_ w.heap.size ?_ hW.hq Tryz.underlying32 rfl (by kernel_rfl)
      · rfl
      · rfl
    (try simp only [List.getElem_toArray, List.getElem_cons_zero, List.getElem_cons_succ, Act.put, List.setIfInBounds_toArray, List.set_cons_zero, List.set_cons_succ])
    refine wpAnyH_take (i := 2) (v := ?_) rfl (by kernel_rfl) (by kernel_rfl) (by kernel_rfl) (fun _ _ _ h => h) (Or.inl ⟨by kernel_rfl, fun W hW => ?_⟩) (by assumption) ?_
    rotate_left
    · go_simp
      try with_reducible rfl
    (try simp only [List.getElem_toArray, List.getElem_cons_zero, List.getElem_cons_succ, Act.put, List.setIfInBounds_toArray, List.set_cons_zero, List.set_cons_succ])
    refine wpAnyH_take (i := 3) (v := ?_) rfl (by kernel_rfl) (by kernel_rfl) (by kernel_rfl) (fun _ _ _ h => h) (Or.inl ⟨by kernel_rfl, fun W hW => ?_⟩) (by assumption) ?_
    rotate_left
    · have c40 : W.cell? ⟨w.heap.size, 40, none⟩ = some (.int .i64 q.po) := by rw [Lib.cell_of_heap hW.hq]; rfl
      go_simp
      try with_reducible rfl
    (try simp only [List.getElem_toArray, List.getElem_cons_zero, List.getElem_cons_succ, Act.put, List.setIfInBounds_toArray, List.set_cons_zero, List.set_cons_succ])
    refine wpAnyH_ready (rs := [1]) (by kernel_rfl) (by simp) ?_
    refine AllReadyH.cons rfl (fun K hK => ?_) AllReadyH.nil
    go_simp
    refine (hides_c q _).mono ?_
    rintro e U3 ⟨⟨rfl, hmap, hqb⟩, hb⟩
    have hSn := hS0.below hb
    clear hb hS0
    have HMP := Lib.hid hmap
    have HQB := Lib.hid hqb
    clear hmap hqb
    refine hK.out _ _ hSn (fun _ => ?_)
    clear hK K
    (try simp only [List.getElem_toArray, List.getElem_cons_zero, List.getElem_cons_succ, Act.put, List.setIfInBounds_toArray, List.set_cons_zero, List.set_cons_succ])
    refine wpAnyH_ready (rs := [4]) (by kernel_rfl) (by simp) ?_
    refine AllReadyH.cons rfl (fun K hK => ?_) AllReadyH.nil
    have hlk := run_look _ (V1.heap.size + 1) 6 _ q.po 0 F2 Tryz.underlying68 HMP.out (by rw [HPO.out]; rfl)
    unfold F2 at hlk
    go_simp
    refine hK.out _ _ hSn (fun _ => ?_)
    clear hK K
    (try simp only [List.getElem_toArray, List.getElem_cons_zero, List.getElem_cons_succ, Act.put, List.setIfInBounds_toArray, List.set_cons_zero, List.set_cons_succ])
    refine wpAnyH_take (i := 5) (v := ?_) rfl (by kernel_rfl) (by kernel_rfl) (by kernel_rfl) (fun _ _ _ h => h) (Or.inl ⟨by kernel_rfl, fun W hW => ?_⟩) (by assumption) ?_
    rotate_left
    · go_simp
      try with_reducible rfl
    (try simp only [List.getElem_toArray, List.getElem_cons_zero, List.getElem_cons_succ, Act.put, List.setIfInBounds_toArray, List.set_cons_zero, List.set_cons_succ])
    refine wpAnyH_take (i := 6) (v := ?_) rfl (by kernel_rfl) (by kernel_rfl) (by kernel_rfl) (fun _ _ _ h => h) (Or.inl ⟨by kernel_rfl, fun W hW => ?_⟩) (by assumption) ?_
    rotate_left
    · go_simp
      try with_reducible rfl
    (try simp only [List.getElem_toArray, List.getElem_cons_zero, List.getElem_cons_succ, Act.put, List.setIfInBounds_toArray, List.set_cons_zero, List.set_cons_succ])
    refine wpAnyH_take (i := 7) (v := ?_) rfl (by kernel_rfl) (by kernel_rfl) (by kernel_rfl) (fun _ _ _ h => h) (Or.inl ⟨by kernel_rfl, fun W hW => ?_⟩) (by assumption) ?_
    rotate_left
    · go_simp
      try with_reducible rfl
    (try simp only [List.getElem_toArray, List.getElem_cons_zero, List.getElem_cons_succ, Act.put, List.setIfInBounds_toArray, List.set_cons_zero, List.set_cons_succ])
    refine wpAnyH_take (i := 8) (v := ?_) rfl (by kernel_rfl) (by kernel_rfl) (by kernel_rfl) (fun _ _ _ h => h) (Or.inl ⟨by kernel_rfl, fun W hW => ?_⟩) (by assumption) ?_
    rotate_left
    · go_simp
      try with_reducible rfl
    (try simp only [List.getElem_toArray, List.getElem_cons_zero, List.getElem_cons_succ, Act.put, List.setIfInBounds_toArray, List.set_cons_zero, List.set_cons_succ])
    refine wpAnyH_take (i := 9) (v := ?_) rfl (by kernel_rfl) (by kernel_rfl) (by kernel_rfl) (fun _ _ _ h => h) (Or.inl ⟨by kernel_rfl, fun W hW => ?_⟩) (by assumption) ?_
    rotate_left
    · go_simp
      try with_reducible rfl
    (try simp only [List.getElem_toArray, List.getElem_cons_zero, List.getElem_cons_succ, Act.put, List.setIfInBounds_toArray, List.set_cons_zero, List.set_cons_succ])
    refine wpAnyH_done (by kernel_rfl) ?_ _
    refine NoPanic.normal ?_
    replace Hq := Lib.hid hSn.hq
    replace HB := Lib.hid hSn.be
    clear hSn hlk
    skip
    have hhd : PM.hide q.pm = true := by unfold PM.hide; rw [if_pos (show q.pm.policy = 1 from HPO.out)]
    have HHD := Lib.hid hhd
    clear hhd
    have c42 : U3.cell? ⟨w.heap.size, 42, none⟩ = some (.bool q.ta) := by rw [Lib.cell_of_heap Hq.out]; rfl
    have c38 : U3.cell? ⟨w.heap.size, 38, none⟩ = some (.int .i64 q.mo) := by rw [Lib.cell_of_heap Hq.out]; rfl
    cases hta : q.ta
    rotate_left
    · rw [hta] at c42
      have hr : PM.sends q.pm = (PM.nul, true) := by rw [HS.out]; rw [show q.pm.tainted = true from hta]; rfl
      have HR := Lib.hid hr
      clear hr
      go_wp2
      go_ret2
      exact ⟨by rw [HR.out]; rfl, HB.out⟩
    rw [hta] at c42
    have HTA := Lib.hid hta
    clear hta
    by_cases hmo : q.mo = 1
    · have hm' : (q.mo != 1) = false := by simpa using hmo
      have hr : PM.sends q.pm = (PM.originShow q.o.pm, true) := by rw [HS.out]; rw [show q.pm.tainted = false from HTA.out, show decide (q.pm.mode = 1) = true from decide_eq_true hmo]; rfl
      have HR := Lib.hid hr
      clear hr
      clear hmo
      go_wp2_with (first | go_skip | (refine wpList_load_mg 30 _ rfl (by kernel_rfl) w.heap.size 24 rfl q.o.cells (q_org Hq.out) Tryz.underlying30 rfl (by kernel_rfl) ?_))
      refine (Show_o_c q.o _ OQ.out.o (HG.out.below HB.out)).mono ?_
      rintro e Z9 ⟨rfl, hb⟩
      replace HB := Lib.hid (b_then HB.out hb)
      replace Hq := Lib.hid (obj_b hb Hq.out)
      replace HQB := Lib.hid (obj_b hb HQB.out)
      clear hb
      go_wp2
      go_ret2
      exact ⟨by rw [HR.out]; rfl, HB.out⟩
    have hm' : (q.mo != 1) = true := by simpa using hmo
    have HMO := Lib.hid (show decide (q.pm.mode = 1) = false from decide_eq_false hmo)
    clear hmo
    have hr : PM.sends q.pm = (PM.nul, true) := by rw [HS.out]; rw [show q.pm.tainted = false from HTA.out, HMO.out, HHD.out]; rfl
    have HR := Lib.hid hr
    clear hr
    go_wp2_with fail
    refine (hides2_c _).mono ?_
    rintro e V2 ⟨rfl, hb⟩
    replace HB := Lib.hid (b_then HB.out hb)
    replace Hq := Lib.hid (obj_b hb Hq.out)
    replace HQB := Lib.hid (obj_b hb HQB.out)
    clear hb
    go_wp2
    go_ret2
    exact ⟨by rw [HR.out]; rfl, HB.out⟩
  by_cases hp0 : q.po = 0
  · have HPO := Lib.hid hp0
    clear hp1 hp0
    go_wp2_with fail
    refine wp_region_noPanic ?_
    refine wp_region_held_drew (S := fun W' => QAt w.heap.size q w W') (by kernel_rfl) (QAt.below ⟨Hq.out, HB.out⟩ (b_drew (Below.refl _ _))) (fun hS0 => ?_)
    refine wpAnyH_take (i := 0) (v := ?_) rfl (by kernel_rfl) (by kernel_rfl) (by kernel_rfl) (fun _ _ _ h => h) (Or.inl ⟨by kernel_rfl, fun W hW => ?_⟩) (by assumption) ?_
    rotate_left
    · refine yield_row 32 (.tmp 1) ?_ w.heap.size ?_ hW.hq Tryz.underlying32 rfl (by kernel_rfl)
      · rfl
      · rfl
    (try simp only [List.getElem_toArray, List.getElem_cons_zero, List.getElem_cons_succ, Act.put, List.setIfInBounds_toArray, List.set_cons_zero, List.set_cons_succ])
    refine wpAnyH_take (i := 2) (v := ?_) rfl (by kernel_rfl) (by kernel_rfl) (by kernel_rfl) (fun _ _ _ h => h) (Or.inl ⟨by kernel_rfl, fun W hW => ?_⟩) (by assumption) ?_
    rotate_left
    · go_simp
      try with_reducible rfl
    (try simp only [List.getElem_toArray, List.getElem_cons_zero, List.getElem_cons_succ, Act.put, List.setIfInBounds_toArray, List.set_cons_zero, List.set_cons_succ])
    refine wpAnyH_take (i := 3) (v := ?_) rfl (by kernel_rfl) (by kernel_rfl) (by kernel_rfl) (fun _ _ _ h => h) (Or.inl ⟨by kernel_rfl, fun W hW => ?_⟩) (by assumption) ?_
    rotate_left
    · have c40 : W.cell? ⟨w.heap.size, 40, none⟩ = some (.int .i64 q.po) := by rw [Lib.cell_of_heap hW.hq]; rfl
      go_simp
      try with_reducible rfl
    (try simp only [List.getElem_toArray, List.getElem_cons_zero, List.getElem_cons_succ, Act.put, List.setIfInBounds_toArray, List.set_cons_zero, List.set_cons_succ])
    refine wpAnyH_ready (rs := [1]) (by kernel_rfl) (by simp) ?_
    refine AllReadyH.cons rfl (fun K hK => ?_) AllReadyH.nil
    go_simp
    refine (hides_c q _).mono ?_
    rintro e U4 ⟨⟨rfl, hmap, hqb⟩, hb⟩
    have hSn := hS0.below hb
    clear hb hS0
    have HMP := Lib.hid hmap
    have HQB := Lib.hid hqb
    clear hmap hqb
    refine hK.out _ _ hSn (fun _ => ?_)
    clear hK K
    (try simp only [List.getElem_toArray, List.getElem_cons_zero, List.getElem_cons_succ, Act.put, List.setIfInBounds_toArray, List.set_cons_zero, List.set_cons_succ])
    refine wpAnyH_ready (rs := [4]) (by kernel_rfl) (by simp) ?_
    refine AllReadyH.cons rfl (fun K hK => ?_) AllReadyH.nil
    have hlk := run_look _ (V1.heap.size + 1) 6 _ q.po 1 (F1 V1.heap.size) Tryz.underlying68 HMP.out (by rw [HPO.out]; rfl)
    unfold F1 at hlk
    go_simp
    refine hK.out _ _ hSn (fun _ => ?_)
    clear hK K
    (try simp only [List.getElem_toArray, List.getElem_cons_zero, List.getElem_cons_succ, Act.put, List.setIfInBounds_toArray, List.set_cons_zero, List.set_cons_succ])
    refine wpAnyH_take (i := 5) (v := ?_) rfl (by kernel_rfl) (by kernel_rfl) (by kernel_rfl) (fun _ _ _ h => h) (Or.inl ⟨by kernel_rfl, fun W hW => ?_⟩) (by assumption) ?_
    rotate_left
    · go_simp
      try with_reducible rfl
    (try simp only [List.getElem_toArray, List.getElem_cons_zero, List.getElem_cons_succ, Act.put, List.setIfInBounds_toArray, List.set_cons_zero, List.set_cons_succ])
    refine wpAnyH_take (i := 6) (v := ?_) rfl (by kernel_rfl) (by kernel_rfl) (by kernel_rfl) (fun _ _ _ h => h) (Or.inl ⟨by kernel_rfl, fun W hW => ?_⟩) (by assumption) ?_
    rotate_left
    · go_simp
      try with_reducible rfl
    (try simp only [List.getElem_toArray, List.getElem_cons_zero, List.getElem_cons_succ, Act.put, List.setIfInBounds_toArray, List.set_cons_zero, List.set_cons_succ])
    refine wpAnyH_take (i := 7) (v := ?_) rfl (by kernel_rfl) (by kernel_rfl) (by kernel_rfl) (fun _ _ _ h => h) (Or.inl ⟨by kernel_rfl, fun W hW => ?_⟩) (by assumption) ?_
    rotate_left
    · go_simp
      try with_reducible rfl
    (try simp only [List.getElem_toArray, List.getElem_cons_zero, List.getElem_cons_succ, Act.put, List.setIfInBounds_toArray, List.set_cons_zero, List.set_cons_succ])
    refine wpAnyH_take (i := 8) (v := ?_) rfl (by kernel_rfl) (by kernel_rfl) (by kernel_rfl) (fun _ _ _ h => h) (Or.inl ⟨by kernel_rfl, fun W hW => ?_⟩) (by assumption) ?_
    rotate_left
    · go_simp
      try with_reducible rfl
    (try simp only [List.getElem_toArray, List.getElem_cons_zero, List.getElem_cons_succ, Act.put, List.setIfInBounds_toArray, List.set_cons_zero, List.set_cons_succ])
    refine wpAnyH_take (i := 9) (v := ?_) rfl (by kernel_rfl) (by kernel_rfl) (by kernel_rfl) (fun _ _ _ h => h) (Or.inl ⟨by kernel_rfl, fun W hW => ?_⟩) (by assumption) ?_
    rotate_left
    · go_simp
      try with_reducible rfl
    (try simp only [List.getElem_toArray, List.getElem_cons_zero, List.getElem_cons_succ, Act.put, List.setIfInBounds_toArray, List.set_cons_zero, List.set_cons_succ])
    refine wpAnyH_done (by kernel_rfl) ?_ _
    refine NoPanic.normal ?_
    replace Hq := Lib.hid hSn.hq
    replace HB := Lib.hid hSn.be
    clear hSn hlk
    skip
    have hhd : PM.hide q.pm = PM.down q.pm := by unfold PM.hide; rw [if_neg (show ¬ q.pm.policy = 1 from by show ¬ q.po = 1; rw [HPO.out]; decide), if_pos (show q.pm.policy = 0 ∨ q.pm.policy = 2 ∨ q.pm.policy = 5 ∨ q.pm.policy = 7 from by show q.po = 0 ∨ q.po = 2 ∨ q.po = 5 ∨ q.po = 7; rw [HPO.out]; decide)]
    have HHD := Lib.hid hhd
    clear hhd
    have c42 : U4.cell? ⟨w.heap.size, 42, none⟩ = some (.bool q.ta) := by rw [Lib.cell_of_heap Hq.out]; rfl
    have c38 : U4.cell? ⟨w.heap.size, 38, none⟩ = some (.int .i64 q.mo) := by rw [Lib.cell_of_heap Hq.out]; rfl
    cases hta : q.ta
    rotate_left
    · rw [hta] at c42
      have hr : PM.sends q.pm = (PM.nul, true) := by rw [HS.out]; rw [show q.pm.tainted = true from hta]; rfl
      have HR := Lib.hid hr
      clear hr
      go_wp2
      go_ret2
      exact ⟨by rw [HR.out]; rfl, HB.out⟩
    rw [hta] at c42
    have HTA := Lib.hid hta
    clear hta
    by_cases hmo : q.mo = 1
    · have hm' : (q.mo != 1) = false := by simpa using hmo
      have hr : PM.sends q.pm = (PM.originShow q.o.pm, true) := by rw [HS.out]; rw [show q.pm.tainted = false from HTA.out, show decide (q.pm.mode = 1) = true from decide_eq_true hmo]; rfl
      have HR := Lib.hid hr
      clear hr
      clear hmo
      go_wp2_with (first | go_skip | (refine wpList_load_mg 30 _ rfl (by kernel_rfl) w.heap.size 24 rfl q.o.cells (q_org Hq.out) Tryz.underlying30 rfl (by kernel_rfl) ?_))
      refine (Show_o_c q.o _ OQ.out.o (HG.out.below HB.out)).mono ?_
      rintro e Z9 ⟨rfl, hb⟩
      replace HB := Lib.hid (b_then HB.out hb)
      replace Hq := Lib.hid (obj_b hb Hq.out)
      replace HQB := Lib.hid (obj_b hb HQB.out)
      clear hb
      go_wp2
      go_ret2
      exact ⟨by rw [HR.out]; rfl, HB.out⟩
    have hm' : (q.mo != 1) = true := by simpa using hmo
    have HMO := Lib.hid (show decide (q.pm.mode = 1) = false from decide_eq_false hmo)
    clear hmo
    cases hdn : PM.down q.pm
    · skip
      have HDN := Lib.hid hdn
      clear hdn
      have hr : PM.sends q.pm = (PM.originShow q.o.pm, true) := by rw [HS.out]; rw [show q.pm.tainted = false from HTA.out, HMO.out, HHD.out, HDN.out]; rfl
      have HR := Lib.hid hr
      clear hr
      go_wp2_with fail
      refine (hides1_c _ q _ HQB.out).mono ?_
      rw [HDN.out]
      rintro e V3 ⟨rfl, hb⟩
      replace HB := Lib.hid (b_then HB.out hb)
      replace Hq := Lib.hid (obj_b hb Hq.out)
      replace HQB := Lib.hid (obj_b hb HQB.out)
      clear hb
      go_wp2_with (first | go_skip | (refine wpList_load_mg 30 _ rfl (by kernel_rfl) w.heap.size 24 rfl q.o.cells (q_org Hq.out) Tryz.underlying30 rfl (by kernel_rfl) ?_))
      refine (Show_o_c q.o _ OQ.out.o (HG.out.below HB.out)).mono ?_
      rintro e Z9 ⟨rfl, hb⟩
      replace HB := Lib.hid (b_then HB.out hb)
      replace Hq := Lib.hid (obj_b hb Hq.out)
      replace HQB := Lib.hid (obj_b hb HQB.out)
      clear hb
      go_wp2
      go_ret2
      exact ⟨by rw [HR.out]; rfl, HB.out⟩
    · skip
      have HDN := Lib.hid hdn
      clear hdn
      have hr : PM.sends q.pm = (PM.nul, true) := by rw [HS.out]; rw [show q.pm.tainted = false from HTA.out, HMO.out, HHD.out, HDN.out]; rfl
      have HR := Lib.hid hr
      clear hr
      go_wp2_with fail
      refine (hides1_c _ q _ HQB.out).mono ?_
      rw [HDN.out]
      rintro e V4 ⟨rfl, hb⟩
      replace HB := Lib.hid (b_then HB.out hb)
      replace Hq := Lib.hid (obj_b hb Hq.out)
      replace HQB := Lib.hid (obj_b hb HQB.out)
      clear hb
      go_wp2
      go_ret2
      exact ⟨by rw [HR.out]; rfl, HB.out⟩
  by_cases hp2 : q.po = 2
  · have HPO := Lib.hid hp2
    clear hp1 hp0 hp2
    go_wp2_with fail
    refine wp_region_noPanic ?_
    refine wp_region_held_drew (S := fun W' => QAt w.heap.size q w W') (by kernel_rfl) (QAt.below ⟨Hq.out, HB.out⟩ (b_drew (Below.refl _ _))) (fun hS0 => ?_)
    refine wpAnyH_take (i := 0) (v := ?_) rfl (by kernel_rfl) (by kernel_rfl) (by kernel_rfl) (fun _ _ _ h => h) (Or.inl ⟨by kernel_rfl, fun W hW => ?_⟩) (by assumption) ?_
    rotate_left
    · refine yield_row 32 (.tmp 1) ?_ w.heap.size ?_ hW.hq Tryz.underlying32 rfl (by kernel_rfl)
      · rfl
      · rfl
    (try simp only [List.getElem_toArray, List.getElem_cons_zero, List.getElem_cons_succ, Act.put, List.setIfInBounds_toArray, List.set_cons_zero, List.set_cons_succ])
    refine wpAnyH_take (i := 2) (v := ?_) rfl (by kernel_rfl) (by kernel_rfl) (by kernel_rfl) (fun _ _ _ h => h) (Or.inl ⟨by kernel_rfl, fun W hW => ?_⟩) (by assumption) ?_
    rotate_left
    · go_simp
      try with_reducible rfl
    (try simp only [List.getElem_toArray, List.getElem_cons_zero, List.getElem_cons_succ, Act.put, List.setIfInBounds_toArray, List.set_cons_zero, List.set_cons_succ])
    refine wpAnyH_take (i := 3) (v := ?_) rfl (by kernel_rfl) (by kernel_rfl) (by kernel_rfl) (fun _ _ _ h => h) (Or.inl ⟨by kernel_rfl, fun W hW => ?_⟩) (by assumption) ?_
    rotate_left
    · have c40 : W.cell? ⟨w.heap.size, 40, none⟩ = some (.int .i64 q.po) := by rw [Lib.cell_of_heap hW.hq]; rfl
      go_simp
      try with_reducible rfl
    (try simp only [List.getElem_toArray, List.getElem_cons_zero, List.getElem_cons_succ, Act.put, List.setIfInBounds_toArray, List.set_cons_zero, List.set_cons_succ])
    refine wpAnyH_ready (rs := [1]) (by kernel_rfl) (by simp) ?_
    refine AllReadyH.cons rfl (fun K hK => ?_) AllReadyH.nil
    go_simp
    refine (hides_c q _).mono ?_
    rintro e U5 ⟨⟨rfl, hmap, hqb⟩, hb⟩
    have hSn := hS0.below hb
    clear hb hS0
    have HMP := Lib.hid hmap
    have HQB := Lib.hid hqb
    clear hmap hqb
    refine hK.out _ _ hSn (fun _ => ?_)
    clear hK K
    (try simp only [List.getElem_toArray, List.getElem_cons_zero, List.getElem_cons_succ, Act.put, List.setIfInBounds_toArray, List.set_cons_zero, List.set_cons_succ])
    refine wpAnyH_ready (rs := [4]) (by kernel_rfl) (by simp) ?_
    refine AllReadyH.cons rfl (fun K hK => ?_) AllReadyH.nil
    have hlk := run_look _ (V1.heap.size + 1) 6 _ q.po 2 (F1 V1.heap.size) Tryz.underlying68 HMP.out (by rw [HPO.out]; rfl)
    unfold F1 at hlk
    go_simp
    refine hK.out _ _ hSn (fun _ => ?_)
    clear hK K
    (try simp only [List.getElem_toArray, List.getElem_cons_zero, List.getElem_cons_succ, Act.put, List.setIfInBounds_toArray, List.set_cons_zero, List.set_cons_succ])
    refine wpAnyH_take (i := 5) (v := ?_) rfl (by kernel_rfl) (by kernel_rfl) (by kernel_rfl) (fun _ _ _ h => h) (Or.inl ⟨by kernel_rfl, fun W hW => ?_⟩) (by assumption) ?_
    rotate_left
    · go_simp
      try with_reducible rfl
    (try simp only [List.getElem_toArray, List.getElem_cons_zero, List.getElem_cons_succ, Act.put, List.setIfInBounds_toArray, List.set_cons_zero, List.set_cons_succ])
    refine wpAnyH_take (i := 6) (v := ?_) rfl (by kernel_rfl) (by kernel_rfl) (by kernel_rfl) (fun _ _ _ h => h) (Or.inl ⟨by kernel_rfl, fun W hW => ?_⟩) (by assumption) ?_
    rotate_left
    · go_simp
      try with_reducible rfl
    (try simp only [List.getElem_toArray, List.getElem_cons_zero, List.getElem_cons_succ, Act.put, List.setIfInBounds_toArray, List.set_cons_zero, List.set_cons_succ])
    refine wpAnyH_take (i := 7) (v := ?_) rfl (by kernel_rfl) (by kernel_rfl) (by kernel_rfl) (fun _ _ _ h => h) (Or.inl ⟨by kernel_rfl, fun W hW => ?_⟩) (by assumption) ?_
    rotate_left
    · go_simp
      try with_reducible rfl
    (try simp only [List.getElem_toArray, List.getElem_cons_zero, List.getElem_cons_succ, Act.put, List.setIfInBounds_toArray, List.set_cons_zero, List.set_cons_succ])
    refine wpAnyH_take (i := 8) (v := ?_) rfl (by kernel_rfl) (by kernel_rfl) (by kernel_rfl) (fun _ _ _ h => h) (Or.inl ⟨by kernel_rfl, fun W hW => ?_⟩) (by assumption) ?_
    rotate_left
    · go_simp
      try with_reducible rfl
    (try simp only [List.getElem_toArray, List.getElem_cons_zero, List.getElem_cons_succ, Act.put, List.setIfInBounds_toArray, List.set_cons_zero, List.set_cons_succ])
    refine wpAnyH_take (i := 9) (v := ?_) rfl (by kernel_rfl) (by kernel_rfl) (by kernel_rfl) (fun _ _ _ h => h) (Or.inl ⟨by kernel_rfl, fun W hW => ?_⟩) (by assumption) ?_
    rotate_left
    · go_simp
      try with_reducible rfl
    (try simp only [List.getElem_toArray, List.getElem_cons_zero, List.getElem_cons_succ, Act.put, List.setIfInBounds_toArray, List.set_cons_zero, List.set_cons_succ])
    refine wpAnyH_done (by kernel_rfl) ?_ _
    refine NoPanic.normal ?_
    replace Hq := Lib.hid hSn.hq
    replace HB := Lib.hid hSn.be
    clear hSn hlk
    skip
    have hhd : PM.hide q.pm = PM.down q.pm := by unfold PM.hide; rw [if_neg (show ¬ q.pm.policy = 1 from by show ¬ q.po = 1; rw [HPO.out]; decide), if_pos (show q.pm.policy = 0 ∨ q.pm.policy = 2 ∨ q.pm.policy = 5 ∨ q.pm.policy = 7 from by show q.po = 0 ∨ q.po = 2 ∨ q.po = 5 ∨ q.po = 7; rw [HPO.out]; decide)]
    have HHD := Lib.hid hhd
    clear hhd
    have c42 : U5.cell? ⟨w.heap.size, 42, none⟩ = some (.bool q.ta) := by rw [Lib.cell_of_heap Hq.out]; rfl
    have c38 : U5.cell? ⟨w.heap.size, 38, none⟩ = some (.int .i64 q.mo) := by rw [Lib.cell_of_heap Hq.out]; rfl
    cases hta : q.ta
    rotate_left
    · rw [hta] at c42
      have hr : PM.sends q.pm = (PM.nul, true) := by rw [HS.out]; rw [show q.pm.tainted = true from hta]; rfl
      have HR := Lib.hid hr
      clear hr
      go_wp2
      go_ret2
      exact ⟨by rw [HR.out]; rfl, HB.out⟩
    rw [hta] at c42
    have HTA := Lib.hid hta
    clear hta
    by_cases hmo : q.mo = 1
    · have hm' : (q.mo != 1) = false := by simpa using hmo
      have hr : PM.sends q.pm = (PM.originShow q.o.pm, true) := by rw [HS.out]; rw [show q.pm.tainted = false from HTA.out, show decide (q.pm.mode = 1) = true from decide_eq_true hmo]; rfl
      have HR := Lib.hid hr
      clear hr
      clear hmo
      go_wp2_with (first | go_skip | (refine wpList_load_mg 30 _ rfl (by kernel_rfl) w.heap.size 24 rfl q.o.cells (q_org Hq.out) Tryz.underlying30 rfl (by kernel_rfl) ?_))
      refine (Show_o_c q.o _ OQ.out.o (HG.out.below HB.out)).mono ?_
      rintro e Z9 ⟨rfl, hb⟩
      replace HB := Lib.hid (b_then HB.out hb)
      replace Hq := Lib.hid (obj_b hb Hq.out)
      replace HQB := Lib.hid (obj_b hb HQB.out)
      clear hb
      go_wp2
      go_ret2
      exact ⟨by rw [HR.out]; rfl, HB.out⟩
    have hm' : (q.mo != 1) = true := by simpa using hmo
    have HMO := Lib.hid (show decide (q.pm.mode = 1) = false from decide_eq_false hmo)
    clear hmo
    cases hdn : PM.down q.pm
    · skip
      have HDN := Lib.hid hdn
      clear hdn
      have hr : PM.sends q.pm = (PM.originShow q.o.pm, true) := by rw [HS.out]; rw [show q.pm.tainted = false from HTA.out, HMO.out, HHD.out, HDN.out]; rfl
      have HR := Lib.hid hr
      clear hr
      go_wp2_with fail
      refine (hides1_c _ q _ HQB.out).mono ?_
      rw [HDN.out]
      rintro e V5 ⟨rfl, hb⟩
      replace HB := Lib.hid (b_then HB.out hb)
      replace Hq := Lib.hid (obj_b hb Hq.out)
      replace HQB := Lib.hid (obj_b hb HQB.out)
      clear hb
      go_wp2_with (first | go_skip | (refine wpList_load_mg 30 _ rfl (by kernel_rfl) w.heap.size 24 rfl q.o.cells (q_org Hq.out) Tryz.underlying30 rfl (by kernel_rfl) ?_))
      refine (Show_o_c q.o _ OQ.out.o (HG.out.below HB.out)).mono ?_
      rintro e Z9 ⟨rfl, hb⟩
      replace HB := Lib.hid (b_then HB.out hb)
      replace Hq := Lib.hid (obj_b hb Hq.out)
      replace HQB := Lib.hid (obj_b hb HQB.out)
      clear hb
      go_wp2
      go_ret2
      exact ⟨by rw [HR.out]; rfl, HB.out⟩
    · skip
      have HDN := Lib.hid hdn
      clear hdn
      have hr : PM.sends q.pm = (PM.nul, true) := by rw [HS.out]; rw [show q.pm.tainted = false from HTA.out, HMO.out, HHD.out, HDN.out]; rfl
      have HR := Lib.hid hr
      clear hr
      go_wp2_with fail
      refine (hides1_c _ q _ HQB.out).mono ?_
      rw [HDN.out]
      rintro e V6 ⟨rfl, hb⟩
      replace HB := Lib.hid (b_then HB.out hb)
      replace Hq := Lib.hid (obj_b hb Hq.out)
      replace HQB := Lib.hid (obj_b hb HQB.out)
      clear hb
      go_wp2
      go_ret2
      exact ⟨by rw [HR.out]; rfl, HB.out⟩
  by_cases hp5 : q.po = 5
  · have HPO := Lib.hid hp5
    clear hp1 hp0 hp2 hp5
    go_wp2_with fail
    refine wp_region_noPanic ?_
    refine wp_region_held_drew (S := fun W' => QAt w.heap.size q w W') (by kernel_rfl) (QAt.below ⟨Hq.out, HB.out⟩ (b_drew (Below.refl _ _))) (fun hS0 => ?_)
    refine wpAnyH_take (i := 0) (v := ?_) rfl (by kernel_rfl) (by kernel_rfl) (by kernel_rfl) (fun _ _ _ h => h) (Or.inl ⟨by kernel_rfl, fun W hW => ?_⟩) (by assumption) ?_
    rotate_left
    · refine yield_row 32 (.tmp 1) ?_ w.heap.size ?_ hW.hq Tryz.underlying32 rfl (by kernel_rfl)
      · rfl
      · rfl
    (try simp only [List.getElem_toArray, List.getElem_cons_zero, List.getElem_cons_succ, Act.put, List.setIfInBounds_toArray, List.set_cons_zero, List.set_cons_succ])
    refine wpAnyH_take (i := 2) (v := ?_) rfl (by kernel_rfl) (by kernel_rfl) (by kernel_rfl) (fun _ _ _ h => h) (Or.inl ⟨by kernel_rfl, fun W hW => ?_⟩) (by assumption) ?_
    rotate_left
    · go_simp
      try with_reducible rfl
    (try simp only [List.getElem_toArray, List.getElem_cons_zero, List.getElem_cons_succ, Act.put, List.setIfInBounds_toArray, List.set_cons_zero, List.set_cons_succ])
    refine wpAnyH_take (i := 3) (v := ?_) rfl (by kernel_rfl) (by kernel_rfl) (by kernel_rfl) (fun _ _ _ h => h) (Or.inl ⟨by kernel_rfl, fun W hW => ?_⟩) (by assumption) ?_
    rotate_left
    · have c40 : W.cell? ⟨w.heap.size, 40, none⟩ = some (.int .i64 q.po) := by rw [Lib.cell_of_heap hW.hq]; rfl
      go_simp
      try with_reducible rfl
    (try simp only [List.getElem_toArray, List.getElem_cons_zero, List.getElem_cons_succ, Act.put, List.setIfInBounds_toArray, List.set_cons_zero, List.set_cons_succ])
    refine wpAnyH_ready (rs := [1]) (by kernel_rfl) (by simp) ?_
    refine AllReadyH.cons rfl (fun K hK => ?_) AllReadyH.nil
    go_simp
    refine (hides_c q _).mono ?_
    rintro e U6 ⟨⟨rfl, hmap, hqb⟩, hb⟩
    have hSn := hS0.below hb
    clear hb hS0
    have HMP := Lib.hid hmap
    have HQB := Lib.hid hqb
    clear hmap hqb
    refine hK.out _ _ hSn (fun _ => ?_)
    clear hK K
    (try simp only [List.getElem_toArray, List.getElem_cons_zero, List.getElem_cons_succ, Act.put, List.setIfInBounds_toArray, List.set_cons_zero, List.set_cons_succ])
    refine wpAnyH_ready (rs := [4]) (by kernel_rfl) (by simp) ?_
    refine AllReadyH.cons rfl (fun K hK => ?_) AllReadyH.nil
    have hlk := run_look _ (V1.heap.size + 1) 6 _ q.po 3 (F1 V1.heap.size) Tryz.underlying68 HMP.out (by rw [HPO.out]; rfl)
    unfold F1 at hlk
    go_simp
    refine hK.out _ _ hSn (fun _ => ?_)
    clear hK K
    (try simp only [List.getElem_toArray, List.getElem_cons_zero, List.getElem_cons_succ, Act.put, List.setIfInBounds_toArray, List.set_cons_zero, List.set_cons_succ])
    refine wpAnyH_take (i := 5) (v := ?_) rfl (by kernel_rfl) (by kernel_rfl) (by kernel_rfl) (fun _ _ _ h => h) (Or.inl ⟨by kernel_rfl, fun W hW => ?_⟩) (by assumption) ?_
    rotate_left
    · go_simp
      try with_reducible rfl
    (try simp only [List.getElem_toArray, List.getElem_cons_zero, List.getElem_cons_succ, Act.put, List.setIfInBounds_toArray, List.set_cons_zero, List.set_cons_succ])
    refine wpAnyH_take (i := 6) (v := ?_) rfl (by kernel_rfl) (by kernel_rfl) (by kernel_rfl) (fun _ _ _ h => h) (Or.inl ⟨by kernel_rfl, fun W hW => ?_⟩) (by assumption) ?_
    rotate_left
    · go_simp
      try with_reducible rfl
    (try simp only [List.getElem_toArray, List.getElem_cons_zero, List.getElem_cons_succ, Act.put, List.setIfInBounds_toArray, List.set_cons_zero, List.set_cons_succ])
    refine wpAnyH_take (i := 7) (v := ?_) rfl (by kernel_rfl) (by kernel_rfl) (by kernel_rfl) (fun _ _ _ h => h) (Or.inl ⟨by kernel_rfl, fun W hW => ?_⟩) (by assumption) ?_
    rotate_left
    · go_simp
      try with_reducible rfl
    (try simp only [List.getElem_toArray, List.getElem_cons_zero, List.getElem_cons_succ, Act.put, List.setIfInBounds_toArray, List.set_cons_zero, List.set_cons_succ])
    refine wpAnyH_take (i := 8) (v := ?_) rfl (by kernel_rfl) (by kernel_rfl) (by kernel_rfl) (fun _ _ _ h => h) (Or.inl ⟨by kernel_rfl, fun W hW => ?_⟩) (by assumption) ?_
    rotate_left
    · go_simp
      try with_reducible rfl
    (try simp only [List.getElem_toArray, List.getElem_cons_zero, List.getElem_cons_succ, Act.put, List.setIfInBounds_toArray, List.set_cons_zero, List.set_cons_succ])
    refine wpAnyH_take (i := 9) (v := ?_) rfl (by kernel_rfl) (by kernel_rfl) (by kernel_rfl) (fun _ _ _ h => h) (Or.inl ⟨by kernel_rfl, fun W hW => ?_⟩) (by assumption) ?_
    rotate_left
    · go_simp
      try with_reducible rfl
    (try simp only [List.getElem_toArray, List.getElem_cons_zero, List.getElem_cons_succ, Act.put, List.setIfInBounds_toArray, List.set_cons_zero, List.set_cons_succ])
    refine wpAnyH_done (by kernel_rfl) ?_ _
    refine NoPanic.normal ?_
    replace Hq := Lib.hid hSn.hq
    replace HB := Lib.hid hSn.be
    clear hSn hlk
    skip
    have hhd : PM.hide q.pm = PM.down q.pm := by unfold PM.hide; rw [if_neg (show ¬ q.pm.policy = 1 from by show ¬ q.po = 1; rw [HPO.out]; decide), if_pos (show q.pm.policy = 0 ∨ q.pm.policy = 2 ∨ q.pm.policy = 5 ∨ q.pm.policy = 7 from by show q.po = 0 ∨ q.po = 2 ∨ q.po = 5 ∨ q.po = 7; rw [HPO.out]; decide)]
    have HHD := Lib.hid hhd
    clear hhd
    have c42 : U6.cell? ⟨w.heap.size, 42, none⟩ = some (.bool q.ta) := by rw [Lib.cell_of_heap Hq.out]; rfl
    have c38 : U6.cell? ⟨w.heap.size, 38, none⟩ = some (.int .i64 q.mo) := by rw [Lib.cell_of_heap Hq.out]; rfl
    cases hta : q.ta
    rotate_left
    · rw [hta] at c42
      have hr : PM.sends q.pm = (PM.nul, true) := by rw [HS.out]; rw [show q.pm.tainted = true from hta]; rfl
      have HR := Lib.hid hr
      clear hr
      go_wp2
      go_ret2
      exact ⟨by rw [HR.out]; rfl, HB.out⟩
    rw [hta] at c42
    have HTA := Lib.hid hta
    clear hta
    by_cases hmo : q.mo = 1
    · have hm' : (q.mo != 1) = false := by simpa using hmo
      have hr : PM.sends q.pm = (PM.originShow q.o.pm, true) := by rw [HS.out]; rw [show q.pm.tainted = false from HTA.out, show decide (q.pm.mode = 1) = true from decide_eq_true hmo]; rfl
      have HR := Lib.hid hr
      clear hr
      clear hmo
      go_wp2_with (first | go_skip | (refine wpList_load_mg 30 _ rfl (by kernel_rfl) w.heap.size 24 rfl q.o.cells (q_org Hq.out) Tryz.underlying30 rfl (by kernel_rfl) ?_))
      refine (Show_o_c q.o _ OQ.out.o (HG.out.below HB.out)).mono ?_
      rintro e Z9 ⟨rfl, hb⟩
      replace HB := Lib.hid (b_then HB.out hb)
      replace Hq := Lib.hid (obj_b hb Hq.out)
      replace HQB := Lib.hid (obj_b hb HQB.out)
      clear hb
      go_wp2
      go_ret2
      exact ⟨by rw [HR.out]; rfl, HB.out⟩
    have hm' : (q.mo != 1) = true := by simpa using hmo
    have HMO := Lib.hid (show decide (q.pm.mode = 1) = false from decide_eq_false hmo)
    clear hmo
    cases hdn : PM.down q.pm
    · skip
      have HDN := Lib.hid hdn
      clear hdn
      have hr : PM.sends q.pm = (PM.originShow q.o.pm, true) := by rw [HS.out]; rw [show q.pm.tainted = false from HTA.out, HMO.out, HHD.out, HDN.out]; rfl
      have HR := Lib.hid hr
      clear hr
      go_wp2_with fail
      refine (hides1_c _ q _ HQB.out).mono ?_
      rw [HDN.out]
      rintro e V7 ⟨rfl, hb⟩
      replace HB := Lib.hid (b_then HB.out hb)
      replace Hq := Lib.hid (obj_b hb Hq.out)
      replace HQB := Lib.hid (obj_b hb HQB.out)
      clear hb
      go_wp2_with (first | go_skip | (refine wpList_load_mg 30 _ rfl (by kernel_rfl) w.heap.size 24 rfl q.o.cells (q_org Hq.out) Tryz.underlying30 rfl (by kernel_rfl) ?_))
      refine (Show_o_c q.o _ OQ.out.o (HG.out.below HB.out)).mono ?_
      rintro e Z9 ⟨rfl, hb⟩
      replace HB := Lib.hid (b_then HB.out hb)
      replace Hq := Lib.hid (obj_b hb Hq.out)
      replace HQB := Lib.hid (obj_b hb HQB.out)
      clear hb
      go_wp2
      go_ret2
      exact ⟨by rw [HR.out]; rfl, HB.out⟩
    · skip
      have HDN := Lib.hid hdn
      clear hdn
      have hr : PM.sends q.pm = (PM.nul, true) := by rw [HS.out]; rw [show q.pm.tainted = false from HTA.out, HMO.out, HHD.out, HDN.out]; rfl
      have HR := Lib.hid hr
      clear hr
      go_wp2_with fail
      refine (hides1_c _ q _ HQB.out).mono ?_
      rw [HDN.out]
      rintro e V8 ⟨rfl, hb⟩
      replace HB := Lib.hid (b_then HB.out hb)
      replace Hq := Lib.hid (obj_b hb Hq.out)
      replace HQB := Lib.hid (obj_b hb HQB.out)
      clear hb
      go_wp2
      go_ret2
      exact ⟨by rw [HR.out]; rfl, HB.out⟩
  by_cases hp7 : q.po = 7
  · have HPO := Lib.hid hp7
    clear hp1 hp0 hp2 hp5 hp7
    go_wp2_with fail
    refine wp_region_noPanic ?_
    refine wp_region_held_drew (S := fun W' => QAt w.heap.size q w W') (by kernel_rfl) (QAt.below ⟨Hq.out, HB.out⟩ (b_drew (Below.refl _ _))) (fun hS0 => ?_)
    refine wpAnyH_take (i := 0) (v := ?_) rfl (by kernel_rfl) (by kernel_rfl) (by kernel_rfl) (fun _ _ _ h => h) (Or.inl ⟨by kernel_rfl, fun W hW => ?_⟩) (by assumption) ?_
    rotate_left
    · refine yield_row 32 (.tmp 1) ?_ w.heap.size ?_ hW.hq Tryz.underlying32 rfl (by kernel_rfl)
      · rfl
      · rfl
    (try simp only [List.getElem_toArray, List.getElem_cons_zero, List.getElem_cons_succ, Act.put, List.setIfInBounds_toArray, List.set_cons_zero, List.set_cons_succ])
    refine wpAnyH_take (i := 2) (v := ?_) rfl (by kernel_rfl) (by kernel_rfl) (by kernel_rfl) (fun _ _ _ h => h) (Or.inl ⟨by kernel_rfl, fun W hW => ?_⟩) (by assumption) ?_
    rotate_left
    · go_simp
      try with_reducible rfl
    (try simp only [List.getElem_toArray, List.getElem_cons_zero, List.getElem_cons_succ, Act.put, List.setIfInBounds_toArray, List.set_cons_zero, List.set_cons_succ])
    refine wpAnyH_take (i := 3) (v := ?_) rfl (by kernel_rfl) (by kernel_rfl) (by kernel_rfl) (fun _ _ _ h => h) (Or.inl ⟨by kernel_rfl, fun W hW => ?_⟩) (by assumption) ?_
    rotate_left
    · have c40 : W.cell? ⟨w.heap.size, 40, none⟩ = some (.int .i64 q.po) := by rw [Lib.cell_of_heap hW.hq]; rfl
      go_simp
      try with_reducible rfl
    (try simp only [List.getElem_toArray, List.getElem_cons_zero, List.getElem_cons_succ, Act.put, List.setIfInBounds_toArray, List.set_cons_zero, List.set_cons_succ])
    refine wpAnyH_ready (rs := [1]) (by kernel_rfl) (by simp) ?_
    refine AllReadyH.cons rfl (fun K hK => ?_) AllReadyH.nil
    go_simp
    refine (hides_c q _).mono ?_
    rintro e U7 ⟨⟨rfl, hmap, hqb⟩, hb⟩
    have hSn := hS0.below hb
    clear hb hS0
    have HMP := Lib.hid hmap
    have HQB := Lib.hid hqb
    clear hmap hqb
    refine hK.out _ _ hSn (fun _ => ?_)
    clear hK K
    (try simp only [List.getElem_toArray, List.getElem_cons_zero, List.getElem_cons_succ, Act.put, List.setIfInBounds_toArray, List.set_cons_zero, List.set_cons_succ])
    refine wpAnyH_ready (rs := [4]) (by kernel_rfl) (by simp) ?_
    refine AllReadyH.cons rfl (fun K hK => ?_) AllReadyH.nil
    have hlk := run_look _ (V1.heap.size + 1) 6 _ q.po 4 (F1 V1.heap.size) Tryz.underlying68 HMP.out (by rw [HPO.out]; rfl)
    unfold F1 at hlk
    go_simp
    refine hK.out _ _ hSn (fun _ => ?_)
    clear hK K
    (try simp only [List.getElem_toArray, List.getElem_cons_zero, List.getElem_cons_succ, Act.put, List.setIfInBounds_toArray, List.set_cons_zero, List.set_cons_succ])
    refine wpAnyH_take (i := 5) (v := ?_) rfl (by kernel_rfl) (by kernel_rfl) (by kernel_rfl) (fun _ _ _ h => h) (Or.inl ⟨by kernel_rfl, fun W hW => ?_⟩) (by assumption) ?_
    rotate_left
    · go_simp
      try with_reducible rfl
    (try simp only [List.getElem_toArray, List.getElem_cons_zero, List.getElem_cons_succ, Act.put, List.setIfInBounds_toArray, List.set_cons_zero, List.set_cons_succ])
    refine wpAnyH_take (i := 6) (v := ?_) rfl (by kernel_rfl) (by kernel_rfl) (by kernel_rfl) (fun _ _ _ h => h) (Or.inl ⟨by kernel_rfl, fun W hW => ?_⟩) (by assumption) ?_
    rotate_left
    · go_simp
      try with_reducible rfl
    (try simp only [List.getElem_toArray, List.getElem_cons_zero, List.getElem_cons_succ, Act.put, List.setIfInBounds_toArray, List.set_cons_zero, List.set_cons_succ])
    refine wpAnyH_take (i := 7) (v := ?_) rfl (by kernel_rfl) (by kernel_rfl) (by kernel_rfl) (fun _ _ _ h => h) (Or.inl ⟨by kernel_rfl, fun W hW => ?_⟩) (by assumption) ?_
    rotate_left
    · go_simp
      try with_reducible rfl
    (try simp only [List.getElem_toArray, List.getElem_cons_zero, List.getElem_cons_succ, Act.put, List.setIfInBounds_toArray, List.set_cons_zero, List.set_cons_succ])
    refine wpAnyH_take (i := 8) (v := ?_) rfl (by kernel_rfl) (by kernel_rfl) (by kernel_rfl) (fun _ _ _ h => h) (Or.inl ⟨by kernel_rfl, fun W hW => ?_⟩) (by assumption) ?_
    rotate_left
    · go_simp
      try with_reducible rfl
    (try simp only [List.getElem_toArray, List.getElem_cons_zero, List.getElem_cons_succ, Act.put, List.setIfInBounds_toArray, List.set_cons_zero, List.set_cons_succ])
    refine wpAnyH_take (i := 9) (v := ?_) rfl (by kernel_rfl) (by kernel_rfl) (by kernel_rfl) (fun _ _ _ h => h) (Or.inl ⟨by kernel_rfl, fun W hW => ?_⟩) (by assumption) ?_
    rotate_left
    · go_simp
      try with_reducible rfl
    (try simp only [List.getElem_toArray, List.getElem_cons_zero, List.getElem_cons_succ, Act.put, List.setIfInBounds_toArray, List.set_cons_zero, List.set_cons_succ])
    refine wpAnyH_done (by kernel_rfl) ?_ _
    refine NoPanic.normal ?_
    replace Hq := Lib.hid hSn.hq
    replace HB := Lib.hid hSn.be
    clear hSn hlk
    skip
    have hhd : PM.hide q.pm = PM.down q.pm := by unfold PM.hide; rw [if_neg (show ¬ q.pm.policy = 1 from by show ¬ q.po = 1; rw [HPO.out]; decide), if_pos (show q.pm.policy = 0 ∨ q.pm.policy = 2 ∨ q.pm.policy = 5 ∨ q.pm.policy = 7 from by show q.po = 0 ∨ q.po = 2 ∨ q.po = 5 ∨ q.po = 7; rw [HPO.out]; decide)]
    have HHD := Lib.hid hhd
    clear hhd
    have c42 : U7.cell? ⟨w.heap.size, 42, none⟩ = some (.bool q.ta) := by rw [Lib.cell_of_heap Hq.out]; rfl
    have c38 : U7.cell? ⟨w.heap.size, 38, none⟩ = some (.int .i64 q.mo) := by rw [Lib.cell_of_heap Hq.out]; rfl
    cases hta : q.ta
    rotate_left
    · rw [hta] at c42
      have hr : PM.sends q.pm = (PM.nul, true) := by rw [HS.out]; rw [show q.pm.tainted = true from hta]; rfl
      have HR := Lib.hid hr
      clear hr
      go_wp2
      go_ret2
      exact ⟨by rw [HR.out]; rfl, HB.out⟩
    rw [hta] at c42
    have HTA := Lib.hid hta
    clear hta
    by_cases hmo : q.mo = 1
    · have hm' : (q.mo != 1) = false := by simpa using hmo
      have hr : PM.sends q.pm = (PM.originShow q.o.pm, true) := by rw [HS.out]; rw [show q.pm.tainted = false from HTA.out, show decide (q.pm.mode = 1) = true from decide_eq_true hmo]; rfl
      have HR := Lib.hid hr
      clear hr
      clear hmo
      go_wp2_with (first | go_skip | (refine wpList_load_mg 30 _ rfl (by kernel_rfl) w.heap.size 24 rfl q.o.cells (q_org Hq.out) Tryz.underlying30 rfl (by kernel_rfl) ?_))
      refine (Show_o_c q.o _ OQ.out.o (HG.out.below HB.out)).mono ?_
      rintro e Z9 ⟨rfl, hb⟩
      replace HB := Lib.hid (b_then HB.out hb)
      replace Hq := Lib.hid (obj_b hb Hq.out)
      replace HQB := Lib.hid (obj_b hb HQB.out)
      clear hb
      go_wp2
      go_ret2
      exact ⟨by rw [HR.out]; rfl, HB.out⟩
    have hm' : (q.mo != 1) = true := by simpa using hmo
    have HMO := Lib.hid (show decide (q.pm.mode = 1) = false from decide_eq_false hmo)
    clear hmo
    cases hdn : PM.down q.pm
    · skip
      have HDN := Lib.hid hdn
      clear hdn
      have hr : PM.sends q.pm = (PM.originShow q.o.pm, true) := by rw [HS.out]; rw [show q.pm.tainted = false from HTA.out, HMO.out, HHD.out, HDN.out]; rfl
      have HR := Lib.hid hr
      clear hr
      go_wp2_with fail
      refine (hides1_c _ q _ HQB.out).mono ?_
      rw [HDN.out]
      rintro e V9 ⟨rfl, hb⟩
      replace HB := Lib.hid (b_then HB.out hb)
      replace Hq := Lib.hid (obj_b hb Hq.out)
      replace HQB := Lib.hid (obj_b hb HQB.out)
      clear hb
      go_wp2_with (first | go_skip | (refine wpList_load_mg 30 _ rfl (by kernel_rfl) w.heap.size 24 rfl q.o.cells (q_org Hq.out) Tryz.underlying30 rfl (by kernel_rfl) ?_))
      refine (Show_o_c q.o _ OQ.out.o (HG.out.below HB.out)).mono ?_
      rintro e Z9 ⟨rfl, hb⟩
      replace HB := Lib.hid (b_then HB.out hb)
      replace Hq := Lib.hid (obj_b hb Hq.out)
      replace HQB := Lib.hid (obj_b hb HQB.out)
      clear hb
      go_wp2
      go_ret2
      exact ⟨by rw [HR.out]; rfl, HB.out⟩
    · skip
      have HDN := Lib.hid hdn
      clear hdn
      have hr : PM.sends q.pm = (PM.nul, true) := by rw [HS.out]; rw [show q.pm.tainted = false from HTA.out, HMO.out, HHD.out, HDN.out]; rfl
      have HR := Lib.hid hr
      clear hr
      go_wp2_with fail
      refine (hides1_c _ q _ HQB.out).mono ?_
      rw [HDN.out]
      rintro e V10 ⟨rfl, hb⟩
      replace HB := Lib.hid (b_then HB.out hb)
      replace Hq := Lib.hid (obj_b hb Hq.out)
      replace HQB := Lib.hid (obj_b hb HQB.out)
      clear hb
      go_wp2
      go_ret2
      exact ⟨by rw [HR.out]; rfl, HB.out⟩
  by_cases hp3 : q.po = 3
  · have HPO := Lib.hid hp3
    clear hp1 hp0 hp2 hp5 hp7 hp3
    go_wp2_with fail
    refine wp_region_noPanic ?_
    refine wp_region_held_drew (S := fun W' => QAt w.heap.size q w W') (by kernel_rfl) (QAt.below ⟨Hq.out, HB.out⟩ (b_drew (Below.refl _ _))) (fun hS0 => ?_)
    refine wpAnyH_take (i := 0) (v := ?_) rfl (by kernel_rfl) (by kernel_rfl) (by kernel_rfl) (fun _ _ _ h => h) (Or.inl ⟨by kernel_rfl, fun W hW => ?_⟩) (by assumption) ?_
    rotate_left
    · refine yield_row 32 (.tmp 1) ?_ w.heap.size ?_ hW.hq Tryz.underlying32 rfl (by kernel_rfl)
      · rfl
      · rfl
    (try simp only [List.getElem_toArray, List.getElem_cons_zero, List.getElem_cons_succ, Act.put, List.setIfInBounds_toArray, List.set_cons_zero, List.set_cons_succ])
    refine wpAnyH_take (i := 2) (v := ?_) rfl (by kernel_rfl) (by kernel_rfl) (by kernel_rfl) (fun _ _ _ h => h) (Or.inl ⟨by kernel_rfl, fun W hW => ?_⟩) (by assumption) ?_
    rotate_left
    · go_simp
      try with_reducible rfl
    (try simp only [List.getElem_toArray, List.getElem_cons_zero, List.getElem_cons_succ, Act.put, List.setIfInBounds_toArray, List.set_cons_zero, List.set_cons_succ])
    refine wpAnyH_take (i := 3) (v := ?_) rfl (by kernel_rfl) (by kernel_rfl) (by kernel_rfl) (fun _ _ _ h => h) (Or.inl ⟨by kernel_rfl, fun W hW => ?_⟩) (by assumption) ?_
    rotate_left
    · have c40 : W.cell? ⟨w.heap.size, 40, none⟩ = some (.int .i64 q.po) := by rw [Lib.cell_of_heap hW.hq]; rfl
      go_simp
      try with_reducible rfl
    (try simp only [List.getElem_toArray, List.getElem_cons_zero, List.getElem_cons_succ, Act.put, List.setIfInBounds_toArray, List.set_cons_zero, List.set_cons_succ])
    refine wpAnyH_ready (rs := [1]) (by kernel_rfl) (by simp) ?_
    refine AllReadyH.cons rfl (fun K hK => ?_) AllReadyH.nil
    go_simp
    refine (hides_c q _).mono ?_
    rintro e U8 ⟨⟨rfl, hmap, hqb⟩, hb⟩
    have hSn := hS0.below hb
    clear hb hS0
    have HMP := Lib.hid hmap
    have HQB := Lib.hid hqb
    clear hmap hqb
    refine hK.out _ _ hSn (fun _ => ?_)
    clear hK K
    (try simp only [List.getElem_toArray, List.getElem_cons_zero, List.getElem_cons_succ, Act.put, List.setIfInBounds_toArray, List.set_cons_zero, List.set_cons_succ])
    refine wpAnyH_ready (rs := [4]) (by kernel_rfl) (by simp) ?_
    refine AllReadyH.cons rfl (fun K hK => ?_) AllReadyH.nil
    have hlk := run_look _ (V1.heap.size + 1) 6 _ q.po 5 (F3 V1.heap.size) Tryz.underlying68 HMP.out (by rw [HPO.out]; rfl)
    unfold F3 at hlk
    go_simp
    refine hK.out _ _ hSn (fun _ => ?_)
    clear hK K
    (try simp only [List.getElem_toArray, List.getElem_cons_zero, List.getElem_cons_succ, Act.put, List.setIfInBounds_toArray, List.set_cons_zero, List.set_cons_succ])
    refine wpAnyH_take (i := 5) (v := ?_) rfl (by kernel_rfl) (by kernel_rfl) (by kernel_rfl) (fun _ _ _ h => h) (Or.inl ⟨by kernel_rfl, fun W hW => ?_⟩) (by assumption) ?_
    rotate_left
    · go_simp
      try with_reducible rfl
    (try simp only [List.getElem_toArray, List.getElem_cons_zero, List.getElem_cons_succ, Act.put, List.setIfInBounds_toArray, List.set_cons_zero, List.set_cons_succ])
    refine wpAnyH_take (i := 6) (v := ?_) rfl (by kernel_rfl) (by kernel_rfl) (by kernel_rfl) (fun _ _ _ h => h) (Or.inl ⟨by kernel_rfl, fun W hW => ?_⟩) (by assumption) ?_
    rotate_left
    · go_simp
      try with_reducible rfl
    (try simp only [List.getElem_toArray, List.getElem_cons_zero, List.getElem_cons_succ, Act.put, List.setIfInBounds_toArray, List.set_cons_zero, List.set_cons_succ])
    refine wpAnyH_take (i := 7) (v := ?_) rfl (by kernel_rfl) (by kernel_rfl) (by kernel_rfl) (fun _ _ _ h => h) (Or.inl ⟨by kernel_rfl, fun W hW => ?_⟩) (by assumption) ?_
    rotate_left
    · go_simp
      try with_reducible rfl
    (try simp only [List.getElem_toArray, List.getElem_cons_zero, List.getElem_cons_succ, Act.put, List.setIfInBounds_toArray, List.set_cons_zero, List.set_cons_succ])
    refine wpAnyH_take (i := 8) (v := ?_) rfl (by kernel_rfl) (by kernel_rfl) (by kernel_rfl) (fun _ _ _ h => h) (Or.inl ⟨by kernel_rfl, fun W hW => ?_⟩) (by assumption) ?_
    rotate_left
    · go_simp
      try with_reducible rfl
    (try simp only [List.getElem_toArray, List.getElem_cons_zero, List.getElem_cons_succ, Act.put, List.setIfInBounds_toArray, List.set_cons_zero, List.set_cons_succ])
    refine wpAnyH_take (i := 9) (v := ?_) rfl (by kernel_rfl) (by kernel_rfl) (by kernel_rfl) (fun _ _ _ h => h) (Or.inl ⟨by kernel_rfl, fun W hW => ?_⟩) (by assumption) ?_
    rotate_left
    · go_simp
      try with_reducible rfl
    (try simp only [List.getElem_toArray, List.getElem_cons_zero, List.getElem_cons_succ, Act.put, List.setIfInBounds_toArray, List.set_cons_zero, List.set_cons_succ])
    refine wpAnyH_done (by kernel_rfl) ?_ _
    refine NoPanic.normal ?_
    replace Hq := Lib.hid hSn.hq
    replace HB := Lib.hid hSn.be
    clear hSn hlk
    skip
    have hhd : PM.hide q.pm = (!PM.home q.pm) := by unfold PM.hide; rw [if_neg (show ¬ q.pm.policy = 1 from by show ¬ q.po = 1; rw [HPO.out]; decide), if_neg (show ¬ (q.pm.policy = 0 ∨ q.pm.policy = 2 ∨ q.pm.policy = 5 ∨ q.pm.policy = 7) from by show ¬ (q.po = 0 ∨ q.po = 2 ∨ q.po = 5 ∨ q.po = 7); rw [HPO.out]; decide), if_pos (show q.pm.policy = 3 from HPO.out)]
    have HHD := Lib.hid hhd
    clear hhd
    have c42 : U8.cell? ⟨w.heap.size, 42, none⟩ = some (.bool q.ta) := by rw [Lib.cell_of_heap Hq.out]; rfl
    have c38 : U8.cell? ⟨w.heap.size, 38, none⟩ = some (.int .i64 q.mo) := by rw [Lib.cell_of_heap Hq.out]; rfl
    cases hta : q.ta
    rotate_left
    · rw [hta] at c42
      have hr : PM.sends q.pm = (PM.nul, true) := by rw [HS.out]; rw [show q.pm.tainted = true from hta]; rfl
      have HR := Lib.hid hr
      clear hr
      go_wp2
      go_ret2
      exact ⟨by rw [HR.out]; rfl, HB.out⟩
    rw [hta] at c42
    have HTA := Lib.hid hta
    clear hta
    by_cases hmo : q.mo = 1
    · have hm' : (q.mo != 1) = false := by simpa using hmo
      have hr : PM.sends q.pm = (PM.originShow q.o.pm, true) := by rw [HS.out]; rw [show q.pm.tainted = false from HTA.out, show decide (q.pm.mode = 1) = true from decide_eq_true hmo]; rfl
      have HR := Lib.hid hr
      clear hr
      clear hmo
      go_wp2_with (first | go_skip | (refine wpList_load_mg 30 _ rfl (by kernel_rfl) w.heap.size 24 rfl q.o.cells (q_org Hq.out) Tryz.underlying30 rfl (by kernel_rfl) ?_))
      refine (Show_o_c q.o _ OQ.out.o (HG.out.below HB.out)).mono ?_
      rintro e Z9 ⟨rfl, hb⟩
      replace HB := Lib.hid (b_then HB.out hb)
      replace Hq := Lib.hid (obj_b hb Hq.out)
      replace HQB := Lib.hid (obj_b hb HQB.out)
      clear hb
      go_wp2
      go_ret2
      exact ⟨by rw [HR.out]; rfl, HB.out⟩
    have hm' : (q.mo != 1) = true := by simpa using hmo
    have HMO := Lib.hid (show decide (q.pm.mode = 1) = false from decide_eq_false hmo)
    clear hmo
    cases hdn : (!PM.home q.pm)
    · skip
      have HDN := Lib.hid hdn
      clear hdn
      have hr : PM.sends q.pm = (PM.originShow q.o.pm, true) := by rw [HS.out]; rw [show q.pm.tainted = false from HTA.out, HMO.out, HHD.out, HDN.out]; rfl
      have HR := Lib.hid hr
      clear hr
      go_wp2_with fail
      refine (hides3_c _ q _ (OQ.out.below HB.out) (HG.out.below HB.out) HQB.out).mono ?_
      rw [HDN.out]
      rintro e V11 ⟨rfl, hb⟩
      replace HB := Lib.hid (b_then HB.out hb)
      replace Hq := Lib.hid (obj_b hb Hq.out)
      replace HQB := Lib.hid (obj_b hb HQB.out)
      clear hb
      go_wp2_with (first | go_skip | (refine wpList_load_mg 30 _ rfl (by kernel_rfl) w.heap.size 24 rfl q.o.cells (q_org Hq.out) Tryz.underlying30 rfl (by kernel_rfl) ?_))
      refine (Show_o_c q.o _ OQ.out.o (HG.out.below HB.out)).mono ?_
      rintro e Z9 ⟨rfl, hb⟩
      replace HB := Lib.hid (b_then HB.out hb)
      replace Hq := Lib.hid (obj_b hb Hq.out)
      replace HQB := Lib.hid (obj_b hb HQB.out)
      clear hb
      go_wp2
      go_ret2
      exact ⟨by rw [HR.out]; rfl, HB.out⟩
    · skip
      have HDN := Lib.hid hdn
      clear hdn
      have hr : PM.sends q.pm = (PM.nul, true) := by rw [HS.out]; rw [show q.pm.tainted = false from HTA.out, HMO.out, HHD.out, HDN.out]; rfl
      have HR := Lib.hid hr
      clear hr
      go_wp2_with fail
      refine (hides3_c _ q _ (OQ.out.below HB.out) (HG.out.below HB.out) HQB.out).mono ?_
      rw [HDN.out]
      rintro e V12 ⟨rfl, hb⟩
      replace HB := Lib.hid (b_then HB.out hb)
      replace Hq := Lib.hid (obj_b hb Hq.out)
      replace HQB := Lib.hid (obj_b hb HQB.out)
      clear hb
      go_wp2
      go_ret2
      exact ⟨by rw [HR.out]; rfl, HB.out⟩
  have HPO := Lib.hid (And.intro hp1 (And.intro hp0 (And.intro hp2 (And.intro hp5 (And.intro hp7 hp3)))))
  clear hp1 hp0 hp2 hp5 hp7 hp3
  go_wp2_with fail
  refine wp_region_noPanic ?_
  refine wp_region_held_drew (S := fun W' => QAt w.heap.size q w W') (by kernel_rfl) (QAt.below ⟨Hq.out, HB.out⟩ (b_drew (Below.refl _ _))) (fun hS0 => ?_)
  refine wpAnyH_take (i := 0) (v := ?_) rfl (by kernel_rfl) (by kernel_rfl) (by kernel_rfl) (fun _ _ _ h => h) (Or.inl ⟨by kernel_rfl, fun W hW => ?_⟩) (by assumption) ?_
  rotate_left
  · refine yield_row 32 (.tmp 1) ?_ w.heap.size ?_ hW.hq Tryz.underlying32 rfl (by kernel_rfl)
    · rfl
    · rfl
  (try simp only [List.getElem_toArray, List.getElem_cons_zero, List.getElem_cons_succ, Act.put, List.setIfInBounds_toArray, List.set_cons_zero, List.set_cons_succ])
  refine wpAnyH_take (i := 2) (v := ?_) rfl (by kernel_rfl) (by kernel_rfl) (by kernel_rfl) (fun _ _ _ h => h) (Or.inl ⟨by kernel_rfl, fun W hW => ?_⟩) (by assumption) ?_
  rotate_left
  · go_simp
    try with_reducible rfl
  (try simp only [List.getElem_toArray, List.getElem_cons_zero, List.getElem_cons_succ, Act.put, List.setIfInBounds_toArray, List.set_cons_zero, List.set_cons_succ])
  refine wpAnyH_take (i := 3) (v := ?_) rfl (by kernel_rfl) (by kernel_rfl) (by kernel_rfl) (fun _ _ _ h => h) (Or.inl ⟨by kernel_rfl, fun W hW => ?_⟩) (by assumption) ?_
  rotate_left
  · have c40 : W.cell? ⟨w.heap.size, 40, none⟩ = some (.int .i64 q.po) := by rw [Lib.cell_of_heap hW.hq]; rfl
    go_simp
    try with_reducible rfl
  (try simp only [List.getElem_toArray, List.getElem_cons_zero, List.getElem_cons_succ, Act.put, List.setIfInBounds_toArray, List.set_cons_zero, List.set_cons_succ])
  refine wpAnyH_ready (rs := [1]) (by kernel_rfl) (by simp) ?_
  refine AllReadyH.cons rfl (fun K hK => ?_) AllReadyH.nil
  go_simp
  refine (hides_c q _).mono ?_
  rintro e U9 ⟨⟨rfl, hmap, hqb⟩, hb⟩
  have hSn := hS0.below hb
  clear hb hS0
  have HMP := Lib.hid hmap
  have HQB := Lib.hid hqb
  clear hmap hqb
  refine hK.out _ _ hSn (fun _ => ?_)
  clear hK K
  (try simp only [List.getElem_toArray, List.getElem_cons_zero, List.getElem_cons_succ, Act.put, List.setIfInBounds_toArray, List.set_cons_zero, List.set_cons_succ])
  refine wpAnyH_ready (rs := [4]) (by kernel_rfl) (by simp) ?_
  refine AllReadyH.cons rfl (fun K hK => ?_) AllReadyH.nil
  have hlk := run_look_none _ (V1.heap.size + 1) 6 _ q.po Tryz.underlying68 HMP.out (ents_none _ _ HPO.out)
  go_simp
  refine hK.out _ _ hSn (fun _ => ?_)
  clear hK K
  (try simp only [List.getElem_toArray, List.getElem_cons_zero, List.getElem_cons_succ, Act.put, List.setIfInBounds_toArray, List.set_cons_zero, List.set_cons_succ])
  refine wpAnyH_take (i := 5) (v := ?_) rfl (by kernel_rfl) (by kernel_rfl) (by kernel_rfl) (fun _ _ _ h => h) (Or.inl ⟨by kernel_rfl, fun W hW => ?_⟩) (by assumption) ?_
  rotate_left
  · go_simp
    try with_reducible rfl
  (try simp only [List.getElem_toArray, List.getElem_cons_zero, List.getElem_cons_succ, Act.put, List.setIfInBounds_toArray, List.set_cons_zero, List.set_cons_succ])
  refine wpAnyH_take (i := 6) (v := ?_) rfl (by kernel_rfl) (by kernel_rfl) (by kernel_rfl) (fun _ _ _ h => h) (Or.inl ⟨by kernel_rfl, fun W hW => ?_⟩) (by assumption) ?_
  rotate_left
  · go_simp
    try with_reducible rfl
  (try simp only [List.getElem_toArray, List.getElem_cons_zero, List.getElem_cons_succ, Act.put, List.setIfInBounds_toArray, List.set_cons_zero, List.set_cons_succ])
  refine wpAnyH_take (i := 7) (v := ?_) rfl (by kernel_rfl) (by kernel_rfl) (by kernel_rfl) (fun _ _ _ h => h) (Or.inl ⟨by kernel_rfl, fun W hW => ?_⟩) (by assumption) ?_
  rotate_left
  · go_simp
    try with_reducible rfl
  (try simp only [List.getElem_toArray, List.getElem_cons_zero, List.getElem_cons_succ, Act.put, List.setIfInBounds_toArray, List.set_cons_zero, List.set_cons_succ])
  refine wpAnyH_take (i := 8) (v := ?_) rfl (by kernel_rfl) (by kernel_rfl) (by kernel_rfl) (fun _ _ _ h => h) (Or.inl ⟨by kernel_rfl, fun W hW => ?_⟩) (by assumption) ?_
  rotate_left
  · go_simp
    try with_reducible rfl
  (try simp only [List.getElem_toArray, List.getElem_cons_zero, List.getElem_cons_succ, Act.put, List.setIfInBounds_toArray, List.set_cons_zero, List.set_cons_succ])
  refine wpAnyH_take (i := 9) (v := ?_) rfl (by kernel_rfl) (by kernel_rfl) (by kernel_rfl) (fun _ _ _ h => h) (Or.inl ⟨by kernel_rfl, fun W hW => ?_⟩) (by assumption) ?_
  rotate_left
  · go_simp
    try with_reducible rfl
  (try simp only [List.getElem_toArray, List.getElem_cons_zero, List.getElem_cons_succ, Act.put, List.setIfInBounds_toArray, List.set_cons_zero, List.set_cons_succ])
  refine wpAnyH_done (by kernel_rfl) ?_ _
  refine NoPanic.normal ?_
  replace Hq := Lib.hid hSn.hq
  replace HB := Lib.hid hSn.be
  clear hSn hlk
  skip
  have hhd : PM.hide q.pm = false := by unfold PM.hide; have h := HPO.out; rw [if_neg (show ¬ q.pm.policy = 1 from h.1), if_neg (show ¬ (q.pm.policy = 0 ∨ q.pm.policy = 2 ∨ q.pm.policy = 5 ∨ q.pm.policy = 7) from by rintro (e | e | e | e); exact h.2.1 e; exact h.2.2.1 e; exact h.2.2.2.1 e; exact h.2.2.2.2.1 e), if_neg (show ¬ q.pm.policy = 3 from h.2.2.2.2.2)]
  have HHD := Lib.hid hhd
  clear hhd
  have c42 : U9.cell? ⟨w.heap.size, 42, none⟩ = some (.bool q.ta) := by rw [Lib.cell_of_heap Hq.out]; rfl
  have c38 : U9.cell? ⟨w.heap.size, 38, none⟩ = some (.int .i64 q.mo) := by rw [Lib.cell_of_heap Hq.out]; rfl
  cases hta : q.ta
  rotate_left
  · rw [hta] at c42
    have hr : PM.sends q.pm = (PM.nul, true) := by rw [HS.out]; rw [show q.pm.tainted = true from hta]; rfl
    have HR := Lib.hid hr
    clear hr
    go_wp2
    go_ret2
    exact ⟨by rw [HR.out]; rfl, HB.out⟩
  rw [hta] at c42
  have HTA := Lib.hid hta
  clear hta
  by_cases hmo : q.mo = 1
  · have hm' : (q.mo != 1) = false := by simpa using hmo
    have hr : PM.sends q.pm = (PM.originShow q.o.pm, true) := by rw [HS.out]; rw [show q.pm.tainted = false from HTA.out, show decide (q.pm.mode = 1) = true from decide_eq_true hmo]; rfl
    have HR := Lib.hid hr
    clear hr
    clear hmo
    go_wp2_with (first | go_skip | (refine wpList_load_mg 30 _ rfl (by kernel_rfl) w.heap.size 24 rfl q.o.cells (q_org Hq.out) Tryz.underlying30 rfl (by kernel_rfl) ?_))
    refine (Show_o_c q.o _ OQ.out.o (HG.out.below HB.out)).mono ?_
    rintro e Z9 ⟨rfl, hb⟩
    replace HB := Lib.hid (b_then HB.out hb)
    replace Hq := Lib.hid (obj_b hb Hq.out)
    replace HQB := Lib.hid (obj_b hb HQB.out)
    clear hb
    go_wp2
    go_ret2
    exact ⟨by rw [HR.out]; rfl, HB.out⟩
  have hm' : (q.mo != 1) = true := by simpa using hmo
  have HMO := Lib.hid (show decide (q.pm.mode = 1) = false from decide_eq_false hmo)
  clear hmo
  have hr : PM.sends q.pm = (PM.originShow q.o.pm, true) := by rw [HS.out]; rw [show q.pm.tainted = false from HTA.out, HMO.out, HHD.out]; rfl
  have HR := Lib.hid hr
  clear hr
  go_wp2_with (first | go_skip | (refine wpList_load_mg 30 _ rfl (by kernel_rfl) w.heap.size 24 rfl q.o.cells (q_org Hq.out) Tryz.underlying30 rfl (by kernel_rfl) ?_))
  refine (Show_o_c q.o _ OQ.out.o (HG.out.below HB.out)).mono ?_
  rintro e Z9 ⟨rfl, hb⟩
  replace HB := Lib.hid (b_then HB.out hb)
  replace Hq := Lib.hid (obj_b hb Hq.out)
  replace HQB := Lib.hid (obj_b hb HQB.out)
  clear hb
  go_wp2
  go_ret2
  exact ⟨by rw [HR.out]; rfl, HB.out⟩
end Go.Proofs.YtphigjogeejdjaaGreatDoor
