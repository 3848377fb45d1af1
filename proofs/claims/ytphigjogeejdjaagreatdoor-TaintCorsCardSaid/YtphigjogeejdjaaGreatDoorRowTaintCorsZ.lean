/-
TaintCors: whatever comes in, the law's call returns true, and the arguments read behind the call as they did before; no condition on them. The row lists the two tables of unicode/utf8 (first, acceptRanges); the card ties them.
-/
import Derived.Test.YtphigjogeejdjaaGreatDoorTz
import Derived.Test.YtphigjogeejdjaaGreatDoorAw19
set_option linter.unusedVariables false
set_option linter.unusedSimpArgs false
/-! The walk of TaintCors. -/
namespace Go.Proofs.YtphigjogeejdjaaGreatDoor
open Go.RowKit
set_option maxRecDepth 100000 in
set_option maxHeartbeats 32000000 in
theorem TaintCors_c (q : QV) (n : Int) (w : World) (hr : RdW w q.u.a q.u.pn q.u.xs) (hf : RdFW w q.ha q.hn q.hs) (hg : Gl w) (hT : Lib.Utf8Tabs 1 2 w) : Calls Tryz.prog 3 #[.agg q.cells, .int .i64 n] w fun e w' => e = .returned (.bool true) ∧ Below w.heap.size w w' := by
  have HG := Lib.hid hg
  have HTB := Lib.hid hT
  have R := Lib.hid hr
  clear hg hT hr hf
  have HB : Hid (Below w.heap.size w (w.alloc (.cells q.cells 32))) := Lib.hid (b_alloc (Below.refl _ _) _)
  have Hq : Hid ((w.alloc (.cells q.cells 32)).heap[w.heap.size]? = some (.cells q.cells 32 (0, 0))) := Lib.hid ((by have h := Go.heap_alloc_new w (.cells q.cells 32); simpa using h))
  go_enter Tryz.func3, Tryz.ntmps3
  go_upto_region 1 with fail
  generalize w.alloc (.cells q.cells 32) = V0 at HB Hq ⊢
  go_wp2_with fail
  refine (awake19_c _ (HG.out.below HB.out) (tabs_below HTB.out HB.out)).mono ?_
  rintro e V1 ⟨rfl, hb⟩
  replace HB := Lib.hid (b_then HB.out hb)
  replace Hq := Lib.hid (obj_b hb Hq.out)
  clear hb
  go_wp2_with (first | go_skip | (refine wpList_load_g 32 _ rfl (by kernel_rfl) w.heap.size rfl Hq.out Tryz.underlying32 rfl (by kernel_rfl) ?_))
  refine (FewReq_c q _ (R.out.below HB.out)).mono ?_
  rintro e V2 ⟨rfl, hb⟩
  replace HB := Lib.hid (b_then HB.out hb)
  replace Hq := Lib.hid (obj_b hb Hq.out)
  clear hb
  cases hfw : qfew q
  · skip
    go_wp2
    go_ret
    exact ⟨rfl, HB.out⟩
  have OK0 := Lib.hid (fun W (hb : Below w.heap.size w W) => (qfew_ok (R.out.below hb) hfw).1)
  clear hfw
  have ff := Lib.frozen_of_heap Hq.out 38
  have dd : V2.cell? ⟨w.heap.size, 38, none⟩ = some (.int .i64 q.mo) := by rw [Lib.cell_of_heap Hq.out]; rfl
  go_upto_region 6 with fail
  clear ff dd
  obtain ⟨W0, hV⟩ : ∃ W0, W0 = V2.setCell ⟨w.heap.size, 38, none⟩ (.int .i64 1) := ⟨_, rfl⟩
  rw [← hV]
  replace Hq := Lib.hid (show W0.heap[w.heap.size]? = some (.cells ({ q with mo := 1 } : QV).cells 32 (0, 0)) from by rw [hV]; exact setCell_heap Hq.out 38 _)
  replace HB := Lib.hid (show Below w.heap.size w W0 from by rw [hV]; exact b_set HB.out _ (Nat.le_refl _) _)
  clear hV
  obtain ⟨k, hk⟩ : ∃ k : QV, k = { q with mo := 1 } := ⟨_, rfl⟩
  rw [← hk] at Hq
  have HK := Lib.hid hk
  have OK : Hid (∀ W, Below w.heap.size w W → k.Ok W) := Lib.hid fun W hb => by rw [hk]; exact ⟨(OK0.out W hb).u, (OK0.out W hb).o, (OK0.out W hb).me⟩
  have hko : k.mo = 1 := by rw [hk]
  have HKO := Lib.hid hko
  clear hk hko OK0
  obtain ⟨S, hS⟩ : ∃ S, (PM.sends k.pm).1 = S := ⟨_, rfl⟩
  obtain ⟨I, hI⟩ : ∃ I, (PM.sends k.pm).2 = I := ⟨_, rfl⟩
  obtain ⟨H, hH⟩ : ∃ H, PM.home k.pm = H := ⟨_, rfl⟩
  have HM : Hid (PM.originSame k.o.pm (ofOV k.u).pm = H) := Lib.hid (by rw [← home_pm]; exact hH)
  have ht := PM.taint_cors k.pm ({ k with po := n } : QV).pm rfl HKO.out
  rw [hI, hH] at ht
  obtain ⟨t1, t2, t3, t4, t5, t6⟩ := ht
  have HT1 : Hid ((PM.sends ({ k with po := n } : QV).pm).1 = S ∧ (PM.sends ({ k with po := n } : QV).pm).2 = I) := Lib.hid (by rw [← t1]; exact ⟨hS, hI⟩)
  rw [hS] at t5 t6
  have HT2 := Lib.hid t2
  have HT3 := Lib.hid t3
  have HT4 := Lib.hid t4
  have HT5 := Lib.hid t5
  have HT6 := Lib.hid t6
  have HS := Lib.hid hS
  have HI := Lib.hid hI
  clear hS hI hH t1 t2 t3 t4 t5 t6
  go_wp2_with (first | go_skip | (refine wpList_load_g 32 _ rfl (by kernel_rfl) w.heap.size rfl Hq.out Tryz.underlying32 rfl (by kernel_rfl) ?_))
  refine (Sends_c k _ (OK.out _ HB.out) (HG.out.below HB.out)).mono ?_
  rw [HS.out, HI.out]
  rintro e V11 ⟨rfl, hb⟩
  replace HB := Lib.hid (b_then HB.out hb)
  replace Hq := Lib.hid (obj_b hb Hq.out)
  clear hb
  go_upto_region 7 with fail
  go_cut [9] (fun p wr => ∃ (bk : Nat) (W9 : World), W9 = wr ∧ p = .pointer (some ⟨bk, 0, none⟩) ∧ V11.heap.size ≤ bk ∧ Hid (wr.heap[bk]? = some (.cells k.cells 32 (0, 0))) ∧ Hid (Below V11.heap.size V11 wr))
  case first =>
    have HN := Lib.hid (Go.heap_alloc_new V11 (.cells zreq 32))
    go_wp2_with (first | (refine wpList_load_g 32 _ rfl (by kernel_rfl) w.heap.size rfl Hq.out Tryz.underlying32 rfl (by kernel_rfl) ?_) | (refine wpList_store_row rfl 32 _ _ rfl V11.heap.size k.cells rfl rfl 32 _ HN.out (by kernel_rfl) rfl (qagg_one k) ?_))
    go_meet
    exact ⟨V11.heap.size, _, rfl, rfl, Nat.le_refl _, Lib.hid (heap_setRow HN.out _), Lib.hid (below_setRow (b_alloc (Below.refl _ _) _) (Nat.le_refl _) _)⟩
  case rest =>
    obtain ⟨bk, W9, rfl, rfl, hlk, Hk, HB1⟩ := hcut
    have hlt_bk : w.heap.size < bk := Nat.lt_of_lt_of_le (h_lt Hq.out) hlk
    have hlw_bk : w.heap.size ≤ bk := Nat.le_of_lt hlt_bk
    replace Hq := Lib.hid (obj_b HB1.out Hq.out)
    replace HB := Lib.hid (b_then HB.out HB1.out)
    clear HB1
    go_upto_region 8 with fail
    have ff := Lib.frozen_of_heap Hk.out 40
    have dd : W9.cell? ⟨bk, 40, none⟩ = some (.int .i64 k.po) := by rw [Lib.cell_of_heap Hk.out]; rfl
    go_upto_region 9 with fail
    clear ff dd
    obtain ⟨W1, hV⟩ : ∃ W1, W1 = W9.setCell ⟨bk, 40, none⟩ (.int .i64 n) := ⟨_, rfl⟩
    rw [← hV]
    replace Hk := Lib.hid (show W1.heap[bk]? = some (.cells ({ k with po := n } : QV).cells 32 (0, 0)) from by rw [hV]; exact setCell_heap Hk.out 40 _)
    replace Hq := Lib.hid (show W1.heap[w.heap.size]? = some (.cells _ 32 (0, 0)) from by rw [hV]; exact heap_set_other Hq.out _ _ _ (by omega))
    replace HB := Lib.hid (show Below w.heap.size w W1 from by rw [hV]; exact b_set HB.out _ hlw_bk _)
    clear hV
    go_wp2_with (first | go_skip | (refine wpList_load_g 32 _ rfl (by kernel_rfl) bk rfl Hk.out Tryz.underlying32 rfl (by kernel_rfl) ?_))
    refine (Sends_c ({ k with po := n } : QV) _ ⟨(OK.out _ HB.out).u, (OK.out _ HB.out).o, (OK.out _ HB.out).me⟩ (HG.out.below HB.out)).mono ?_
    rw [HT1.out.1, HT1.out.2]
    rintro e V21 ⟨rfl, hb⟩
    replace HB := Lib.hid (b_then HB.out hb)
    replace Hq := Lib.hid (obj_b hb Hq.out)
    replace Hk := Lib.hid (obj_b hb Hk.out)
    clear hb
    clear Hk HT1 HS HI
    go_wp2_with fail
    refine wp_region_noPanic ?_
    refine wp_region_held_drew (S := fun W' => QAt w.heap.size k w W') (by kernel_rfl) (QAt.below ⟨Hq.out, HB.out⟩ (b_drew (Below.refl _ _))) (fun hS0 => ?_)
    refine wpAnyH_take (i := 0) (v := ?_) rfl (by kernel_rfl) (by kernel_rfl) (by kernel_rfl) (fun _ _ _ h => h) (Or.inl ⟨by kernel_rfl, fun W hW => ?_⟩) (by assumption) ?_
    rotate_left
    · go_simp
      try with_reducible rfl
    (try simp only [List.getElem_toArray, List.getElem_cons_zero, List.getElem_cons_succ, Act.put, List.setIfInBounds_toArray, List.set_cons_zero, List.set_cons_succ])
    refine wpAnyH_take (i := 1) (v := ?_) rfl (by kernel_rfl) (by kernel_rfl) (by kernel_rfl) (fun _ _ _ h => h) (Or.inl ⟨by kernel_rfl, fun W hW => ?_⟩) (by assumption) ?_
    rotate_left
    · refine yield_mid 30 (.tmp 38) ?_ w.heap.size 24 ?_ k.o.cells (q_org hW.hq) Tryz.underlying30 rfl (by kernel_rfl)
      · rfl
      · rfl
    (try simp only [List.getElem_toArray, List.getElem_cons_zero, List.getElem_cons_succ, Act.put, List.setIfInBounds_toArray, List.set_cons_zero, List.set_cons_succ])
    refine wpAnyH_take (i := 2) (v := ?_) rfl (by kernel_rfl) (by kernel_rfl) (by kernel_rfl) (fun _ _ _ h => h) (Or.inl ⟨by kernel_rfl, fun W hW => ?_⟩) (by assumption) ?_
    rotate_left
    · go_simp
      try with_reducible rfl
    (try simp only [List.getElem_toArray, List.getElem_cons_zero, List.getElem_cons_succ, Act.put, List.setIfInBounds_toArray, List.set_cons_zero, List.set_cons_succ])
    refine wpAnyH_take (i := 3) (v := ?_) rfl (by kernel_rfl) (by kernel_rfl) (by kernel_rfl) (fun _ _ _ h => h) (Or.inl ⟨by kernel_rfl, fun W hW => ?_⟩) (by assumption) ?_
    rotate_left
    · refine yield_mid 27 (.tmp 40) ?_ w.heap.size 0 ?_ k.u.cells (q_url hW.hq) Tryz.underlying27 rfl (by kernel_rfl)
      · rfl
      · rfl
    (try simp only [List.getElem_toArray, List.getElem_cons_zero, List.getElem_cons_succ, Act.put, List.setIfInBounds_toArray, List.set_cons_zero, List.set_cons_succ])
    refine wpAnyH_ready (rs := [4]) (by kernel_rfl) (by simp) ?_
    refine AllReadyH.cons rfl (fun K hK => ?_) AllReadyH.nil
    go_simp
    refine (Of_c k.u _ (OK.out _ hS0.be).u (HG.out.below hS0.be)).mono ?_
    rintro e U1 ⟨rfl, hb⟩
    have hSn := hS0.below hb
    clear hb hS0
    refine hK.out _ _ hSn (fun _ => ?_)
    clear hK K
    (try simp only [List.getElem_toArray, List.getElem_cons_zero, List.getElem_cons_succ, Act.put, List.setIfInBounds_toArray, List.set_cons_zero, List.set_cons_succ])
    refine wpAnyH_ready (rs := [5]) (by kernel_rfl) (by simp) ?_
    refine AllReadyH.cons rfl (fun K hK => ?_) AllReadyH.nil
    go_simp
    refine (Same_o_c k.o (ofOV k.u) _ (OK.out _ hSn.be).o (HG.out.below hSn.be)).mono ?_
    rw [HM.out]
    rintro e U2 ⟨rfl, hb⟩
    replace hSn := hSn.below hb
    clear hb
    refine hK.out _ _ hSn (fun _ => ?_)
    clear hK K
    (try simp only [List.getElem_toArray, List.getElem_cons_zero, List.getElem_cons_succ, Act.put, List.setIfInBounds_toArray, List.set_cons_zero, List.set_cons_succ])
    refine wpAnyH_take (i := 6) (v := ?_) rfl (by kernel_rfl) (by kernel_rfl) (by kernel_rfl) (fun _ _ _ h => h) (Or.inl ⟨by kernel_rfl, fun W hW => ?_⟩) (by assumption) ?_
    rotate_left
    · go_simp
      try with_reducible rfl
    (try simp only [List.getElem_toArray, List.getElem_cons_zero, List.getElem_cons_succ, Act.put, List.setIfInBounds_toArray, List.set_cons_zero, List.set_cons_succ])
    refine wpAnyH_take (i := 7) (v := ?_) rfl (by kernel_rfl) (by kernel_rfl) (by kernel_rfl) (fun _ _ _ h => h) (Or.inl ⟨by kernel_rfl, fun W hW => ?_⟩) (by assumption) ?_
    rotate_left
    · go_simp
      try with_reducible rfl
    (try simp only [List.getElem_toArray, List.getElem_cons_zero, List.getElem_cons_succ, Act.put, List.setIfInBounds_toArray, List.set_cons_zero, List.set_cons_succ])
    refine wpAnyH_done (by kernel_rfl) ?_ _
    refine NoPanic.normal ?_
    replace Hq := Lib.hid hSn.hq
    replace HB := Lib.hid hSn.be
    clear hSn
    clear HM
    cases I
    · have hH : H = true := by
        cases hh : H
        · exact absurd (HT3.out hh) (by simp)
        · rfl
      subst hH
      have hp : PM.plainM k.me = true := by
        cases hh : PM.plainM k.me
        · exact absurd (HT4.out hh) (by simp)
        · rfl
      unfold PM.plainM at hp
      rw [← beq_list, ← beq_list] at hp
      unfold PM.GET PM.HEAD at hp
      have HP := Lib.hid hp
      clear hp HT2 HT3 HT4 HT5 HT6
      have c21 : U2.cell? ⟨w.heap.size, 21, none⟩ = some (.string (mkS k.me)) := by rw [Lib.cell_of_heap Hq.out]; rfl
      cases hG : (k.me == [71, 69, 84])
      · have hH : (k.me == [72, 69, 65, 68]) = true := by
          have h := HP.out
          rw [hG, Bool.false_or] at h
          exact h
        go_wp2
        go_ret
        exact ⟨rfl, HB.out⟩
      · go_wp2
        go_ret
        exact ⟨rfl, HB.out⟩
    cases hta : k.ta
    · have HTA := Lib.hid hta
      clear hta
      have hS : PM.originShow k.o.pm = S := (HT6.out rfl HTA.out).symm
      have HSH := Lib.hid hS
      clear hS
      clear HT3 HT4 HT5 HT6
      cases H
      · have hcr := HT2.out (by first | rfl | trivial) (by first | rfl | trivial)
        have HCR := Lib.hid hcr
        clear hcr HT2
        rcases (show (k.me == [71, 69, 84]) = true ∨ ((k.me == [71, 69, 84]) = false ∧ (k.me == [72, 69, 65, 68]) = true) ∨ ((k.me == [71, 69, 84]) = false ∧ (k.me == [72, 69, 65, 68]) = false) by cases (k.me == [71, 69, 84]) <;> cases (k.me == [72, 69, 65, 68]) <;> simp) with hG | ⟨hG, hH2⟩ | ⟨hG, hH2⟩
        · skip
          have c21 : U2.cell? ⟨w.heap.size, 21, none⟩ = some (.string (mkS k.me)) := by rw [Lib.cell_of_heap Hq.out]; rfl
          have c42 : U2.cell? ⟨w.heap.size, 42, none⟩ = some (.bool false) := by rw [Lib.cell_of_heap Hq.out, show QV.cells k = QV.cells { k with ta := false } from by rw [← HTA.out]]; rfl
          go_wp2_with (first | go_skip | (refine wpList_load_g 32 _ rfl (by kernel_rfl) w.heap.size rfl Hq.out Tryz.underlying32 rfl (by kernel_rfl) ?_))
          refine (Crossed_c k _ (OK.out _ HB.out) (HG.out.below HB.out)).mono ?_
          rw [HCR.out]
          rintro e V22 ⟨rfl, hb⟩
          clear c21 c42
          replace HB := Lib.hid (b_then HB.out hb)
          replace Hq := Lib.hid (obj_b hb Hq.out)
          clear hb
          have c21 : V22.cell? ⟨w.heap.size, 21, none⟩ = some (.string (mkS k.me)) := by rw [Lib.cell_of_heap Hq.out]; rfl
          have c42 : V22.cell? ⟨w.heap.size, 42, none⟩ = some (.bool false) := by rw [Lib.cell_of_heap Hq.out, show QV.cells k = QV.cells { k with ta := false } from by rw [← HTA.out]]; rfl
          go_wp2_with (first | go_skip | (refine wpList_load_mg 30 _ rfl (by kernel_rfl) w.heap.size 24 rfl k.o.cells (q_org Hq.out) Tryz.underlying30 rfl (by kernel_rfl) ?_))
          refine (Show_o_c k.o _ (OK.out _ HB.out).o (HG.out.below HB.out)).mono ?_
          rw [HSH.out]
          rintro e V23 ⟨rfl, hb⟩
          clear c21 c42
          replace HB := Lib.hid (b_then HB.out hb)
          replace Hq := Lib.hid (obj_b hb Hq.out)
          clear hb
          go_wp2
          go_ret
          exact ⟨rfl, HB.out⟩
        · skip
          have c21 : U2.cell? ⟨w.heap.size, 21, none⟩ = some (.string (mkS k.me)) := by rw [Lib.cell_of_heap Hq.out]; rfl
          have c42 : U2.cell? ⟨w.heap.size, 42, none⟩ = some (.bool false) := by rw [Lib.cell_of_heap Hq.out, show QV.cells k = QV.cells { k with ta := false } from by rw [← HTA.out]]; rfl
          go_wp2_with (first | go_skip | (refine wpList_load_g 32 _ rfl (by kernel_rfl) w.heap.size rfl Hq.out Tryz.underlying32 rfl (by kernel_rfl) ?_))
          refine (Crossed_c k _ (OK.out _ HB.out) (HG.out.below HB.out)).mono ?_
          rw [HCR.out]
          rintro e V22 ⟨rfl, hb⟩
          clear c21 c42
          replace HB := Lib.hid (b_then HB.out hb)
          replace Hq := Lib.hid (obj_b hb Hq.out)
          clear hb
          have c21 : V22.cell? ⟨w.heap.size, 21, none⟩ = some (.string (mkS k.me)) := by rw [Lib.cell_of_heap Hq.out]; rfl
          have c42 : V22.cell? ⟨w.heap.size, 42, none⟩ = some (.bool false) := by rw [Lib.cell_of_heap Hq.out, show QV.cells k = QV.cells { k with ta := false } from by rw [← HTA.out]]; rfl
          go_wp2_with (first | go_skip | (refine wpList_load_mg 30 _ rfl (by kernel_rfl) w.heap.size 24 rfl k.o.cells (q_org Hq.out) Tryz.underlying30 rfl (by kernel_rfl) ?_))
          refine (Show_o_c k.o _ (OK.out _ HB.out).o (HG.out.below HB.out)).mono ?_
          rw [HSH.out]
          rintro e V23 ⟨rfl, hb⟩
          clear c21 c42
          replace HB := Lib.hid (b_then HB.out hb)
          replace Hq := Lib.hid (obj_b hb Hq.out)
          clear hb
          go_wp2
          go_ret
          exact ⟨rfl, HB.out⟩
        · skip
          have c21 : U2.cell? ⟨w.heap.size, 21, none⟩ = some (.string (mkS k.me)) := by rw [Lib.cell_of_heap Hq.out]; rfl
          have c42 : U2.cell? ⟨w.heap.size, 42, none⟩ = some (.bool false) := by rw [Lib.cell_of_heap Hq.out, show QV.cells k = QV.cells { k with ta := false } from by rw [← HTA.out]]; rfl
          go_wp2_with (first | go_skip | (refine wpList_load_g 32 _ rfl (by kernel_rfl) w.heap.size rfl Hq.out Tryz.underlying32 rfl (by kernel_rfl) ?_))
          refine (Crossed_c k _ (OK.out _ HB.out) (HG.out.below HB.out)).mono ?_
          rw [HCR.out]
          rintro e V22 ⟨rfl, hb⟩
          clear c21 c42
          replace HB := Lib.hid (b_then HB.out hb)
          replace Hq := Lib.hid (obj_b hb Hq.out)
          clear hb
          have c21 : V22.cell? ⟨w.heap.size, 21, none⟩ = some (.string (mkS k.me)) := by rw [Lib.cell_of_heap Hq.out]; rfl
          have c42 : V22.cell? ⟨w.heap.size, 42, none⟩ = some (.bool false) := by rw [Lib.cell_of_heap Hq.out, show QV.cells k = QV.cells { k with ta := false } from by rw [← HTA.out]]; rfl
          go_wp2_with (first | go_skip | (refine wpList_load_mg 30 _ rfl (by kernel_rfl) w.heap.size 24 rfl k.o.cells (q_org Hq.out) Tryz.underlying30 rfl (by kernel_rfl) ?_))
          refine (Show_o_c k.o _ (OK.out _ HB.out).o (HG.out.below HB.out)).mono ?_
          rw [HSH.out]
          rintro e V23 ⟨rfl, hb⟩
          clear c21 c42
          replace HB := Lib.hid (b_then HB.out hb)
          replace Hq := Lib.hid (obj_b hb Hq.out)
          clear hb
          go_wp2
          go_ret
          exact ⟨rfl, HB.out⟩
      · clear HT2
        rcases (show (k.me == [71, 69, 84]) = true ∨ ((k.me == [71, 69, 84]) = false ∧ (k.me == [72, 69, 65, 68]) = true) ∨ ((k.me == [71, 69, 84]) = false ∧ (k.me == [72, 69, 65, 68]) = false) by cases (k.me == [71, 69, 84]) <;> cases (k.me == [72, 69, 65, 68]) <;> simp) with hG | ⟨hG, hH2⟩ | ⟨hG, hH2⟩
        · skip
          have c21 : U2.cell? ⟨w.heap.size, 21, none⟩ = some (.string (mkS k.me)) := by rw [Lib.cell_of_heap Hq.out]; rfl
          have c42 : U2.cell? ⟨w.heap.size, 42, none⟩ = some (.bool false) := by rw [Lib.cell_of_heap Hq.out, show QV.cells k = QV.cells { k with ta := false } from by rw [← HTA.out]]; rfl
          go_wp2_with (first | go_skip | (refine wpList_load_mg 30 _ rfl (by kernel_rfl) w.heap.size 24 rfl k.o.cells (q_org Hq.out) Tryz.underlying30 rfl (by kernel_rfl) ?_))
          refine (Show_o_c k.o _ (OK.out _ HB.out).o (HG.out.below HB.out)).mono ?_
          rw [HSH.out]
          rintro e V22 ⟨rfl, hb⟩
          clear c21 c42
          replace HB := Lib.hid (b_then HB.out hb)
          replace Hq := Lib.hid (obj_b hb Hq.out)
          clear hb
          go_wp2
          go_ret
          exact ⟨rfl, HB.out⟩
        · skip
          have c21 : U2.cell? ⟨w.heap.size, 21, none⟩ = some (.string (mkS k.me)) := by rw [Lib.cell_of_heap Hq.out]; rfl
          have c42 : U2.cell? ⟨w.heap.size, 42, none⟩ = some (.bool false) := by rw [Lib.cell_of_heap Hq.out, show QV.cells k = QV.cells { k with ta := false } from by rw [← HTA.out]]; rfl
          go_wp2_with (first | go_skip | (refine wpList_load_mg 30 _ rfl (by kernel_rfl) w.heap.size 24 rfl k.o.cells (q_org Hq.out) Tryz.underlying30 rfl (by kernel_rfl) ?_))
          refine (Show_o_c k.o _ (OK.out _ HB.out).o (HG.out.below HB.out)).mono ?_
          rw [HSH.out]
          rintro e V22 ⟨rfl, hb⟩
          clear c21 c42
          replace HB := Lib.hid (b_then HB.out hb)
          replace Hq := Lib.hid (obj_b hb Hq.out)
          clear hb
          go_wp2
          go_ret
          exact ⟨rfl, HB.out⟩
        · skip
          have c21 : U2.cell? ⟨w.heap.size, 21, none⟩ = some (.string (mkS k.me)) := by rw [Lib.cell_of_heap Hq.out]; rfl
          have c42 : U2.cell? ⟨w.heap.size, 42, none⟩ = some (.bool false) := by rw [Lib.cell_of_heap Hq.out, show QV.cells k = QV.cells { k with ta := false } from by rw [← HTA.out]]; rfl
          go_wp2_with (first | go_skip | (refine wpList_load_mg 30 _ rfl (by kernel_rfl) w.heap.size 24 rfl k.o.cells (q_org Hq.out) Tryz.underlying30 rfl (by kernel_rfl) ?_))
          refine (Show_o_c k.o _ (OK.out _ HB.out).o (HG.out.below HB.out)).mono ?_
          rw [HSH.out]
          rintro e V22 ⟨rfl, hb⟩
          clear c21 c42
          replace HB := Lib.hid (b_then HB.out hb)
          replace Hq := Lib.hid (obj_b hb Hq.out)
          clear hb
          go_wp2
          go_ret
          exact ⟨rfl, HB.out⟩
    · have HTA := Lib.hid hta
      clear hta
      have hS := HT5.out rfl HTA.out
      subst hS
      unfold PM.nul
      clear HT3 HT4 HT5 HT6
      cases H
      · have hcr := HT2.out (by first | rfl | trivial) (by first | rfl | trivial)
        have HCR := Lib.hid hcr
        clear hcr HT2
        rcases (show (k.me == [71, 69, 84]) = true ∨ ((k.me == [71, 69, 84]) = false ∧ (k.me == [72, 69, 65, 68]) = true) ∨ ((k.me == [71, 69, 84]) = false ∧ (k.me == [72, 69, 65, 68]) = false) by cases (k.me == [71, 69, 84]) <;> cases (k.me == [72, 69, 65, 68]) <;> simp) with hG | ⟨hG, hH2⟩ | ⟨hG, hH2⟩
        · skip
          have c21 : U2.cell? ⟨w.heap.size, 21, none⟩ = some (.string (mkS k.me)) := by rw [Lib.cell_of_heap Hq.out]; rfl
          have c42 : U2.cell? ⟨w.heap.size, 42, none⟩ = some (.bool true) := by rw [Lib.cell_of_heap Hq.out, show QV.cells k = QV.cells { k with ta := true } from by rw [← HTA.out]]; rfl
          go_wp2_with (first | go_skip | (refine wpList_load_g 32 _ rfl (by kernel_rfl) w.heap.size rfl Hq.out Tryz.underlying32 rfl (by kernel_rfl) ?_))
          refine (Crossed_c k _ (OK.out _ HB.out) (HG.out.below HB.out)).mono ?_
          rw [HCR.out]
          rintro e V22 ⟨rfl, hb⟩
          clear c21 c42
          replace HB := Lib.hid (b_then HB.out hb)
          replace Hq := Lib.hid (obj_b hb Hq.out)
          clear hb
          have c21 : V22.cell? ⟨w.heap.size, 21, none⟩ = some (.string (mkS k.me)) := by rw [Lib.cell_of_heap Hq.out]; rfl
          have c42 : V22.cell? ⟨w.heap.size, 42, none⟩ = some (.bool true) := by rw [Lib.cell_of_heap Hq.out, show QV.cells k = QV.cells { k with ta := true } from by rw [← HTA.out]]; rfl
          go_wp2
          go_ret
          exact ⟨rfl, HB.out⟩
        · skip
          have c21 : U2.cell? ⟨w.heap.size, 21, none⟩ = some (.string (mkS k.me)) := by rw [Lib.cell_of_heap Hq.out]; rfl
          have c42 : U2.cell? ⟨w.heap.size, 42, none⟩ = some (.bool true) := by rw [Lib.cell_of_heap Hq.out, show QV.cells k = QV.cells { k with ta := true } from by rw [← HTA.out]]; rfl
          go_wp2_with (first | go_skip | (refine wpList_load_g 32 _ rfl (by kernel_rfl) w.heap.size rfl Hq.out Tryz.underlying32 rfl (by kernel_rfl) ?_))
          refine (Crossed_c k _ (OK.out _ HB.out) (HG.out.below HB.out)).mono ?_
          rw [HCR.out]
          rintro e V22 ⟨rfl, hb⟩
          clear c21 c42
          replace HB := Lib.hid (b_then HB.out hb)
          replace Hq := Lib.hid (obj_b hb Hq.out)
          clear hb
          have c21 : V22.cell? ⟨w.heap.size, 21, none⟩ = some (.string (mkS k.me)) := by rw [Lib.cell_of_heap Hq.out]; rfl
          have c42 : V22.cell? ⟨w.heap.size, 42, none⟩ = some (.bool true) := by rw [Lib.cell_of_heap Hq.out, show QV.cells k = QV.cells { k with ta := true } from by rw [← HTA.out]]; rfl
          go_wp2
          go_ret
          exact ⟨rfl, HB.out⟩
        · skip
          have c21 : U2.cell? ⟨w.heap.size, 21, none⟩ = some (.string (mkS k.me)) := by rw [Lib.cell_of_heap Hq.out]; rfl
          have c42 : U2.cell? ⟨w.heap.size, 42, none⟩ = some (.bool true) := by rw [Lib.cell_of_heap Hq.out, show QV.cells k = QV.cells { k with ta := true } from by rw [← HTA.out]]; rfl
          go_wp2_with (first | go_skip | (refine wpList_load_g 32 _ rfl (by kernel_rfl) w.heap.size rfl Hq.out Tryz.underlying32 rfl (by kernel_rfl) ?_))
          refine (Crossed_c k _ (OK.out _ HB.out) (HG.out.below HB.out)).mono ?_
          rw [HCR.out]
          rintro e V22 ⟨rfl, hb⟩
          clear c21 c42
          replace HB := Lib.hid (b_then HB.out hb)
          replace Hq := Lib.hid (obj_b hb Hq.out)
          clear hb
          have c21 : V22.cell? ⟨w.heap.size, 21, none⟩ = some (.string (mkS k.me)) := by rw [Lib.cell_of_heap Hq.out]; rfl
          have c42 : V22.cell? ⟨w.heap.size, 42, none⟩ = some (.bool true) := by rw [Lib.cell_of_heap Hq.out, show QV.cells k = QV.cells { k with ta := true } from by rw [← HTA.out]]; rfl
          go_wp2
          go_ret
          exact ⟨rfl, HB.out⟩
      · clear HT2
        rcases (show (k.me == [71, 69, 84]) = true ∨ ((k.me == [71, 69, 84]) = false ∧ (k.me == [72, 69, 65, 68]) = true) ∨ ((k.me == [71, 69, 84]) = false ∧ (k.me == [72, 69, 65, 68]) = false) by cases (k.me == [71, 69, 84]) <;> cases (k.me == [72, 69, 65, 68]) <;> simp) with hG | ⟨hG, hH2⟩ | ⟨hG, hH2⟩
        · skip
          have c21 : U2.cell? ⟨w.heap.size, 21, none⟩ = some (.string (mkS k.me)) := by rw [Lib.cell_of_heap Hq.out]; rfl
          have c42 : U2.cell? ⟨w.heap.size, 42, none⟩ = some (.bool true) := by rw [Lib.cell_of_heap Hq.out, show QV.cells k = QV.cells { k with ta := true } from by rw [← HTA.out]]; rfl
          go_wp2
          go_ret
          exact ⟨rfl, HB.out⟩
        · skip
          have c21 : U2.cell? ⟨w.heap.size, 21, none⟩ = some (.string (mkS k.me)) := by rw [Lib.cell_of_heap Hq.out]; rfl
          have c42 : U2.cell? ⟨w.heap.size, 42, none⟩ = some (.bool true) := by rw [Lib.cell_of_heap Hq.out, show QV.cells k = QV.cells { k with ta := true } from by rw [← HTA.out]]; rfl
          go_wp2
          go_ret
          exact ⟨rfl, HB.out⟩
        · skip
          have c21 : U2.cell? ⟨w.heap.size, 21, none⟩ = some (.string (mkS k.me)) := by rw [Lib.cell_of_heap Hq.out]; rfl
          have c42 : U2.cell? ⟨w.heap.size, 42, none⟩ = some (.bool true) := by rw [Lib.cell_of_heap Hq.out, show QV.cells k = QV.cells { k with ta := true } from by rw [← HTA.out]]; rfl
          go_wp2
          go_ret
          exact ⟨rfl, HB.out⟩
end Go.Proofs.YtphigjogeejdjaaGreatDoor
/-! The row of TaintCors. -/
namespace Go.Proofs.YtphigjogeejdjaaGreatDoor
open Go.ChangeShapes Go.WideShapes Go.ChangeAt Go.RowKit
open Go.WideMaps Go.WideElems
open Go.ChangeMaps (open_string shut_string)
theorem taintCors_reads (os : Os) {H : Type} (enc : TypeId × Value → H) : ∃ x, DataW.whole enc Tryz.prog ((laidWorld os).forCall (fun _ _ => 0) ⟨#[], #[.agg zreq, .int .i64 0], []⟩).memory Tryz.f3.params.toList Rows.taintCorsSpec.vars false (#[.agg zreq, .int .i64 0] : Array Value).toList 8 = some x :=
  Option.isSome_iff_exists.1 (by kernel_rfl)
set_option maxRecDepth 100000 in
theorem taintCors_lifted (os : Os) (started : os.Started) (H : Type) (enc : TypeId × Value → H) (F : Stop.Interp) :
    ReturnsInHanded {} Tryz.checked os 3 .any ((OpenSpec.ofChange Rows.taintCorsSpec).preRow enc Tryz.prog Tryz.f3 Rows.taintCorsRow.domain false Rows.taintCorsRow.laid) (((OpenSpec.ofChange Rows.taintCorsSpec).at F).post enc Tryz.prog Tryz.f3 false true false false) := by
  obtain ⟨x, hx⟩ := taintCors_reads os enc
  refine returnsInHanded_of_row (C := Tryz.checked) (s := OpenSpec.ofChange Rows.taintCorsSpec) own started (by kernel_rfl) Tryz.func3
    (witness_row_atRef (enc := enc) (C := Tryz.checked) false (laidWorld os) #[.agg zreq, .int .i64 0] rfl (by kernel_rfl) (by kernel_rfl) (by kernel_rfl)
      (OpenSpec.preRow_of_cond 8 hx rfl (fun k hk => by cases hk) (by kernel_rfl) (laid_met os _))) ?_
  intro W base args ds gs before hval0 hW _ _ _ hL hsh _
  have hval : ∀ (j : Nat) t v, Tryz.f3.params[j]? = some t → args[j]? = some v → Value.okWide Tryz.prog W .any base t v := hval0
  have hW' := hW
  obtain ⟨p, q, hA0, hV, rfl, hfz, hnd⟩ := hW
  have hA : DataW.TrodAll enc Tryz.prog W 0 (fun _ => true) true Tryz.f3.params.toList args.toList ds p := hA0
  rw [Tryz.params3] at hA hval
  obtain ⟨v0, v1, d0, d1, p0, p1, rfl, rfl, rfl, h0, h1⟩ := trodAll_two hA
  obtain ⟨rfl, rfl⟩ := trodVars_none hV
  simp only [List.append_nil] at hfz hnd hW'
  have hlt : ∀ x ∈ p0 ++ p1, x.block < W.heap.size := fun x hx => hW'.lt x hx
  have h0k := h0
  obtain ⟨q0, rfl, hr0, hf0⟩ := open_req (hval 0 32 v0 rfl rfl) h0
  have h1k := h1
  obtain ⟨n1, e1, _, _, w1⟩ := open_int Tryz.underlying3 (hval 1 3 v1 rfl rfl) h1
  subst e1
  refine (TaintCors_c q0 n1 W hr0 hf0 (gl_of hsh) (tabs_laid hL)).mono fun e W' ⟨he, hb⟩ => ?_
  subst he
  refine ⟨_, rfl, _, _, _, [], p0 ++ p1, [], hW', ?_, ?_, ?_, hb.frame _, fun h => by cases h⟩
  · exact trodAll_mk1 (shut_bool Tryz.underlying4 _)
  · exact trodAll_mk2 (Below.trod laidOut (by kernel_rfl) (of_decide_eq_true (by kernel_rfl)) h0k hb (fun x hx => hlt x (by simp [hx]))) (Below.trod laidOut (by kernel_rfl) (of_decide_eq_true (by kernel_rfl)) h1k hb (fun x hx => hlt x (by simp [hx])))
  · rfl
theorem taintCors_k0 : Rows.taintCorsRow.wf (OpenSpec.ofChange (OpenSpec.ofChange Rows.taintCorsSpec).bare) = true := by kernel_rfl
theorem taintCors_k3 : Tryz.f3.params.all (PP.readableRec ·) = true := by kernel_rfl
theorem taintCors_k4 : namedTie PP Rows.taintCorsRow.named (OpenSpec.ofChange Rows.taintCorsSpec).bare.vars = true := by kernel_rfl
theorem taintCors_k5 : (Rows.taintCorsRow.stops == []) = true := by kernel_rfl
theorem taintCors_k7 : (Rows.taintCorsRow.knobs == []) = true := by kernel_rfl
theorem taintCors_k9 : (Rows.taintCorsRow.inPlace == PP.inPlace 3) = true := by kernel_rfl
theorem taintCors_k10 : (Rows.taintCorsRow.unfollowed == PP.unfollowed 3) = true := by kernel_rfl
theorem taintCors_k11 : (Rows.taintCorsRow.recurses == PP.recurses 3) = true := by kernel_rfl
theorem taintCors_k12 : (Rows.taintCorsRow.named == PP.varsNamed 3) = true := by kernel_rfl
theorem taintCors_k13 : (Rows.taintCorsRow.maps == (Tryz.f3.params.toList ++ (OpenSpec.ofChange Rows.taintCorsSpec).bare.plain.varTypes PP).any (PP.mapsRec ·)) = true := by kernel_rfl
theorem taintCors_k14 : (Rows.taintCorsRow.ifaces == (Tryz.f3.params.toList ++ (OpenSpec.ofChange Rows.taintCorsSpec).bare.plain.varTypes PP).any (PP.ifacesRec ·)) = true := by kernel_rfl
theorem taintCors_k15 : (Rows.taintCorsRow.mapsOut == PP.mapsAmong Tryz.f3.resultTypes.toList) = true := by kernel_rfl
theorem taintCors_k16 : (Rows.taintCorsRow.loops == (Tryz.f3.params.toList ++ (OpenSpec.ofChange Rows.taintCorsSpec).bare.plain.varTypes PP).any (PP.loopsFrom ·)) = true := by kernel_rfl
theorem taintCors_k17 : (Rows.taintCorsRow.wideKeys == (Tryz.f3.params.toList ++ (OpenSpec.ofChange Rows.taintCorsSpec).bare.plain.varTypes PP ++ Tryz.f3.resultTypes.toList).any (PP.wideKeysFrom ·)) = true := by kernel_rfl
theorem taintCors_k18 : (OpenSpec.ofChange Rows.taintCorsSpec).bare.vars.all (PP.varReadable ·) = true := by kernel_rfl
theorem taintCors_k19 : Tryz.f3.resultTypes.all (fun t => PP.readableRec t && decide (t < PP.types.size)) = true := by kernel_rfl
theorem taintCors_k20 : (Rows.taintCorsRow.ifacesOut == Tryz.f3.resultTypes.toList.any (PP.ifacesRec ·)) = true := by kernel_rfl
theorem taintCors_k21 : (Rows.taintCorsRow.loopsOut == Tryz.f3.resultTypes.toList.any (PP.loopsFrom ·)) = true := by kernel_rfl
theorem taintCors_k23 : Rows.taintCorsRow.shortTexts.isNone = true := by kernel_rfl
theorem taintCors_k28 : (Rows.taintCorsRow.kinds == (if Rows.taintCorsRow.domain.isEmpty then [] else Tryz.f3.params.toList.map fun t => match PP.underlying t with | some (.int k) => some k | _ => none)) = true := by kernel_rfl
theorem taintCors_k29 : (Rows.taintCorsRow.pinned == Rows.taintCorsRow.pinnedBy) = true := by kernel_rfl
theorem taintCors_k30 : (Rows.taintCorsRow.veiled == (Tryz.f3.params.toList ++ (OpenSpec.ofChange Rows.taintCorsSpec).bare.plain.varTypes PP ++ Tryz.f3.resultTypes.toList).any (PP.veiledRec ·)) = true := by kernel_rfl
theorem taintCors_k31 : Rows.taintCorsRow.veiledFits PP Tryz.f3.params.toList (Tryz.f3.params.toList ++ (OpenSpec.ofChange Rows.taintCorsSpec).bare.plain.varTypes PP ++ Tryz.f3.resultTypes.toList) = true := by kernel_rfl
set_option maxRecDepth 100000 in
theorem taintCors_closed : joinedFacts PP 3 Tryz.f3 (OpenSpec.ofChange Rows.taintCorsSpec).bare Rows.taintCorsRow = true := and2 (and2 (and2 (and2 (and2 (and2 (and2 (and2 (and2 (and2 (and2 (and2 (and2 (and2 (and2 (and2 (and2 (and2 (and2 (and2 (and2 (and2 (and2 (and2 (and2 (and2 (and2 (and2 (and2 (and2 (and2 (taintCors_k0) j_laidOut) j_rowed) taintCors_k3) taintCors_k4) taintCors_k5) j_stops) taintCors_k7) j_knobs) taintCors_k9) taintCors_k10) taintCors_k11) taintCors_k12) taintCors_k13) taintCors_k14) taintCors_k15) taintCors_k16) taintCors_k17) taintCors_k18) taintCors_k19) taintCors_k20) taintCors_k21) j_plain) taintCors_k23) j_heard) j_enter) j_lift) j_make) taintCors_k28) taintCors_k29) taintCors_k30) taintCors_k31
theorem taintCors_named : Tryz.pinned.checked.prog.funcNamed Rows.taintCorsRow.func = some 3 := by kernel_rfl
theorem taintCors_text : Rows.taintCorsRow.wfByText (OpenSpec.ofChange Rows.taintCorsSpec) = true := by kernel_rfl
theorem taintCors_goes : false = Rows.taintCorsRow.goesBy Tryz.pinned.checked.prog := by kernel_rfl
theorem taintCors_said : Rows.TaintCorsSaid :=
  OpenClaim.holds_of_cond 3 Tryz.f3 rfl rfl rfl rfl rfl rfl rfl ⟨rfl, rfl, rfl, rfl, rfl⟩ rfl rfl rfl rfl rfl taintCors_named Tryz.func3 taintCors_closed
    (of_decide_eq_true (by kernel_rfl)) (by unfold Func.isWrapper; first | (rw [if_pos (by decide +kernel)]; kernel_rfl) | (rw [if_neg (by decide +kernel)]; exact ⟨rfl, rfl⟩))
    (fun os started H enc _ F => by rw [OpenClaim.pre_eq_preRow]; exact taintCors_lifted os started H enc F)
theorem taintCors_plain (f : FuncId) (fn : Func) (hf : Tryz.pinned.checked.prog.funcNamed "postmark/postmarklaw19.TaintCors" = some f) (hfn : Tryz.pinned.checked.prog.funcs[f]? = some fn) :
    true = Tryz.pinned.checked.prog.looks [] ∧ ∀ (j : Nat) t, fn.params[j]? = some t → Tryz.pinned.checked.prog.wantsStandIn t = false := by
  obtain rfl : f = 3 := Option.some.inj ((show Tryz.prog.funcNamed "postmark/postmarklaw19.TaintCors" = some 3 by kernel_rfl).symm.trans hf) |>.symm
  obtain rfl : fn = Tryz.f3 := (Option.some.inj (Tryz.func3.symm.trans hfn)).symm
  refine ⟨by kernel_rfl, fun j t ht => ?_⟩
  rw [Tryz.params3] at ht
  have hm := Array.mem_of_getElem? ht
  simp only [Array.mem_def, List.mem_cons, List.not_mem_nil, or_false] at hm
  rcases hm with rfl | rfl
  · exact (show Tryz.prog.wantsStandIn 32 = false by kernel_rfl)
  · exact (show Tryz.prog.wantsStandIn 3 = false by kernel_rfl)
theorem taintCors_holds : Rows.TaintCorsCardSaid :=
  Claim7.holds_tied_plain_at .later [] _ _ _ _ taintCors_said (fun _ h => by cases h) taintCors_text (fun _ h => by cases h) taintCors_row_tie rfl ⟨rfl, rfl⟩ j_main rfl taintCors_plain taintCors_goes
#print axioms taintCors_holds
end Go.Proofs.YtphigjogeejdjaaGreatDoor
