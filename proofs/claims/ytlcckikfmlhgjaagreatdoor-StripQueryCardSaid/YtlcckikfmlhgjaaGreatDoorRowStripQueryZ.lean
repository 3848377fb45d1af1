/-
StripQuery: whatever comes in, the law's call returns true, and the arguments read behind the call as they did before; no condition on them. The row lists the two tables of unicode/utf8 (first, acceptRanges); the card ties them.
-/
import Derived.Test.YtlcckikfmlhgjaaGreatDoorAw16
import Derived.Test.YtlcckikfmlhgjaaGreatDoorTz
set_option linter.unusedVariables false
set_option linter.unusedSimpArgs false
/-! The walk of StripQuery. -/
namespace Go.Proofs.YtlcckikfmlhgjaaGreatDoor
open Go.RowKit
def UV.wQuery (u : UV) (q : List UInt8) : UV := { u with qu := q }
def UV.wHq (u : UV) (k : Bool) : UV := { u with hq := k }
theorem Ok_query {u : UV} {W : World} (h : u.Ok W) (q : List UInt8) (hq : q.length ≤ 1000000) : (u.wQuery q).Ok W := ⟨h.sc, h.us, h.pa, h.n, h.op, hq, h.fr, h.xn, h.xl, h.rd⟩
theorem Ok_hq {u : UV} {W : World} (h : u.Ok W) (k : Bool) : (u.wHq k).Ok W := ⟨h.sc, h.us, h.pa, h.n, h.op, h.qu, h.fr, h.xn, h.xl, h.rd⟩
/-- Where a law of two addresses stands. -/
structure Duo (u v : UV) (bv : Nat) (w W : World) : Prop where
  hu : W.heap[w.heap.size]? = some (.cells u.cells 27 (0, 0))
  hv : W.heap[bv]? = some (.cells v.cells 27 (0, 0))
  ou : u.Ok W
  ov : v.Ok W
  be : Below w.heap.size w W
theorem Duo.below {u v : UV} {bv : Nat} {w W W' : World} (h : Duo u v bv w W) (hb : Below W.heap.size W W') : Duo u v bv w W' := ⟨heap_b hb h.hu, heap_b hb h.hv, h.ou.below hb, h.ov.below hb, b_then h.be hb⟩
set_option maxRecDepth 100000 in
set_option maxHeartbeats 16000000 in
theorem StripQuery_c (u : UV) (q : List UInt8) (w : World) (hu : RdW w u.a u.pn u.xs) (hg : Gl w) (hT : Lib.Utf8Tabs 1 2 w) : Calls Tryz.prog 15 #[.agg u.cells, .string (mkS q)] w fun e w' => e = .returned (.bool true) ∧ Below w.heap.size w w' := by
  have HG := Lib.hid hg
  have HTB := Lib.hid hT
  have Ru := Lib.hid hu
  clear hg hT hu
  have HB : Hid (Below w.heap.size w (w.alloc (.cells u.cells 27))) := Lib.hid (b_alloc (Below.refl _ _) _)
  have Hu : Hid ((w.alloc (.cells u.cells 27)).heap[w.heap.size]? = some (.cells u.cells 27 (0, 0))) := Lib.hid ((by have h := Go.heap_alloc_new w (.cells u.cells 27); simpa using h))
  go_enter Tryz.func15, Tryz.ntmps15
  go_upto_region 1 with fail
  generalize w.alloc (.cells u.cells 27) = V0 at HB Hu ⊢
  go_wp2_with fail
  refine (awake16_c _ (HG.out.below HB.out) (tabs_below HTB.out HB.out)).mono ?_
  rintro e V1 ⟨rfl, hb⟩
  replace HB := Lib.hid (b_then HB.out hb)
  replace Hu := Lib.hid (obj_b hb Hu.out)
  clear hb
  go_wp2_with (first | go_skip | (refine wpList_load_g 27 _ rfl (by kernel_rfl) w.heap.size rfl Hu.out Tryz.underlying27 rfl (by kernel_rfl) ?_))
  refine (Few_c u _ (Ru.out.below HB.out)).mono ?_
  rintro e V2 ⟨rfl, hb⟩
  replace HB := Lib.hid (b_then HB.out hb)
  replace Hu := Lib.hid (obj_b hb Hu.out)
  clear hb
  have HN := Lib.hid (Go.heap_alloc_new V2 (.cells zurl 27))
  have Hu2 := Lib.hid (obj_b (b_alloc (Below.refl _ _) (.cells zurl 27)) Hu.out)
  unfold zurl at HN Hu2
  go_upto_region 4 with (first | (refine wpList_load_g 27 _ rfl (by kernel_rfl) w.heap.size rfl Hu2.out Tryz.underlying27 rfl (by kernel_rfl) ?_) | (refine wpList_load_g 27 _ rfl (by kernel_rfl) w.heap.size rfl Hu.out Tryz.underlying27 rfl (by kernel_rfl) ?_) | (refine wpList_store_row rfl 27 _ _ rfl V2.heap.size u.cells rfl rfl 27 _ HN.out (by kernel_rfl) rfl (agg_one u) ?_))
  obtain ⟨W1, hV⟩ : ∃ W1, W1 = (V2.alloc (.cells #[.string ⟨#[]⟩, .string ⟨#[]⟩, .string ⟨#[]⟩, .int .i64 0, .string ⟨#[]⟩, .int .i64 0, .int .i64 0, .int .i64 0, .int .i64 0, .int .i64 0, .int .i64 0, .int .i64 0, .int .i64 0, .int .i64 0, .int .i64 0, .slice none 0 0, .string ⟨#[]⟩, .string ⟨#[]⟩, .string ⟨#[]⟩, .bool false, .bool false] 27)).setRow V2.heap.size u.cells := ⟨_, rfl⟩
  have hN : W1.heap[V2.heap.size]? = some (.cells u.cells 27 (0, 0)) := by rw [hV]; exact heap_setRow HN.out _
  have hb : Below V2.heap.size V2 W1 := by rw [hV]; exact below_setRow (b_alloc (Below.refl _ _) _) (Nat.le_refl _) _
  rw [← hV]
  clear hV HN Hu2
  have Hv := Lib.hid hN
  clear hN
  have hlt_bv_Hu : w.heap.size < V2.heap.size := h_lt Hu.out
  have hlw_bv : w.heap.size ≤ V2.heap.size := HB.out.size
  replace HB := Lib.hid (b_then HB.out hb)
  replace Hu := Lib.hid (obj_b hb Hu.out)
  clear hb
  generalize V2.heap.size = bv at Hv hlt_bv_Hu hlw_bv ⊢
  (try simp only [Act.put])
  have f17 := Lib.frozen_of_heap Hv.out 17
  have d17 : W1.cell? ⟨bv, 17, none⟩ = some (.string (mkS u.qu)) := by rw [Lib.cell_of_heap Hv.out]; rfl
  go_upto_region 5 with fail
  clear f17 d17
  obtain ⟨W2, hV⟩ : ∃ W2, W2 = W1.setCell ⟨bv, 17, none⟩ (.string (mkS q)) := ⟨_, rfl⟩
  rw [← hV]
  replace Hv := Lib.hid (show W2.heap[bv]? = some (.cells (u.wQuery q).cells 27 (0, 0)) from by rw [hV]; exact setCell_heap Hv.out 17 _)
  replace Hu := Lib.hid (show W2.heap[w.heap.size]? = some (.cells _ 27 (0, 0)) from by rw [hV]; exact heap_set_other Hu.out _ _ _ (by omega))
  replace HB := Lib.hid (show Below w.heap.size w W2 from by rw [hV]; exact b_set HB.out _ hlw_bv _)
  clear hV
  have f19 := Lib.frozen_of_heap Hv.out 19
  have d19 : W2.cell? ⟨bv, 19, none⟩ = some (.bool u.hq) := by rw [Lib.cell_of_heap Hv.out]; rfl
  go_upto_region 6 with fail
  clear f19 d19
  obtain ⟨W3, hV⟩ : ∃ W3, W3 = W2.setCell ⟨bv, 19, none⟩ (.bool true) := ⟨_, rfl⟩
  rw [← hV]
  replace Hv := Lib.hid (show W3.heap[bv]? = some (.cells ((u.wQuery q).wHq true).cells 27 (0, 0)) from by rw [hV]; exact setCell_heap Hv.out 19 _)
  replace Hu := Lib.hid (show W3.heap[w.heap.size]? = some (.cells _ 27 (0, 0)) from by rw [hV]; exact heap_set_other Hu.out _ _ _ (by omega))
  replace HB := Lib.hid (show Below w.heap.size w W3 from by rw [hV]; exact b_set HB.out _ hlw_bv _)
  clear hV
  have hvp : ((u.wQuery q).wHq true).pm = PM.withQ u.pm q := rfl
  obtain ⟨v, hv⟩ : ∃ v, (u.wQuery q).wHq true = v := ⟨_, rfl⟩
  have hvok : ∀ W, u.Ok W → q.length ≤ 1000000 → v.Ok W := fun W h1 h2 => by rw [← hv]; exact Ok_hq (Ok_query h1 q h2) true
  rw [hv] at Hv hvp
  have HVP := Lib.hid hvp
  have HVOK := Lib.hid hvok
  clear hv hvp hvok
  cases hf : PM.few u.pm
  · go_wp2
    go_ret
    exact ⟨rfl, HB.out⟩
  have Ou := Lib.hid (few_ok (Ru.out.below HB.out) hf)
  have Fu := Lib.hid hf
  clear hf
  by_cases hl : 300 < q.length
  · have hl2 : (300 : Int) < (q.length : Int) := by omega
    go_wp2
    go_ret
    exact ⟨rfl, HB.out⟩
  have hl2 : ¬ (300 : Int) < (q.length : Int) := by omega
  have Ov := Lib.hid (HVOK.out _ Ou.out (by omega))
  clear hl
  obtain ⟨m, hm⟩ : ∃ m, PM.urlMay u.pm = m := ⟨_, rfl⟩
  have HM := Lib.hid hm
  clear hm
  go_wp2_with (first | go_skip | (refine wpList_load_g 27 _ rfl (by kernel_rfl) w.heap.size rfl Hu.out Tryz.underlying27 rfl (by kernel_rfl) ?_) | (refine wpList_load_g 27 _ rfl (by kernel_rfl) bv rfl Hv.out Tryz.underlying27 rfl (by kernel_rfl) ?_))
  refine (urlMay_c u _ Ou.out (HG.out.below HB.out)).mono ?_
  rw [HM.out]
  rintro e V3 ⟨rfl, hb⟩
  replace HB := Lib.hid (b_then HB.out hb)
  replace Hu := Lib.hid (obj_b hb Hu.out)
  replace Hv := Lib.hid (obj_b hb Hv.out)
  replace Ou := Lib.hid (Ou.out.below hb)
  replace Ov := Lib.hid (Ov.out.below hb)
  clear hb
  cases m
  · go_wp2
    go_ret
    exact ⟨rfl, HB.out⟩
  obtain ⟨m, hm⟩ : ∃ m, PM.urlMay v.pm = m := ⟨_, rfl⟩
  have HM2 := Lib.hid hm
  clear hm
  go_wp2_with (first | go_skip | (refine wpList_load_g 27 _ rfl (by kernel_rfl) w.heap.size rfl Hu.out Tryz.underlying27 rfl (by kernel_rfl) ?_) | (refine wpList_load_g 27 _ rfl (by kernel_rfl) bv rfl Hv.out Tryz.underlying27 rfl (by kernel_rfl) ?_))
  refine (urlMay_c v _ Ov.out (HG.out.below HB.out)).mono ?_
  rw [HM2.out]
  rintro e V4 ⟨rfl, hb⟩
  replace HB := Lib.hid (b_then HB.out hb)
  replace Hu := Lib.hid (obj_b hb Hu.out)
  replace Hv := Lib.hid (obj_b hb Hv.out)
  replace Ou := Lib.hid (Ou.out.below hb)
  replace Ov := Lib.hid (Ov.out.below hb)
  clear hb
  cases m
  · go_wp2
    go_ret
    exact ⟨rfl, HB.out⟩
  obtain ⟨c0, c1, c2, c3, c4, c5, c6, c7, c8, c9, c10, c11, c12, c13, c14, c15, c16, c17, c18, c19, c20⟩ := UrlAt.of_heap Hu.out
  go_wp2_with fail
  refine (Web_c u.sc _).mono ?_
  rintro e V50 ⟨rfl, rfl⟩
  by_cases hw : PM.web u.sc = 0
  · have hw2 : (PM.web u.sc == 0) = true := by simpa using hw
    clear hw
    go_wp2
    go_ret
    exact ⟨rfl, HB.out⟩
  have hw2 : (PM.web u.sc == 0) = false := by simpa using hw
  have h1 : PM.isW u.pm = true := (PM.isW_iff _).2 ⟨HM.out, hw⟩
  have h2 : PM.isW (PM.withQ u.pm q) = true := (PM.isW_iff _).2 ⟨by rw [← HVP.out]; exact HM2.out, hw⟩
  obtain ⟨g1, g2⟩ := PM.query_full h1 h2 rfl
  rw [← HVP.out] at g1 g2
  have g2' : (PM.stripFull u.pm == PM.stripFull v.pm) = (u.hq && (u.qu == q)) := by
    rw [beq_list, beq_list]
    exact g2
  have G1 := Lib.hid g1
  clear g1 g2 h1 h2 hw
  obtain ⟨A, hA⟩ : ∃ A, PM.stripFull u.pm = A := ⟨_, rfl⟩
  obtain ⟨B, hB⟩ : ∃ B, PM.stripFull v.pm = B := ⟨_, rfl⟩
  obtain ⟨O, hO⟩ : ∃ O, PM.stripOrigin u.pm = O := ⟨_, rfl⟩
  rw [hA, hB] at g2'
  rw [hO] at G1
  have HA := Lib.hid hA
  have HBf := Lib.hid hB
  have HO := Lib.hid hO
  clear hA hB hO
  go_wp2_with fail
  obtain ⟨t, ht⟩ : ∃ t, u.hq = t := ⟨_, rfl⟩
  rw [ht] at g2'
  have HT := Lib.hid ht
  clear ht
  cases t
  · skip
    rw [Bool.false_and] at g2'
    go_wp2_with fail
    clear c0 c1 c2 c3 c4 c5 c6 c7 c8 c9 c10 c11 c12 c13 c14 c15 c16 c17 c18 c19 c20 hw2 hl2
    refine wp_region_noPanic ?_
    refine wp_region_held_drew (S := fun W' => Duo u v bv w W') (by kernel_rfl) (Duo.below ⟨Hu.out, Hv.out, Ou.out, Ov.out, HB.out⟩ (b_drew (Below.refl _ _))) (fun hS0 => ?_)
    refine wpAnyH_take (i := 0) (v := ?_) rfl (by kernel_rfl) (by kernel_rfl) (by kernel_rfl) (fun _ _ _ h => h) (Or.inl ⟨by kernel_rfl, fun W hW => ?_⟩) (by assumption) ?_
    rotate_left
    · refine yield_row 27 (.tmp 2) ?_ w.heap.size ?_ hW.hu Tryz.underlying27 rfl (by kernel_rfl)
      · rfl
      · rfl
    (try simp only [List.getElem_toArray, List.getElem_cons_zero, List.getElem_cons_succ, Act.put, List.setIfInBounds_toArray, List.set_cons_zero, List.set_cons_succ])
    refine wpAnyH_take (i := 2) (v := ?_) rfl (by kernel_rfl) (by kernel_rfl) (by kernel_rfl) (fun _ _ _ h => h) (Or.inl ⟨by kernel_rfl, fun W hW => ?_⟩) (by assumption) ?_
    rotate_left
    · refine yield_row 27 (.tmp 7) ?_ bv ?_ hW.hv Tryz.underlying27 rfl (by kernel_rfl)
      · rfl
      · rfl
    (try simp only [List.getElem_toArray, List.getElem_cons_zero, List.getElem_cons_succ, Act.put, List.setIfInBounds_toArray, List.set_cons_zero, List.set_cons_succ])
    refine wpAnyH_ready (rs := [1]) (by kernel_rfl) (by simp) ?_
    refine AllReadyH.cons rfl (fun K hK => ?_) AllReadyH.nil
    go_simp
    refine (Origin_s_c u _ hS0.ou (HG.out.below hS0.be)).mono ?_
    rw [HO.out]
    rintro e U1 ⟨rfl, hb⟩
    have hSn := hS0.below hb
    clear hb hS0
    refine hK.out _ _ hSn (fun _ => ?_)
    clear hK K
    (try simp only [List.getElem_toArray, List.getElem_cons_zero, List.getElem_cons_succ, Act.put, List.setIfInBounds_toArray, List.set_cons_zero, List.set_cons_succ])
    refine wpAnyH_ready (rs := [3]) (by kernel_rfl) (by simp) ?_
    refine AllReadyH.cons rfl (fun K hK => ?_) AllReadyH.nil
    go_simp
    refine (Origin_s_c v _ hSn.ov (HG.out.below hSn.be)).mono ?_
    rw [← G1.out]
    rintro e U2 ⟨rfl, hb⟩
    replace hSn := hSn.below hb
    clear hb
    refine hK.out _ _ hSn (fun _ => ?_)
    clear hK K
    (try simp only [List.getElem_toArray, List.getElem_cons_zero, List.getElem_cons_succ, Act.put, List.setIfInBounds_toArray, List.set_cons_zero, List.set_cons_succ])
    refine wpAnyH_take (i := 4) (v := ?_) rfl (by kernel_rfl) (by kernel_rfl) (by kernel_rfl) (fun _ _ _ h => h) (Or.inl ⟨by kernel_rfl, fun W hW => ?_⟩) (by assumption) ?_
    rotate_left
    · go_simp
      try with_reducible rfl
    (try simp only [List.getElem_toArray, List.getElem_cons_zero, List.getElem_cons_succ, Act.put, List.setIfInBounds_toArray, List.set_cons_zero, List.set_cons_succ])
    refine wpAnyH_take (i := 5) (v := ?_) rfl (by kernel_rfl) (by kernel_rfl) (by kernel_rfl) (fun _ _ _ h => h) (Or.inl ⟨by kernel_rfl, fun W hW => ?_⟩) (by assumption) ?_
    rotate_left
    · go_simp
      try with_reducible rfl
    (try simp only [List.getElem_toArray, List.getElem_cons_zero, List.getElem_cons_succ, Act.put, List.setIfInBounds_toArray, List.set_cons_zero, List.set_cons_succ])
    refine wpAnyH_take (i := 6) (v := ?_) rfl (by kernel_rfl) (by kernel_rfl) (by kernel_rfl) (fun _ _ _ h => h) (Or.inl ⟨by kernel_rfl, fun W hW => ?_⟩) (by assumption) ?_
    rotate_left
    · refine yield_row 27 (.tmp 2) ?_ w.heap.size ?_ hW.hu Tryz.underlying27 rfl (by kernel_rfl)
      · rfl
      · rfl
    (try simp only [List.getElem_toArray, List.getElem_cons_zero, List.getElem_cons_succ, Act.put, List.setIfInBounds_toArray, List.set_cons_zero, List.set_cons_succ])
    refine wpAnyH_take (i := 8) (v := ?_) rfl (by kernel_rfl) (by kernel_rfl) (by kernel_rfl) (fun _ _ _ h => h) (Or.inl ⟨by kernel_rfl, fun W hW => ?_⟩) (by assumption) ?_
    rotate_left
    · refine yield_row 27 (.tmp 7) ?_ bv ?_ hW.hv Tryz.underlying27 rfl (by kernel_rfl)
      · rfl
      · rfl
    (try simp only [List.getElem_toArray, List.getElem_cons_zero, List.getElem_cons_succ, Act.put, List.setIfInBounds_toArray, List.set_cons_zero, List.set_cons_succ])
    refine wpAnyH_take (i := 11) (v := ?_) rfl (by kernel_rfl) (by kernel_rfl) (by kernel_rfl) (fun _ _ _ h => h) (Or.inl ⟨by kernel_rfl, fun W hW => ?_⟩) (by assumption) ?_
    rotate_left
    · go_simp
      try with_reducible rfl
    (try simp only [List.getElem_toArray, List.getElem_cons_zero, List.getElem_cons_succ, Act.put, List.setIfInBounds_toArray, List.set_cons_zero, List.set_cons_succ])
    refine wpAnyH_take (i := 12) (v := ?_) rfl (by kernel_rfl) (by kernel_rfl) (by kernel_rfl) (fun _ _ _ h => h) (Or.inl ⟨by kernel_rfl, fun W hW => ?_⟩) (by assumption) ?_
    rotate_left
    · obtain ⟨c0, c1, c2, c3, c4, c5, c6, c7, c8, c9, c10, c11, c12, c13, c14, c15, c16, c17, c18, c19, c20⟩ := UrlAt.of_heap hW.hu
      rw [HT.out] at c19
      go_simp
      try with_reducible rfl
    (try simp only [List.getElem_toArray, List.getElem_cons_zero, List.getElem_cons_succ, Act.put, List.setIfInBounds_toArray, List.set_cons_zero, List.set_cons_succ])
    refine wpAnyH_ready (rs := [7]) (by kernel_rfl) (by simp) ?_
    refine AllReadyH.cons rfl (fun K hK => ?_) AllReadyH.nil
    go_simp
    refine (Full_s_c u _ hSn.ou (HG.out.below hSn.be)).mono ?_
    rw [HA.out]
    rintro e U3 ⟨rfl, hb⟩
    replace hSn := hSn.below hb
    clear hb
    refine hK.out _ _ hSn (fun _ => ?_)
    clear hK K
    (try simp only [List.getElem_toArray, List.getElem_cons_zero, List.getElem_cons_succ, Act.put, List.setIfInBounds_toArray, List.set_cons_zero, List.set_cons_succ])
    refine wpAnyH_ready (rs := [9]) (by kernel_rfl) (by simp) ?_
    refine AllReadyH.cons rfl (fun K hK => ?_) AllReadyH.nil
    go_simp
    refine (Full_s_c v _ hSn.ov (HG.out.below hSn.be)).mono ?_
    rw [HBf.out]
    rintro e U4 ⟨rfl, hb⟩
    replace hSn := hSn.below hb
    clear hb
    refine hK.out _ _ hSn (fun _ => ?_)
    clear hK K
    (try simp only [List.getElem_toArray, List.getElem_cons_zero, List.getElem_cons_succ, Act.put, List.setIfInBounds_toArray, List.set_cons_zero, List.set_cons_succ])
    refine wpAnyH_take (i := 10) (v := ?_) rfl (by kernel_rfl) (by kernel_rfl) (by kernel_rfl) (fun _ _ _ h => h) (Or.inl ⟨by kernel_rfl, fun W hW => ?_⟩) (by assumption) ?_
    rotate_left
    · go_simp
      try with_reducible rfl
    (try simp only [List.getElem_toArray, List.getElem_cons_zero, List.getElem_cons_succ, Act.put, List.setIfInBounds_toArray, List.set_cons_zero, List.set_cons_succ])
    refine wpAnyH_take (i := 13) (v := ?_) rfl (by kernel_rfl) (by kernel_rfl) (by kernel_rfl) (fun _ _ _ h => h) (Or.inl ⟨by kernel_rfl, fun W hW => ?_⟩) (by assumption) ?_
    rotate_left
    · go_simp
      try with_reducible rfl
    (try simp only [List.getElem_toArray, List.getElem_cons_zero, List.getElem_cons_succ, Act.put, List.setIfInBounds_toArray, List.set_cons_zero, List.set_cons_succ])
    refine wpAnyH_take (i := 14) (v := undef) rfl (by kernel_rfl) (by kernel_rfl) (by kernel_rfl) (fun _ _ _ h => h) (Or.inr ⟨by kernel_rfl, rfl⟩) (by assumption) ?_
    (try simp only [List.getElem_toArray, List.getElem_cons_zero, List.getElem_cons_succ, Act.put, List.setIfInBounds_toArray, List.set_cons_zero, List.set_cons_succ])
    refine wpAnyH_take (i := 15) (v := undef) rfl (by kernel_rfl) (by kernel_rfl) (by kernel_rfl) (fun _ _ _ h => h) (Or.inr ⟨by kernel_rfl, rfl⟩) (by assumption) ?_
    (try simp only [List.getElem_toArray, List.getElem_cons_zero, List.getElem_cons_succ, Act.put, List.setIfInBounds_toArray, List.set_cons_zero, List.set_cons_succ])
    refine wpAnyH_take (i := 16) (v := undef) rfl (by kernel_rfl) (by kernel_rfl) (by kernel_rfl) (fun _ _ _ h => h) (Or.inr ⟨by kernel_rfl, rfl⟩) (by assumption) ?_
    (try simp only [List.getElem_toArray, List.getElem_cons_zero, List.getElem_cons_succ, Act.put, List.setIfInBounds_toArray, List.set_cons_zero, List.set_cons_succ])
    refine wpAnyH_take (i := 17) (v := undef) rfl (by kernel_rfl) (by kernel_rfl) (by kernel_rfl) (fun _ _ _ h => h) (Or.inr ⟨by kernel_rfl, rfl⟩) (by assumption) ?_
    (try simp only [List.getElem_toArray, List.getElem_cons_zero, List.getElem_cons_succ, Act.put, List.setIfInBounds_toArray, List.set_cons_zero, List.set_cons_succ])
    refine wpAnyH_take (i := 18) (v := ?_) rfl (by kernel_rfl) (by kernel_rfl) (by kernel_rfl) (fun _ _ _ h => h) (Or.inl ⟨by kernel_rfl, fun W hW => ?_⟩) (by assumption) ?_
    rotate_left
    · go_simp
      try with_reducible rfl
    (try simp only [List.getElem_toArray, List.getElem_cons_zero, List.getElem_cons_succ, Act.put, List.setIfInBounds_toArray, List.set_cons_zero, List.set_cons_succ])
    refine wpAnyH_take (i := 19) (v := ?_) rfl (by kernel_rfl) (by kernel_rfl) (by kernel_rfl) (fun _ _ _ h => h) (Or.inl ⟨by kernel_rfl, fun W hW => ?_⟩) (by assumption) ?_
    rotate_left
    · go_simp
      try with_reducible rfl
    (try simp only [List.getElem_toArray, List.getElem_cons_zero, List.getElem_cons_succ, Act.put, List.setIfInBounds_toArray, List.set_cons_zero, List.set_cons_succ])
    refine wpAnyH_take (i := 20) (v := ?_) rfl (by kernel_rfl) (by kernel_rfl) (by kernel_rfl) (fun _ _ _ h => h) (Or.inl ⟨by kernel_rfl, fun W hW => ?_⟩) (by assumption) ?_
    rotate_left
    · go_simp
      try with_reducible rfl
    (try simp only [List.getElem_toArray, List.getElem_cons_zero, List.getElem_cons_succ, Act.put, List.setIfInBounds_toArray, List.set_cons_zero, List.set_cons_succ])
    refine wpAnyH_take (i := 21) (v := ?_) rfl (by kernel_rfl) (by kernel_rfl) (by kernel_rfl) (fun _ _ _ h => h) (Or.inl ⟨by kernel_rfl, fun W hW => ?_⟩) (by assumption) ?_
    rotate_left
    · go_simp
      try with_reducible rfl
    (try simp only [List.getElem_toArray, List.getElem_cons_zero, List.getElem_cons_succ, Act.put, List.setIfInBounds_toArray, List.set_cons_zero, List.set_cons_succ])
    refine wpAnyH_done (by kernel_rfl) ?_ _
    refine NoPanic.normal ?_
    go_wp2
    go_ret
    exact ⟨rfl, hSn.be⟩
  · skip
    rw [Bool.true_and] at g2'
    cases hE : (u.qu == q)
    · skip
      rw [hE] at g2'
      go_wp2_with fail
      clear c0 c1 c2 c3 c4 c5 c6 c7 c8 c9 c10 c11 c12 c13 c14 c15 c16 c17 c18 c19 c20 hw2 hl2
      refine wp_region_noPanic ?_
      refine wp_region_held_drew (S := fun W' => Duo u v bv w W') (by kernel_rfl) (Duo.below ⟨Hu.out, Hv.out, Ou.out, Ov.out, HB.out⟩ (b_drew (Below.refl _ _))) (fun hS0 => ?_)
      refine wpAnyH_take (i := 0) (v := ?_) rfl (by kernel_rfl) (by kernel_rfl) (by kernel_rfl) (fun _ _ _ h => h) (Or.inl ⟨by kernel_rfl, fun W hW => ?_⟩) (by assumption) ?_
      rotate_left
      · refine yield_row 27 (.tmp 2) ?_ w.heap.size ?_ hW.hu Tryz.underlying27 rfl (by kernel_rfl)
        · rfl
        · rfl
      (try simp only [List.getElem_toArray, List.getElem_cons_zero, List.getElem_cons_succ, Act.put, List.setIfInBounds_toArray, List.set_cons_zero, List.set_cons_succ])
      refine wpAnyH_take (i := 2) (v := ?_) rfl (by kernel_rfl) (by kernel_rfl) (by kernel_rfl) (fun _ _ _ h => h) (Or.inl ⟨by kernel_rfl, fun W hW => ?_⟩) (by assumption) ?_
      rotate_left
      · refine yield_row 27 (.tmp 7) ?_ bv ?_ hW.hv Tryz.underlying27 rfl (by kernel_rfl)
        · rfl
        · rfl
      (try simp only [List.getElem_toArray, List.getElem_cons_zero, List.getElem_cons_succ, Act.put, List.setIfInBounds_toArray, List.set_cons_zero, List.set_cons_succ])
      refine wpAnyH_ready (rs := [1]) (by kernel_rfl) (by simp) ?_
      refine AllReadyH.cons rfl (fun K hK => ?_) AllReadyH.nil
      go_simp
      refine (Origin_s_c u _ hS0.ou (HG.out.below hS0.be)).mono ?_
      rw [HO.out]
      rintro e U5 ⟨rfl, hb⟩
      have hSn := hS0.below hb
      clear hb hS0
      refine hK.out _ _ hSn (fun _ => ?_)
      clear hK K
      (try simp only [List.getElem_toArray, List.getElem_cons_zero, List.getElem_cons_succ, Act.put, List.setIfInBounds_toArray, List.set_cons_zero, List.set_cons_succ])
      refine wpAnyH_ready (rs := [3]) (by kernel_rfl) (by simp) ?_
      refine AllReadyH.cons rfl (fun K hK => ?_) AllReadyH.nil
      go_simp
      refine (Origin_s_c v _ hSn.ov (HG.out.below hSn.be)).mono ?_
      rw [← G1.out]
      rintro e U6 ⟨rfl, hb⟩
      replace hSn := hSn.below hb
      clear hb
      refine hK.out _ _ hSn (fun _ => ?_)
      clear hK K
      (try simp only [List.getElem_toArray, List.getElem_cons_zero, List.getElem_cons_succ, Act.put, List.setIfInBounds_toArray, List.set_cons_zero, List.set_cons_succ])
      refine wpAnyH_take (i := 4) (v := ?_) rfl (by kernel_rfl) (by kernel_rfl) (by kernel_rfl) (fun _ _ _ h => h) (Or.inl ⟨by kernel_rfl, fun W hW => ?_⟩) (by assumption) ?_
      rotate_left
      · go_simp
        try with_reducible rfl
      (try simp only [List.getElem_toArray, List.getElem_cons_zero, List.getElem_cons_succ, Act.put, List.setIfInBounds_toArray, List.set_cons_zero, List.set_cons_succ])
      refine wpAnyH_take (i := 5) (v := ?_) rfl (by kernel_rfl) (by kernel_rfl) (by kernel_rfl) (fun _ _ _ h => h) (Or.inl ⟨by kernel_rfl, fun W hW => ?_⟩) (by assumption) ?_
      rotate_left
      · go_simp
        try with_reducible rfl
      (try simp only [List.getElem_toArray, List.getElem_cons_zero, List.getElem_cons_succ, Act.put, List.setIfInBounds_toArray, List.set_cons_zero, List.set_cons_succ])
      refine wpAnyH_take (i := 6) (v := ?_) rfl (by kernel_rfl) (by kernel_rfl) (by kernel_rfl) (fun _ _ _ h => h) (Or.inl ⟨by kernel_rfl, fun W hW => ?_⟩) (by assumption) ?_
      rotate_left
      · refine yield_row 27 (.tmp 2) ?_ w.heap.size ?_ hW.hu Tryz.underlying27 rfl (by kernel_rfl)
        · rfl
        · rfl
      (try simp only [List.getElem_toArray, List.getElem_cons_zero, List.getElem_cons_succ, Act.put, List.setIfInBounds_toArray, List.set_cons_zero, List.set_cons_succ])
      refine wpAnyH_take (i := 8) (v := ?_) rfl (by kernel_rfl) (by kernel_rfl) (by kernel_rfl) (fun _ _ _ h => h) (Or.inl ⟨by kernel_rfl, fun W hW => ?_⟩) (by assumption) ?_
      rotate_left
      · refine yield_row 27 (.tmp 7) ?_ bv ?_ hW.hv Tryz.underlying27 rfl (by kernel_rfl)
        · rfl
        · rfl
      (try simp only [List.getElem_toArray, List.getElem_cons_zero, List.getElem_cons_succ, Act.put, List.setIfInBounds_toArray, List.set_cons_zero, List.set_cons_succ])
      refine wpAnyH_take (i := 11) (v := ?_) rfl (by kernel_rfl) (by kernel_rfl) (by kernel_rfl) (fun _ _ _ h => h) (Or.inl ⟨by kernel_rfl, fun W hW => ?_⟩) (by assumption) ?_
      rotate_left
      · go_simp
        try with_reducible rfl
      (try simp only [List.getElem_toArray, List.getElem_cons_zero, List.getElem_cons_succ, Act.put, List.setIfInBounds_toArray, List.set_cons_zero, List.set_cons_succ])
      refine wpAnyH_take (i := 12) (v := ?_) rfl (by kernel_rfl) (by kernel_rfl) (by kernel_rfl) (fun _ _ _ h => h) (Or.inl ⟨by kernel_rfl, fun W hW => ?_⟩) (by assumption) ?_
      rotate_left
      · obtain ⟨c0, c1, c2, c3, c4, c5, c6, c7, c8, c9, c10, c11, c12, c13, c14, c15, c16, c17, c18, c19, c20⟩ := UrlAt.of_heap hW.hu
        rw [HT.out] at c19
        go_simp
        try with_reducible rfl
      (try simp only [List.getElem_toArray, List.getElem_cons_zero, List.getElem_cons_succ, Act.put, List.setIfInBounds_toArray, List.set_cons_zero, List.set_cons_succ])
      refine wpAnyH_ready (rs := [7]) (by kernel_rfl) (by simp) ?_
      refine AllReadyH.cons rfl (fun K hK => ?_) AllReadyH.nil
      go_simp
      refine (Full_s_c u _ hSn.ou (HG.out.below hSn.be)).mono ?_
      rw [HA.out]
      rintro e U7 ⟨rfl, hb⟩
      replace hSn := hSn.below hb
      clear hb
      refine hK.out _ _ hSn (fun _ => ?_)
      clear hK K
      (try simp only [List.getElem_toArray, List.getElem_cons_zero, List.getElem_cons_succ, Act.put, List.setIfInBounds_toArray, List.set_cons_zero, List.set_cons_succ])
      refine wpAnyH_ready (rs := [9]) (by kernel_rfl) (by simp) ?_
      refine AllReadyH.cons rfl (fun K hK => ?_) AllReadyH.nil
      go_simp
      refine (Full_s_c v _ hSn.ov (HG.out.below hSn.be)).mono ?_
      rw [HBf.out]
      rintro e U8 ⟨rfl, hb⟩
      replace hSn := hSn.below hb
      clear hb
      refine hK.out _ _ hSn (fun _ => ?_)
      clear hK K
      (try simp only [List.getElem_toArray, List.getElem_cons_zero, List.getElem_cons_succ, Act.put, List.setIfInBounds_toArray, List.set_cons_zero, List.set_cons_succ])
      refine wpAnyH_take (i := 10) (v := ?_) rfl (by kernel_rfl) (by kernel_rfl) (by kernel_rfl) (fun _ _ _ h => h) (Or.inl ⟨by kernel_rfl, fun W hW => ?_⟩) (by assumption) ?_
      rotate_left
      · go_simp
        try with_reducible rfl
      (try simp only [List.getElem_toArray, List.getElem_cons_zero, List.getElem_cons_succ, Act.put, List.setIfInBounds_toArray, List.set_cons_zero, List.set_cons_succ])
      refine wpAnyH_take (i := 13) (v := ?_) rfl (by kernel_rfl) (by kernel_rfl) (by kernel_rfl) (fun _ _ _ h => h) (Or.inl ⟨by kernel_rfl, fun W hW => ?_⟩) (by assumption) ?_
      rotate_left
      · go_simp
        try with_reducible rfl
      (try simp only [List.getElem_toArray, List.getElem_cons_zero, List.getElem_cons_succ, Act.put, List.setIfInBounds_toArray, List.set_cons_zero, List.set_cons_succ])
      refine wpAnyH_take (i := 14) (v := ?_) rfl (by kernel_rfl) (by kernel_rfl) (by kernel_rfl) (fun _ _ _ h => h) (Or.inl ⟨by kernel_rfl, fun W hW => ?_⟩) (by assumption) ?_
      rotate_left
      · go_simp
        try with_reducible rfl
      (try simp only [List.getElem_toArray, List.getElem_cons_zero, List.getElem_cons_succ, Act.put, List.setIfInBounds_toArray, List.set_cons_zero, List.set_cons_succ])
      refine wpAnyH_take (i := 15) (v := ?_) rfl (by kernel_rfl) (by kernel_rfl) (by kernel_rfl) (fun _ _ _ h => h) (Or.inl ⟨by kernel_rfl, fun W hW => ?_⟩) (by assumption) ?_
      rotate_left
      · obtain ⟨c0, c1, c2, c3, c4, c5, c6, c7, c8, c9, c10, c11, c12, c13, c14, c15, c16, c17, c18, c19, c20⟩ := UrlAt.of_heap hW.hu
        rw [HT.out] at c19
        go_simp
        try with_reducible rfl
      (try simp only [List.getElem_toArray, List.getElem_cons_zero, List.getElem_cons_succ, Act.put, List.setIfInBounds_toArray, List.set_cons_zero, List.set_cons_succ])
      refine wpAnyH_take (i := 16) (v := ?_) rfl (by kernel_rfl) (by kernel_rfl) (by kernel_rfl) (fun _ _ _ h => h) (Or.inl ⟨by kernel_rfl, fun W hW => ?_⟩) (by assumption) ?_
      rotate_left
      · go_simp
        try with_reducible rfl
      (try simp only [List.getElem_toArray, List.getElem_cons_zero, List.getElem_cons_succ, Act.put, List.setIfInBounds_toArray, List.set_cons_zero, List.set_cons_succ])
      refine wpAnyH_take (i := 17) (v := ?_) rfl (by kernel_rfl) (by kernel_rfl) (by kernel_rfl) (fun _ _ _ h => h) (Or.inl ⟨by kernel_rfl, fun W hW => ?_⟩) (by assumption) ?_
      rotate_left
      · go_simp
        try with_reducible rfl
      (try simp only [List.getElem_toArray, List.getElem_cons_zero, List.getElem_cons_succ, Act.put, List.setIfInBounds_toArray, List.set_cons_zero, List.set_cons_succ])
      refine wpAnyH_take (i := 18) (v := ?_) rfl (by kernel_rfl) (by kernel_rfl) (by kernel_rfl) (fun _ _ _ h => h) (Or.inl ⟨by kernel_rfl, fun W hW => ?_⟩) (by assumption) ?_
      rotate_left
      · go_simp
        try with_reducible rfl
      (try simp only [List.getElem_toArray, List.getElem_cons_zero, List.getElem_cons_succ, Act.put, List.setIfInBounds_toArray, List.set_cons_zero, List.set_cons_succ])
      refine wpAnyH_take (i := 19) (v := ?_) rfl (by kernel_rfl) (by kernel_rfl) (by kernel_rfl) (fun _ _ _ h => h) (Or.inl ⟨by kernel_rfl, fun W hW => ?_⟩) (by assumption) ?_
      rotate_left
      · go_simp
        try with_reducible rfl
      (try simp only [List.getElem_toArray, List.getElem_cons_zero, List.getElem_cons_succ, Act.put, List.setIfInBounds_toArray, List.set_cons_zero, List.set_cons_succ])
      refine wpAnyH_take (i := 20) (v := ?_) rfl (by kernel_rfl) (by kernel_rfl) (by kernel_rfl) (fun _ _ _ h => h) (Or.inl ⟨by kernel_rfl, fun W hW => ?_⟩) (by assumption) ?_
      rotate_left
      · go_simp
        try with_reducible rfl
      (try simp only [List.getElem_toArray, List.getElem_cons_zero, List.getElem_cons_succ, Act.put, List.setIfInBounds_toArray, List.set_cons_zero, List.set_cons_succ])
      refine wpAnyH_take (i := 21) (v := ?_) rfl (by kernel_rfl) (by kernel_rfl) (by kernel_rfl) (fun _ _ _ h => h) (Or.inl ⟨by kernel_rfl, fun W hW => ?_⟩) (by assumption) ?_
      rotate_left
      · go_simp
        try with_reducible rfl
      (try simp only [List.getElem_toArray, List.getElem_cons_zero, List.getElem_cons_succ, Act.put, List.setIfInBounds_toArray, List.set_cons_zero, List.set_cons_succ])
      refine wpAnyH_done (by kernel_rfl) ?_ _
      refine NoPanic.normal ?_
      go_wp2
      go_ret
      exact ⟨rfl, hSn.be⟩
    · skip
      rw [hE] at g2'
      go_wp2_with fail
      clear c0 c1 c2 c3 c4 c5 c6 c7 c8 c9 c10 c11 c12 c13 c14 c15 c16 c17 c18 c19 c20 hw2 hl2
      refine wp_region_noPanic ?_
      refine wp_region_held_drew (S := fun W' => Duo u v bv w W') (by kernel_rfl) (Duo.below ⟨Hu.out, Hv.out, Ou.out, Ov.out, HB.out⟩ (b_drew (Below.refl _ _))) (fun hS0 => ?_)
      refine wpAnyH_take (i := 0) (v := ?_) rfl (by kernel_rfl) (by kernel_rfl) (by kernel_rfl) (fun _ _ _ h => h) (Or.inl ⟨by kernel_rfl, fun W hW => ?_⟩) (by assumption) ?_
      rotate_left
      · refine yield_row 27 (.tmp 2) ?_ w.heap.size ?_ hW.hu Tryz.underlying27 rfl (by kernel_rfl)
        · rfl
        · rfl
      (try simp only [List.getElem_toArray, List.getElem_cons_zero, List.getElem_cons_succ, Act.put, List.setIfInBounds_toArray, List.set_cons_zero, List.set_cons_succ])
      refine wpAnyH_take (i := 2) (v := ?_) rfl (by kernel_rfl) (by kernel_rfl) (by kernel_rfl) (fun _ _ _ h => h) (Or.inl ⟨by kernel_rfl, fun W hW => ?_⟩) (by assumption) ?_
      rotate_left
      · refine yield_row 27 (.tmp 7) ?_ bv ?_ hW.hv Tryz.underlying27 rfl (by kernel_rfl)
        · rfl
        · rfl
      (try simp only [List.getElem_toArray, List.getElem_cons_zero, List.getElem_cons_succ, Act.put, List.setIfInBounds_toArray, List.set_cons_zero, List.set_cons_succ])
      refine wpAnyH_ready (rs := [1]) (by kernel_rfl) (by simp) ?_
      refine AllReadyH.cons rfl (fun K hK => ?_) AllReadyH.nil
      go_simp
      refine (Origin_s_c u _ hS0.ou (HG.out.below hS0.be)).mono ?_
      rw [HO.out]
      rintro e U9 ⟨rfl, hb⟩
      have hSn := hS0.below hb
      clear hb hS0
      refine hK.out _ _ hSn (fun _ => ?_)
      clear hK K
      (try simp only [List.getElem_toArray, List.getElem_cons_zero, List.getElem_cons_succ, Act.put, List.setIfInBounds_toArray, List.set_cons_zero, List.set_cons_succ])
      refine wpAnyH_ready (rs := [3]) (by kernel_rfl) (by simp) ?_
      refine AllReadyH.cons rfl (fun K hK => ?_) AllReadyH.nil
      go_simp
      refine (Origin_s_c v _ hSn.ov (HG.out.below hSn.be)).mono ?_
      rw [← G1.out]
      rintro e U10 ⟨rfl, hb⟩
      replace hSn := hSn.below hb
      clear hb
      refine hK.out _ _ hSn (fun _ => ?_)
      clear hK K
      (try simp only [List.getElem_toArray, List.getElem_cons_zero, List.getElem_cons_succ, Act.put, List.setIfInBounds_toArray, List.set_cons_zero, List.set_cons_succ])
      refine wpAnyH_take (i := 4) (v := ?_) rfl (by kernel_rfl) (by kernel_rfl) (by kernel_rfl) (fun _ _ _ h => h) (Or.inl ⟨by kernel_rfl, fun W hW => ?_⟩) (by assumption) ?_
      rotate_left
      · go_simp
        try with_reducible rfl
      (try simp only [List.getElem_toArray, List.getElem_cons_zero, List.getElem_cons_succ, Act.put, List.setIfInBounds_toArray, List.set_cons_zero, List.set_cons_succ])
      refine wpAnyH_take (i := 5) (v := ?_) rfl (by kernel_rfl) (by kernel_rfl) (by kernel_rfl) (fun _ _ _ h => h) (Or.inl ⟨by kernel_rfl, fun W hW => ?_⟩) (by assumption) ?_
      rotate_left
      · go_simp
        try with_reducible rfl
      (try simp only [List.getElem_toArray, List.getElem_cons_zero, List.getElem_cons_succ, Act.put, List.setIfInBounds_toArray, List.set_cons_zero, List.set_cons_succ])
      refine wpAnyH_take (i := 6) (v := ?_) rfl (by kernel_rfl) (by kernel_rfl) (by kernel_rfl) (fun _ _ _ h => h) (Or.inl ⟨by kernel_rfl, fun W hW => ?_⟩) (by assumption) ?_
      rotate_left
      · refine yield_row 27 (.tmp 2) ?_ w.heap.size ?_ hW.hu Tryz.underlying27 rfl (by kernel_rfl)
        · rfl
        · rfl
      (try simp only [List.getElem_toArray, List.getElem_cons_zero, List.getElem_cons_succ, Act.put, List.setIfInBounds_toArray, List.set_cons_zero, List.set_cons_succ])
      refine wpAnyH_take (i := 8) (v := ?_) rfl (by kernel_rfl) (by kernel_rfl) (by kernel_rfl) (fun _ _ _ h => h) (Or.inl ⟨by kernel_rfl, fun W hW => ?_⟩) (by assumption) ?_
      rotate_left
      · refine yield_row 27 (.tmp 7) ?_ bv ?_ hW.hv Tryz.underlying27 rfl (by kernel_rfl)
        · rfl
        · rfl
      (try simp only [List.getElem_toArray, List.getElem_cons_zero, List.getElem_cons_succ, Act.put, List.setIfInBounds_toArray, List.set_cons_zero, List.set_cons_succ])
      refine wpAnyH_take (i := 11) (v := ?_) rfl (by kernel_rfl) (by kernel_rfl) (by kernel_rfl) (fun _ _ _ h => h) (Or.inl ⟨by kernel_rfl, fun W hW => ?_⟩) (by assumption) ?_
      rotate_left
      · go_simp
        try with_reducible rfl
      (try simp only [List.getElem_toArray, List.getElem_cons_zero, List.getElem_cons_succ, Act.put, List.setIfInBounds_toArray, List.set_cons_zero, List.set_cons_succ])
      refine wpAnyH_take (i := 12) (v := ?_) rfl (by kernel_rfl) (by kernel_rfl) (by kernel_rfl) (fun _ _ _ h => h) (Or.inl ⟨by kernel_rfl, fun W hW => ?_⟩) (by assumption) ?_
      rotate_left
      · obtain ⟨c0, c1, c2, c3, c4, c5, c6, c7, c8, c9, c10, c11, c12, c13, c14, c15, c16, c17, c18, c19, c20⟩ := UrlAt.of_heap hW.hu
        rw [HT.out] at c19
        go_simp
        try with_reducible rfl
      (try simp only [List.getElem_toArray, List.getElem_cons_zero, List.getElem_cons_succ, Act.put, List.setIfInBounds_toArray, List.set_cons_zero, List.set_cons_succ])
      refine wpAnyH_ready (rs := [7]) (by kernel_rfl) (by simp) ?_
      refine AllReadyH.cons rfl (fun K hK => ?_) AllReadyH.nil
      go_simp
      refine (Full_s_c u _ hSn.ou (HG.out.below hSn.be)).mono ?_
      rw [HA.out]
      rintro e U11 ⟨rfl, hb⟩
      replace hSn := hSn.below hb
      clear hb
      refine hK.out _ _ hSn (fun _ => ?_)
      clear hK K
      (try simp only [List.getElem_toArray, List.getElem_cons_zero, List.getElem_cons_succ, Act.put, List.setIfInBounds_toArray, List.set_cons_zero, List.set_cons_succ])
      refine wpAnyH_ready (rs := [9]) (by kernel_rfl) (by simp) ?_
      refine AllReadyH.cons rfl (fun K hK => ?_) AllReadyH.nil
      go_simp
      refine (Full_s_c v _ hSn.ov (HG.out.below hSn.be)).mono ?_
      rw [HBf.out]
      rintro e U12 ⟨rfl, hb⟩
      replace hSn := hSn.below hb
      clear hb
      refine hK.out _ _ hSn (fun _ => ?_)
      clear hK K
      (try simp only [List.getElem_toArray, List.getElem_cons_zero, List.getElem_cons_succ, Act.put, List.setIfInBounds_toArray, List.set_cons_zero, List.set_cons_succ])
      refine wpAnyH_take (i := 10) (v := ?_) rfl (by kernel_rfl) (by kernel_rfl) (by kernel_rfl) (fun _ _ _ h => h) (Or.inl ⟨by kernel_rfl, fun W hW => ?_⟩) (by assumption) ?_
      rotate_left
      · go_simp
        try with_reducible rfl
      (try simp only [List.getElem_toArray, List.getElem_cons_zero, List.getElem_cons_succ, Act.put, List.setIfInBounds_toArray, List.set_cons_zero, List.set_cons_succ])
      refine wpAnyH_take (i := 13) (v := ?_) rfl (by kernel_rfl) (by kernel_rfl) (by kernel_rfl) (fun _ _ _ h => h) (Or.inl ⟨by kernel_rfl, fun W hW => ?_⟩) (by assumption) ?_
      rotate_left
      · go_simp
        try with_reducible rfl
      (try simp only [List.getElem_toArray, List.getElem_cons_zero, List.getElem_cons_succ, Act.put, List.setIfInBounds_toArray, List.set_cons_zero, List.set_cons_succ])
      refine wpAnyH_take (i := 14) (v := ?_) rfl (by kernel_rfl) (by kernel_rfl) (by kernel_rfl) (fun _ _ _ h => h) (Or.inl ⟨by kernel_rfl, fun W hW => ?_⟩) (by assumption) ?_
      rotate_left
      · go_simp
        try with_reducible rfl
      (try simp only [List.getElem_toArray, List.getElem_cons_zero, List.getElem_cons_succ, Act.put, List.setIfInBounds_toArray, List.set_cons_zero, List.set_cons_succ])
      refine wpAnyH_take (i := 15) (v := ?_) rfl (by kernel_rfl) (by kernel_rfl) (by kernel_rfl) (fun _ _ _ h => h) (Or.inl ⟨by kernel_rfl, fun W hW => ?_⟩) (by assumption) ?_
      rotate_left
      · obtain ⟨c0, c1, c2, c3, c4, c5, c6, c7, c8, c9, c10, c11, c12, c13, c14, c15, c16, c17, c18, c19, c20⟩ := UrlAt.of_heap hW.hu
        rw [HT.out] at c19
        go_simp
        try with_reducible rfl
      (try simp only [List.getElem_toArray, List.getElem_cons_zero, List.getElem_cons_succ, Act.put, List.setIfInBounds_toArray, List.set_cons_zero, List.set_cons_succ])
      refine wpAnyH_take (i := 16) (v := ?_) rfl (by kernel_rfl) (by kernel_rfl) (by kernel_rfl) (fun _ _ _ h => h) (Or.inl ⟨by kernel_rfl, fun W hW => ?_⟩) (by assumption) ?_
      rotate_left
      · go_simp
        try with_reducible rfl
      (try simp only [List.getElem_toArray, List.getElem_cons_zero, List.getElem_cons_succ, Act.put, List.setIfInBounds_toArray, List.set_cons_zero, List.set_cons_succ])
      refine wpAnyH_take (i := 17) (v := ?_) rfl (by kernel_rfl) (by kernel_rfl) (by kernel_rfl) (fun _ _ _ h => h) (Or.inl ⟨by kernel_rfl, fun W hW => ?_⟩) (by assumption) ?_
      rotate_left
      · go_simp
        try with_reducible rfl
      (try simp only [List.getElem_toArray, List.getElem_cons_zero, List.getElem_cons_succ, Act.put, List.setIfInBounds_toArray, List.set_cons_zero, List.set_cons_succ])
      refine wpAnyH_take (i := 18) (v := ?_) rfl (by kernel_rfl) (by kernel_rfl) (by kernel_rfl) (fun _ _ _ h => h) (Or.inl ⟨by kernel_rfl, fun W hW => ?_⟩) (by assumption) ?_
      rotate_left
      · go_simp
        try with_reducible rfl
      (try simp only [List.getElem_toArray, List.getElem_cons_zero, List.getElem_cons_succ, Act.put, List.setIfInBounds_toArray, List.set_cons_zero, List.set_cons_succ])
      refine wpAnyH_take (i := 19) (v := ?_) rfl (by kernel_rfl) (by kernel_rfl) (by kernel_rfl) (fun _ _ _ h => h) (Or.inl ⟨by kernel_rfl, fun W hW => ?_⟩) (by assumption) ?_
      rotate_left
      · go_simp
        try with_reducible rfl
      (try simp only [List.getElem_toArray, List.getElem_cons_zero, List.getElem_cons_succ, Act.put, List.setIfInBounds_toArray, List.set_cons_zero, List.set_cons_succ])
      refine wpAnyH_take (i := 20) (v := ?_) rfl (by kernel_rfl) (by kernel_rfl) (by kernel_rfl) (fun _ _ _ h => h) (Or.inl ⟨by kernel_rfl, fun W hW => ?_⟩) (by assumption) ?_
      rotate_left
      · go_simp
        try with_reducible rfl
      (try simp only [List.getElem_toArray, List.getElem_cons_zero, List.getElem_cons_succ, Act.put, List.setIfInBounds_toArray, List.set_cons_zero, List.set_cons_succ])
      refine wpAnyH_take (i := 21) (v := ?_) rfl (by kernel_rfl) (by kernel_rfl) (by kernel_rfl) (fun _ _ _ h => h) (Or.inl ⟨by kernel_rfl, fun W hW => ?_⟩) (by assumption) ?_
      rotate_left
      · go_simp
        try with_reducible rfl
      (try simp only [List.getElem_toArray, List.getElem_cons_zero, List.getElem_cons_succ, Act.put, List.setIfInBounds_toArray, List.set_cons_zero, List.set_cons_succ])
      refine wpAnyH_done (by kernel_rfl) ?_ _
      refine NoPanic.normal ?_
      go_wp2
      go_ret
      exact ⟨rfl, hSn.be⟩
end Go.Proofs.YtlcckikfmlhgjaaGreatDoor
/-! The row of StripQuery. -/
namespace Go.Proofs.YtlcckikfmlhgjaaGreatDoor
open Go.ChangeShapes Go.WideShapes Go.ChangeAt Go.RowKit
open Go.WideMaps Go.WideElems
open Go.ChangeMaps (open_string shut_string)
theorem stripQuery_reads (os : Os) {H : Type} (enc : TypeId × Value → H) : ∃ x, DataW.whole enc Tryz.prog ((laidWorld os).forCall (fun _ _ => 0) ⟨#[], #[.agg #[.string ⟨#[]⟩, .string ⟨#[]⟩, .string ⟨#[]⟩, .int .i64 0, .string ⟨#[]⟩, .int .i64 0, .int .i64 0, .int .i64 0, .int .i64 0, .int .i64 0, .int .i64 0, .int .i64 0, .int .i64 0, .int .i64 0, .int .i64 0, .slice none 0 0, .string ⟨#[]⟩, .string ⟨#[]⟩, .string ⟨#[]⟩, .bool false, .bool false], .string ⟨#[]⟩], []⟩).memory Tryz.f15.params.toList Rows.stripQuerySpec.vars false (#[.agg #[.string ⟨#[]⟩, .string ⟨#[]⟩, .string ⟨#[]⟩, .int .i64 0, .string ⟨#[]⟩, .int .i64 0, .int .i64 0, .int .i64 0, .int .i64 0, .int .i64 0, .int .i64 0, .int .i64 0, .int .i64 0, .int .i64 0, .int .i64 0, .slice none 0 0, .string ⟨#[]⟩, .string ⟨#[]⟩, .string ⟨#[]⟩, .bool false, .bool false], .string ⟨#[]⟩] : Array Value).toList 8 = some x :=
  Option.isSome_iff_exists.1 (by kernel_rfl)
set_option maxRecDepth 100000 in
theorem stripQuery_lifted (os : Os) (started : os.Started) (H : Type) (enc : TypeId × Value → H) (F : Stop.Interp) :
    ReturnsInHanded {} Tryz.checked os 15 .any ((OpenSpec.ofChange Rows.stripQuerySpec).preRow enc Tryz.prog Tryz.f15 Rows.stripQueryRow.domain false Rows.stripQueryRow.laid) (((OpenSpec.ofChange Rows.stripQuerySpec).at F).post enc Tryz.prog Tryz.f15 false true false false) := by
  obtain ⟨x, hx⟩ := stripQuery_reads os enc
  refine returnsInHanded_of_row (C := Tryz.checked) (s := OpenSpec.ofChange Rows.stripQuerySpec) own started (by kernel_rfl) Tryz.func15
    (witness_row_atRef (enc := enc) (C := Tryz.checked) false (laidWorld os) #[.agg #[.string ⟨#[]⟩, .string ⟨#[]⟩, .string ⟨#[]⟩, .int .i64 0, .string ⟨#[]⟩, .int .i64 0, .int .i64 0, .int .i64 0, .int .i64 0, .int .i64 0, .int .i64 0, .int .i64 0, .int .i64 0, .int .i64 0, .int .i64 0, .slice none 0 0, .string ⟨#[]⟩, .string ⟨#[]⟩, .string ⟨#[]⟩, .bool false, .bool false], .string ⟨#[]⟩] rfl (by kernel_rfl) (by kernel_rfl) (by kernel_rfl)
      (OpenSpec.preRow_of_cond 8 hx rfl (fun k hk => by cases hk) (by kernel_rfl) (laid_met os _))) ?_
  intro W base args ds gs before hval0 hW _ _ _ hL hsh _
  have hval : ∀ (j : Nat) t v, Tryz.f15.params[j]? = some t → args[j]? = some v → Value.okWide Tryz.prog W .any base t v := hval0
  have hW' := hW
  obtain ⟨p, q, hA0, hV, rfl, hfz, hnd⟩ := hW
  have hA : DataW.TrodAll enc Tryz.prog W 0 (fun _ => true) true Tryz.f15.params.toList args.toList ds p := hA0
  rw [Tryz.params15] at hA hval
  obtain ⟨v0, v1, d0, d1, p0, p1, rfl, rfl, rfl, h0, h1⟩ := trodAll_two hA
  obtain ⟨rfl, rfl⟩ := trodVars_none hV
  simp only [List.append_nil] at hfz hnd hW'
  have hlt : ∀ x ∈ p0 ++ p1, x.block < W.heap.size := fun x hx => hW'.lt x hx
  have h0k := h0
  obtain ⟨u0, rfl, hr0⟩ := open_url (hval 0 27 v0 rfl rfl) h0
  have h1k := h1
  obtain ⟨s1, e1, _, _, w1⟩ := open_string Tryz.underlying9 (hval 1 9 v1 rfl rfl) h1
  obtain ⟨l1, rfl⟩ := mkS_surj s1
  subst e1
  refine (StripQuery_c u0 l1 W hr0 (gl_of hsh) (tabs_laid hL)).mono fun e W' ⟨he, hb⟩ => ?_
  subst he
  refine ⟨_, rfl, _, _, _, [], p0 ++ p1, [], hW', ?_, ?_, ?_, hb.frame _, fun h => by cases h⟩
  · exact trodAll_mk1 (shut_bool Tryz.underlying4 _)
  · exact trodAll_mk2 (Below.trod laidOut (by kernel_rfl) (of_decide_eq_true (by kernel_rfl)) h0k hb (fun x hx => hlt x (by simp [hx]))) (Below.trod laidOut (by kernel_rfl) (of_decide_eq_true (by kernel_rfl)) h1k hb (fun x hx => hlt x (by simp [hx])))
  · rfl
theorem stripQuery_k0 : Rows.stripQueryRow.wf (OpenSpec.ofChange (OpenSpec.ofChange Rows.stripQuerySpec).bare) = true := by kernel_rfl
theorem stripQuery_k3 : Tryz.f15.params.all (PP.readableRec ·) = true := by kernel_rfl
theorem stripQuery_k4 : namedTie PP Rows.stripQueryRow.named (OpenSpec.ofChange Rows.stripQuerySpec).bare.vars = true := by kernel_rfl
theorem stripQuery_k5 : (Rows.stripQueryRow.stops == []) = true := by kernel_rfl
theorem stripQuery_k7 : (Rows.stripQueryRow.knobs == []) = true := by kernel_rfl
theorem stripQuery_k9 : (Rows.stripQueryRow.inPlace == PP.inPlace 15) = true := by kernel_rfl
theorem stripQuery_k10 : (Rows.stripQueryRow.unfollowed == PP.unfollowed 15) = true := by kernel_rfl
theorem stripQuery_k11 : (Rows.stripQueryRow.recurses == PP.recurses 15) = true := by kernel_rfl
theorem stripQuery_k12 : (Rows.stripQueryRow.named == PP.varsNamed 15) = true := by kernel_rfl
theorem stripQuery_k13 : (Rows.stripQueryRow.maps == (Tryz.f15.params.toList ++ (OpenSpec.ofChange Rows.stripQuerySpec).bare.plain.varTypes PP).any (PP.mapsRec ·)) = true := by kernel_rfl
theorem stripQuery_k14 : (Rows.stripQueryRow.ifaces == (Tryz.f15.params.toList ++ (OpenSpec.ofChange Rows.stripQuerySpec).bare.plain.varTypes PP).any (PP.ifacesRec ·)) = true := by kernel_rfl
theorem stripQuery_k15 : (Rows.stripQueryRow.mapsOut == PP.mapsAmong Tryz.f15.resultTypes.toList) = true := by kernel_rfl
theorem stripQuery_k16 : (Rows.stripQueryRow.loops == (Tryz.f15.params.toList ++ (OpenSpec.ofChange Rows.stripQuerySpec).bare.plain.varTypes PP).any (PP.loopsFrom ·)) = true := by kernel_rfl
theorem stripQuery_k17 : (Rows.stripQueryRow.wideKeys == (Tryz.f15.params.toList ++ (OpenSpec.ofChange Rows.stripQuerySpec).bare.plain.varTypes PP ++ Tryz.f15.resultTypes.toList).any (PP.wideKeysFrom ·)) = true := by kernel_rfl
theorem stripQuery_k18 : (OpenSpec.ofChange Rows.stripQuerySpec).bare.vars.all (PP.varReadable ·) = true := by kernel_rfl
theorem stripQuery_k19 : Tryz.f15.resultTypes.all (fun t => PP.readableRec t && decide (t < PP.types.size)) = true := by kernel_rfl
theorem stripQuery_k20 : (Rows.stripQueryRow.ifacesOut == Tryz.f15.resultTypes.toList.any (PP.ifacesRec ·)) = true := by kernel_rfl
theorem stripQuery_k21 : (Rows.stripQueryRow.loopsOut == Tryz.f15.resultTypes.toList.any (PP.loopsFrom ·)) = true := by kernel_rfl
theorem stripQuery_k23 : Rows.stripQueryRow.shortTexts.isNone = true := by kernel_rfl
theorem stripQuery_k28 : (Rows.stripQueryRow.kinds == (if Rows.stripQueryRow.domain.isEmpty then [] else Tryz.f15.params.toList.map fun t => match PP.underlying t with | some (.int k) => some k | _ => none)) = true := by kernel_rfl
theorem stripQuery_k29 : (Rows.stripQueryRow.pinned == Rows.stripQueryRow.pinnedBy) = true := by kernel_rfl
theorem stripQuery_k30 : (Rows.stripQueryRow.veiled == (Tryz.f15.params.toList ++ (OpenSpec.ofChange Rows.stripQuerySpec).bare.plain.varTypes PP ++ Tryz.f15.resultTypes.toList).any (PP.veiledRec ·)) = true := by kernel_rfl
theorem stripQuery_k31 : Rows.stripQueryRow.veiledFits PP Tryz.f15.params.toList (Tryz.f15.params.toList ++ (OpenSpec.ofChange Rows.stripQuerySpec).bare.plain.varTypes PP ++ Tryz.f15.resultTypes.toList) = true := by kernel_rfl
set_option maxRecDepth 100000 in
theorem stripQuery_closed : joinedFacts PP 15 Tryz.f15 (OpenSpec.ofChange Rows.stripQuerySpec).bare Rows.stripQueryRow = true := and2 (and2 (and2 (and2 (and2 (and2 (and2 (and2 (and2 (and2 (and2 (and2 (and2 (and2 (and2 (and2 (and2 (and2 (and2 (and2 (and2 (and2 (and2 (and2 (and2 (and2 (and2 (and2 (and2 (and2 (and2 (stripQuery_k0) j_laidOut) j_rowed) stripQuery_k3) stripQuery_k4) stripQuery_k5) j_stops) stripQuery_k7) j_knobs) stripQuery_k9) stripQuery_k10) stripQuery_k11) stripQuery_k12) stripQuery_k13) stripQuery_k14) stripQuery_k15) stripQuery_k16) stripQuery_k17) stripQuery_k18) stripQuery_k19) stripQuery_k20) stripQuery_k21) j_plain) stripQuery_k23) j_heard) j_enter) j_lift) j_make) stripQuery_k28) stripQuery_k29) stripQuery_k30) stripQuery_k31
theorem stripQuery_named : Tryz.pinned.checked.prog.funcNamed Rows.stripQueryRow.func = some 15 := by kernel_rfl
theorem stripQuery_text : Rows.stripQueryRow.wfByText (OpenSpec.ofChange Rows.stripQuerySpec) = true := by kernel_rfl
theorem stripQuery_goes : false = Rows.stripQueryRow.goesBy Tryz.pinned.checked.prog := by kernel_rfl
theorem stripQuery_said : Rows.StripQuerySaid :=
  OpenClaim.holds_of_cond 15 Tryz.f15 rfl rfl rfl rfl rfl rfl rfl ⟨rfl, rfl, rfl, rfl, rfl⟩ rfl rfl rfl rfl rfl stripQuery_named Tryz.func15 stripQuery_closed
    (of_decide_eq_true (by kernel_rfl)) (by unfold Func.isWrapper; first | (rw [if_pos (by decide +kernel)]; kernel_rfl) | (rw [if_neg (by decide +kernel)]; exact ⟨rfl, rfl⟩))
    (fun os started H enc _ F => by rw [OpenClaim.pre_eq_preRow]; exact stripQuery_lifted os started H enc F)
theorem stripQuery_plain (f : FuncId) (fn : Func) (hf : Tryz.pinned.checked.prog.funcNamed "postmark/postmarklaw16.StripQuery" = some f) (hfn : Tryz.pinned.checked.prog.funcs[f]? = some fn) :
    true = Tryz.pinned.checked.prog.looks [] ∧ ∀ (j : Nat) t, fn.params[j]? = some t → Tryz.pinned.checked.prog.wantsStandIn t = false := by
  obtain rfl : f = 15 := Option.some.inj ((show Tryz.prog.funcNamed "postmark/postmarklaw16.StripQuery" = some 15 by kernel_rfl).symm.trans hf) |>.symm
  obtain rfl : fn = Tryz.f15 := (Option.some.inj (Tryz.func15.symm.trans hfn)).symm
  refine ⟨by kernel_rfl, fun j t ht => ?_⟩
  rw [Tryz.params15] at ht
  have hm := Array.mem_of_getElem? ht
  simp only [Array.mem_def, List.mem_cons, List.not_mem_nil, or_false] at hm
  rcases hm with rfl | rfl
  · exact (show Tryz.prog.wantsStandIn 27 = false by kernel_rfl)
  · exact (show Tryz.prog.wantsStandIn 9 = false by kernel_rfl)
theorem stripQuery_holds : Rows.StripQueryCardSaid :=
  Claim7.holds_tied_plain_at .later [] _ _ _ _ stripQuery_said (fun _ h => by cases h) stripQuery_text (fun _ h => by cases h) stripQuery_row_tie rfl ⟨rfl, rfl⟩ j_main rfl stripQuery_plain stripQuery_goes
#print axioms stripQuery_holds
end Go.Proofs.YtlcckikfmlhgjaaGreatDoor
