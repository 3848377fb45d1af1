import Derived.Test.YtphigjogeejdjaaGreatDoorOg
/-! Contracts: package strip, policy.Meet. -/
set_option linter.unusedVariables false
set_option linter.unusedSimpArgs false
namespace Go.Proofs.YtphigjogeejdjaaGreatDoor
open Go.RowKit
@[go_sem] theorem bd_only (w : World) : (Instr.build 116 #[]).run Tryz.prog w = .ok (.agg #[]) w := run_build w 116 _ _ (by kernel_rfl)
@[go_sem] theorem bd_all (w : World) : (Instr.build 117 #[]).run Tryz.prog w = .ok (.agg #[]) w := run_build w 117 _ _ (by kernel_rfl)
@[go_sem] theorem ta_only_teller (w : World) : (Instr.typeAssert (.iface 116 (.agg #[])) 20 147 true).run Tryz.prog w = .ok (.tuple #[.iface 116 (.agg #[]), .bool true]) w := by kernel_rfl
@[go_sem] theorem ta_all_teller (w : World) : (Instr.typeAssert (.iface 117 (.agg #[])) 20 147 true).run Tryz.prog w = .ok (.tuple #[.iface 117 (.agg #[]), .bool true]) w := by kernel_rfl
@[go_sem] theorem ta_nil_teller (w : World) : (Instr.typeAssert .nilIface 20 147 true).run Tryz.prog w = .ok (.tuple #[.nilIface, .bool false]) w := by kernel_rfl
@[go_sem] theorem ta_only_all (w : World) : (Instr.typeAssert (.iface 116 (.agg #[])) 147 117 true).run Tryz.prog w = .ok (.tuple #[.agg #[], .bool false]) w := by kernel_rfl
@[go_sem] theorem ta_all_all (w : World) : (Instr.typeAssert (.iface 117 (.agg #[])) 147 117 true).run Tryz.prog w = .ok (.tuple #[.agg #[], .bool true]) w := by kernel_rfl
theorem oshow_len (o : OV) (h : o.Ok) : (PM.originShow o.pm).length ≤ 1000000000000 := by
  unfold PM.originShow PM.trimSlash
  have := front_len o h
  split
  · decide
  · split
    · rw [List.length_dropLast]; omega
    · exact this
set_option maxRecDepth 100000 in
set_option maxHeartbeats 4000000 in
theorem tell_only_c (u : UV) (w : World) (hu : u.Ok w) (hg : Gl w) : Calls Tryz.prog 251 #[.agg #[], .agg u.cells] w fun e w' => e = .returned (.string (mkS (PM.originShow (PM.originOf u.pm) ++ [47]))) ∧ Below w.heap.size w w' := by
  have HG := Lib.hid hg
  have HB : Hid (Below w.heap.size w ((w.alloc (.cells #[] 116)).alloc (.cells u.cells 27))) := Lib.hid (b_alloc (b_alloc (Below.refl _ _) _) _)
  have Hu : Hid (((w.alloc (.cells #[] 116)).alloc (.cells u.cells 27)).heap[w.heap.size + 1]? = some (.cells u.cells 27 (0, 0))) := Lib.hid (Go.heap_alloc2_new _ _ _)
  have Ou := Lib.hid (hu.below HB.out)
  clear hg hu
  go_enter Tryz.func251, Tryz.ntmps251
  go_upto_region 1 with fail
  generalize (w.alloc (.cells #[] 116)).alloc (.cells u.cells 27) = V0 at HB Hu Ou ⊢
  go_wp2_with (first | go_skip | (refine wpList_load_g 27 _ rfl (by kernel_rfl) (w.heap.size + 1) rfl Hu.out Tryz.underlying27 rfl (by kernel_rfl) ?_))
  refine (Of_c u _ Ou.out (HG.out.below HB.out)).mono ?_
  rintro e V1 ⟨rfl, hb⟩
  replace HB := Lib.hid (b_then HB.out hb)
  replace Hu := Lib.hid (obj_b hb Hu.out)
  replace Ou := Lib.hid (Ou.out.below hb)
  clear hb
  have hok := ofOV_ok Ou.out
  have HOK := Lib.hid hok
  clear hok
  go_wp2_with fail
  refine (Show_o_c (ofOV u) _ HOK.out (HG.out.below HB.out)).mono ?_
  rintro e V2 ⟨rfl, hb⟩
  replace HB := Lib.hid (b_then HB.out hb)
  replace Hu := Lib.hid (obj_b hb Hu.out)
  replace Ou := Lib.hid (Ou.out.below hb)
  clear hb
  have hl : ¬ 9223372036854775807 < (PM.originShow (ofOV u).pm).length + 1 := by have := oshow_len _ HOK.out; omega
  rw [ofOV_pm] at hl ⊢
  go_wp2
  go_ret
  refine ⟨?_, HB.out⟩
  show Ending.returned (.string (mkS _ ++ mkS [47])) = _
  rw [mkS_append]
set_option maxRecDepth 100000 in
set_option maxHeartbeats 4000000 in
theorem tell_all_c (u : UV) (w : World) (hu : u.Ok w) (hg : Gl w) : Calls Tryz.prog 252 #[.agg #[], .agg u.cells] w fun e w' => e = .returned (.string (mkS (PM.showUrl (PM.open_ u.pm)))) ∧ Below w.heap.size w w' := by
  have HG := Lib.hid hg
  have HB : Hid (Below w.heap.size w ((w.alloc (.cells #[] 117)).alloc (.cells u.cells 27))) := Lib.hid (b_alloc (b_alloc (Below.refl _ _) _) _)
  have Hu : Hid (((w.alloc (.cells #[] 117)).alloc (.cells u.cells 27)).heap[w.heap.size + 1]? = some (.cells u.cells 27 (0, 0))) := Lib.hid (Go.heap_alloc2_new _ _ _)
  have Ou := Lib.hid (hu.below HB.out)
  clear hg hu
  go_enter Tryz.func252, Tryz.ntmps252
  go_upto_region 1 with fail
  generalize (w.alloc (.cells #[] 117)).alloc (.cells u.cells 27) = V0 at HB Hu Ou ⊢
  go_wp2_with (first | go_skip | (refine wpList_load_g 27 _ rfl (by kernel_rfl) (w.heap.size + 1) rfl Hu.out Tryz.underlying27 rfl (by kernel_rfl) ?_))
  refine (Open_c u _ Ou.out).mono ?_
  rintro e V1 ⟨v, rfl, hvp, hvo, -, hb⟩
  replace HB := Lib.hid (b_then HB.out hb)
  replace Hu := Lib.hid (obj_b hb Hu.out)
  replace Ou := Lib.hid (Ou.out.below hb)
  clear hb
  have HVP := Lib.hid hvp
  have HVO := Lib.hid hvo
  clear hvp hvo
  go_wp2_with fail
  refine (showUrl_c v _ HVO.out (HG.out.below HB.out)).mono ?_
  rw [HVP.out]
  rintro e V2 ⟨rfl, hb⟩
  replace HB := Lib.hid (b_then HB.out hb)
  replace Hu := Lib.hid (obj_b hb Hu.out)
  replace Ou := Lib.hid (Ou.out.below hb)
  replace HVO := Lib.hid (HVO.out.below hb)
  clear hb
  go_wp2
  go_ret
  exact ⟨rfl, HB.out⟩
set_option maxRecDepth 100000 in
set_option maxHeartbeats 4000000 in
theorem told_only_c (u : UV) (w : World) (hu : u.Ok w) (hg : Gl w) : Calls Tryz.prog 87 #[.agg u.cells, .iface 116 (.agg #[])] w fun e w' => e = .returned (.string (mkS (PM.stripOrigin u.pm))) ∧ Below w.heap.size w w' := by
  have HG := Lib.hid hg
  have hs : PM.stripOrigin u.pm = if PM.isW u.pm then PM.originShow (PM.originOf u.pm) ++ [47] else [] := rfl
  have HS := Lib.hid hs
  have HB : Hid (Below w.heap.size w (w.alloc (.cells u.cells 27))) := Lib.hid (b_alloc (Below.refl _ _) _)
  have Hu : Hid ((w.alloc (.cells u.cells 27)).heap[w.heap.size]? = some (.cells u.cells 27 (0, 0))) := Lib.hid (Go.heap_alloc_new _ _)
  have Ou := Lib.hid (hu.below HB.out)
  clear hg hu hs
  go_enter Tryz.func87, Tryz.ntmps87
  go_upto_region 1 with fail
  generalize w.alloc (.cells u.cells 27) = V0 at HB Hu Ou ⊢
  obtain ⟨m, hm⟩ : ∃ m, PM.urlMay u.pm = m := ⟨_, rfl⟩
  have HM := Lib.hid hm
  clear hm
  go_wp2_with (first | go_skip | (refine wpList_load_g 27 _ rfl (by kernel_rfl) w.heap.size rfl Hu.out Tryz.underlying27 rfl (by kernel_rfl) ?_))
  refine (urlMay_c u _ Ou.out (HG.out.below HB.out)).mono ?_
  rw [HM.out]
  rintro e V1 ⟨rfl, hb⟩
  replace HB := Lib.hid (b_then HB.out hb)
  replace Hu := Lib.hid (obj_b hb Hu.out)
  replace Ou := Lib.hid (Ou.out.below hb)
  clear hb
  cases m
  · go_wp2
    go_ret
    exact ⟨ret_str (by rw [HS.out]; unfold PM.isW; rw [HM.out]; rfl), HB.out⟩
  obtain ⟨c0, c1, c2, c3, c4, c5, c6, c7, c8, c9, c10, c11, c12, c13, c14, c15, c16, c17, c18, c19, c20⟩ := UrlAt.of_heap Hu.out
  go_wp2_with fail
  refine (Web_c u.sc _).mono ?_
  rintro e V50 ⟨rfl, rfl⟩
  by_cases hw : PM.web u.sc = 0
  · have hw2 : (PM.web u.sc == 0) = true := by simpa using hw
    have hisw : PM.isW u.pm = false := by unfold PM.isW; rw [HM.out, decide_eq_true (show PM.web u.pm.scheme = 0 from hw)]; rfl
    have HW := Lib.hid hisw
    clear hw hisw
    go_wp2
    go_ret
    exact ⟨ret_str (by rw [HS.out, HW.out]; rfl), HB.out⟩
  have hw2 : (PM.web u.sc == 0) = false := by simpa using hw
  have hisw : PM.isW u.pm = true := (PM.isW_iff _).2 ⟨HM.out, hw⟩
  have HW := Lib.hid hisw
  clear hw hisw
  go_wp2_with (first | go_skip | (refine wpList_load_g 27 _ rfl (by kernel_rfl) w.heap.size rfl Hu.out Tryz.underlying27 rfl (by kernel_rfl) ?_))
  refine (tell_only_c u _ Ou.out (HG.out.below HB.out)).mono ?_
  rintro e V60 ⟨rfl, hb⟩
  clear c0 c1 c2 c3 c4 c5 c6 c7 c8 c9 c10 c11 c12 c13 c14 c15 c16 c17 c18 c19 c20
  replace HB := Lib.hid (b_then HB.out hb)
  replace Hu := Lib.hid (obj_b hb Hu.out)
  replace Ou := Lib.hid (Ou.out.below hb)
  clear hb
  go_wp2
  go_ret
  exact ⟨ret_str (by rw [HS.out, HW.out]; rfl), HB.out⟩
set_option maxRecDepth 100000 in
set_option maxHeartbeats 4000000 in
theorem told_all_c (u : UV) (w : World) (hu : u.Ok w) (hg : Gl w) : Calls Tryz.prog 87 #[.agg u.cells, .iface 117 (.agg #[])] w fun e w' => e = .returned (.string (mkS (PM.stripFull u.pm))) ∧ Below w.heap.size w w' := by
  have HG := Lib.hid hg
  have hs : PM.stripFull u.pm = if PM.isW u.pm then PM.showUrl (PM.open_ u.pm) else [] := rfl
  have HS := Lib.hid hs
  have HB : Hid (Below w.heap.size w (w.alloc (.cells u.cells 27))) := Lib.hid (b_alloc (Below.refl _ _) _)
  have Hu : Hid ((w.alloc (.cells u.cells 27)).heap[w.heap.size]? = some (.cells u.cells 27 (0, 0))) := Lib.hid (Go.heap_alloc_new _ _)
  have Ou := Lib.hid (hu.below HB.out)
  clear hg hu hs
  go_enter Tryz.func87, Tryz.ntmps87
  go_upto_region 1 with fail
  generalize w.alloc (.cells u.cells 27) = V0 at HB Hu Ou ⊢
  obtain ⟨m, hm⟩ : ∃ m, PM.urlMay u.pm = m := ⟨_, rfl⟩
  have HM := Lib.hid hm
  clear hm
  go_wp2_with (first | go_skip | (refine wpList_load_g 27 _ rfl (by kernel_rfl) w.heap.size rfl Hu.out Tryz.underlying27 rfl (by kernel_rfl) ?_))
  refine (urlMay_c u _ Ou.out (HG.out.below HB.out)).mono ?_
  rw [HM.out]
  rintro e V1 ⟨rfl, hb⟩
  replace HB := Lib.hid (b_then HB.out hb)
  replace Hu := Lib.hid (obj_b hb Hu.out)
  replace Ou := Lib.hid (Ou.out.below hb)
  clear hb
  cases m
  · go_wp2
    go_ret
    exact ⟨ret_str (by rw [HS.out]; unfold PM.isW; rw [HM.out]; rfl), HB.out⟩
  obtain ⟨c0, c1, c2, c3, c4, c5, c6, c7, c8, c9, c10, c11, c12, c13, c14, c15, c16, c17, c18, c19, c20⟩ := UrlAt.of_heap Hu.out
  go_wp2_with fail
  refine (Web_c u.sc _).mono ?_
  rintro e V50 ⟨rfl, rfl⟩
  by_cases hw : PM.web u.sc = 0
  · have hw2 : (PM.web u.sc == 0) = true := by simpa using hw
    have hisw : PM.isW u.pm = false := by unfold PM.isW; rw [HM.out, decide_eq_true (show PM.web u.pm.scheme = 0 from hw)]; rfl
    have HW := Lib.hid hisw
    clear hw hisw
    go_wp2
    go_ret
    exact ⟨ret_str (by rw [HS.out, HW.out]; rfl), HB.out⟩
  have hw2 : (PM.web u.sc == 0) = false := by simpa using hw
  have hisw : PM.isW u.pm = true := (PM.isW_iff _).2 ⟨HM.out, hw⟩
  have HW := Lib.hid hisw
  clear hw hisw
  go_wp2_with (first | go_skip | (refine wpList_load_g 27 _ rfl (by kernel_rfl) w.heap.size rfl Hu.out Tryz.underlying27 rfl (by kernel_rfl) ?_))
  refine (tell_all_c u _ Ou.out (HG.out.below HB.out)).mono ?_
  rintro e V60 ⟨rfl, hb⟩
  clear c0 c1 c2 c3 c4 c5 c6 c7 c8 c9 c10 c11 c12 c13 c14 c15 c16 c17 c18 c19 c20
  replace HB := Lib.hid (b_then HB.out hb)
  replace Hu := Lib.hid (obj_b hb Hu.out)
  replace Ou := Lib.hid (Ou.out.below hb)
  clear hb
  go_wp2
  go_ret
  exact ⟨ret_str (by rw [HS.out, HW.out]; rfl), HB.out⟩
set_option maxRecDepth 100000 in
set_option maxHeartbeats 4000000 in
theorem Origin_s_c (u : UV) (w : World) (hu : u.Ok w) (hg : Gl w) : Calls Tryz.prog 46 #[.agg u.cells] w fun e w' => e = .returned (.string (mkS (PM.stripOrigin u.pm))) ∧ Below w.heap.size w w' := by
  have HG := Lib.hid hg
  have HB : Hid (Below w.heap.size w (w.alloc (.cells u.cells 27))) := Lib.hid (b_alloc (Below.refl _ _) _)
  have Hu : Hid ((w.alloc (.cells u.cells 27)).heap[w.heap.size]? = some (.cells u.cells 27 (0, 0))) := Lib.hid (Go.heap_alloc_new _ _)
  have Ou := Lib.hid (hu.below HB.out)
  clear hg hu
  go_enter Tryz.func46, Tryz.ntmps46
  go_upto_region 1 with fail
  generalize w.alloc (.cells u.cells 27) = V0 at HB Hu Ou ⊢
  go_wp2_with (first | go_skip | (refine wpList_load_g 27 _ rfl (by kernel_rfl) w.heap.size rfl Hu.out Tryz.underlying27 rfl (by kernel_rfl) ?_))
  refine (told_only_c u _ Ou.out (HG.out.below HB.out)).mono ?_
  rintro e V1 ⟨rfl, hb⟩
  replace HB := Lib.hid (b_then HB.out hb)
  replace Hu := Lib.hid (obj_b hb Hu.out)
  replace Ou := Lib.hid (Ou.out.below hb)
  clear hb
  go_wp2
  go_ret
  exact ⟨rfl, HB.out⟩
set_option maxRecDepth 100000 in
set_option maxHeartbeats 4000000 in
theorem Full_s_c (u : UV) (w : World) (hu : u.Ok w) (hg : Gl w) : Calls Tryz.prog 47 #[.agg u.cells] w fun e w' => e = .returned (.string (mkS (PM.stripFull u.pm))) ∧ Below w.heap.size w w' := by
  have HG := Lib.hid hg
  have HB : Hid (Below w.heap.size w (w.alloc (.cells u.cells 27))) := Lib.hid (b_alloc (Below.refl _ _) _)
  have Hu : Hid ((w.alloc (.cells u.cells 27)).heap[w.heap.size]? = some (.cells u.cells 27 (0, 0))) := Lib.hid (Go.heap_alloc_new _ _)
  have Ou := Lib.hid (hu.below HB.out)
  clear hg hu
  go_enter Tryz.func47, Tryz.ntmps47
  go_upto_region 1 with fail
  generalize w.alloc (.cells u.cells 27) = V0 at HB Hu Ou ⊢
  go_wp2_with (first | go_skip | (refine wpList_load_g 27 _ rfl (by kernel_rfl) w.heap.size rfl Hu.out Tryz.underlying27 rfl (by kernel_rfl) ?_))
  refine (told_all_c u _ Ou.out (HG.out.below HB.out)).mono ?_
  rintro e V1 ⟨rfl, hb⟩
  replace HB := Lib.hid (b_then HB.out hb)
  replace Hu := Lib.hid (obj_b hb Hu.out)
  replace Ou := Lib.hid (Ou.out.below hb)
  clear hb
  go_wp2
  go_ret
  exact ⟨rfl, HB.out⟩
set_option maxRecDepth 100000 in
set_option maxHeartbeats 4000000 in
theorem Cap_s_c (u : UV) (w : World) (hu : u.Ok w) (hg : Gl w) : Calls Tryz.prog 125 #[.agg u.cells] w fun e w' => e = .returned (.string (mkS (PM.stripCap u.pm))) ∧ Below w.heap.size w w' := by
  have HG := Lib.hid hg
  have HB : Hid (Below w.heap.size w (w.alloc (.cells u.cells 27))) := Lib.hid (b_alloc (Below.refl _ _) _)
  have Hu : Hid ((w.alloc (.cells u.cells 27)).heap[w.heap.size]? = some (.cells u.cells 27 (0, 0))) := Lib.hid (Go.heap_alloc_new _ _)
  have Ou := Lib.hid (hu.below HB.out)
  clear hg hu
  have hc : PM.stripCap u.pm = if (PM.stripFull u.pm).length ≤ 4096 then PM.stripFull u.pm else PM.stripOrigin u.pm := rfl
  have HC := Lib.hid hc
  clear hc
  go_enter Tryz.func125, Tryz.ntmps125
  go_upto_region 1 with fail
  generalize w.alloc (.cells u.cells 27) = V0 at HB Hu Ou ⊢
  go_wp2_with (first | go_skip | (refine wpList_load_g 27 _ rfl (by kernel_rfl) w.heap.size rfl Hu.out Tryz.underlying27 rfl (by kernel_rfl) ?_))
  refine (Full_s_c u _ Ou.out (HG.out.below HB.out)).mono ?_
  rintro e V1 ⟨rfl, hb⟩
  replace HB := Lib.hid (b_then HB.out hb)
  replace Hu := Lib.hid (obj_b hb Hu.out)
  replace Ou := Lib.hid (Ou.out.below hb)
  clear hb
  generalize PM.stripFull u.pm = S at HC ⊢
  by_cases hl : S.length ≤ 4096
  · have h2 : ((S.length : Int) ≤ 4096) := by omega
    have HL := Lib.hid hl
    clear hl
    go_wp2
    go_ret
    exact ⟨ret_str (by rw [HC.out, if_pos HL.out]), HB.out⟩
  have h2 : ¬ ((S.length : Int) ≤ 4096) := by omega
  have HL := Lib.hid hl
  clear hl
  go_wp2_with (first | go_skip | (refine wpList_load_g 27 _ rfl (by kernel_rfl) w.heap.size rfl Hu.out Tryz.underlying27 rfl (by kernel_rfl) ?_))
  refine (Origin_s_c u _ Ou.out (HG.out.below HB.out)).mono ?_
  rintro e V2 ⟨rfl, hb⟩
  replace HB := Lib.hid (b_then HB.out hb)
  replace Hu := Lib.hid (obj_b hb Hu.out)
  replace Ou := Lib.hid (Ou.out.below hb)
  clear hb
  go_wp2
  go_ret
  exact ⟨ret_str (by rw [HC.out, if_neg HL.out]), HB.out⟩
set_option maxRecDepth 100000 in
set_option maxHeartbeats 4000000 in
theorem of_s_c (n : Int) (w : World) : Calls Tryz.prog 124 #[.int .i64 n] w fun e w' => e = .returned (if n = 1 then .iface 116 (.agg #[]) else if n = 2 then .iface 117 (.agg #[]) else .nilIface) ∧ Below w.heap.size w w' := by
  by_cases h1 : n = 1
  · subst h1
    go_enter Tryz.func124, Tryz.ntmps124
    go_wp2
    go_ret
    exact ⟨rfl, Below.refl _ _⟩
  by_cases h2 : n = 2
  · subst h2
    go_enter Tryz.func124, Tryz.ntmps124
    go_wp2
    go_ret
    exact ⟨rfl, Below.refl _ _⟩
  have e1 : (n == 1) = false := by simpa using h1
  have e2 : (n == 2) = false := by simpa using h2
  have H1 := Lib.hid h1
  have H2 := Lib.hid h2
  clear h1 h2
  go_enter Tryz.func124, Tryz.ntmps124
  go_wp2
  go_ret
  exact ⟨rfl, Below.refl _ _⟩
set_option maxRecDepth 100000 in
set_option maxHeartbeats 4000000 in
theorem Tell_c (u : UV) (n : Int) (w : World) (hu : u.Ok w) (hg : Gl w) : Calls Tryz.prog 83 #[.agg u.cells, .int .i64 n] w fun e w' => e = .returned (.tuple #[.string (mkS (PM.stripAt u.pm n)), .bool (!(PM.stripAt u.pm n).isEmpty)]) ∧ Below w.heap.size w w' := by
  have HG := Lib.hid hg
  have HB : Hid (Below w.heap.size w (w.alloc (.cells u.cells 27))) := Lib.hid (b_alloc (Below.refl _ _) _)
  have Hu : Hid ((w.alloc (.cells u.cells 27)).heap[w.heap.size]? = some (.cells u.cells 27 (0, 0))) := Lib.hid (Go.heap_alloc_new _ _)
  have Ou := Lib.hid (hu.below HB.out)
  clear hg hu
  have hc : PM.stripAt u.pm n = if n = 1 then PM.stripOrigin u.pm else if n = 2 then PM.stripCap u.pm else [] := rfl
  have HC := Lib.hid hc
  clear hc
  have hO := of_s_c n
  have HOF := Lib.hid hO
  clear hO
  go_enter Tryz.func83, Tryz.ntmps83
  go_upto_region 1 with fail
  generalize w.alloc (.cells u.cells 27) = V0 at HB Hu Ou ⊢
  by_cases h1 : n = 1
  · have hc1 : PM.stripAt u.pm n = PM.stripOrigin u.pm := by rw [HC.out, if_pos h1]
    have HC1 := Lib.hid hc1
    rw [if_pos h1] at HOF
    clear h1 hc1
    go_wp2_with fail
    refine (HOF.out _).mono ?_
    rintro e V1 ⟨rfl, hb⟩
    replace HB := Lib.hid (b_then HB.out hb)
    replace Hu := Lib.hid (obj_b hb Hu.out)
    replace Ou := Lib.hid (Ou.out.below hb)
    clear hb
    go_wp2_with (first | go_skip | (refine wpList_load_g 27 _ rfl (by kernel_rfl) w.heap.size rfl Hu.out Tryz.underlying27 rfl (by kernel_rfl) ?_))
    refine (told_only_c u _ Ou.out (HG.out.below HB.out)).mono ?_
    rintro e V2 ⟨rfl, hb⟩
    replace HB := Lib.hid (b_then HB.out hb)
    replace Hu := Lib.hid (obj_b hb Hu.out)
    replace Ou := Lib.hid (Ou.out.below hb)
    clear hb
    go_upto_region 6 with fail
    have hb : Below V2.heap.size V2 (V2.alloc (.cells #[] 117)) := b_alloc (Below.refl _ _) _
    generalize V2.alloc (.cells #[] 117) = Z1 at hb ⊢
    replace HB := Lib.hid (b_then HB.out hb)
    replace Hu := Lib.hid (obj_b hb Hu.out)
    replace Ou := Lib.hid (Ou.out.below hb)
    clear hb
    obtain ⟨S, hS⟩ : ∃ S, PM.stripOrigin u.pm = S := ⟨_, rfl⟩
    rw [hS] at HC1
    try rw [hS]
    clear hS
    clear HC
    cases S
    · go_wp2
      go_ret2
      exact ⟨by rw [HC1.out]; rfl, HB.out⟩
    · go_wp2
      go_ret2
      exact ⟨by rw [HC1.out]; rfl, HB.out⟩
  by_cases h2 : n = 2
  · have hc1 : PM.stripAt u.pm n = PM.stripCap u.pm := by rw [HC.out, if_neg h1, if_pos h2]
    have HC1 := Lib.hid hc1
    rw [if_neg h1, if_pos h2] at HOF
    clear h1 h2 hc1
    go_wp2_with fail
    refine (HOF.out _).mono ?_
    rintro e V3 ⟨rfl, hb⟩
    replace HB := Lib.hid (b_then HB.out hb)
    replace Hu := Lib.hid (obj_b hb Hu.out)
    replace Ou := Lib.hid (Ou.out.below hb)
    clear hb
    go_wp2_with (first | go_skip | (refine wpList_load_g 27 _ rfl (by kernel_rfl) w.heap.size rfl Hu.out Tryz.underlying27 rfl (by kernel_rfl) ?_))
    refine (told_all_c u _ Ou.out (HG.out.below HB.out)).mono ?_
    rintro e V4 ⟨rfl, hb⟩
    replace HB := Lib.hid (b_then HB.out hb)
    replace Hu := Lib.hid (obj_b hb Hu.out)
    replace Ou := Lib.hid (Ou.out.below hb)
    clear hb
    go_upto_region 6 with fail
    have hb : Below V4.heap.size V4 (V4.alloc (.cells #[] 117)) := b_alloc (Below.refl _ _) _
    generalize V4.alloc (.cells #[] 117) = Z1 at hb ⊢
    replace HB := Lib.hid (b_then HB.out hb)
    replace Hu := Lib.hid (obj_b hb Hu.out)
    replace Ou := Lib.hid (Ou.out.below hb)
    clear hb
    go_wp2_with (first | go_skip | (refine wpList_load_g 27 _ rfl (by kernel_rfl) w.heap.size rfl Hu.out Tryz.underlying27 rfl (by kernel_rfl) ?_))
    refine (Cap_s_c u _ Ou.out (HG.out.below HB.out)).mono ?_
    rintro e V5 ⟨rfl, hb⟩
    replace HB := Lib.hid (b_then HB.out hb)
    replace Hu := Lib.hid (obj_b hb Hu.out)
    replace Ou := Lib.hid (Ou.out.below hb)
    clear hb
    obtain ⟨S, hS⟩ : ∃ S, PM.stripCap u.pm = S := ⟨_, rfl⟩
    rw [hS] at HC1
    try rw [hS]
    clear hS
    clear HC
    cases S
    · go_wp2
      go_ret2
      exact ⟨by rw [HC1.out]; rfl, HB.out⟩
    · go_wp2
      go_ret2
      exact ⟨by rw [HC1.out]; rfl, HB.out⟩
  have hc1 : PM.stripAt u.pm n = [] := by rw [HC.out, if_neg h1, if_neg h2]
  rw [if_neg h1, if_neg h2] at HOF
  clear h1 h2
  have HC1 := Lib.hid hc1
  clear hc1 HC
  go_wp2_with fail
  refine (HOF.out _).mono ?_
  rintro e V6 ⟨rfl, hb⟩
  replace HB := Lib.hid (b_then HB.out hb)
  replace Hu := Lib.hid (obj_b hb Hu.out)
  replace Ou := Lib.hid (Ou.out.below hb)
  clear hb
  go_wp2
  go_ret2
  exact ⟨by rw [HC1.out]; rfl, HB.out⟩
end Go.Proofs.YtphigjogeejdjaaGreatDoor
