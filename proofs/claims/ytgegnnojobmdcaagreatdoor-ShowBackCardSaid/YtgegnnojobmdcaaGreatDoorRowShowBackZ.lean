/-
ShowBack: whatever comes in, the law's call returns true, and the arguments read behind the call as they did before; no condition on them. The row lists the two tables of unicode/utf8 (first, acceptRanges); the card ties them.
-/
import Derived.Test.YtgegnnojobmdcaaGreatDoorTz
import Derived.Test.YtgegnnojobmdcaaGreatDoorP15
set_option linter.unusedVariables false
set_option linter.unusedSimpArgs false
/-! The walk of ShowBack. -/
namespace Go.Proofs.YtgegnnojobmdcaaGreatDoor
open Go.RowKit
theorem tabs_at {W V : World} {n : Nat} (h : Lib.Utf8Tabs 1 2 W) (hb : Below W.heap.size W V) : Lib.Utf8Tabs 1 2 V := tabs_below h hb
theorem uz_may : PM.urlMay uz.pm = false := by kernel_rfl
/-- What is shown of an address of few is parsed so. -/
theorem back_u (u : UV) (w : World) (hf : PM.few u.pm = true) (m : Bool) (hm : PM.urlMay u.pm = m) (W : World) (hg : Gl W) (hT : Lib.Utf8Tabs 1 2 W) :
    Calls Tryz.prog 14 #[.string (mkS (PM.showUrl u.pm))] W fun e w' => (∃ v : UV, e = .returned (.tuple #[.agg v.cells, .bool m]) ∧ (m = true → v.pm = u.pm) ∧ v.Ok w') ∧ Below W.heap.size W w' := by
  refine (UrlParse_c _ (show_few hf rfl) W hg hT).mono ?_
  rintro e w' ⟨⟨v, h1, h2, h3⟩, hb⟩
  refine ⟨⟨v, ?_⟩, hb⟩
  have hxs : v.xs = v.pm.path := rfl
  cases m with
  | true =>
    have hp := PM.parse_show hm rfl
    rw [hp] at h1 h2
    have h2' : v.pm = u.pm := h2
    refine ⟨h1, fun _ => h2', h3 ?_⟩
    have := (PM.few_all hf).1
    rw [hxs, h2']
    omega
  | false =>
    have hp : PM.urlParse (PM.showUrl u.pm) = none := by rw [show_none hm]; exact parse_nil
    rw [hp] at h1 h2
    have h2' : v.pm = uz.pm := h2
    refine ⟨h1, (fun h => by cases h), h3 ?_⟩
    rw [hxs, h2']
    simp [uz, UV.pm]
theorem back_s (s : List UInt8) (hs : s.length ≤ 400) (c : Bool) (hc : (PM.urlParse s).isSome = c) (W : World) (hg : Gl W) (hT : Lib.Utf8Tabs 1 2 W) :
    Calls Tryz.prog 14 #[.string (mkS s)] W fun e w' => (∃ x : UV, e = .returned (.tuple #[.agg x.cells, .bool c]) ∧ ((PM.showUrl x.pm).length ≤ 30000 ∧ (PM.urlParse (PM.showUrl x.pm)).isSome = c ∧ (c = true → PM.urlParse (PM.showUrl x.pm) = some x.pm) ∧ x.xs.length ≤ 10000) ∧ x.Ok w') ∧ Below W.heap.size W w' := by
  refine (UrlParse_c s (by omega) W hg hT).mono ?_
  rintro e w' ⟨⟨x, h1, h2, h3⟩, hb⟩
  refine ⟨⟨x, ?_⟩, hb⟩
  have hxs : x.xs = x.pm.path := rfl
  rw [hc] at h1
  cases ho : PM.urlParse s with
  | some p =>
    rw [ho] at hc h2
    have hc' : true = c := hc
    subst hc'
    have h2' : x.pm = p := h2
    have hsh := parse_short ho
    have h8 := (PM.parse_may ho).2
    have hl := show_short hsh h8
    have hpn := hsh.pn
    have ha := PM.parse_again ho
    have hx : x.xs.length ≤ 10000 := by rw [hxs, h2']; omega
    exact ⟨h1, ⟨by rw [h2']; omega, by rw [h2', ha]; rfl, fun _ => by rw [h2', ha], hx⟩, h3 hx⟩
  | none =>
    rw [ho] at hc h2
    have hc' : false = c := hc
    subst hc'
    have h2' : x.pm = uz.pm := h2
    have hx : x.xs.length ≤ 10000 := by rw [hxs, h2']; simp [uz, UV.pm]
    refine ⟨h1, ⟨?_, ?_, (fun h => by cases h), hx⟩, h3 hx⟩
    · rw [h2', show_none uz_may]; simp
    · rw [h2', show_none uz_may, parse_nil]; rfl
theorem back_y (x : UV) (c : Bool) (h : (PM.showUrl x.pm).length ≤ 30000 ∧ (PM.urlParse (PM.showUrl x.pm)).isSome = c ∧ (c = true → PM.urlParse (PM.showUrl x.pm) = some x.pm) ∧ x.xs.length ≤ 10000) (W : World) (hg : Gl W) (hT : Lib.Utf8Tabs 1 2 W) :
    Calls Tryz.prog 14 #[.string (mkS (PM.showUrl x.pm))] W fun e w' => (∃ y : UV, e = .returned (.tuple #[.agg y.cells, .bool c]) ∧ (c = true → y.pm = x.pm) ∧ y.Ok w') ∧ Below W.heap.size W w' := by
  refine (UrlParse_c _ h.1 W hg hT).mono ?_
  rintro e w' ⟨⟨y, h1, h2, h3⟩, hb⟩
  refine ⟨⟨y, ?_⟩, hb⟩
  have hys : y.xs = y.pm.path := rfl
  rw [h.2.1] at h1
  cases c with
  | true =>
    have hp := h.2.2.1 rfl
    rw [hp] at h2
    have h2' : y.pm = x.pm := h2
    exact ⟨h1, fun _ => h2', h3 (by rw [hys, h2']; exact h.2.2.2)⟩
  | false =>
    have hp : PM.urlParse (PM.showUrl x.pm) = none := by
      cases ho : PM.urlParse (PM.showUrl x.pm) with
      | none => rfl
      | some p => rw [ho] at h; simp at h
    rw [hp] at h2
    have h2' : y.pm = uz.pm := h2
    exact ⟨h1, (fun h => by cases h), h3 (by rw [hys, h2']; simp [uz, UV.pm])⟩
theorem same_true (u v : UV) (h : v.pm = u.pm) (w : World) (hu : u.Ok w) (hv : v.Ok w) : Calls Tryz.prog 23 #[.agg u.cells, .agg v.cells] w fun e w' => e = .returned (.bool true) ∧ Below w.heap.size w w' := by
  have := UrlSame_c u v w hu hv
  rwa [(PM.urlSame_iff _ _).2 h.symm] at this
set_option maxRecDepth 100000 in
set_option maxHeartbeats 16000000 in
theorem ShowBack_c (s : List UInt8) (u : UV) (w : World) (hr : RdW w u.a u.pn u.xs) (hg : Gl w) (hT : Lib.Utf8Tabs 1 2 w) : Calls Tryz.prog 11 #[.string (mkS s), .agg u.cells] w fun e w' => e = .returned (.bool true) ∧ Below w.heap.size w w' := by
  have HT := Lib.hid (OneAt.new u w)
  have HR := Lib.hid hr
  have HG := Lib.hid hg
  have HTB := Lib.hid hT
  clear hr hg hT
  unfold UV.cells
  go_enter Tryz.func11, Tryz.ntmps11
  go_upto_region 1 with fail
  generalize w.alloc (.cells #[.string (mkS u.sc), .string (mkS u.us), .string (mkS u.pa), .int .i64 u.k, .string (mkS u.n), .int .i64 u.m, .int .i64 u.s0, .int .i64 u.s1, .int .i64 u.s2, .int .i64 u.s3, .int .i64 u.s4, .int .i64 u.s5, .int .i64 u.s6, .int .i64 u.s7, .int .i64 u.port, .slice u.a u.pn u.pc, .string (mkS u.op), .string (mkS u.qu), .string (mkS u.fr), .bool u.hq, .bool u.hf] 27) = V0 at HT ⊢
  go_wp2_with fail
  refine (awake_c _ (HG.out.below HT.out.be)).mono ?_
  rintro e V1 ⟨rfl, hb⟩
  replace HT := Lib.hid (HT.out.below hb)
  clear hb
  go_wp2_with (refine wpList_load_g 27 _ rfl (by kernel_rfl) w.heap.size rfl HT.out.one Tryz.underlying27 rfl (by kernel_rfl) ?_)
  refine (Few_c u _ (HR.out.below HT.out.be)).mono ?_
  cases hf : PM.few u.pm
  · rintro e V ⟨rfl, hb⟩
    replace HT := Lib.hid (HT.out.below hb)
    go_wp2
    go_ret
    exact ⟨rfl, HT.out.be⟩
  rintro e V2 ⟨rfl, hb⟩
  replace HT := Lib.hid (HT.out.below hb)
  have HO := Lib.hid (few_ok (HR.out.below HT.out.be) hf)
  have HF := Lib.hid hf
  clear hb hf
  by_cases hl : 400 < s.length
  · have hl2 : (400 : Int) < (s.length : Int) := by omega
    go_wp2
    go_ret
    exact ⟨rfl, HT.out.be⟩
  have hl2 : ¬ (400 : Int) < (s.length : Int) := by omega
  obtain ⟨m, hm⟩ : ∃ m, PM.urlMay u.pm = m := ⟨_, rfl⟩
  obtain ⟨c, hc⟩ : ∃ c, (PM.urlParse s).isSome = c := ⟨_, rfl⟩
  have hte : (PM.showUrl u.pm).isEmpty = !m := by
    cases m with
    | true =>
      have := show_some hm
      cases hh : PM.showUrl u.pm with
      | nil => exact absurd hh this
      | cons _ _ => rfl
    | false => rw [show_none hm]; rfl
  have HM := Lib.hid hm
  have HC := Lib.hid hc
  have HTE := Lib.hid hte
  clear hm hc hte
  go_wp2_with (refine wpList_load_g 27 _ rfl (by kernel_rfl) w.heap.size rfl HT.out.one Tryz.underlying27 rfl (by kernel_rfl) ?_)
  refine (showUrl_c u _ HO.out (HG.out.below HT.out.be)).mono ?_
  rintro e V3 ⟨rfl, hb⟩
  replace HT := Lib.hid (HT.out.below hb)
  replace HO := Lib.hid (HO.out.below hb)
  clear hb
  go_wp2_with fail
  refine (back_u u w HF.out m HM.out _ (HG.out.below HT.out.be) (tabs_below HTB.out HT.out.be)).mono ?_
  rintro e V4 ⟨⟨v, rfl, hvp, hvo⟩, hb⟩
  have HVP := Lib.hid hvp
  have HVO := Lib.hid hvo
  clear hvp hvo
  replace HT := Lib.hid (HT.out.below hb)
  replace HO := Lib.hid (HO.out.below hb)
  clear hb
  have HN := Lib.hid (Go.heap_alloc_new V4 (.cells zurl 27))
  go_upto_region 7 with (refine wpList_store_row rfl 27 _ _ rfl V4.heap.size v.cells rfl rfl 27 _ HN.out (by kernel_rfl) rfl (agg_one v) ?_)
  obtain ⟨V5, hV⟩ : ∃ V5, V5 = (V4.alloc (.cells #[.string ⟨#[]⟩, .string ⟨#[]⟩, .string ⟨#[]⟩, .int .i64 0, .string ⟨#[]⟩, .int .i64 0, .int .i64 0, .int .i64 0, .int .i64 0, .int .i64 0, .int .i64 0, .int .i64 0, .int .i64 0, .int .i64 0, .int .i64 0, .slice none 0 0, .string ⟨#[]⟩, .string ⟨#[]⟩, .string ⟨#[]⟩, .bool false, .bool false] 27)).setRow V4.heap.size v.cells := ⟨_, rfl⟩
  have hN : V5.heap[V4.heap.size]? = some (.cells v.cells 27 (0, 0)) := by rw [hV]; exact heap_setRow HN.out _
  have hb : Below V4.heap.size V4 V5 := by rw [hV]; exact below_setRow (b_alloc (Below.refl _ _) _) (Nat.le_refl _) _
  rw [← hV]
  clear hV HN
  have HV := Lib.hid hN
  clear hN
  replace HT := Lib.hid (HT.out.below hb)
  replace HO := Lib.hid (HO.out.below hb)
  replace HVO := Lib.hid (HVO.out.below hb)
  clear hb
  generalize V4.heap.size = bv at HV ⊢
  go_wp2_with (refine wpList_load_g 27 _ rfl (by kernel_rfl) w.heap.size rfl HT.out.one Tryz.underlying27 rfl (by kernel_rfl) ?_)
  refine (urlMay_c u _ HO.out (HG.out.below HT.out.be)).mono ?_
  rw [HM.out]
  rintro e V6 ⟨rfl, hb⟩
  replace HT := Lib.hid (HT.out.below hb)
  replace HV := Lib.hid (obj_b hb HV.out)
  replace HO := Lib.hid (HO.out.below hb)
  replace HVO := Lib.hid (HVO.out.below hb)
  clear hb
  go_wp2_with fail
  refine (back_s s (by omega) c HC.out _ (HG.out.below HT.out.be) (tabs_below HTB.out HT.out.be)).mono ?_
  rintro e V7 ⟨⟨x, rfl, hxp, hxo⟩, hb⟩
  have HXP := Lib.hid hxp
  have HXO := Lib.hid hxo
  clear hxp hxo
  replace HT := Lib.hid (HT.out.below hb)
  replace HV := Lib.hid (obj_b hb HV.out)
  replace HO := Lib.hid (HO.out.below hb)
  replace HVO := Lib.hid (HVO.out.below hb)
  clear hb
  have HN := Lib.hid (Go.heap_alloc_new V7 (.cells zurl 27))
  go_upto_region 9 with (refine wpList_store_row rfl 27 _ _ rfl V7.heap.size x.cells rfl rfl 27 _ HN.out (by kernel_rfl) rfl (agg_one x) ?_)
  obtain ⟨V8, hV⟩ : ∃ V8, V8 = (V7.alloc (.cells #[.string ⟨#[]⟩, .string ⟨#[]⟩, .string ⟨#[]⟩, .int .i64 0, .string ⟨#[]⟩, .int .i64 0, .int .i64 0, .int .i64 0, .int .i64 0, .int .i64 0, .int .i64 0, .int .i64 0, .int .i64 0, .int .i64 0, .int .i64 0, .slice none 0 0, .string ⟨#[]⟩, .string ⟨#[]⟩, .string ⟨#[]⟩, .bool false, .bool false] 27)).setRow V7.heap.size x.cells := ⟨_, rfl⟩
  have hN : V8.heap[V7.heap.size]? = some (.cells x.cells 27 (0, 0)) := by rw [hV]; exact heap_setRow HN.out _
  have hb : Below V7.heap.size V7 V8 := by rw [hV]; exact below_setRow (b_alloc (Below.refl _ _) _) (Nat.le_refl _) _
  rw [← hV]
  clear hV HN
  have HX := Lib.hid hN
  clear hN
  replace HT := Lib.hid (HT.out.below hb)
  replace HV := Lib.hid (obj_b hb HV.out)
  replace HO := Lib.hid (HO.out.below hb)
  replace HVO := Lib.hid (HVO.out.below hb)
  replace HXO := Lib.hid (HXO.out.below hb)
  clear hb
  generalize V7.heap.size = bx at HX ⊢
  go_wp2_with (refine wpList_load_g 27 _ rfl (by kernel_rfl) bx rfl HX.out Tryz.underlying27 rfl (by kernel_rfl) ?_)
  refine (showUrl_c x _ HXO.out (HG.out.below HT.out.be)).mono ?_
  rintro e V9 ⟨rfl, hb⟩
  replace HT := Lib.hid (HT.out.below hb)
  replace HV := Lib.hid (obj_b hb HV.out)
  replace HX := Lib.hid (obj_b hb HX.out)
  replace HO := Lib.hid (HO.out.below hb)
  replace HVO := Lib.hid (HVO.out.below hb)
  replace HXO := Lib.hid (HXO.out.below hb)
  clear hb
  go_wp2_with fail
  refine (back_y x c HXP.out _ (HG.out.below HT.out.be) (tabs_below HTB.out HT.out.be)).mono ?_
  rintro e V10 ⟨⟨y, rfl, hyp, hyo⟩, hb⟩
  have HYP := Lib.hid hyp
  have HYO := Lib.hid hyo
  clear hyp hyo
  replace HT := Lib.hid (HT.out.below hb)
  replace HV := Lib.hid (obj_b hb HV.out)
  replace HX := Lib.hid (obj_b hb HX.out)
  replace HO := Lib.hid (HO.out.below hb)
  replace HVO := Lib.hid (HVO.out.below hb)
  replace HXO := Lib.hid (HXO.out.below hb)
  clear hb
  have HN := Lib.hid (Go.heap_alloc_new V10 (.cells zurl 27))
  go_upto_region 10 with (refine wpList_store_row rfl 27 _ _ rfl V10.heap.size y.cells rfl rfl 27 _ HN.out (by kernel_rfl) rfl (agg_one y) ?_)
  obtain ⟨V11, hV⟩ : ∃ V11, V11 = (V10.alloc (.cells #[.string ⟨#[]⟩, .string ⟨#[]⟩, .string ⟨#[]⟩, .int .i64 0, .string ⟨#[]⟩, .int .i64 0, .int .i64 0, .int .i64 0, .int .i64 0, .int .i64 0, .int .i64 0, .int .i64 0, .int .i64 0, .int .i64 0, .int .i64 0, .slice none 0 0, .string ⟨#[]⟩, .string ⟨#[]⟩, .string ⟨#[]⟩, .bool false, .bool false] 27)).setRow V10.heap.size y.cells := ⟨_, rfl⟩
  have hN : V11.heap[V10.heap.size]? = some (.cells y.cells 27 (0, 0)) := by rw [hV]; exact heap_setRow HN.out _
  have hb : Below V10.heap.size V10 V11 := by rw [hV]; exact below_setRow (b_alloc (Below.refl _ _) _) (Nat.le_refl _) _
  rw [← hV]
  clear hV HN
  have HY := Lib.hid hN
  clear hN
  replace HT := Lib.hid (HT.out.below hb)
  replace HV := Lib.hid (obj_b hb HV.out)
  replace HX := Lib.hid (obj_b hb HX.out)
  replace HO := Lib.hid (HO.out.below hb)
  replace HVO := Lib.hid (HVO.out.below hb)
  replace HXO := Lib.hid (HXO.out.below hb)
  replace HYO := Lib.hid (HYO.out.below hb)
  clear hb
  generalize V10.heap.size = bY at HY ⊢
  obtain ⟨t, ht⟩ : ∃ t, PM.showUrl u.pm = t := ⟨_, rfl⟩
  rw [ht] at HTE ⊢
  clear ht
  have hte := HTE.out
  cases m with
  | true =>
    cases c with
    | true =>
      go_wp2_with (first | (refine wpList_load_g 27 _ rfl (by kernel_rfl) w.heap.size rfl HT.out.one Tryz.underlying27 rfl (by kernel_rfl) ?_) | (refine wpList_load_g 27 _ rfl (by kernel_rfl) bv rfl HV.out Tryz.underlying27 rfl (by kernel_rfl) ?_))
      refine (same_true u v (HVP.out (by simp)) _ HO.out HVO.out).mono ?_
      rintro e S1 ⟨rfl, hb⟩
      replace HT := Lib.hid (HT.out.below hb)
      replace HV := Lib.hid (obj_b hb HV.out)
      replace HX := Lib.hid (obj_b hb HX.out)
      replace HY := Lib.hid (obj_b hb HY.out)
      replace HO := Lib.hid (HO.out.below hb)
      replace HVO := Lib.hid (HVO.out.below hb)
      replace HXO := Lib.hid (HXO.out.below hb)
      replace HYO := Lib.hid (HYO.out.below hb)
      clear hb
      go_wp2_with (first | (refine wpList_load_g 27 _ rfl (by kernel_rfl) bx rfl HX.out Tryz.underlying27 rfl (by kernel_rfl) ?_) | (refine wpList_load_g 27 _ rfl (by kernel_rfl) bY rfl HY.out Tryz.underlying27 rfl (by kernel_rfl) ?_))
      refine (same_true x y (HYP.out (by simp)) _ HXO.out HYO.out).mono ?_
      rintro e S2 ⟨rfl, hb⟩
      replace HT := Lib.hid (HT.out.below hb)
      replace HV := Lib.hid (obj_b hb HV.out)
      replace HX := Lib.hid (obj_b hb HX.out)
      replace HY := Lib.hid (obj_b hb HY.out)
      replace HO := Lib.hid (HO.out.below hb)
      replace HVO := Lib.hid (HVO.out.below hb)
      replace HXO := Lib.hid (HXO.out.below hb)
      replace HYO := Lib.hid (HYO.out.below hb)
      clear hb
      go_wp2
      go_ret
      exact ⟨rfl, HT.out.be⟩
    | false =>
      go_wp2_with (first | (refine wpList_load_g 27 _ rfl (by kernel_rfl) w.heap.size rfl HT.out.one Tryz.underlying27 rfl (by kernel_rfl) ?_) | (refine wpList_load_g 27 _ rfl (by kernel_rfl) bv rfl HV.out Tryz.underlying27 rfl (by kernel_rfl) ?_))
      refine (same_true u v (HVP.out (by simp)) _ HO.out HVO.out).mono ?_
      rintro e S3 ⟨rfl, hb⟩
      replace HT := Lib.hid (HT.out.below hb)
      replace HV := Lib.hid (obj_b hb HV.out)
      replace HX := Lib.hid (obj_b hb HX.out)
      replace HY := Lib.hid (obj_b hb HY.out)
      replace HO := Lib.hid (HO.out.below hb)
      replace HVO := Lib.hid (HVO.out.below hb)
      replace HXO := Lib.hid (HXO.out.below hb)
      replace HYO := Lib.hid (HYO.out.below hb)
      clear hb
      go_wp2
      go_ret
      exact ⟨rfl, HT.out.be⟩
  | false =>
    cases c with
    | true =>
      go_wp2_with (first | (refine wpList_load_g 27 _ rfl (by kernel_rfl) bx rfl HX.out Tryz.underlying27 rfl (by kernel_rfl) ?_) | (refine wpList_load_g 27 _ rfl (by kernel_rfl) bY rfl HY.out Tryz.underlying27 rfl (by kernel_rfl) ?_))
      refine (same_true x y (HYP.out (by simp)) _ HXO.out HYO.out).mono ?_
      rintro e S4 ⟨rfl, hb⟩
      replace HT := Lib.hid (HT.out.below hb)
      replace HV := Lib.hid (obj_b hb HV.out)
      replace HX := Lib.hid (obj_b hb HX.out)
      replace HY := Lib.hid (obj_b hb HY.out)
      replace HO := Lib.hid (HO.out.below hb)
      replace HVO := Lib.hid (HVO.out.below hb)
      replace HXO := Lib.hid (HXO.out.below hb)
      replace HYO := Lib.hid (HYO.out.below hb)
      clear hb
      go_wp2
      go_ret
      exact ⟨rfl, HT.out.be⟩
    | false =>
      go_wp2
      go_ret
      exact ⟨rfl, HT.out.be⟩
end Go.Proofs.YtgegnnojobmdcaaGreatDoor
/-! The row of ShowBack. -/
namespace Go.Proofs.YtgegnnojobmdcaaGreatDoor
open Go.ChangeShapes Go.WideShapes Go.ChangeAt Go.RowKit
open Go.WideMaps Go.WideElems
open Go.ChangeMaps (open_string shut_string)
theorem showBack_reads (os : Os) {H : Type} (enc : TypeId × Value → H) : ∃ x, DataW.whole enc Tryz.prog ((laidWorld os).forCall (fun _ _ => 0) ⟨#[], #[.string ⟨#[]⟩, .agg #[.string ⟨#[]⟩, .string ⟨#[]⟩, .string ⟨#[]⟩, .int .i64 0, .string ⟨#[]⟩, .int .i64 0, .int .i64 0, .int .i64 0, .int .i64 0, .int .i64 0, .int .i64 0, .int .i64 0, .int .i64 0, .int .i64 0, .int .i64 0, .slice none 0 0, .string ⟨#[]⟩, .string ⟨#[]⟩, .string ⟨#[]⟩, .bool false, .bool false]], []⟩).memory Tryz.f11.params.toList Rows.showBackSpec.vars false (#[.string ⟨#[]⟩, .agg #[.string ⟨#[]⟩, .string ⟨#[]⟩, .string ⟨#[]⟩, .int .i64 0, .string ⟨#[]⟩, .int .i64 0, .int .i64 0, .int .i64 0, .int .i64 0, .int .i64 0, .int .i64 0, .int .i64 0, .int .i64 0, .int .i64 0, .int .i64 0, .slice none 0 0, .string ⟨#[]⟩, .string ⟨#[]⟩, .string ⟨#[]⟩, .bool false, .bool false]] : Array Value).toList 8 = some x :=
  Option.isSome_iff_exists.1 (by kernel_rfl)
set_option maxRecDepth 100000 in
theorem showBack_lifted (os : Os) (started : os.Started) (H : Type) (enc : TypeId × Value → H) (F : Stop.Interp) :
    ReturnsInHanded {} Tryz.checked os 11 .any ((OpenSpec.ofChange Rows.showBackSpec).preRow enc Tryz.prog Tryz.f11 Rows.showBackRow.domain false Rows.showBackRow.laid) (((OpenSpec.ofChange Rows.showBackSpec).at F).post enc Tryz.prog Tryz.f11 false true false false) := by
  obtain ⟨x, hx⟩ := showBack_reads os enc
  refine returnsInHanded_of_row (C := Tryz.checked) (s := OpenSpec.ofChange Rows.showBackSpec) own started (by kernel_rfl) Tryz.func11
    (witness_row_atRef (enc := enc) (C := Tryz.checked) false (laidWorld os) #[.string ⟨#[]⟩, .agg #[.string ⟨#[]⟩, .string ⟨#[]⟩, .string ⟨#[]⟩, .int .i64 0, .string ⟨#[]⟩, .int .i64 0, .int .i64 0, .int .i64 0, .int .i64 0, .int .i64 0, .int .i64 0, .int .i64 0, .int .i64 0, .int .i64 0, .int .i64 0, .slice none 0 0, .string ⟨#[]⟩, .string ⟨#[]⟩, .string ⟨#[]⟩, .bool false, .bool false]] rfl (by kernel_rfl) (by kernel_rfl) (by kernel_rfl)
      (OpenSpec.preRow_of_cond 8 hx rfl (fun k hk => by cases hk) (by kernel_rfl) (laid_met os _))) ?_
  intro W base args ds gs before hval0 hW _ _ _ hL hsh _
  have hval : ∀ (j : Nat) t v, Tryz.f11.params[j]? = some t → args[j]? = some v → Value.okWide Tryz.prog W .any base t v := hval0
  have hW' := hW
  obtain ⟨p, q, hA0, hV, rfl, hfz, hnd⟩ := hW
  have hA : DataW.TrodAll enc Tryz.prog W 0 (fun _ => true) true Tryz.f11.params.toList args.toList ds p := hA0
  rw [Tryz.params11] at hA hval
  obtain ⟨v0, v1, d0, d1, p0, p1, rfl, rfl, rfl, h0, h1⟩ := trodAll_two hA
  obtain ⟨rfl, rfl⟩ := trodVars_none hV
  simp only [List.append_nil] at hfz hnd hW'
  have hlt : ∀ x ∈ p0 ++ p1, x.block < W.heap.size := fun x hx => hW'.lt x hx
  have h0k := h0
  obtain ⟨s0, e0, _, _, w0⟩ := open_string Tryz.underlying9 (hval 0 9 v0 rfl rfl) h0
  obtain ⟨l0, rfl⟩ := mkS_surj s0
  subst e0
  have h1k := h1
  obtain ⟨u1, rfl, hr1⟩ := open_url (hval 1 27 v1 rfl rfl) h1
  refine (ShowBack_c l0 u1 W hr1 (gl_of hsh) (tabs_laid hL)).mono fun e W' ⟨he, hb⟩ => ?_
  subst he
  refine ⟨_, rfl, _, _, _, [], p0 ++ p1, [], hW', ?_, ?_, ?_, hb.frame _, fun h => by cases h⟩
  · exact trodAll_mk1 (shut_bool Tryz.underlying4 _)
  · exact trodAll_mk2 (Below.trod laidOut (by kernel_rfl) (of_decide_eq_true (by kernel_rfl)) h0k hb (fun x hx => hlt x (by simp [hx]))) (Below.trod laidOut (by kernel_rfl) (of_decide_eq_true (by kernel_rfl)) h1k hb (fun x hx => hlt x (by simp [hx])))
  · rfl
theorem showBack_said : Rows.ShowBackSaid :=
  OpenClaim.holds_of_cond 11 Tryz.f11 rfl rfl rfl rfl rfl rfl rfl ⟨rfl, rfl, rfl, rfl, rfl⟩ rfl rfl rfl rfl rfl (by kernel_rfl) Tryz.func11 (by kernel_rfl)
    (of_decide_eq_true (by kernel_rfl)) (by unfold Func.isWrapper; first | (rw [if_pos (by decide +kernel)]; kernel_rfl) | (rw [if_neg (by decide +kernel)]; exact ⟨rfl, rfl⟩))
    (fun os started H enc _ F => by rw [OpenClaim.pre_eq_preRow]; exact showBack_lifted os started H enc F)
theorem showBack_plain (f : FuncId) (fn : Func) (hf : Tryz.pinned.checked.prog.funcNamed "postmark/postmarklaw10.ShowBack" = some f) (hfn : Tryz.pinned.checked.prog.funcs[f]? = some fn) :
    true = Tryz.pinned.checked.prog.looks [] ∧ ∀ (j : Nat) t, fn.params[j]? = some t → Tryz.pinned.checked.prog.wantsStandIn t = false := by
  obtain rfl : f = 11 := Option.some.inj ((show Tryz.prog.funcNamed "postmark/postmarklaw10.ShowBack" = some 11 by kernel_rfl).symm.trans hf) |>.symm
  obtain rfl : fn = Tryz.f11 := (Option.some.inj (Tryz.func11.symm.trans hfn)).symm
  refine ⟨by kernel_rfl, fun j t ht => ?_⟩
  rw [Tryz.params11] at ht
  have hm := Array.mem_of_getElem? ht
  simp only [Array.mem_def, List.mem_cons, List.not_mem_nil, or_false] at hm
  rcases hm with rfl | rfl
  · exact (show Tryz.prog.wantsStandIn 9 = false by kernel_rfl)
  · exact (show Tryz.prog.wantsStandIn 27 = false by kernel_rfl)
theorem showBack_holds : Rows.ShowBackCardSaid :=
  Claim7.holds_tied_plain_at .later [] _ _ _ _ showBack_said (fun _ h => by cases h) (by kernel_rfl) (fun _ h => by cases h) showBack_row_tie rfl ⟨rfl, rfl⟩ (by kernel_rfl) rfl showBack_plain (by kernel_rfl)
#print axioms showBack_holds
end Go.Proofs.YtgegnnojobmdcaaGreatDoor
