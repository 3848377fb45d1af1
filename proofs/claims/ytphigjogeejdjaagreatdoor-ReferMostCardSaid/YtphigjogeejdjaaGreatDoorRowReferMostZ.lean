/-
ReferMost: whatever comes in, the law's call returns true, and the arguments read behind the call as they did before; no condition on them. The row lists the two tables of unicode/utf8 (first, acceptRanges); the card ties them.
-/
import Derived.Test.YtphigjogeejdjaaGreatDoorTz
import Derived.Test.YtphigjogeejdjaaGreatDoorRq
set_option linter.unusedVariables false
set_option linter.unusedSimpArgs false
/-! The walk of ReferMost. -/
namespace Go.Proofs.YtphigjogeejdjaaGreatDoor
open Go.RowKit
theorem from_path {s : List UInt8} {n : Nat} (hs : s.length ≤ n) {u : PM.Url} (h : PM.fromOf s = some u) : u.path.length ≤ 3 * n + 1 := by
  have := (parse_short (PM.fromOf_w h).1).pn
  omega
theorem strip_safe2 {u : PM.Url} (h : PM.isW u = true) (lu : u.host.six.length = 8) (lp : u.path.length ≤ 10000) {k : Int} (hk : k = 1 ∨ k = 2) : ∃ x, PM.urlParse (PM.stripAt u k) = some x ∧ x.user = [] ∧ x.pass = [] ∧ x.hasFrag = false ∧ PM.both u x = true ∧ x.path.length ≤ 10000 := by
  have ho : ∃ x, PM.urlParse (PM.stripOrigin u) = some x ∧ x.user = [] ∧ x.pass = [] ∧ x.hasFrag = false ∧ PM.both u x = true ∧ x.path.length ≤ 10000 := by
    have qo : (PM.originOf u).opq = false := by rw [PM.opq_of, h]; rfl
    have hf : PM.isW (PM.front (PM.originOf u)) = true := by rw [← PM.originMay_open qo]; exact PM.may_of u
    have e : PM.stripOrigin u = PM.showUrl (PM.front (PM.originOf u)) := by
      rw [PM.front_show hf]
      unfold PM.stripOrigin
      rw [if_pos h, PM.originShow_eq (PM.may_of u) qo]
    refine ⟨_, by rw [e]; exact PM.parse_show ((PM.isW_iff _).1 hf).1 (PM.of_six lu), rfl, rfl, rfl, ?_, by show ([[]] : List (List UInt8)).length ≤ 10000; decide⟩
    rw [PM.both_iff, PM.originOf_front qo (PM.may_of u)]
    exact ⟨h, rfl⟩
  have hfu : ∃ x, PM.urlParse (PM.stripFull u) = some x ∧ x.user = [] ∧ x.pass = [] ∧ x.hasFrag = false ∧ PM.both u x = true ∧ x.path.length ≤ 10000 := by
    unfold PM.stripFull
    rw [if_pos h]
    have hw := PM.isW_open h
    refine ⟨_, PM.parse_show ((PM.isW_iff _).1 hw).1 lu, rfl, rfl, rfl, ?_, lp⟩
    rw [PM.both_iff, PM.originOf_w h, PM.originOf_w hw]
    exact ⟨h, rfl⟩
  rcases hk with rfl | rfl
  · exact ho
  · show ∃ x, PM.urlParse (PM.stripCap u) = some x ∧ _
    unfold PM.stripCap
    split
    · exact hfu
    · exact ho
theorem strip_len2 {u : UV} (h : PM.isW u.pm = true) (k : Int) : (PM.stripAt u.pm k).length ≤ 4096 := by
  have := PM.strip_len h rfl (sixShow_len u.six rfl) (fourShow_len u.m) (by unfold PM.digs PM.rdig; rw [List.length_reverse]; exact Nat.le_trans (rdigF_len _ _) (by decide))
  unfold PM.stripAt
  split
  · exact this.1
  · split
    · exact this.2
    · simp
set_option maxRecDepth 100000 in
set_option maxHeartbeats 16000000 in
theorem ReferMost_c (p : Int) (s : List UInt8) (b : UV) (w : World) (hrb : RdW w b.a b.pn b.xs) (hg : Gl w) (hT : Lib.Utf8Tabs 1 2 w) : Calls Tryz.prog 13 #[.int .i64 p, .string (mkS s), .agg b.cells] w fun e w' => e = .returned (.bool true) ∧ Below w.heap.size w w' := by
  have HG := Lib.hid hg
  have HTB := Lib.hid hT
  have Rb := Lib.hid hrb
  clear hg hT hrb
  have HB : Hid (Below w.heap.size w (w.alloc (.cells b.cells 27))) := Lib.hid (b_alloc (Below.refl _ _) _)
  have Hb : Hid ((w.alloc (.cells b.cells 27)).heap[w.heap.size]? = some (.cells b.cells 27 (0, 0))) := Lib.hid ((by have h := Go.heap_alloc_new w (.cells b.cells 27); simpa using h))
  go_enter Tryz.func13, Tryz.ntmps13
  go_upto_region 1 with fail
  generalize w.alloc (.cells b.cells 27) = V0 at HB Hb ⊢
  go_wp2_with fail
  refine (awake17_c _ (HG.out.below HB.out) (tabs_below HTB.out HB.out)).mono ?_
  rintro e V1 ⟨rfl, hb⟩
  replace HB := Lib.hid (b_then HB.out hb)
  replace Hb := Lib.hid (obj_b hb Hb.out)
  clear hb
  go_wp2_with (first | go_skip | (refine wpList_load_g 27 _ rfl (by kernel_rfl) w.heap.size rfl Hb.out Tryz.underlying27 rfl (by kernel_rfl) ?_))
  refine (Few_c b _ (Rb.out.below HB.out)).mono ?_
  rintro e V2 ⟨rfl, hb⟩
  replace HB := Lib.hid (b_then HB.out hb)
  replace Hb := Lib.hid (obj_b hb Hb.out)
  clear hb
  cases hfb : PM.few b.pm
  · go_wp2
    go_ret
    exact ⟨rfl, HB.out⟩
  have Ob := Lib.hid (few_ok (Rb.out.below HB.out) hfb)
  have Fb := Lib.hid hfb
  clear hfb
  by_cases hls : 400 < s.length
  · have hls2 : (400 : Int) < s.length := by omega
    go_wp2
    go_ret
    exact ⟨rfl, HB.out⟩
  have hls2 : ¬ (400 : Int) < s.length := by omega
  have HLs : Hid (s.length ≤ 400) := Lib.hid (by omega)
  clear hls
  obtain ⟨o, ho⟩ : ∃ o, PM.fromOf s = o := ⟨_, rfl⟩
  have HO := Lib.hid ho
  clear ho
  cases o with
  | none =>
    have hs : PM.told p s b.pm = [] := by unfold PM.told; rw [HO.out]
    have HS := Lib.hid hs
    clear hs
    go_wp2_with (first | go_skip | (refine wpList_load_g 27 _ rfl (by kernel_rfl) w.heap.size rfl Hb.out Tryz.underlying27 rfl (by kernel_rfl) ?_))
    refine (Referer_c p s b (Nat.le_trans HLs.out (by decide)) (fun u h => Nat.le_trans (from_path HLs.out h) (by decide)) _ Ob.out (HG.out.below HB.out) (tabs_below HTB.out HB.out)).mono ?_
    rw [HS.out]
    rintro e V3 ⟨rfl, hb⟩
    replace HB := Lib.hid (b_then HB.out hb)
    replace Hb := Lib.hid (obj_b hb Hb.out)
    replace Ob := Lib.hid (Ob.out.below hb)
    clear hb
    go_wp2_with fail
    refine (From_c s (Nat.le_trans HLs.out (by decide)) _ (HG.out.below HB.out) (tabs_below HTB.out HB.out)).mono ?_
    rw [HO.out]
    unfold ParseRF
    rintro e V4 ⟨⟨v, rfl, -, -, -⟩, hb⟩
    replace HB := Lib.hid (b_then HB.out hb)
    replace Hb := Lib.hid (obj_b hb Hb.out)
    replace Ob := Lib.hid (Ob.out.below hb)
    clear hb
    have HN := Lib.hid (Go.heap_alloc_new V4 (.cells zurl 27))
    unfold zurl at HN 
    go_upto_region 7 with (first | (refine wpList_store_row rfl 27 _ _ rfl V4.heap.size v.cells rfl rfl 27 _ HN.out (by kernel_rfl) rfl (agg_one v) ?_))
    obtain ⟨V5, hV⟩ : ∃ V5, V5 = (V4.alloc (.cells #[.string ⟨#[]⟩, .string ⟨#[]⟩, .string ⟨#[]⟩, .int .i64 0, .string ⟨#[]⟩, .int .i64 0, .int .i64 0, .int .i64 0, .int .i64 0, .int .i64 0, .int .i64 0, .int .i64 0, .int .i64 0, .int .i64 0, .int .i64 0, .slice none 0 0, .string ⟨#[]⟩, .string ⟨#[]⟩, .string ⟨#[]⟩, .bool false, .bool false] 27)).setRow V4.heap.size v.cells := ⟨_, rfl⟩
    have hN : V5.heap[V4.heap.size]? = some (.cells v.cells 27 (0, 0)) := by rw [hV]; exact heap_setRow HN.out _
    have hb : Below V4.heap.size V4 V5 := by rw [hV]; exact below_setRow (b_alloc (Below.refl _ _) _) (Nat.le_refl _) _
    rw [← hV]
    clear hV HN 
    have Hv := Lib.hid hN
    clear hN
    have hlt_bv_Hb : w.heap.size < V4.heap.size := h_lt Hb.out
    have hlw_bv : w.heap.size ≤ V4.heap.size := HB.out.size
    replace HB := Lib.hid (b_then HB.out hb)
    replace Hb := Lib.hid (obj_b hb Hb.out)
    replace Ob := Lib.hid (Ob.out.below hb)
    clear hb
    generalize V4.heap.size = bv at Hv hlt_bv_Hb hlw_bv ⊢
    (try simp only [Act.put])
    go_wp2
    go_ret
    exact ⟨rfl, HB.out⟩
  | some u =>
    obtain ⟨n, hn⟩ : ∃ n, PM.level p u b.pm = n := ⟨_, rfl⟩
    have hm := PM.refer_most HO.out p b.pm
    rw [hn] at hm
    have HN := Lib.hid hn
    have HM := Lib.hid hm
    have HW := Lib.hid (PM.fromOf_w HO.out).2.1
    clear hn hm
    have ht0 : PM.told p s b.pm = PM.stripAt u n := by unfold PM.told; rw [HO.out, ← HN.out]
    have HT0 := Lib.hid ht0
    clear ht0
    by_cases h0 : n = 0
    · have hs : PM.told p s b.pm = [] := by rw [HT0.out, h0]; rfl
      have HS := Lib.hid hs
      subst h0
      clear hs
      go_wp2_with (first | go_skip | (refine wpList_load_g 27 _ rfl (by kernel_rfl) w.heap.size rfl Hb.out Tryz.underlying27 rfl (by kernel_rfl) ?_))
      refine (Referer_c p s b (Nat.le_trans HLs.out (by decide)) (fun u h => Nat.le_trans (from_path HLs.out h) (by decide)) _ Ob.out (HG.out.below HB.out) (tabs_below HTB.out HB.out)).mono ?_
      rw [HS.out]
      rintro e V3 ⟨rfl, hb⟩
      replace HB := Lib.hid (b_then HB.out hb)
      replace Hb := Lib.hid (obj_b hb Hb.out)
      replace Ob := Lib.hid (Ob.out.below hb)
      clear hb
      go_wp2_with fail
      refine (From_c s (Nat.le_trans HLs.out (by decide)) _ (HG.out.below HB.out) (tabs_below HTB.out HB.out)).mono ?_
      rw [HO.out]
      unfold ParseRF
      rintro e V4 ⟨⟨v, rfl, hvp, -, hvo⟩, hb⟩
      replace HB := Lib.hid (b_then HB.out hb)
      replace Hb := Lib.hid (obj_b hb Hb.out)
      replace Ob := Lib.hid (Ob.out.below hb)
      clear hb
      have hvp' : v.pm = u := hvp
      have VOK := Lib.hid (hvo (by have := from_path HLs.out HO.out; rw [← hvp'] at this; exact Nat.le_trans this (by decide)))
      have VP := Lib.hid hvp'
      clear hvp hvp' hvo
      have HN := Lib.hid (Go.heap_alloc_new V4 (.cells zurl 27))
      unfold zurl at HN 
      go_upto_region 7 with (first | (refine wpList_store_row rfl 27 _ _ rfl V4.heap.size v.cells rfl rfl 27 _ HN.out (by kernel_rfl) rfl (agg_one v) ?_))
      obtain ⟨V5, hV⟩ : ∃ V5, V5 = (V4.alloc (.cells #[.string ⟨#[]⟩, .string ⟨#[]⟩, .string ⟨#[]⟩, .int .i64 0, .string ⟨#[]⟩, .int .i64 0, .int .i64 0, .int .i64 0, .int .i64 0, .int .i64 0, .int .i64 0, .int .i64 0, .int .i64 0, .int .i64 0, .int .i64 0, .slice none 0 0, .string ⟨#[]⟩, .string ⟨#[]⟩, .string ⟨#[]⟩, .bool false, .bool false] 27)).setRow V4.heap.size v.cells := ⟨_, rfl⟩
      have hN : V5.heap[V4.heap.size]? = some (.cells v.cells 27 (0, 0)) := by rw [hV]; exact heap_setRow HN.out _
      have hb : Below V4.heap.size V4 V5 := by rw [hV]; exact below_setRow (b_alloc (Below.refl _ _) _) (Nat.le_refl _) _
      rw [← hV]
      clear hV HN 
      have Hv := Lib.hid hN
      clear hN
      have hlt_bv_Hb : w.heap.size < V4.heap.size := h_lt Hb.out
      have hlw_bv : w.heap.size ≤ V4.heap.size := HB.out.size
      replace HB := Lib.hid (b_then HB.out hb)
      replace Hb := Lib.hid (obj_b hb Hb.out)
      replace Ob := Lib.hid (Ob.out.below hb)
      replace VOK := Lib.hid (VOK.out.below hb)
      clear hb
      generalize V4.heap.size = bv at Hv hlt_bv_Hb hlw_bv ⊢
      (try simp only [Act.put])
      go_wp2_with (first | go_skip | (refine wpList_load_g 27 _ rfl (by kernel_rfl) bv rfl Hv.out Tryz.underlying27 rfl (by kernel_rfl) ?_) | (refine wpList_load_g 27 _ rfl (by kernel_rfl) w.heap.size rfl Hb.out Tryz.underlying27 rfl (by kernel_rfl) ?_))
      refine (Level_r_c p v b _ VOK.out Ob.out (HG.out.below HB.out)).mono ?_
      rw [VP.out, HN.out]
      rintro e V6 ⟨rfl, hb⟩
      replace HB := Lib.hid (b_then HB.out hb)
      replace Hb := Lib.hid (obj_b hb Hb.out)
      replace Hv := Lib.hid (obj_b hb Hv.out)
      replace Ob := Lib.hid (Ob.out.below hb)
      replace VOK := Lib.hid (VOK.out.below hb)
      clear hb
      go_wp2
      go_ret
      exact ⟨rfl, HB.out⟩
    have hM := HM.out h0
    have e0 : (n == 0) = false := by simpa using h0
    obtain ⟨S, hS⟩ : ∃ S, PM.told p s b.pm = S := ⟨_, rfl⟩
    have HS := Lib.hid hS
    rw [hS] at hM
    have hE : S.isEmpty = false := by simpa using hM.1
    have HE := Lib.hid hE
    have e1 : (p == 1) = false := by simpa using hM.2.1
    have e1' : (p != 1) = true := by simpa using hM.2.1
    have HM2 := Lib.hid hM.2.2.1
    obtain ⟨M, hMo⟩ : ∃ M, PM.polMost p = M := ⟨_, rfl⟩
    rw [hMo] at hM
    have HMo := Lib.hid hMo
    have hle : n ≤ M := hM.2.2.2
    have hle' : decide (n ≤ M) = true := decide_eq_true hle
    clear hMo hS hM h0 hE
    go_wp2_with (first | go_skip | (refine wpList_load_g 27 _ rfl (by kernel_rfl) w.heap.size rfl Hb.out Tryz.underlying27 rfl (by kernel_rfl) ?_))
    refine (Referer_c p s b (Nat.le_trans HLs.out (by decide)) (fun u h => Nat.le_trans (from_path HLs.out h) (by decide)) _ Ob.out (HG.out.below HB.out) (tabs_below HTB.out HB.out)).mono ?_
    rw [HS.out, HE.out]
    rintro e V3 ⟨rfl, hb⟩
    replace HB := Lib.hid (b_then HB.out hb)
    replace Hb := Lib.hid (obj_b hb Hb.out)
    replace Ob := Lib.hid (Ob.out.below hb)
    clear hb
    go_wp2_with fail
    refine (From_c s (Nat.le_trans HLs.out (by decide)) _ (HG.out.below HB.out) (tabs_below HTB.out HB.out)).mono ?_
    rw [HO.out]
    unfold ParseRF
    rintro e V4 ⟨⟨v, rfl, hvp, -, hvo⟩, hb⟩
    replace HB := Lib.hid (b_then HB.out hb)
    replace Hb := Lib.hid (obj_b hb Hb.out)
    replace Ob := Lib.hid (Ob.out.below hb)
    clear hb
    have hvp' : v.pm = u := hvp
    have VOK := Lib.hid (hvo (by have := from_path HLs.out HO.out; rw [← hvp'] at this; exact Nat.le_trans this (by decide)))
    have VP := Lib.hid hvp'
    clear hvp hvp' hvo
    have HN := Lib.hid (Go.heap_alloc_new V4 (.cells zurl 27))
    unfold zurl at HN 
    go_upto_region 7 with (first | (refine wpList_store_row rfl 27 _ _ rfl V4.heap.size v.cells rfl rfl 27 _ HN.out (by kernel_rfl) rfl (agg_one v) ?_))
    obtain ⟨V5, hV⟩ : ∃ V5, V5 = (V4.alloc (.cells #[.string ⟨#[]⟩, .string ⟨#[]⟩, .string ⟨#[]⟩, .int .i64 0, .string ⟨#[]⟩, .int .i64 0, .int .i64 0, .int .i64 0, .int .i64 0, .int .i64 0, .int .i64 0, .int .i64 0, .int .i64 0, .int .i64 0, .int .i64 0, .slice none 0 0, .string ⟨#[]⟩, .string ⟨#[]⟩, .string ⟨#[]⟩, .bool false, .bool false] 27)).setRow V4.heap.size v.cells := ⟨_, rfl⟩
    have hN : V5.heap[V4.heap.size]? = some (.cells v.cells 27 (0, 0)) := by rw [hV]; exact heap_setRow HN.out _
    have hb : Below V4.heap.size V4 V5 := by rw [hV]; exact below_setRow (b_alloc (Below.refl _ _) _) (Nat.le_refl _) _
    rw [← hV]
    clear hV HN 
    have Hv := Lib.hid hN
    clear hN
    have hlt_bv_Hb : w.heap.size < V4.heap.size := h_lt Hb.out
    have hlw_bv : w.heap.size ≤ V4.heap.size := HB.out.size
    replace HB := Lib.hid (b_then HB.out hb)
    replace Hb := Lib.hid (obj_b hb Hb.out)
    replace Ob := Lib.hid (Ob.out.below hb)
    replace VOK := Lib.hid (VOK.out.below hb)
    clear hb
    generalize V4.heap.size = bv at Hv hlt_bv_Hb hlw_bv ⊢
    (try simp only [Act.put])
    have hl4 : (S.length : Int) ≤ 4096 := by
      have hw : PM.isW v.pm = true := by rw [VP.out]; exact HW.out
      have := strip_len2 hw n
      rw [VP.out, ← HT0.out, HS.out] at this
      omega
    have HL4 := Lib.hid hl4
    clear hl4
    go_wp2_with (first | go_skip | (refine wpList_load_g 27 _ rfl (by kernel_rfl) bv rfl Hv.out Tryz.underlying27 rfl (by kernel_rfl) ?_) | (refine wpList_load_g 27 _ rfl (by kernel_rfl) w.heap.size rfl Hb.out Tryz.underlying27 rfl (by kernel_rfl) ?_))
    refine (Level_r_c p v b _ VOK.out Ob.out (HG.out.below HB.out)).mono ?_
    rw [VP.out, HN.out]
    rintro e V6 ⟨rfl, hb⟩
    replace HB := Lib.hid (b_then HB.out hb)
    replace Hb := Lib.hid (obj_b hb Hb.out)
    replace Hv := Lib.hid (obj_b hb Hv.out)
    replace Ob := Lib.hid (Ob.out.below hb)
    replace VOK := Lib.hid (VOK.out.below hb)
    clear hb
    obtain ⟨O, hO⟩ : ∃ O, PM.stripOrigin v.pm = O := ⟨_, rfl⟩
    have HOr := Lib.hid hO
    clear hO
    obtain ⟨F, hF⟩ : ∃ F, PM.stripFull v.pm = F := ⟨_, rfl⟩
    have HF := Lib.hid hF
    clear hF
    have HM3 : Hid (S = O ∨ (n = 2 ∧ S = F)) := Lib.hid (by rw [← HOr.out, ← HF.out, VP.out]; exact HM2.out)
    have hl4 := HL4.out
    clear HL4 HM2
    cases hSO : (S == O)
    rotate_left
    · skip
      go_wp2_with (first | go_skip | (refine wpList_load_g 27 _ rfl (by kernel_rfl) bv rfl Hv.out Tryz.underlying27 rfl (by kernel_rfl) ?_) | (refine wpList_load_g 27 _ rfl (by kernel_rfl) w.heap.size rfl Hb.out Tryz.underlying27 rfl (by kernel_rfl) ?_))
      refine (Origin_s_c v _ VOK.out (HG.out.below HB.out)).mono ?_
      rw [HOr.out]
      rintro e V7 ⟨rfl, hb⟩
      replace HB := Lib.hid (b_then HB.out hb)
      replace Hb := Lib.hid (obj_b hb Hb.out)
      replace Hv := Lib.hid (obj_b hb Hv.out)
      replace Ob := Lib.hid (Ob.out.below hb)
      replace VOK := Lib.hid (VOK.out.below hb)
      clear hb
      go_wp2_with fail
      refine (Most_c p _).mono ?_
      rw [HMo.out]
      rintro e V8 ⟨rfl, hb⟩
      replace HB := Lib.hid (b_then HB.out hb)
      replace Hb := Lib.hid (obj_b hb Hb.out)
      replace Hv := Lib.hid (obj_b hb Hv.out)
      replace Ob := Lib.hid (Ob.out.below hb)
      replace VOK := Lib.hid (VOK.out.below hb)
      clear hb
      go_wp2
      go_ret
      exact ⟨rfl, HB.out⟩
    have h3 : n = 2 ∧ S = F := HM3.out.resolve_left fun h => by rw [h] at hSO; simp at hSO
    obtain ⟨h3, h4⟩ := h3
    subst h3
    have hSF : (S == F) = true := by rw [h4]; simp
    clear h4 HM3
    go_wp2_with (first | go_skip | (refine wpList_load_g 27 _ rfl (by kernel_rfl) bv rfl Hv.out Tryz.underlying27 rfl (by kernel_rfl) ?_) | (refine wpList_load_g 27 _ rfl (by kernel_rfl) w.heap.size rfl Hb.out Tryz.underlying27 rfl (by kernel_rfl) ?_))
    refine (Origin_s_c v _ VOK.out (HG.out.below HB.out)).mono ?_
    rw [HOr.out]
    rintro e V7 ⟨rfl, hb⟩
    replace HB := Lib.hid (b_then HB.out hb)
    replace Hb := Lib.hid (obj_b hb Hb.out)
    replace Hv := Lib.hid (obj_b hb Hv.out)
    replace Ob := Lib.hid (Ob.out.below hb)
    replace VOK := Lib.hid (VOK.out.below hb)
    clear hb
    go_wp2_with (first | go_skip | (refine wpList_load_g 27 _ rfl (by kernel_rfl) bv rfl Hv.out Tryz.underlying27 rfl (by kernel_rfl) ?_) | (refine wpList_load_g 27 _ rfl (by kernel_rfl) w.heap.size rfl Hb.out Tryz.underlying27 rfl (by kernel_rfl) ?_))
    refine (Full_s_c v _ VOK.out (HG.out.below HB.out)).mono ?_
    rw [HF.out]
    rintro e V8 ⟨rfl, hb⟩
    replace HB := Lib.hid (b_then HB.out hb)
    replace Hb := Lib.hid (obj_b hb Hb.out)
    replace Hv := Lib.hid (obj_b hb Hv.out)
    replace Ob := Lib.hid (Ob.out.below hb)
    replace VOK := Lib.hid (VOK.out.below hb)
    clear hb
    go_wp2_with fail
    refine (Most_c p _).mono ?_
    rw [HMo.out]
    rintro e V9 ⟨rfl, hb⟩
    replace HB := Lib.hid (b_then HB.out hb)
    replace Hb := Lib.hid (obj_b hb Hb.out)
    replace Hv := Lib.hid (obj_b hb Hv.out)
    replace Ob := Lib.hid (Ob.out.below hb)
    replace VOK := Lib.hid (VOK.out.below hb)
    clear hb
    go_wp2
    go_ret
    exact ⟨rfl, HB.out⟩
end Go.Proofs.YtphigjogeejdjaaGreatDoor
/-! The row of ReferMost. -/
namespace Go.Proofs.YtphigjogeejdjaaGreatDoor
open Go.ChangeShapes Go.WideShapes Go.ChangeAt Go.RowKit
open Go.WideMaps Go.WideElems
open Go.ChangeMaps (open_string shut_string)
theorem referMost_reads (os : Os) {H : Type} (enc : TypeId × Value → H) : ∃ x, DataW.whole enc Tryz.prog ((laidWorld os).forCall (fun _ _ => 0) ⟨#[], #[.int .i64 0, .string ⟨#[]⟩, .agg #[.string ⟨#[]⟩, .string ⟨#[]⟩, .string ⟨#[]⟩, .int .i64 0, .string ⟨#[]⟩, .int .i64 0, .int .i64 0, .int .i64 0, .int .i64 0, .int .i64 0, .int .i64 0, .int .i64 0, .int .i64 0, .int .i64 0, .int .i64 0, .slice none 0 0, .string ⟨#[]⟩, .string ⟨#[]⟩, .string ⟨#[]⟩, .bool false, .bool false]], []⟩).memory Tryz.f13.params.toList Rows.referMostSpec.vars false (#[.int .i64 0, .string ⟨#[]⟩, .agg #[.string ⟨#[]⟩, .string ⟨#[]⟩, .string ⟨#[]⟩, .int .i64 0, .string ⟨#[]⟩, .int .i64 0, .int .i64 0, .int .i64 0, .int .i64 0, .int .i64 0, .int .i64 0, .int .i64 0, .int .i64 0, .int .i64 0, .int .i64 0, .slice none 0 0, .string ⟨#[]⟩, .string ⟨#[]⟩, .string ⟨#[]⟩, .bool false, .bool false]] : Array Value).toList 8 = some x :=
  Option.isSome_iff_exists.1 (by kernel_rfl)
set_option maxRecDepth 100000 in
theorem referMost_lifted (os : Os) (started : os.Started) (H : Type) (enc : TypeId × Value → H) (F : Stop.Interp) :
    ReturnsInHanded {} Tryz.checked os 13 .any ((OpenSpec.ofChange Rows.referMostSpec).preRow enc Tryz.prog Tryz.f13 Rows.referMostRow.domain false Rows.referMostRow.laid) (((OpenSpec.ofChange Rows.referMostSpec).at F).post enc Tryz.prog Tryz.f13 false true false false) := by
  obtain ⟨x, hx⟩ := referMost_reads os enc
  refine returnsInHanded_of_row (C := Tryz.checked) (s := OpenSpec.ofChange Rows.referMostSpec) own started (by kernel_rfl) Tryz.func13
    (witness_row_atRef (enc := enc) (C := Tryz.checked) false (laidWorld os) #[.int .i64 0, .string ⟨#[]⟩, .agg #[.string ⟨#[]⟩, .string ⟨#[]⟩, .string ⟨#[]⟩, .int .i64 0, .string ⟨#[]⟩, .int .i64 0, .int .i64 0, .int .i64 0, .int .i64 0, .int .i64 0, .int .i64 0, .int .i64 0, .int .i64 0, .int .i64 0, .int .i64 0, .slice none 0 0, .string ⟨#[]⟩, .string ⟨#[]⟩, .string ⟨#[]⟩, .bool false, .bool false]] rfl (by kernel_rfl) (by kernel_rfl) (by kernel_rfl)
      (OpenSpec.preRow_of_cond 8 hx rfl (fun k hk => by cases hk) (by kernel_rfl) (laid_met os _))) ?_
  intro W base args ds gs before hval0 hW _ _ _ hL hsh _
  have hval : ∀ (j : Nat) t v, Tryz.f13.params[j]? = some t → args[j]? = some v → Value.okWide Tryz.prog W .any base t v := hval0
  have hW' := hW
  obtain ⟨p, q, hA0, hV, rfl, hfz, hnd⟩ := hW
  have hA : DataW.TrodAll enc Tryz.prog W 0 (fun _ => true) true Tryz.f13.params.toList args.toList ds p := hA0
  rw [Tryz.params13] at hA hval
  obtain ⟨v0, v1, v2, d0, d1, d2, p0, p1, p2, rfl, rfl, rfl, h0, h1, h2⟩ := trodAll_three hA
  obtain ⟨rfl, rfl⟩ := trodVars_none hV
  simp only [List.append_nil] at hfz hnd hW'
  have hlt : ∀ x ∈ p0 ++ p1 ++ p2, x.block < W.heap.size := fun x hx => hW'.lt x hx
  have h0k := h0
  obtain ⟨n0, e0, _, _, w0⟩ := open_int Tryz.underlying3 (hval 0 3 v0 rfl rfl) h0
  subst e0
  have h1k := h1
  obtain ⟨s1, e1, _, _, w1⟩ := open_string Tryz.underlying9 (hval 1 9 v1 rfl rfl) h1
  obtain ⟨l1, rfl⟩ := mkS_surj s1
  subst e1
  have h2k := h2
  obtain ⟨u2, rfl, hr2⟩ := open_url (hval 2 27 v2 rfl rfl) h2
  refine (ReferMost_c n0 l1 u2 W hr2 (gl_of hsh) (tabs_laid hL)).mono fun e W' ⟨he, hb⟩ => ?_
  subst he
  refine ⟨_, rfl, _, _, _, [], p0 ++ p1 ++ p2, [], hW', ?_, ?_, ?_, hb.frame _, fun h => by cases h⟩
  · exact trodAll_mk1 (shut_bool Tryz.underlying4 _)
  · have h3 := trodAll_mk3 (Below.trod laidOut (by kernel_rfl) (of_decide_eq_true (by kernel_rfl)) h0k hb (fun x hx => hlt x (by simp [hx]))) (Below.trod laidOut (by kernel_rfl) (of_decide_eq_true (by kernel_rfl)) h1k hb (fun x hx => hlt x (by simp [hx]))) (Below.trod laidOut (by kernel_rfl) (of_decide_eq_true (by kernel_rfl)) h2k hb (fun x hx => hlt x (by simp [hx])))
    rw [← List.append_assoc] at h3
    exact h3
  · rfl
theorem referMost_k0 : Rows.referMostRow.wf (OpenSpec.ofChange (OpenSpec.ofChange Rows.referMostSpec).bare) = true := by kernel_rfl
theorem referMost_k3 : Tryz.f13.params.all (PP.readableRec ·) = true := by kernel_rfl
theorem referMost_k4 : namedTie PP Rows.referMostRow.named (OpenSpec.ofChange Rows.referMostSpec).bare.vars = true := by kernel_rfl
theorem referMost_k5 : (Rows.referMostRow.stops == []) = true := by kernel_rfl
theorem referMost_k7 : (Rows.referMostRow.knobs == []) = true := by kernel_rfl
theorem referMost_k9 : (Rows.referMostRow.inPlace == PP.inPlace 13) = true := by kernel_rfl
theorem referMost_k10 : (Rows.referMostRow.unfollowed == PP.unfollowed 13) = true := by kernel_rfl
theorem referMost_k11 : (Rows.referMostRow.recurses == PP.recurses 13) = true := by kernel_rfl
theorem referMost_k12 : (Rows.referMostRow.named == PP.varsNamed 13) = true := by kernel_rfl
theorem referMost_k13 : (Rows.referMostRow.maps == (Tryz.f13.params.toList ++ (OpenSpec.ofChange Rows.referMostSpec).bare.plain.varTypes PP).any (PP.mapsRec ·)) = true := by kernel_rfl
theorem referMost_k14 : (Rows.referMostRow.ifaces == (Tryz.f13.params.toList ++ (OpenSpec.ofChange Rows.referMostSpec).bare.plain.varTypes PP).any (PP.ifacesRec ·)) = true := by kernel_rfl
theorem referMost_k15 : (Rows.referMostRow.mapsOut == PP.mapsAmong Tryz.f13.resultTypes.toList) = true := by kernel_rfl
theorem referMost_k16 : (Rows.referMostRow.loops == (Tryz.f13.params.toList ++ (OpenSpec.ofChange Rows.referMostSpec).bare.plain.varTypes PP).any (PP.loopsFrom ·)) = true := by kernel_rfl
theorem referMost_k17 : (Rows.referMostRow.wideKeys == (Tryz.f13.params.toList ++ (OpenSpec.ofChange Rows.referMostSpec).bare.plain.varTypes PP ++ Tryz.f13.resultTypes.toList).any (PP.wideKeysFrom ·)) = true := by kernel_rfl
theorem referMost_k18 : (OpenSpec.ofChange Rows.referMostSpec).bare.vars.all (PP.varReadable ·) = true := by kernel_rfl
theorem referMost_k19 : Tryz.f13.resultTypes.all (fun t => PP.readableRec t && decide (t < PP.types.size)) = true := by kernel_rfl
theorem referMost_k20 : (Rows.referMostRow.ifacesOut == Tryz.f13.resultTypes.toList.any (PP.ifacesRec ·)) = true := by kernel_rfl
theorem referMost_k21 : (Rows.referMostRow.loopsOut == Tryz.f13.resultTypes.toList.any (PP.loopsFrom ·)) = true := by kernel_rfl
theorem referMost_k23 : Rows.referMostRow.shortTexts.isNone = true := by kernel_rfl
theorem referMost_k28 : (Rows.referMostRow.kinds == (if Rows.referMostRow.domain.isEmpty then [] else Tryz.f13.params.toList.map fun t => match PP.underlying t with | some (.int k) => some k | _ => none)) = true := by kernel_rfl
theorem referMost_k29 : (Rows.referMostRow.pinned == Rows.referMostRow.pinnedBy) = true := by kernel_rfl
theorem referMost_k30 : (Rows.referMostRow.veiled == (Tryz.f13.params.toList ++ (OpenSpec.ofChange Rows.referMostSpec).bare.plain.varTypes PP ++ Tryz.f13.resultTypes.toList).any (PP.veiledRec ·)) = true := by kernel_rfl
theorem referMost_k31 : Rows.referMostRow.veiledFits PP Tryz.f13.params.toList (Tryz.f13.params.toList ++ (OpenSpec.ofChange Rows.referMostSpec).bare.plain.varTypes PP ++ Tryz.f13.resultTypes.toList) = true := by kernel_rfl
set_option maxRecDepth 100000 in
theorem referMost_closed : joinedFacts PP 13 Tryz.f13 (OpenSpec.ofChange Rows.referMostSpec).bare Rows.referMostRow = true := and2 (and2 (and2 (and2 (and2 (and2 (and2 (and2 (and2 (and2 (and2 (and2 (and2 (and2 (and2 (and2 (and2 (and2 (and2 (and2 (and2 (and2 (and2 (and2 (and2 (and2 (and2 (and2 (and2 (and2 (and2 (referMost_k0) j_laidOut) j_rowed) referMost_k3) referMost_k4) referMost_k5) j_stops) referMost_k7) j_knobs) referMost_k9) referMost_k10) referMost_k11) referMost_k12) referMost_k13) referMost_k14) referMost_k15) referMost_k16) referMost_k17) referMost_k18) referMost_k19) referMost_k20) referMost_k21) j_plain) referMost_k23) j_heard) j_enter) j_lift) j_make) referMost_k28) referMost_k29) referMost_k30) referMost_k31
theorem referMost_named : Tryz.pinned.checked.prog.funcNamed Rows.referMostRow.func = some 13 := by kernel_rfl
theorem referMost_text : Rows.referMostRow.wfByText (OpenSpec.ofChange Rows.referMostSpec) = true := by kernel_rfl
theorem referMost_goes : false = Rows.referMostRow.goesBy Tryz.pinned.checked.prog := by kernel_rfl
theorem referMost_said : Rows.ReferMostSaid :=
  OpenClaim.holds_of_cond 13 Tryz.f13 rfl rfl rfl rfl rfl rfl rfl ⟨rfl, rfl, rfl, rfl, rfl⟩ rfl rfl rfl rfl rfl referMost_named Tryz.func13 referMost_closed
    (of_decide_eq_true (by kernel_rfl)) (by unfold Func.isWrapper; first | (rw [if_pos (by decide +kernel)]; kernel_rfl) | (rw [if_neg (by decide +kernel)]; exact ⟨rfl, rfl⟩))
    (fun os started H enc _ F => by rw [OpenClaim.pre_eq_preRow]; exact referMost_lifted os started H enc F)
theorem referMost_plain (f : FuncId) (fn : Func) (hf : Tryz.pinned.checked.prog.funcNamed "postmark/postmarklaw17.ReferMost" = some f) (hfn : Tryz.pinned.checked.prog.funcs[f]? = some fn) :
    true = Tryz.pinned.checked.prog.looks [] ∧ ∀ (j : Nat) t, fn.params[j]? = some t → Tryz.pinned.checked.prog.wantsStandIn t = false := by
  obtain rfl : f = 13 := Option.some.inj ((show Tryz.prog.funcNamed "postmark/postmarklaw17.ReferMost" = some 13 by kernel_rfl).symm.trans hf) |>.symm
  obtain rfl : fn = Tryz.f13 := (Option.some.inj (Tryz.func13.symm.trans hfn)).symm
  refine ⟨by kernel_rfl, fun j t ht => ?_⟩
  rw [Tryz.params13] at ht
  have hm := Array.mem_of_getElem? ht
  simp only [Array.mem_def, List.mem_cons, List.not_mem_nil, or_false] at hm
  rcases hm with rfl | rfl | rfl
  · exact (show Tryz.prog.wantsStandIn 3 = false by kernel_rfl)
  · exact (show Tryz.prog.wantsStandIn 9 = false by kernel_rfl)
  · exact (show Tryz.prog.wantsStandIn 27 = false by kernel_rfl)
theorem referMost_holds : Rows.ReferMostCardSaid :=
  Claim7.holds_tied_plain_at .later [] _ _ _ _ referMost_said (fun _ h => by cases h) referMost_text (fun _ h => by cases h) referMost_row_tie rfl ⟨rfl, rfl⟩ j_main rfl referMost_plain referMost_goes
#print axioms referMost_holds
end Go.Proofs.YtphigjogeejdjaaGreatDoor
