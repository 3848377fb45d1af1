/-
ReferSelf: whatever comes in, the law's call returns true, and the arguments read behind the call as they did before; no condition on them. The row lists the two tables of unicode/utf8 (first, acceptRanges); the card ties them.
-/
import Derived.Test.YtphigjogeejdjaaGreatDoorTz
import Derived.Test.YtphigjogeejdjaaGreatDoorRq
set_option linter.unusedVariables false
set_option linter.unusedSimpArgs false
/-! The walk of ReferSelf. -/
namespace Go.Proofs.YtphigjogeejdjaaGreatDoor
open Go.RowKit
theorem strip_safe2 {u : PM.Url} (h : PM.isW u = true) (lu : u.host.six.length = 8) (lp : u.path.length ≤ 10000) {k : Int} (hk : k = 1 ∨ k = 2) : ∃ x, PM.urlParse (PM.stripAt u k) = some x ∧ x.user = [] ∧ x.pass = [] ∧ x.hasFrag = false ∧ PM.both u x = true ∧ x.path.length ≤ 10000 := by
  have ho : ∃ x, PM.urlParse (PM.stripOrigin u) = some x ∧ x.user = [] ∧ x.pass = [] ∧ x.hasFrag = false ∧ PM.both u x = true ∧ x.path.length ≤ 10000 := by
    have qo : (PM.originOf u).opq = false := by rw [PM.opq_of, h]; rfl
    have hf : PM.isW (PM.front (PM.originOf u)) = true := by rw [← PM.originMay_open qo]; exact PM.may_of u
    have e : PM.stripOrigin u = PM.showUrl (PM.front (PM.originOf u)) := by
      rw [PM.front_show hf]
      unfold PM.stripOrigin
      rw [if_pos h, PM.originShow_eq (PM.may_of u) qo]
    refine ⟨_, by rw [e]; exact PM.parse_show ((PM.isW_iff _).1 hf).1 (PM.of_six lu), rfl, rfl, rfl, ?_, by show ([[]] : List (List UInt8)).length ≤ 10000; decide⟩
    rw [PM.both_iff, PM.originOf_front qo (PM.may_of u)]
    exact ⟨h, rfl⟩
  have hfu : ∃ x, PM.urlParse (PM.stripFull u) = some x ∧ x.user = [] ∧ x.pass = [] ∧ x.hasFrag = false ∧ PM.both u x = true ∧ x.path.length ≤ 10000 := by
    unfold PM.stripFull
    rw [if_pos h]
    have hw := PM.isW_open h
    refine ⟨_, PM.parse_show ((PM.isW_iff _).1 hw).1 lu, rfl, rfl, rfl, ?_, lp⟩
    rw [PM.both_iff, PM.originOf_w h, PM.originOf_w hw]
    exact ⟨h, rfl⟩
  rcases hk with rfl | rfl
  · exact ho
  · show ∃ x, PM.urlParse (PM.stripCap u) = some x ∧ _
    unfold PM.stripCap
    split
    · exact hfu
    · exact ho
theorem strip_len2 {u : UV} (h : PM.isW u.pm = true) (k : Int) : (PM.stripAt u.pm k).length ≤ 4096 := by
  have := PM.strip_len h rfl (sixShow_len u.six rfl) (fourShow_len u.m) (by unfold PM.digs PM.rdig; rw [List.length_reverse]; exact Nat.le_trans (rdigF_len _ _) (by decide))
  unfold PM.stripAt
  split
  · exact this.1
  · split
    · exact this.2
    · simp
/-- Where ReferSelf stands. -/
structure TAt (ga gb : Nat) (a b : UV) (w W : World) : Prop where
  ha : W.heap[ga]? = some (.cells a.cells 27 (0, 0))
  hb : W.heap[gb]? = some (.cells b.cells 27 (0, 0))
  be : Below w.heap.size w W
  ao : a.Ok W
  bo : b.Ok W
theorem TAt.below {ga gb : Nat} {a b : UV} {w W W' : World} (h : TAt ga gb a b w W) (hb : Below W.heap.size W W') : TAt ga gb a b w W' := ⟨heap_b hb h.ha, heap_b hb h.hb, b_then h.be hb, h.ao.below hb, h.bo.below hb⟩
set_option maxRecDepth 100000 in
set_option maxHeartbeats 16000000 in
theorem ReferSelf_c (p : Int) (a b : UV) (w : World) (hra : RdW w a.a a.pn a.xs) (hrb : RdW w b.a b.pn b.xs) (hg : Gl w) (hT : Lib.Utf8Tabs 1 2 w) : Calls Tryz.prog 12 #[.int .i64 p, .agg a.cells, .agg b.cells] w fun e w' => e = .returned (.bool true) ∧ Below w.heap.size w w' := by
  have HG := Lib.hid hg
  have HTB := Lib.hid hT
  have Ra := Lib.hid hra
  have Rb := Lib.hid hrb
  clear hg hT hra hrb
  have HB : Hid (Below w.heap.size w ((w.alloc (.cells a.cells 27)).alloc (.cells b.cells 27))) := Lib.hid (b_alloc (b_alloc (Below.refl _ _) _) _)
  have Ha : Hid (((w.alloc (.cells a.cells 27)).alloc (.cells b.cells 27)).heap[w.heap.size]? = some (.cells a.cells 27 (0, 0))) := Lib.hid (heap_b (b_alloc (Below.refl _ _) _) (by have h := Go.heap_alloc_new w (.cells a.cells 27); simpa using h))
  have Hb : Hid (((w.alloc (.cells a.cells 27)).alloc (.cells b.cells 27)).heap[w.heap.size + 1]? = some (.cells b.cells 27 (0, 0))) := Lib.hid ((by have h := Go.heap_alloc_new (w.alloc (.cells a.cells 27)) (.cells b.cells 27); simpa using h))
  go_enter Tryz.func12, Tryz.ntmps12
  go_upto_region 1 with fail
  generalize (w.alloc (.cells a.cells 27)).alloc (.cells b.cells 27) = V0 at HB Ha Hb ⊢
  generalize hbb : w.heap.size + 1 = bb at Hb ⊢
  have hlw_bb : w.heap.size ≤ bb := by omega
  have hne_b_a : w.heap.size < bb := by omega
  clear hbb
  go_wp2_with fail
  refine (awake17_c _ (HG.out.below HB.out) (tabs_below HTB.out HB.out)).mono ?_
  rintro e V1 ⟨rfl, hb⟩
  replace HB := Lib.hid (b_then HB.out hb)
  replace Hb := Lib.hid (obj_b hb Hb.out)
  replace Ha := Lib.hid (obj_b hb Ha.out)
  clear hb
  go_wp2_with (first | go_skip | (refine wpList_load_g 27 _ rfl (by kernel_rfl) w.heap.size rfl Ha.out Tryz.underlying27 rfl (by kernel_rfl) ?_))
  refine (Few_c a _ (Ra.out.below HB.out)).mono ?_
  rintro e V2 ⟨rfl, hb⟩
  replace HB := Lib.hid (b_then HB.out hb)
  replace Hb := Lib.hid (obj_b hb Hb.out)
  replace Ha := Lib.hid (obj_b hb Ha.out)
  clear hb
  go_wp2_with (first | go_skip | (refine wpList_load_g 27 _ rfl (by kernel_rfl) bb rfl Hb.out Tryz.underlying27 rfl (by kernel_rfl) ?_))
  refine (Few_c b _ (Rb.out.below HB.out)).mono ?_
  rintro e V3 ⟨rfl, hb⟩
  replace HB := Lib.hid (b_then HB.out hb)
  replace Hb := Lib.hid (obj_b hb Hb.out)
  replace Ha := Lib.hid (obj_b hb Ha.out)
  clear hb
  cases hfa : PM.few a.pm
  · go_wp2
    go_ret
    exact ⟨rfl, HB.out⟩
  have Oa := Lib.hid (few_ok (Ra.out.below HB.out) hfa)
  have Fa := Lib.hid hfa
  clear hfa
  cases hfb : PM.few b.pm
  · go_wp2
    go_ret
    exact ⟨rfl, HB.out⟩
  have Ob := Lib.hid (few_ok (Rb.out.below HB.out) hfb)
  have Fb := Lib.hid hfb
  clear hfb
  obtain ⟨S, hS⟩ : ∃ S, PM.both a.pm b.pm = S := ⟨_, rfl⟩
  have HS := Lib.hid hS
  clear hS
  go_wp2_with (first | go_skip | (refine wpList_load_g 27 _ rfl (by kernel_rfl) w.heap.size rfl Ha.out Tryz.underlying27 rfl (by kernel_rfl) ?_) | (refine wpList_load_g 27 _ rfl (by kernel_rfl) bb rfl Hb.out Tryz.underlying27 rfl (by kernel_rfl) ?_))
  refine (Both_c a b _ Oa.out Ob.out (HG.out.below HB.out)).mono ?_
  rw [HS.out]
  rintro e V4 ⟨rfl, hb⟩
  replace HB := Lib.hid (b_then HB.out hb)
  replace Hb := Lib.hid (obj_b hb Hb.out)
  replace Ha := Lib.hid (obj_b hb Ha.out)
  replace Oa := Lib.hid (Oa.out.below hb)
  replace Ob := Lib.hid (Ob.out.below hb)
  clear hb
  cases S
  · go_wp2
    go_ret
    exact ⟨rfl, HB.out⟩
  have hself := PM.refer_self HS.out rfl p
  have hw := ((PM.both_iff _ _).1 HS.out).1
  have HSELF := Lib.hid hself
  have HW := Lib.hid hw
  have hsl := show_few Fa.out rfl
  have HSL := Lib.hid hsl
  obtain ⟨X, hX⟩ : ∃ X, PM.showUrl a.pm = X := ⟨_, rfl⟩
  have HX := Lib.hid hX
  rw [hX] at HSELF HSL
  obtain ⟨F, hF⟩ : ∃ F, PM.showUrl (PM.open_ a.pm) = F := ⟨_, rfl⟩
  have HF := Lib.hid hF
  rw [hF] at HSELF
  obtain ⟨T, hTo⟩ : ∃ T, PM.told p X b.pm = T := ⟨_, rfl⟩
  have HTO := Lib.hid hTo
  rw [hTo] at HSELF
  clear hself hw hsl hX hF hTo
  have HPA : Hid (∀ u, PM.fromOf X = some u → u.path.length ≤ 10000) := Lib.hid (by rw [HSELF.out.1]; intro u h; cases h; exact Oa.out.xn)
  go_wp2_with fail
  refine wp_region_noPanic ?_
  refine wp_region_held_drew (S := fun W' => TAt w.heap.size bb a b w W') (by kernel_rfl) (TAt.below ⟨Ha.out, Hb.out, HB.out, Oa.out, Ob.out⟩ (b_drew (Below.refl _ _))) (fun hS0 => ?_)
  refine wpAnyH_take (i := 0) (v := ?_) rfl (by kernel_rfl) (by kernel_rfl) (by kernel_rfl) (fun _ _ _ h => h) (Or.inl ⟨by kernel_rfl, fun W hW => ?_⟩) (by assumption) ?_
  rotate_left
  · go_simp
    try with_reducible rfl
  (try simp only [List.getElem_toArray, List.getElem_cons_zero, List.getElem_cons_succ, Act.put, List.setIfInBounds_toArray, List.set_cons_zero, List.set_cons_succ])
  refine wpAnyH_take (i := 1) (v := ?_) rfl (by kernel_rfl) (by kernel_rfl) (by kernel_rfl) (fun _ _ _ h => h) (Or.inl ⟨by kernel_rfl, fun W hW => ?_⟩) (by assumption) ?_
  rotate_left
  · refine yield_row 27 (.tmp 4) ?_ w.heap.size ?_ hW.ha Tryz.underlying27 rfl (by kernel_rfl)
    · rfl
    · rfl
  (try simp only [List.getElem_toArray, List.getElem_cons_zero, List.getElem_cons_succ, Act.put, List.setIfInBounds_toArray, List.set_cons_zero, List.set_cons_succ])
  refine wpAnyH_take (i := 3) (v := ?_) rfl (by kernel_rfl) (by kernel_rfl) (by kernel_rfl) (fun _ _ _ h => h) (Or.inl ⟨by kernel_rfl, fun W hW => ?_⟩) (by assumption) ?_
  rotate_left
  · refine yield_row 27 (.tmp 5) ?_ bb ?_ hW.hb Tryz.underlying27 rfl (by kernel_rfl)
    · rfl
    · rfl
  (try simp only [List.getElem_toArray, List.getElem_cons_zero, List.getElem_cons_succ, Act.put, List.setIfInBounds_toArray, List.set_cons_zero, List.set_cons_succ])
  refine wpAnyH_ready (rs := [2]) (by kernel_rfl) (by simp) ?_
  refine AllReadyH.cons rfl (fun K hK => ?_) AllReadyH.nil
  go_simp
  refine (showUrl_c a _ hS0.ao (HG.out.below hS0.be)).mono ?_
  rw [HX.out]
  rintro e U1 ⟨rfl, hb⟩
  have hSn := hS0.below hb
  clear hb hS0
  refine hK.out _ _ hSn (fun _ => ?_)
  clear hK K
  (try simp only [List.getElem_toArray, List.getElem_cons_zero, List.getElem_cons_succ, Act.put, List.setIfInBounds_toArray, List.set_cons_zero, List.set_cons_succ])
  refine wpAnyH_ready (rs := [4]) (by kernel_rfl) (by simp) ?_
  refine AllReadyH.cons rfl (fun K hK => ?_) AllReadyH.nil
  go_simp
  refine (Referer_c p X b HSL.out HPA.out _ hSn.bo (HG.out.below hSn.be) (tabs_below HTB.out hSn.be)).mono ?_
  rw [HTO.out]
  rintro e U2 ⟨rfl, hb⟩
  replace hSn := hSn.below hb
  clear hb
  refine hK.out _ _ hSn (fun _ => ?_)
  clear hK K
  (try simp only [List.getElem_toArray, List.getElem_cons_zero, List.getElem_cons_succ, Act.put, List.setIfInBounds_toArray, List.set_cons_zero, List.set_cons_succ])
  refine wpAnyH_take (i := 5) (v := ?_) rfl (by kernel_rfl) (by kernel_rfl) (by kernel_rfl) (fun _ _ _ h => h) (Or.inl ⟨by kernel_rfl, fun W hW => ?_⟩) (by assumption) ?_
  rotate_left
  · go_simp
    try with_reducible rfl
  (try simp only [List.getElem_toArray, List.getElem_cons_zero, List.getElem_cons_succ, Act.put, List.setIfInBounds_toArray, List.set_cons_zero, List.set_cons_succ])
  refine wpAnyH_take (i := 6) (v := ?_) rfl (by kernel_rfl) (by kernel_rfl) (by kernel_rfl) (fun _ _ _ h => h) (Or.inl ⟨by kernel_rfl, fun W hW => ?_⟩) (by assumption) ?_
  rotate_left
  · go_simp
    try with_reducible rfl
  (try simp only [List.getElem_toArray, List.getElem_cons_zero, List.getElem_cons_succ, Act.put, List.setIfInBounds_toArray, List.set_cons_zero, List.set_cons_succ])
  refine wpAnyH_take (i := 7) (v := ?_) rfl (by kernel_rfl) (by kernel_rfl) (by kernel_rfl) (fun _ _ _ h => h) (Or.inl ⟨by kernel_rfl, fun W hW => ?_⟩) (by assumption) ?_
  rotate_left
  · go_simp
    try with_reducible rfl
  (try simp only [List.getElem_toArray, List.getElem_cons_zero, List.getElem_cons_succ, Act.put, List.setIfInBounds_toArray, List.set_cons_zero, List.set_cons_succ])
  refine wpAnyH_take (i := 8) (v := ?_) rfl (by kernel_rfl) (by kernel_rfl) (by kernel_rfl) (fun _ _ _ h => h) (Or.inl ⟨by kernel_rfl, fun W hW => ?_⟩) (by assumption) ?_
  rotate_left
  · go_simp
    try with_reducible rfl
  (try simp only [List.getElem_toArray, List.getElem_cons_zero, List.getElem_cons_succ, Act.put, List.setIfInBounds_toArray, List.set_cons_zero, List.set_cons_succ])
  refine wpAnyH_take (i := 9) (v := ?_) rfl (by kernel_rfl) (by kernel_rfl) (by kernel_rfl) (fun _ _ _ h => h) (Or.inl ⟨by kernel_rfl, fun W hW => ?_⟩) (by assumption) ?_
  rotate_left
  · go_simp
    try with_reducible rfl
  (try simp only [List.getElem_toArray, List.getElem_cons_zero, List.getElem_cons_succ, Act.put, List.setIfInBounds_toArray, List.set_cons_zero, List.set_cons_succ])
  refine wpAnyH_done (by kernel_rfl) ?_ _
  refine NoPanic.normal ?_
  have Ha2 := Lib.hid hSn.ha
  have Hb2 := Lib.hid hSn.hb
  have HB2 := Lib.hid hSn.be
  have Oa2 := Lib.hid hSn.ao
  have Ob2 := Lib.hid hSn.bo
  clear hSn Ha Hb HB Oa Ob
  have Ha := Ha2
  clear Ha2
  have Hb := Hb2
  clear Hb2
  have HB := HB2
  clear HB2
  have Oa := Oa2
  clear Oa2
  have Ob := Ob2
  clear Ob2
  go_wp2_with (first | go_skip | (refine wpList_load_g 27 _ rfl (by kernel_rfl) w.heap.size rfl Ha.out Tryz.underlying27 rfl (by kernel_rfl) ?_) | (refine wpList_load_g 27 _ rfl (by kernel_rfl) bb rfl Hb.out Tryz.underlying27 rfl (by kernel_rfl) ?_))
  refine (Open_c a _ Oa.out).mono ?_
  rintro e V31 ⟨x, rfl, hxp, hxo, -, hb⟩
  replace HB := Lib.hid (b_then HB.out hb)
  replace Hb := Lib.hid (obj_b hb Hb.out)
  replace Ha := Lib.hid (obj_b hb Ha.out)
  replace Oa := Lib.hid (Oa.out.below hb)
  replace Ob := Lib.hid (Ob.out.below hb)
  clear hb
  have XP := Lib.hid hxp
  have XO := Lib.hid hxo
  clear hxp hxo
  go_wp2_with fail
  refine (showUrl_c x _ XO.out (HG.out.below HB.out)).mono ?_
  rw [XP.out, HF.out]
  rintro e V32 ⟨rfl, hb⟩
  replace HB := Lib.hid (b_then HB.out hb)
  replace Hb := Lib.hid (obj_b hb Hb.out)
  replace Ha := Lib.hid (obj_b hb Ha.out)
  replace Oa := Lib.hid (Oa.out.below hb)
  replace Ob := Lib.hid (Ob.out.below hb)
  replace XO := Lib.hid (XO.out.below hb)
  clear hb
  clear XO XP
  by_cases h1 : p = 1
  · have ht : T = [] := HSELF.out.2.1 h1
    subst ht
    subst h1
    go_wp2
    go_ret
    exact ⟨rfl, HB.out⟩
  obtain ⟨k, hk, hTk, hA, hB⟩ := HSELF.out.2.2 h1
  obtain ⟨x, hx1, _, _, _, hx2, hx3⟩ := strip_safe2 HW.out rfl Oa.out.xn hk
  have hl4 := strip_len2 HW.out k
  rw [← hTk] at hx1 hl4 hA hB
  have hTe : T.isEmpty = false := by
    have := PM.told_ne HW.out k hk
    rw [← hTk] at this
    simpa using this
  have e1 : (p == 1) = false := by simpa using h1
  have HX1 := Lib.hid hx1
  have HX2 := Lib.hid hx2
  have HX3 := Lib.hid hx3
  have HL4 := Lib.hid hl4
  have HAA := Lib.hid hA
  have HBB := Lib.hid hB
  have HTE := Lib.hid hTe
  clear hx1 hx2 hx3 hl4 hA hB hk hTk h1 HSELF
  go_wp2_with fail
  refine (UrlParse_c T (Nat.le_trans HL4.out (by decide)) _ (HG.out.below HB.out) (tabs_below HTB.out HB.out)).mono ?_
  rw [HX1.out]
  unfold ParseR
  rintro e V33 ⟨⟨v, rfl, hvp, hvo⟩, hb⟩
  replace HB := Lib.hid (b_then HB.out hb)
  replace Hb := Lib.hid (obj_b hb Hb.out)
  replace Ha := Lib.hid (obj_b hb Ha.out)
  replace Oa := Lib.hid (Oa.out.below hb)
  replace Ob := Lib.hid (Ob.out.below hb)
  clear hb
  have hvp' : v.pm = x := hvp
  have VOK := Lib.hid (hvo (by have := HX3.out; rw [← hvp'] at this; exact this))
  have VP := Lib.hid hvp'
  clear hvp hvp' hvo
  have HN := Lib.hid (Go.heap_alloc_new V33 (.cells zurl 27))
  unfold zurl at HN 
  go_upto_region 11 with (first | (refine wpList_store_row rfl 27 _ _ rfl V33.heap.size v.cells rfl rfl 27 _ HN.out (by kernel_rfl) rfl (agg_one v) ?_))
  obtain ⟨V34, hV⟩ : ∃ V34, V34 = (V33.alloc (.cells #[.string ⟨#[]⟩, .string ⟨#[]⟩, .string ⟨#[]⟩, .int .i64 0, .string ⟨#[]⟩, .int .i64 0, .int .i64 0, .int .i64 0, .int .i64 0, .int .i64 0, .int .i64 0, .int .i64 0, .int .i64 0, .int .i64 0, .int .i64 0, .slice none 0 0, .string ⟨#[]⟩, .string ⟨#[]⟩, .string ⟨#[]⟩, .bool false, .bool false] 27)).setRow V33.heap.size v.cells := ⟨_, rfl⟩
  have hN : V34.heap[V33.heap.size]? = some (.cells v.cells 27 (0, 0)) := by rw [hV]; exact heap_setRow HN.out _
  have hb : Below V33.heap.size V33 V34 := by rw [hV]; exact below_setRow (b_alloc (Below.refl _ _) _) (Nat.le_refl _) _
  rw [← hV]
  clear hV HN 
  have Hv := Lib.hid hN
  clear hN
  have hlt_bv_Hb : bb < V33.heap.size := h_lt Hb.out
  have hlt_bv_Ha : w.heap.size < V33.heap.size := h_lt Ha.out
  have hlw_bv : w.heap.size ≤ V33.heap.size := HB.out.size
  replace HB := Lib.hid (b_then HB.out hb)
  replace Hb := Lib.hid (obj_b hb Hb.out)
  replace Ha := Lib.hid (obj_b hb Ha.out)
  replace Oa := Lib.hid (Oa.out.below hb)
  replace Ob := Lib.hid (Ob.out.below hb)
  replace VOK := Lib.hid (VOK.out.below hb)
  clear hb
  generalize V33.heap.size = bv at Hv hlt_bv_Hb hlt_bv_Ha hlw_bv ⊢
  (try simp only [Act.put])
  go_wp2_with (first | go_skip | (refine wpList_load_g 27 _ rfl (by kernel_rfl) w.heap.size rfl Ha.out Tryz.underlying27 rfl (by kernel_rfl) ?_) | (refine wpList_load_g 27 _ rfl (by kernel_rfl) bv rfl Hv.out Tryz.underlying27 rfl (by kernel_rfl) ?_))
  refine (Both_c a v _ Oa.out VOK.out (HG.out.below HB.out)).mono ?_
  rw [VP.out, HX2.out]
  rintro e V35 ⟨rfl, hb⟩
  replace HB := Lib.hid (b_then HB.out hb)
  replace Hb := Lib.hid (obj_b hb Hb.out)
  replace Ha := Lib.hid (obj_b hb Ha.out)
  replace Hv := Lib.hid (obj_b hb Hv.out)
  replace Oa := Lib.hid (Oa.out.below hb)
  replace Ob := Lib.hid (Ob.out.below hb)
  replace VOK := Lib.hid (VOK.out.below hb)
  clear hb
  have hl4 : (T.length : Int) ≤ 4096 := by have := HL4.out; omega
  clear e1
  by_cases hc : p = 4 ∨ p = 5 ∨ 4096 < F.length
  · have hle : (T.length : Int) ≤ F.length := by have := HAA.out hc; omega
    by_cases h4 : p = 4
    · subst h4
      clear hc
      go_wp2
      go_ret
      exact ⟨rfl, HB.out⟩
    by_cases h5 : p = 5
    · subst h5
      clear hc h4
      go_wp2
      go_ret
      exact ⟨rfl, HB.out⟩
    have h6 : (4096 : Int) < F.length := by omega
    have e4 : (p == 4) = false := by simpa using h4
    have e5 : (p == 5) = false := by simpa using h5
    clear hc h4 h5
    go_wp2
    go_ret
    exact ⟨rfl, HB.out⟩
  have hTF : T = F := HBB.out hc
  have e4 : (p == 4) = false := by simp; omega
  have e5 : (p == 5) = false := by simp; omega
  have h6 : ¬ (4096 : Int) < F.length := by omega
  clear hc
  subst hTF
  go_wp2
  go_ret
  exact ⟨rfl, HB.out⟩
end Go.Proofs.YtphigjogeejdjaaGreatDoor
/-! The row of ReferSelf. -/
namespace Go.Proofs.YtphigjogeejdjaaGreatDoor
open Go.ChangeShapes Go.WideShapes Go.ChangeAt Go.RowKit
open Go.WideMaps Go.WideElems
open Go.ChangeMaps (open_string shut_string)
theorem referSelf_reads (os : Os) {H : Type} (enc : TypeId × Value → H) : ∃ x, DataW.whole enc Tryz.prog ((laidWorld os).forCall (fun _ _ => 0) ⟨#[], #[.int .i64 0, .agg #[.string ⟨#[]⟩, .string ⟨#[]⟩, .string ⟨#[]⟩, .int .i64 0, .string ⟨#[]⟩, .int .i64 0, .int .i64 0, .int .i64 0, .int .i64 0, .int .i64 0, .int .i64 0, .int .i64 0, .int .i64 0, .int .i64 0, .int .i64 0, .slice none 0 0, .string ⟨#[]⟩, .string ⟨#[]⟩, .string ⟨#[]⟩, .bool false, .bool false], .agg #[.string ⟨#[]⟩, .string ⟨#[]⟩, .string ⟨#[]⟩, .int .i64 0, .string ⟨#[]⟩, .int .i64 0, .int .i64 0, .int .i64 0, .int .i64 0, .int .i64 0, .int .i64 0, .int .i64 0, .int .i64 0, .int .i64 0, .int .i64 0, .slice none 0 0, .string ⟨#[]⟩, .string ⟨#[]⟩, .string ⟨#[]⟩, .bool false, .bool false]], []⟩).memory Tryz.f12.params.toList Rows.referSelfSpec.vars false (#[.int .i64 0, .agg #[.string ⟨#[]⟩, .string ⟨#[]⟩, .string ⟨#[]⟩, .int .i64 0, .string ⟨#[]⟩, .int .i64 0, .int .i64 0, .int .i64 0, .int .i64 0, .int .i64 0, .int .i64 0, .int .i64 0, .int .i64 0, .int .i64 0, .int .i64 0, .slice none 0 0, .string ⟨#[]⟩, .string ⟨#[]⟩, .string ⟨#[]⟩, .bool false, .bool false], .agg #[.string ⟨#[]⟩, .string ⟨#[]⟩, .string ⟨#[]⟩, .int .i64 0, .string ⟨#[]⟩, .int .i64 0, .int .i64 0, .int .i64 0, .int .i64 0, .int .i64 0, .int .i64 0, .int .i64 0, .int .i64 0, .int .i64 0, .int .i64 0, .slice none 0 0, .string ⟨#[]⟩, .string ⟨#[]⟩, .string ⟨#[]⟩, .bool false, .bool false]] : Array Value).toList 8 = some x :=
  Option.isSome_iff_exists.1 (by kernel_rfl)
set_option maxRecDepth 100000 in
theorem referSelf_lifted (os : Os) (started : os.Started) (H : Type) (enc : TypeId × Value → H) (F : Stop.Interp) :
    ReturnsInHanded {} Tryz.checked os 12 .any ((OpenSpec.ofChange Rows.referSelfSpec).preRow enc Tryz.prog Tryz.f12 Rows.referSelfRow.domain false Rows.referSelfRow.laid) (((OpenSpec.ofChange Rows.referSelfSpec).at F).post enc Tryz.prog Tryz.f12 false true false false) := by
  obtain ⟨x, hx⟩ := referSelf_reads os enc
  refine returnsInHanded_of_row (C := Tryz.checked) (s := OpenSpec.ofChange Rows.referSelfSpec) own started (by kernel_rfl) Tryz.func12
    (witness_row_atRef (enc := enc) (C := Tryz.checked) false (laidWorld os) #[.int .i64 0, .agg #[.string ⟨#[]⟩, .string ⟨#[]⟩, .string ⟨#[]⟩, .int .i64 0, .string ⟨#[]⟩, .int .i64 0, .int .i64 0, .int .i64 0, .int .i64 0, .int .i64 0, .int .i64 0, .int .i64 0, .int .i64 0, .int .i64 0, .int .i64 0, .slice none 0 0, .string ⟨#[]⟩, .string ⟨#[]⟩, .string ⟨#[]⟩, .bool false, .bool false], .agg #[.string ⟨#[]⟩, .string ⟨#[]⟩, .string ⟨#[]⟩, .int .i64 0, .string ⟨#[]⟩, .int .i64 0, .int .i64 0, .int .i64 0, .int .i64 0, .int .i64 0, .int .i64 0, .int .i64 0, .int .i64 0, .int .i64 0, .int .i64 0, .slice none 0 0, .string ⟨#[]⟩, .string ⟨#[]⟩, .string ⟨#[]⟩, .bool false, .bool false]] rfl (by kernel_rfl) (by kernel_rfl) (by kernel_rfl)
      (OpenSpec.preRow_of_cond 8 hx rfl (fun k hk => by cases hk) (by kernel_rfl) (laid_met os _))) ?_
  intro W base args ds gs before hval0 hW _ _ _ hL hsh _
  have hval : ∀ (j : Nat) t v, Tryz.f12.params[j]? = some t → args[j]? = some v → Value.okWide Tryz.prog W .any base t v := hval0
  have hW' := hW
  obtain ⟨p, q, hA0, hV, rfl, hfz, hnd⟩ := hW
  have hA : DataW.TrodAll enc Tryz.prog W 0 (fun _ => true) true Tryz.f12.params.toList args.toList ds p := hA0
  rw [Tryz.params12] at hA hval
  obtain ⟨v0, v1, v2, d0, d1, d2, p0, p1, p2, rfl, rfl, rfl, h0, h1, h2⟩ := trodAll_three hA
  obtain ⟨rfl, rfl⟩ := trodVars_none hV
  simp only [List.append_nil] at hfz hnd hW'
  have hlt : ∀ x ∈ p0 ++ p1 ++ p2, x.block < W.heap.size := fun x hx => hW'.lt x hx
  have h0k := h0
  obtain ⟨n0, e0, _, _, w0⟩ := open_int Tryz.underlying3 (hval 0 3 v0 rfl rfl) h0
  subst e0
  have h1k := h1
  obtain ⟨u1, rfl, hr1⟩ := open_url (hval 1 27 v1 rfl rfl) h1
  have h2k := h2
  obtain ⟨u2, rfl, hr2⟩ := open_url (hval 2 27 v2 rfl rfl) h2
  refine (ReferSelf_c n0 u1 u2 W hr1 hr2 (gl_of hsh) (tabs_laid hL)).mono fun e W' ⟨he, hb⟩ => ?_
  subst he
  refine ⟨_, rfl, _, _, _, [], p0 ++ p1 ++ p2, [], hW', ?_, ?_, ?_, hb.frame _, fun h => by cases h⟩
  · exact trodAll_mk1 (shut_bool Tryz.underlying4 _)
  · have h3 := trodAll_mk3 (Below.trod laidOut (by kernel_rfl) (of_decide_eq_true (by kernel_rfl)) h0k hb (fun x hx => hlt x (by simp [hx]))) (Below.trod laidOut (by kernel_rfl) (of_decide_eq_true (by kernel_rfl)) h1k hb (fun x hx => hlt x (by simp [hx]))) (Below.trod laidOut (by kernel_rfl) (of_decide_eq_true (by kernel_rfl)) h2k hb (fun x hx => hlt x (by simp [hx])))
    rw [← List.append_assoc] at h3
    exact h3
  · rfl
theorem referSelf_k0 : Rows.referSelfRow.wf (OpenSpec.ofChange (OpenSpec.ofChange Rows.referSelfSpec).bare) = true := by kernel_rfl
theorem referSelf_k3 : Tryz.f12.params.all (PP.readableRec ·) = true := by kernel_rfl
theorem referSelf_k4 : namedTie PP Rows.referSelfRow.named (OpenSpec.ofChange Rows.referSelfSpec).bare.vars = true := by kernel_rfl
theorem referSelf_k5 : (Rows.referSelfRow.stops == []) = true := by kernel_rfl
theorem referSelf_k7 : (Rows.referSelfRow.knobs == []) = true := by kernel_rfl
theorem referSelf_k9 : (Rows.referSelfRow.inPlace == PP.inPlace 12) = true := by kernel_rfl
theorem referSelf_k10 : (Rows.referSelfRow.unfollowed == PP.unfollowed 12) = true := by kernel_rfl
theorem referSelf_k11 : (Rows.referSelfRow.recurses == PP.recurses 12) = true := by kernel_rfl
theorem referSelf_k12 : (Rows.referSelfRow.named == PP.varsNamed 12) = true := by kernel_rfl
theorem referSelf_k13 : (Rows.referSelfRow.maps == (Tryz.f12.params.toList ++ (OpenSpec.ofChange Rows.referSelfSpec).bare.plain.varTypes PP).any (PP.mapsRec ·)) = true := by kernel_rfl
theorem referSelf_k14 : (Rows.referSelfRow.ifaces == (Tryz.f12.params.toList ++ (OpenSpec.ofChange Rows.referSelfSpec).bare.plain.varTypes PP).any (PP.ifacesRec ·)) = true := by kernel_rfl
theorem referSelf_k15 : (Rows.referSelfRow.mapsOut == PP.mapsAmong Tryz.f12.resultTypes.toList) = true := by kernel_rfl
theorem referSelf_k16 : (Rows.referSelfRow.loops == (Tryz.f12.params.toList ++ (OpenSpec.ofChange Rows.referSelfSpec).bare.plain.varTypes PP).any (PP.loopsFrom ·)) = true := by kernel_rfl
theorem referSelf_k17 : (Rows.referSelfRow.wideKeys == (Tryz.f12.params.toList ++ (OpenSpec.ofChange Rows.referSelfSpec).bare.plain.varTypes PP ++ Tryz.f12.resultTypes.toList).any (PP.wideKeysFrom ·)) = true := by kernel_rfl
theorem referSelf_k18 : (OpenSpec.ofChange Rows.referSelfSpec).bare.vars.all (PP.varReadable ·) = true := by kernel_rfl
theorem referSelf_k19 : Tryz.f12.resultTypes.all (fun t => PP.readableRec t && decide (t < PP.types.size)) = true := by kernel_rfl
theorem referSelf_k20 : (Rows.referSelfRow.ifacesOut == Tryz.f12.resultTypes.toList.any (PP.ifacesRec ·)) = true := by kernel_rfl
theorem referSelf_k21 : (Rows.referSelfRow.loopsOut == Tryz.f12.resultTypes.toList.any (PP.loopsFrom ·)) = true := by kernel_rfl
theorem referSelf_k23 : Rows.referSelfRow.shortTexts.isNone = true := by kernel_rfl
theorem referSelf_k28 : (Rows.referSelfRow.kinds == (if Rows.referSelfRow.domain.isEmpty then [] else Tryz.f12.params.toList.map fun t => match PP.underlying t with | some (.int k) => some k | _ => none)) = true := by kernel_rfl
theorem referSelf_k29 : (Rows.referSelfRow.pinned == Rows.referSelfRow.pinnedBy) = true := by kernel_rfl
theorem referSelf_k30 : (Rows.referSelfRow.veiled == (Tryz.f12.params.toList ++ (OpenSpec.ofChange Rows.referSelfSpec).bare.plain.varTypes PP ++ Tryz.f12.resultTypes.toList).any (PP.veiledRec ·)) = true := by kernel_rfl
theorem referSelf_k31 : Rows.referSelfRow.veiledFits PP Tryz.f12.params.toList (Tryz.f12.params.toList ++ (OpenSpec.ofChange Rows.referSelfSpec).bare.plain.varTypes PP ++ Tryz.f12.resultTypes.toList) = true := by kernel_rfl
set_option maxRecDepth 100000 in
theorem referSelf_closed : joinedFacts PP 12 Tryz.f12 (OpenSpec.ofChange Rows.referSelfSpec).bare Rows.referSelfRow = true := and2 (and2 (and2 (and2 (and2 (and2 (and2 (and2 (and2 (and2 (and2 (and2 (and2 (and2 (and2 (and2 (and2 (and2 (and2 (and2 (and2 (and2 (and2 (and2 (and2 (and2 (and2 (and2 (and2 (and2 (and2 (referSelf_k0) j_laidOut) j_rowed) referSelf_k3) referSelf_k4) referSelf_k5) j_stops) referSelf_k7) j_knobs) referSelf_k9) referSelf_k10) referSelf_k11) referSelf_k12) referSelf_k13) referSelf_k14) referSelf_k15) referSelf_k16) referSelf_k17) referSelf_k18) referSelf_k19) referSelf_k20) referSelf_k21) j_plain) referSelf_k23) j_heard) j_enter) j_lift) j_make) referSelf_k28) referSelf_k29) referSelf_k30) referSelf_k31
theorem referSelf_named : Tryz.pinned.checked.prog.funcNamed Rows.referSelfRow.func = some 12 := by kernel_rfl
theorem referSelf_text : Rows.referSelfRow.wfByText (OpenSpec.ofChange Rows.referSelfSpec) = true := by kernel_rfl
theorem referSelf_goes : false = Rows.referSelfRow.goesBy Tryz.pinned.checked.prog := by kernel_rfl
theorem referSelf_said : Rows.ReferSelfSaid :=
  OpenClaim.holds_of_cond 12 Tryz.f12 rfl rfl rfl rfl rfl rfl rfl ⟨rfl, rfl, rfl, rfl, rfl⟩ rfl rfl rfl rfl rfl referSelf_named Tryz.func12 referSelf_closed
    (of_decide_eq_true (by kernel_rfl)) (by unfold Func.isWrapper; first | (rw [if_pos (by decide +kernel)]; kernel_rfl) | (rw [if_neg (by decide +kernel)]; exact ⟨rfl, rfl⟩))
    (fun os started H enc _ F => by rw [OpenClaim.pre_eq_preRow]; exact referSelf_lifted os started H enc F)
theorem referSelf_plain (f : FuncId) (fn : Func) (hf : Tryz.pinned.checked.prog.funcNamed "postmark/postmarklaw17.ReferSelf" = some f) (hfn : Tryz.pinned.checked.prog.funcs[f]? = some fn) :
    true = Tryz.pinned.checked.prog.looks [] ∧ ∀ (j : Nat) t, fn.params[j]? = some t → Tryz.pinned.checked.prog.wantsStandIn t = false := by
  obtain rfl : f = 12 := Option.some.inj ((show Tryz.prog.funcNamed "postmark/postmarklaw17.ReferSelf" = some 12 by kernel_rfl).symm.trans hf) |>.symm
  obtain rfl : fn = Tryz.f12 := (Option.some.inj (Tryz.func12.symm.trans hfn)).symm
  refine ⟨by kernel_rfl, fun j t ht => ?_⟩
  rw [Tryz.params12] at ht
  have hm := Array.mem_of_getElem? ht
  simp only [Array.mem_def, List.mem_cons, List.not_mem_nil, or_false] at hm
  rcases hm with rfl | rfl | rfl
  · exact (show Tryz.prog.wantsStandIn 3 = false by kernel_rfl)
  · exact (show Tryz.prog.wantsStandIn 27 = false by kernel_rfl)
  · exact (show Tryz.prog.wantsStandIn 27 = false by kernel_rfl)
theorem referSelf_holds : Rows.ReferSelfCardSaid :=
  Claim7.holds_tied_plain_at .later [] _ _ _ _ referSelf_said (fun _ h => by cases h) referSelf_text (fun _ h => by cases h) referSelf_row_tie rfl ⟨rfl, rfl⟩ j_main rfl referSelf_plain referSelf_goes
#print axioms referSelf_holds
end Go.Proofs.YtphigjogeejdjaaGreatDoor
