/-
PlaceMay: whatever comes in, the law's call returns true, and the arguments read behind the call as they did before; no condition on them. The row lists the two tables of unicode/utf8 (first, acceptRanges); the card ties them.
-/
import Derived.Test.YtppbkblnjlbnfaaGreatDoorTz
import Derived.Test.YtppbkblnjlbnfaaGreatDoorPq
set_option linter.unusedVariables false
set_option linter.unusedSimpArgs false
/-! The walk of PlaceMay. -/
namespace Go.Proofs.YtppbkblnjlbnfaaGreatDoor
open Go.RowKit
set_option maxRecDepth 100000 in
set_option maxHeartbeats 16000000 in
theorem PlaceMayL_c (a0 : Option Addr) (n0 k0 : Nat) (f0 : PM.Fs) (cur : UV) (w : World) (hrf : RdFW w a0 n0 f0) (hk0 : n0 ≤ k0) (hrcur : RdW w cur.a cur.pn cur.xs) (hg : Gl w) (hT : Lib.Utf8Tabs 2 3 w) : Calls Tryz.prog 14 #[.slice a0 n0 k0, .agg cur.cells] w fun e w' => e = .returned (.bool true) ∧ Below w.heap.size w w' := by
  have HG := Lib.hid hg
  have HTB := Lib.hid hT
  have Rcur := Lib.hid hrcur
  have Rf := Lib.hid hrf
  clear hg hT hrcur hrf
  have HB : Hid (Below w.heap.size w (w.alloc (.cells cur.cells 27))) := Lib.hid (b_alloc (Below.refl _ _) _)
  have Hcur : Hid ((w.alloc (.cells cur.cells 27)).heap[w.heap.size]? = some (.cells cur.cells 27 (0, 0))) := Lib.hid ((by have h := Go.heap_alloc_new w (.cells cur.cells 27); simpa using h))
  go_enter Tryz.func14, Tryz.ntmps14
  go_upto_region 1 with fail
  generalize w.alloc (.cells cur.cells 27) = V0 at HB Hcur ⊢
  go_wp2_with fail
  refine (awake18_c _ (HG.out.below HB.out) (tabs_below HTB.out HB.out)).mono ?_
  rintro e V1 ⟨rfl, hb⟩
  replace HB := Lib.hid (b_then HB.out hb)
  replace Hcur := Lib.hid (obj_b hb Hcur.out)
  clear hb
  go_wp2_with fail
  refine (Few13_c a0 n0 k0 f0 _ (Rf.out.below HB.out)).mono ?_
  rintro e V30 ⟨rfl, rfl⟩
  go_wp2_with (first | go_skip | (refine wpList_load_g 27 _ rfl (by kernel_rfl) w.heap.size rfl Hcur.out Tryz.underlying27 rfl (by kernel_rfl) ?_))
  refine (Few_c cur _ (Rcur.out.below HB.out)).mono ?_
  rintro e V2 ⟨rfl, hb⟩
  replace HB := Lib.hid (b_then HB.out hb)
  replace Hcur := Lib.hid (obj_b hb Hcur.out)
  clear hb
  cases hf13 : PM.few13 f0
  · go_wp2
    go_ret
    exact ⟨rfl, HB.out⟩
  have FF := Lib.hid (few13_ok hf13 Rf.out)
  clear hf13
  cases hfc : PM.few cur.pm
  · go_wp2
    go_ret
    exact ⟨rfl, HB.out⟩
  have Ocur := Lib.hid (few_ok (Rcur.out.below HB.out) hfc)
  have Fcur := Lib.hid hfc
  have Ncur : Hid (cur.xs.length ≤ 900) := Lib.hid (few_path hfc).1
  clear hfc
  obtain ⟨⟨p, k⟩, hpk⟩ : ∃ x, PM.placeP f0 cur.pm = x := ⟨_, rfl⟩
  have HPK := Lib.hid hpk
  clear hpk
  go_wp2_with (first | go_skip | (refine wpList_load_g 27 _ rfl (by kernel_rfl) w.heap.size rfl Hcur.out Tryz.underlying27 rfl (by kernel_rfl) ?_))
  refine (Place_sm_c a0 n0 k0 f0 cur _ (Rf.out.below HB.out) (Nat.le_trans FF.out.1 (by decide)) FF.out.2 Ocur.out Ncur.out (HG.out.below HB.out) (tabs_below HTB.out HB.out)).mono ?_
  rw [HPK.out]
  rintro e V3 ⟨⟨u, rfl, hxp, hxo⟩, hb⟩
  have Pu := Lib.hid hxp
  have Ou := Lib.hid hxo
  clear hxp hxo
  replace HB := Lib.hid (b_then HB.out hb)
  replace Hcur := Lib.hid (obj_b hb Hcur.out)
  replace Ocur := Lib.hid (Ocur.out.below hb)
  clear hb
  have HN := Lib.hid (Go.heap_alloc_new V3 (.cells zurl 27))
  unfold zurl at HN 
  go_upto_region 7 with (first | (refine wpList_store_row rfl 27 _ _ rfl V3.heap.size u.cells rfl rfl 27 _ HN.out (by kernel_rfl) rfl (agg_one u) ?_))
  obtain ⟨V4, hV⟩ : ∃ V4, V4 = (V3.alloc (.cells #[.string ⟨#[]⟩, .string ⟨#[]⟩, .string ⟨#[]⟩, .int .i64 0, .string ⟨#[]⟩, .int .i64 0, .int .i64 0, .int .i64 0, .int .i64 0, .int .i64 0, .int .i64 0, .int .i64 0, .int .i64 0, .int .i64 0, .int .i64 0, .slice none 0 0, .string ⟨#[]⟩, .string ⟨#[]⟩, .string ⟨#[]⟩, .bool false, .bool false] 27)).setRow V3.heap.size u.cells := ⟨_, rfl⟩
  have hN : V4.heap[V3.heap.size]? = some (.cells u.cells 27 (0, 0)) := by rw [hV]; exact heap_setRow HN.out _
  have hb : Below V3.heap.size V3 V4 := by rw [hV]; exact below_setRow (b_alloc (Below.refl _ _) _) (Nat.le_refl _) _
  rw [← hV]
  clear hV HN 
  have Hu := Lib.hid hN
  clear hN
  have hlt_bu_Hcur : w.heap.size < V3.heap.size := h_lt Hcur.out
  have hlw_bu : w.heap.size ≤ V3.heap.size := HB.out.size
  replace HB := Lib.hid (b_then HB.out hb)
  replace Hcur := Lib.hid (obj_b hb Hcur.out)
  replace Ocur := Lib.hid (Ocur.out.below hb)
  replace Ou := Lib.hid (Ou.out.below hb)
  clear hb
  generalize V3.heap.size = bu at Hu hlt_bu_Hcur hlw_bu ⊢
  (try simp only [Act.put])
  go_wp2_with (first | go_skip | (refine wpList_load_g 27 _ rfl (by kernel_rfl) bu rfl Hu.out Tryz.underlying27 rfl (by kernel_rfl) ?_) | (refine wpList_load_g 27 _ rfl (by kernel_rfl) w.heap.size rfl Hcur.out Tryz.underlying27 rfl (by kernel_rfl) ?_))
  refine (show Calls Tryz.prog 23 #[.slice a0 n0 k0, .string (mkS PM.LOC)] _ _ from Get_c a0 n0 k0 f0 PM.LOC _ (Rf.out.below HB.out) (Nat.le_trans FF.out.1 (by decide)) (by decide) (fun f hf => ⟨Nat.le_trans (FF.out.2 f hf).1 (by decide), Nat.le_trans (FF.out.2 f hf).2 (by decide)⟩)).mono ?_
  rintro e V5 ⟨⟨j, rfl⟩, hb⟩
  replace HB := Lib.hid (b_then HB.out hb)
  replace Hcur := Lib.hid (obj_b hb Hcur.out)
  replace Hu := Lib.hid (obj_b hb Hu.out)
  replace Ocur := Lib.hid (Ocur.out.below hb)
  replace Ou := Lib.hid (Ou.out.below hb)
  clear hb
  have hN := hasN_all f0 PM.LOC
  have HN := Lib.hid hN
  clear hN
  obtain ⟨b, hb⟩ : ∃ b, PM.hasN f0 PM.LOC = b := ⟨_, rfl⟩
  rw [hb] at HN
  have HBB := Lib.hid hb
  rw [HBB.out]
  clear hb
  have hz : k ≠ 1 → (p = PM.zeroUrl ∧ (k = 0 ∧ b = false ∨ k = 2 ∧ b = true)) := fun h => by
    have h1 := PM.place_no (l := f0) (cur := cur.pm) (by rw [HPK.out]; exact h)
    rw [HPK.out] at h1
    refine ⟨h1.1, ?_⟩
    rcases h1.2 with ⟨h2, h3⟩ | ⟨h2, h3⟩
    · exact .inl ⟨h2, by rw [HN.out, h3]; rfl⟩
    · exact .inr ⟨h2, by rw [HN.out]; have := List.length_pos_iff.2 h3; exact decide_eq_true (by omega)⟩
  have hy : k = 1 → (b = true ∧ PM.urlMay p = true ∧ (cur.hf = true → p.hasFrag = true) ∧ PM.urlMay cur.pm = true) := fun h => by
    have h1 := PM.place_yes (l := f0) (cur := cur.pm) (by rw [HPK.out]; exact h) rfl
    rw [HPK.out] at h1
    exact ⟨by rw [HN.out]; have := List.length_pos_iff.2 h1.1; exact decide_eq_true (by omega), h1.2.1, h1.2.2.1, h1.2.2.2⟩
  have HZ := Lib.hid hz
  have HY := Lib.hid hy
  clear hz hy
  by_cases hk : k = 1
  · subst hk
    obtain ⟨rfl, hm, hfr, hmc⟩ := HY.out rfl
    have HM := Lib.hid hm
    have HMC := Lib.hid hmc
    have HFR := Lib.hid hfr
    clear hm hfr hmc
    go_wp2_with (first | go_skip | (refine wpList_load_g 27 _ rfl (by kernel_rfl) bu rfl Hu.out Tryz.underlying27 rfl (by kernel_rfl) ?_) | (refine wpList_load_g 27 _ rfl (by kernel_rfl) w.heap.size rfl Hcur.out Tryz.underlying27 rfl (by kernel_rfl) ?_))
    refine (urlMay_c u _ Ou.out (HG.out.below HB.out)).mono ?_
    rw [Pu.out, HM.out]
    rintro e V6 ⟨rfl, hb⟩
    replace HB := Lib.hid (b_then HB.out hb)
    replace Hcur := Lib.hid (obj_b hb Hcur.out)
    replace Hu := Lib.hid (obj_b hb Hu.out)
    replace Ocur := Lib.hid (Ocur.out.below hb)
    replace Ou := Lib.hid (Ou.out.below hb)
    clear hb
    have hpf : u.hf = p.hasFrag := by rw [← Pu.out]; rfl
    have c20 : V6.cell? ⟨w.heap.size, 20, none⟩ = some (.bool cur.hf) := by rw [Lib.cell_of_heap Hcur.out]; rfl
    have d20 : V6.cell? ⟨bu, 20, none⟩ = some (.bool p.hasFrag) := by rw [Lib.cell_of_heap Hu.out, ← hpf]; rfl
    clear hpf
    have hor : cur.hf = false ∨ p.hasFrag = true := by cases h : cur.hf; exact .inl rfl; exact .inr (HFR.out h)
    clear HFR
    obtain ⟨cf, hcf⟩ : ∃ cf, cur.hf = cf := ⟨_, rfl⟩
    obtain ⟨pf, hpf⟩ : ∃ pf, p.hasFrag = pf := ⟨_, rfl⟩
    rw [hcf] at c20 hor
    rw [hpf] at d20 hor
    clear hcf hpf
    rcases hor with rfl | rfl
    · skip
      go_wp2_with (first | go_skip | (refine wpList_load_g 27 _ rfl (by kernel_rfl) bu rfl Hu.out Tryz.underlying27 rfl (by kernel_rfl) ?_) | (refine wpList_load_g 27 _ rfl (by kernel_rfl) w.heap.size rfl Hcur.out Tryz.underlying27 rfl (by kernel_rfl) ?_))
      refine (urlMay_c cur _ Ocur.out (HG.out.below HB.out)).mono ?_
      rw [HMC.out]
      clear c20 d20
      rintro e V7 ⟨rfl, hb⟩
      replace HB := Lib.hid (b_then HB.out hb)
      replace Hcur := Lib.hid (obj_b hb Hcur.out)
      replace Hu := Lib.hid (obj_b hb Hu.out)
      replace Ocur := Lib.hid (Ocur.out.below hb)
      replace Ou := Lib.hid (Ou.out.below hb)
      clear hb
      go_wp2
      go_ret
      exact ⟨rfl, HB.out⟩
    · skip
      cases cf
      · skip
        go_wp2_with (first | go_skip | (refine wpList_load_g 27 _ rfl (by kernel_rfl) bu rfl Hu.out Tryz.underlying27 rfl (by kernel_rfl) ?_) | (refine wpList_load_g 27 _ rfl (by kernel_rfl) w.heap.size rfl Hcur.out Tryz.underlying27 rfl (by kernel_rfl) ?_))
        refine (urlMay_c cur _ Ocur.out (HG.out.below HB.out)).mono ?_
        rw [HMC.out]
        clear c20 d20
        rintro e V7 ⟨rfl, hb⟩
        replace HB := Lib.hid (b_then HB.out hb)
        replace Hcur := Lib.hid (obj_b hb Hcur.out)
        replace Hu := Lib.hid (obj_b hb Hu.out)
        replace Ocur := Lib.hid (Ocur.out.below hb)
        replace Ou := Lib.hid (Ou.out.below hb)
        clear hb
        go_wp2
        go_ret
        exact ⟨rfl, HB.out⟩
      · skip
        go_wp2_with (first | go_skip | (refine wpList_load_g 27 _ rfl (by kernel_rfl) bu rfl Hu.out Tryz.underlying27 rfl (by kernel_rfl) ?_) | (refine wpList_load_g 27 _ rfl (by kernel_rfl) w.heap.size rfl Hcur.out Tryz.underlying27 rfl (by kernel_rfl) ?_))
        refine (urlMay_c cur _ Ocur.out (HG.out.below HB.out)).mono ?_
        rw [HMC.out]
        clear c20 d20
        rintro e V7 ⟨rfl, hb⟩
        replace HB := Lib.hid (b_then HB.out hb)
        replace Hcur := Lib.hid (obj_b hb Hcur.out)
        replace Hu := Lib.hid (obj_b hb Hu.out)
        replace Ocur := Lib.hid (Ocur.out.below hb)
        replace Ou := Lib.hid (Ou.out.below hb)
        clear hb
        go_wp2
        go_ret
        exact ⟨rfl, HB.out⟩
  obtain ⟨rfl, hkk⟩ := HZ.out hk
  have hzo := zero_ok
  have HZO := Lib.hid hzo
  clear hzo hk
  rcases hkk with ⟨rfl, rfl⟩ | ⟨rfl, rfl⟩
  · skip
    go_wp2_with (first | go_skip | (refine wpList_load_g 27 _ rfl (by kernel_rfl) bu rfl Hu.out Tryz.underlying27 rfl (by kernel_rfl) ?_) | (refine wpList_load_g 27 _ rfl (by kernel_rfl) w.heap.size rfl Hcur.out Tryz.underlying27 rfl (by kernel_rfl) ?_))
    refine (UrlSame_c u uz _ Ou.out (HZO.out _)).mono ?_
    rw [Pu.out, zero_pm, same_self]
    rintro e V6 ⟨rfl, hb⟩
    replace HB := Lib.hid (b_then HB.out hb)
    replace Hcur := Lib.hid (obj_b hb Hcur.out)
    replace Hu := Lib.hid (obj_b hb Hu.out)
    replace Ocur := Lib.hid (Ocur.out.below hb)
    replace Ou := Lib.hid (Ou.out.below hb)
    clear hb
    go_wp2
    go_ret
    exact ⟨rfl, HB.out⟩
  · skip
    go_wp2_with (first | go_skip | (refine wpList_load_g 27 _ rfl (by kernel_rfl) bu rfl Hu.out Tryz.underlying27 rfl (by kernel_rfl) ?_) | (refine wpList_load_g 27 _ rfl (by kernel_rfl) w.heap.size rfl Hcur.out Tryz.underlying27 rfl (by kernel_rfl) ?_))
    refine (UrlSame_c u uz _ Ou.out (HZO.out _)).mono ?_
    rw [Pu.out, zero_pm, same_self]
    rintro e V6 ⟨rfl, hb⟩
    replace HB := Lib.hid (b_then HB.out hb)
    replace Hcur := Lib.hid (obj_b hb Hcur.out)
    replace Hu := Lib.hid (obj_b hb Hu.out)
    replace Ocur := Lib.hid (Ocur.out.below hb)
    replace Ou := Lib.hid (Ou.out.below hb)
    clear hb
    go_wp2
    go_ret
    exact ⟨rfl, HB.out⟩
end Go.Proofs.YtppbkblnjlbnfaaGreatDoor
/-! The row of PlaceMay. -/
namespace Go.Proofs.YtppbkblnjlbnfaaGreatDoor
open Go.ChangeShapes Go.WideShapes Go.ChangeAt Go.RowKit
open Go.WideMaps Go.WideElems
open Go.ChangeMaps (open_string shut_string)
theorem placeMay_reads (os : Os) {H : Type} (enc : TypeId × Value → H) : ∃ x, DataW.whole enc Tryz.prog ((laidWorld os).forCall (fun _ _ => 0) ⟨#[], #[.slice none 0 0, .agg #[.string ⟨#[]⟩, .string ⟨#[]⟩, .string ⟨#[]⟩, .int .i64 0, .string ⟨#[]⟩, .int .i64 0, .int .i64 0, .int .i64 0, .int .i64 0, .int .i64 0, .int .i64 0, .int .i64 0, .int .i64 0, .int .i64 0, .int .i64 0, .slice none 0 0, .string ⟨#[]⟩, .string ⟨#[]⟩, .string ⟨#[]⟩, .bool false, .bool false]], []⟩).memory Tryz.f14.params.toList Rows.placeMaySpec.vars false (#[.slice none 0 0, .agg #[.string ⟨#[]⟩, .string ⟨#[]⟩, .string ⟨#[]⟩, .int .i64 0, .string ⟨#[]⟩, .int .i64 0, .int .i64 0, .int .i64 0, .int .i64 0, .int .i64 0, .int .i64 0, .int .i64 0, .int .i64 0, .int .i64 0, .int .i64 0, .slice none 0 0, .string ⟨#[]⟩, .string ⟨#[]⟩, .string ⟨#[]⟩, .bool false, .bool false]] : Array Value).toList 8 = some x :=
  Option.isSome_iff_exists.1 (by kernel_rfl)
set_option maxRecDepth 100000 in
theorem placeMay_lifted (os : Os) (started : os.Started) (H : Type) (enc : TypeId × Value → H) (F : Stop.Interp) :
    ReturnsInHanded {} Tryz.checked os 14 .any ((OpenSpec.ofChange Rows.placeMaySpec).preRow enc Tryz.prog Tryz.f14 Rows.placeMayRow.domain false Rows.placeMayRow.laid) (((OpenSpec.ofChange Rows.placeMaySpec).at F).post enc Tryz.prog Tryz.f14 false true false false) := by
  obtain ⟨x, hx⟩ := placeMay_reads os enc
  refine returnsInHanded_of_row (C := Tryz.checked) (s := OpenSpec.ofChange Rows.placeMaySpec) own started (by kernel_rfl) Tryz.func14
    (witness_row_atRef (enc := enc) (C := Tryz.checked) false (laidWorld os) #[.slice none 0 0, .agg #[.string ⟨#[]⟩, .string ⟨#[]⟩, .string ⟨#[]⟩, .int .i64 0, .string ⟨#[]⟩, .int .i64 0, .int .i64 0, .int .i64 0, .int .i64 0, .int .i64 0, .int .i64 0, .int .i64 0, .int .i64 0, .int .i64 0, .int .i64 0, .slice none 0 0, .string ⟨#[]⟩, .string ⟨#[]⟩, .string ⟨#[]⟩, .bool false, .bool false]] rfl (by kernel_rfl) (by kernel_rfl) (by kernel_rfl)
      (OpenSpec.preRow_of_cond 8 hx rfl (fun k hk => by cases hk) (by kernel_rfl) (laid_met os _))) ?_
  intro W base args ds gs before hval0 hW _ _ _ hL hsh _
  have hval : ∀ (j : Nat) t v, Tryz.f14.params[j]? = some t → args[j]? = some v → Value.okWide Tryz.prog W .any base t v := hval0
  have hW' := hW
  obtain ⟨p, q, hA0, hV, rfl, hfz, hnd⟩ := hW
  have hA : DataW.TrodAll enc Tryz.prog W 0 (fun _ => true) true Tryz.f14.params.toList args.toList ds p := hA0
  rw [Tryz.params14] at hA hval
  obtain ⟨v0, v1, d0, d1, p0, p1, rfl, rfl, rfl, h0, h1⟩ := trodAll_two hA
  obtain ⟨rfl, rfl⟩ := trodVars_none hV
  simp only [List.append_nil] at hfz hnd hW'
  have hlt : ∀ x ∈ p0 ++ p1, x.block < W.heap.size := fun x hx => hW'.lt x hx
  have h0k := h0
  obtain ⟨a0, n0, k0, f0, rfl, hr0, hk0⟩ := open_fields (hval 0 28 v0 rfl rfl) h0
  have h1k := h1
  obtain ⟨u1, rfl, hr1⟩ := open_url (hval 1 27 v1 rfl rfl) h1
  refine (PlaceMayL_c a0 n0 k0 f0 u1 W hr0 hk0 hr1 (gl_of hsh) (tabs_laid hL)).mono fun e W' ⟨he, hb⟩ => ?_
  subst he
  refine ⟨_, rfl, _, _, _, [], p0 ++ p1, [], hW', ?_, ?_, ?_, hb.frame _, fun h => by cases h⟩
  · exact trodAll_mk1 (shut_bool Tryz.underlying4 _)
  · exact trodAll_mk2 (Below.trod laidOut (by kernel_rfl) (of_decide_eq_true (by kernel_rfl)) h0k hb (fun x hx => hlt x (by simp [hx]))) (Below.trod laidOut (by kernel_rfl) (of_decide_eq_true (by kernel_rfl)) h1k hb (fun x hx => hlt x (by simp [hx])))
  · rfl
theorem placeMay_k0 : Rows.placeMayRow.wf (OpenSpec.ofChange (OpenSpec.ofChange Rows.placeMaySpec).bare) = true := by kernel_rfl
theorem placeMay_k3 : Tryz.f14.params.all (PP.readableRec ·) = true := by kernel_rfl
theorem placeMay_k4 : namedTie PP Rows.placeMayRow.named (OpenSpec.ofChange Rows.placeMaySpec).bare.vars = true := by kernel_rfl
theorem placeMay_k5 : (Rows.placeMayRow.stops == []) = true := by kernel_rfl
theorem placeMay_k7 : (Rows.placeMayRow.knobs == []) = true := by kernel_rfl
theorem placeMay_k9 : (Rows.placeMayRow.inPlace == PP.inPlace 14) = true := by kernel_rfl
theorem placeMay_k10 : (Rows.placeMayRow.unfollowed == PP.unfollowed 14) = true := by kernel_rfl
theorem placeMay_k11 : (Rows.placeMayRow.recurses == PP.recurses 14) = true := by kernel_rfl
theorem placeMay_k12 : (Rows.placeMayRow.named == PP.varsNamed 14) = true := by kernel_rfl
theorem placeMay_k13 : (Rows.placeMayRow.maps == (Tryz.f14.params.toList ++ (OpenSpec.ofChange Rows.placeMaySpec).bare.plain.varTypes PP).any (PP.mapsRec ·)) = true := by kernel_rfl
theorem placeMay_k14 : (Rows.placeMayRow.ifaces == (Tryz.f14.params.toList ++ (OpenSpec.ofChange Rows.placeMaySpec).bare.plain.varTypes PP).any (PP.ifacesRec ·)) = true := by kernel_rfl
theorem placeMay_k15 : (Rows.placeMayRow.mapsOut == PP.mapsAmong Tryz.f14.resultTypes.toList) = true := by kernel_rfl
theorem placeMay_k16 : (Rows.placeMayRow.loops == (Tryz.f14.params.toList ++ (OpenSpec.ofChange Rows.placeMaySpec).bare.plain.varTypes PP).any (PP.loopsFrom ·)) = true := by kernel_rfl
theorem placeMay_k17 : (Rows.placeMayRow.wideKeys == (Tryz.f14.params.toList ++ (OpenSpec.ofChange Rows.placeMaySpec).bare.plain.varTypes PP ++ Tryz.f14.resultTypes.toList).any (PP.wideKeysFrom ·)) = true := by kernel_rfl
theorem placeMay_k18 : (OpenSpec.ofChange Rows.placeMaySpec).bare.vars.all (PP.varReadable ·) = true := by kernel_rfl
theorem placeMay_k19 : Tryz.f14.resultTypes.all (fun t => PP.readableRec t && decide (t < PP.types.size)) = true := by kernel_rfl
theorem placeMay_k20 : (Rows.placeMayRow.ifacesOut == Tryz.f14.resultTypes.toList.any (PP.ifacesRec ·)) = true := by kernel_rfl
theorem placeMay_k21 : (Rows.placeMayRow.loopsOut == Tryz.f14.resultTypes.toList.any (PP.loopsFrom ·)) = true := by kernel_rfl
theorem placeMay_k23 : Rows.placeMayRow.shortTexts.isNone = true := by kernel_rfl
theorem placeMay_k28 : (Rows.placeMayRow.kinds == (if Rows.placeMayRow.domain.isEmpty then [] else Tryz.f14.params.toList.map fun t => match PP.underlying t with | some (.int k) => some k | _ => none)) = true := by kernel_rfl
theorem placeMay_k29 : (Rows.placeMayRow.pinned == Rows.placeMayRow.pinnedBy) = true := by kernel_rfl
theorem placeMay_k30 : (Rows.placeMayRow.veiled == (Tryz.f14.params.toList ++ (OpenSpec.ofChange Rows.placeMaySpec).bare.plain.varTypes PP ++ Tryz.f14.resultTypes.toList).any (PP.veiledRec ·)) = true := by kernel_rfl
theorem placeMay_k31 : Rows.placeMayRow.veiledFits PP Tryz.f14.params.toList (Tryz.f14.params.toList ++ (OpenSpec.ofChange Rows.placeMaySpec).bare.plain.varTypes PP ++ Tryz.f14.resultTypes.toList) = true := by kernel_rfl
set_option maxRecDepth 100000 in
theorem placeMay_closed : joinedFacts PP 14 Tryz.f14 (OpenSpec.ofChange Rows.placeMaySpec).bare Rows.placeMayRow = true := and2 (and2 (and2 (and2 (and2 (and2 (and2 (and2 (and2 (and2 (and2 (and2 (and2 (and2 (and2 (and2 (and2 (and2 (and2 (and2 (and2 (and2 (and2 (and2 (and2 (and2 (and2 (and2 (and2 (and2 (and2 (placeMay_k0) j_laidOut) j_rowed) placeMay_k3) placeMay_k4) placeMay_k5) j_stops) placeMay_k7) j_knobs) placeMay_k9) placeMay_k10) placeMay_k11) placeMay_k12) placeMay_k13) placeMay_k14) placeMay_k15) placeMay_k16) placeMay_k17) placeMay_k18) placeMay_k19) placeMay_k20) placeMay_k21) j_plain) placeMay_k23) j_heard) j_enter) j_lift) j_make) placeMay_k28) placeMay_k29) placeMay_k30) placeMay_k31
theorem placeMay_named : Tryz.pinned.checked.prog.funcNamed Rows.placeMayRow.func = some 14 := by kernel_rfl
theorem placeMay_text : Rows.placeMayRow.wfByText (OpenSpec.ofChange Rows.placeMaySpec) = true := by kernel_rfl
theorem placeMay_goes : false = Rows.placeMayRow.goesBy Tryz.pinned.checked.prog := by kernel_rfl
theorem placeMay_said : Rows.PlaceMaySaid :=
  OpenClaim.holds_of_cond 14 Tryz.f14 rfl rfl rfl rfl rfl rfl rfl ⟨rfl, rfl, rfl, rfl, rfl⟩ rfl rfl rfl rfl rfl placeMay_named Tryz.func14 placeMay_closed
    (of_decide_eq_true (by kernel_rfl)) (by unfold Func.isWrapper; first | (rw [if_pos (by decide +kernel)]; kernel_rfl) | (rw [if_neg (by decide +kernel)]; exact ⟨rfl, rfl⟩))
    (fun os started H enc _ F => by rw [OpenClaim.pre_eq_preRow]; exact placeMay_lifted os started H enc F)
theorem placeMay_plain (f : FuncId) (fn : Func) (hf : Tryz.pinned.checked.prog.funcNamed "postmark/postmarklaw18.PlaceMay" = some f) (hfn : Tryz.pinned.checked.prog.funcs[f]? = some fn) :
    true = Tryz.pinned.checked.prog.looks [] ∧ ∀ (j : Nat) t, fn.params[j]? = some t → Tryz.pinned.checked.prog.wantsStandIn t = false := by
  obtain rfl : f = 14 := Option.some.inj ((show Tryz.prog.funcNamed "postmark/postmarklaw18.PlaceMay" = some 14 by kernel_rfl).symm.trans hf) |>.symm
  obtain rfl : fn = Tryz.f14 := (Option.some.inj (Tryz.func14.symm.trans hfn)).symm
  refine ⟨by kernel_rfl, fun j t ht => ?_⟩
  rw [Tryz.params14] at ht
  have hm := Array.mem_of_getElem? ht
  simp only [Array.mem_def, List.mem_cons, List.not_mem_nil, or_false] at hm
  rcases hm with rfl | rfl
  · exact (show Tryz.prog.wantsStandIn 28 = false by kernel_rfl)
  · exact (show Tryz.prog.wantsStandIn 27 = false by kernel_rfl)
theorem placeMay_holds : Rows.PlaceMayCardSaid :=
  Claim7.holds_tied_plain_at .later [] _ _ _ _ placeMay_said (fun _ h => by cases h) placeMay_text (fun _ h => by cases h) placeMay_row_tie rfl ⟨rfl, rfl⟩ j_main rfl placeMay_plain placeMay_goes
#print axioms placeMay_holds
end Go.Proofs.YtppbkblnjlbnfaaGreatDoor
