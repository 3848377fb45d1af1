/-
StripCap: whatever comes in, the law's call returns true, and the arguments read behind the call as they did before; no condition on them. The row lists the two tables of unicode/utf8 (first, acceptRanges); the card ties them.
-/
import Derived.Test.YtlcckikfmlhgjaaGreatDoorAw16
import Derived.Test.YtlcckikfmlhgjaaGreatDoorTz
set_option linter.unusedVariables false
set_option linter.unusedSimpArgs false
/-! The walk of StripCap. -/
namespace Go.Proofs.YtlcckikfmlhgjaaGreatDoor
open Go.RowKit
set_option maxRecDepth 100000 in
set_option maxHeartbeats 16000000 in
theorem StripCap_c (u : UV) (w : World) (hu : RdW w u.a u.pn u.xs) (hg : Gl w) (hT : Lib.Utf8Tabs 1 2 w) : Calls Tryz.prog 14 #[.agg u.cells] w fun e w' => e = .returned (.bool true) ∧ Below w.heap.size w w' := by
  have HG := Lib.hid hg
  have HTB := Lib.hid hT
  have Ru := Lib.hid hu
  clear hg hT hu
  have HB : Hid (Below w.heap.size w (w.alloc (.cells u.cells 27))) := Lib.hid (b_alloc (Below.refl _ _) _)
  have Hu : Hid ((w.alloc (.cells u.cells 27)).heap[w.heap.size]? = some (.cells u.cells 27 (0, 0))) := Lib.hid ((by have h := Go.heap_alloc_new w (.cells u.cells 27); simpa using h))
  go_enter Tryz.func14, Tryz.ntmps14
  go_upto_region 1 with fail
  generalize w.alloc (.cells u.cells 27) = V0 at HB Hu ⊢
  go_wp2_with fail
  refine (awake16_c _ (HG.out.below HB.out) (tabs_below HTB.out HB.out)).mono ?_
  rintro e V1 ⟨rfl, hb⟩
  replace HB := Lib.hid (b_then HB.out hb)
  replace Hu := Lib.hid (obj_b hb Hu.out)
  clear hb
  go_wp2_with (first | go_skip | (refine wpList_load_g 27 _ rfl (by kernel_rfl) w.heap.size rfl Hu.out Tryz.underlying27 rfl (by kernel_rfl) ?_))
  refine (Few_c u _ (Ru.out.below HB.out)).mono ?_
  rintro e V2 ⟨rfl, hb⟩
  replace HB := Lib.hid (b_then HB.out hb)
  replace Hu := Lib.hid (obj_b hb Hu.out)
  clear hb
  cases hfu : PM.few u.pm
  · go_wp2
    go_ret
    exact ⟨rfl, HB.out⟩
  have Ou := Lib.hid (few_ok (Ru.out.below HB.out) hfu)
  have Fu := Lib.hid hfu
  clear hfu
  obtain ⟨m, hm⟩ : ∃ m, PM.urlMay u.pm = m := ⟨_, rfl⟩
  have HM := Lib.hid hm
  clear hm
  go_wp2_with (first | go_skip | (refine wpList_load_g 27 _ rfl (by kernel_rfl) w.heap.size rfl Hu.out Tryz.underlying27 rfl (by kernel_rfl) ?_))
  refine (urlMay_c u _ Ou.out (HG.out.below HB.out)).mono ?_
  rw [HM.out]
  rintro e V3 ⟨rfl, hb⟩
  replace HB := Lib.hid (b_then HB.out hb)
  replace Hu := Lib.hid (obj_b hb Hu.out)
  replace Ou := Lib.hid (Ou.out.below hb)
  clear hb
  cases m
  · go_wp2
    go_ret
    exact ⟨rfl, HB.out⟩
  obtain ⟨c0, c1, c2, c3, c4, c5, c6, c7, c8, c9, c10, c11, c12, c13, c14, c15, c16, c17, c18, c19, c20⟩ := UrlAt.of_heap Hu.out
  go_wp2_with fail
  refine (Web_c u.sc _).mono ?_
  rintro e V50 ⟨rfl, rfl⟩
  by_cases hw : PM.web u.sc = 0
  · have hw2 : (PM.web u.sc == 0) = true := by simpa using hw
    clear hw
    go_wp2
    go_ret
    exact ⟨rfl, HB.out⟩
  have hw2 : (PM.web u.sc == 0) = false := by simpa using hw
  have hisw : PM.isW u.pm = true := (PM.isW_iff _).2 ⟨HM.out, hw⟩
  have HW := Lib.hid hisw
  clear hw hisw
  go_wp2_with (first | go_skip | (refine wpList_load_g 27 _ rfl (by kernel_rfl) w.heap.size rfl Hu.out Tryz.underlying27 rfl (by kernel_rfl) ?_))
  refine (Full_s_c u _ Ou.out (HG.out.below HB.out)).mono ?_
  rintro e V4 ⟨rfl, hb⟩
  replace HB := Lib.hid (b_then HB.out hb)
  replace Hu := Lib.hid (obj_b hb Hu.out)
  replace Ou := Lib.hid (Ou.out.below hb)
  clear hb
  clear c0 c1 c2 c3 c4 c5 c6 c7 c8 c9 c10 c11 c12 c13 c14 c15 c16 c17 c18 c19 c20 hw2
  go_wp2_with (first | go_skip | (refine wpList_load_g 27 _ rfl (by kernel_rfl) w.heap.size rfl Hu.out Tryz.underlying27 rfl (by kernel_rfl) ?_))
  refine (Origin_s_c u _ Ou.out (HG.out.below HB.out)).mono ?_
  rintro e V5 ⟨rfl, hb⟩
  replace HB := Lib.hid (b_then HB.out hb)
  replace Hu := Lib.hid (obj_b hb Hu.out)
  replace Ou := Lib.hid (Ou.out.below hb)
  clear hb
  go_wp2_with (first | go_skip | (refine wpList_load_g 27 _ rfl (by kernel_rfl) w.heap.size rfl Hu.out Tryz.underlying27 rfl (by kernel_rfl) ?_))
  refine (Cap_s_c u _ Ou.out (HG.out.below HB.out)).mono ?_
  rintro e V6 ⟨rfl, hb⟩
  replace HB := Lib.hid (b_then HB.out hb)
  replace Hu := Lib.hid (obj_b hb Hu.out)
  replace Ou := Lib.hid (Ou.out.below hb)
  clear hb
  have h1 := PM.origin_le HW.out
  have h2 := PM.origin_take HW.out
  have h3 : PM.stripCap u.pm = if (PM.stripFull u.pm).length ≤ 4096 then PM.stripFull u.pm else PM.stripOrigin u.pm := rfl
  generalize PM.stripFull u.pm = F at h1 h2 h3 ⊢
  generalize PM.stripOrigin u.pm = O at h1 h2 h3 ⊢
  have q1 : ((O.length : Int) ≤ F.length) := by omega
  have q2 : (F.take O.length == O) = true := by simpa using h2
  clear h2
  by_cases hl : F.length ≤ 4096
  · rw [if_pos hl] at h3
    have q3 : ((F.length : Int) ≤ 4096) := by omega
    rw [h3]
    clear h3
    go_wp2
    go_ret
    exact ⟨rfl, HB.out⟩
  · rw [if_neg hl] at h3
    have q3 : ¬ ((F.length : Int) ≤ 4096) := by omega
    have q4 : ((4096 : Int) < F.length) := by omega
    rw [h3]
    clear h3
    cases hfo : (O == F)
    · go_wp2
      go_ret
      exact ⟨rfl, HB.out⟩
    · go_wp2
      go_ret
      exact ⟨rfl, HB.out⟩
end Go.Proofs.YtlcckikfmlhgjaaGreatDoor
/-! The row of StripCap. -/
namespace Go.Proofs.YtlcckikfmlhgjaaGreatDoor
open Go.ChangeShapes Go.WideShapes Go.ChangeAt Go.RowKit
open Go.WideMaps Go.WideElems
open Go.ChangeMaps (open_string shut_string)
theorem stripCap_reads (os : Os) {H : Type} (enc : TypeId × Value → H) : ∃ x, DataW.whole enc Tryz.prog ((laidWorld os).forCall (fun _ _ => 0) ⟨#[], #[.agg #[.string ⟨#[]⟩, .string ⟨#[]⟩, .string ⟨#[]⟩, .int .i64 0, .string ⟨#[]⟩, .int .i64 0, .int .i64 0, .int .i64 0, .int .i64 0, .int .i64 0, .int .i64 0, .int .i64 0, .int .i64 0, .int .i64 0, .int .i64 0, .slice none 0 0, .string ⟨#[]⟩, .string ⟨#[]⟩, .string ⟨#[]⟩, .bool false, .bool false]], []⟩).memory Tryz.f14.params.toList Rows.stripCapSpec.vars false (#[.agg #[.string ⟨#[]⟩, .string ⟨#[]⟩, .string ⟨#[]⟩, .int .i64 0, .string ⟨#[]⟩, .int .i64 0, .int .i64 0, .int .i64 0, .int .i64 0, .int .i64 0, .int .i64 0, .int .i64 0, .int .i64 0, .int .i64 0, .int .i64 0, .slice none 0 0, .string ⟨#[]⟩, .string ⟨#[]⟩, .string ⟨#[]⟩, .bool false, .bool false]] : Array Value).toList 8 = some x :=
  Option.isSome_iff_exists.1 (by kernel_rfl)
set_option maxRecDepth 100000 in
theorem stripCap_lifted (os : Os) (started : os.Started) (H : Type) (enc : TypeId × Value → H) (F : Stop.Interp) :
    ReturnsInHanded {} Tryz.checked os 14 .any ((OpenSpec.ofChange Rows.stripCapSpec).preRow enc Tryz.prog Tryz.f14 Rows.stripCapRow.domain false Rows.stripCapRow.laid) (((OpenSpec.ofChange Rows.stripCapSpec).at F).post enc Tryz.prog Tryz.f14 false true false false) := by
  obtain ⟨x, hx⟩ := stripCap_reads os enc
  refine returnsInHanded_of_row (C := Tryz.checked) (s := OpenSpec.ofChange Rows.stripCapSpec) own started (by kernel_rfl) Tryz.func14
    (witness_row_atRef (enc := enc) (C := Tryz.checked) false (laidWorld os) #[.agg #[.string ⟨#[]⟩, .string ⟨#[]⟩, .string ⟨#[]⟩, .int .i64 0, .string ⟨#[]⟩, .int .i64 0, .int .i64 0, .int .i64 0, .int .i64 0, .int .i64 0, .int .i64 0, .int .i64 0, .int .i64 0, .int .i64 0, .int .i64 0, .slice none 0 0, .string ⟨#[]⟩, .string ⟨#[]⟩, .string ⟨#[]⟩, .bool false, .bool false]] rfl (by kernel_rfl) (by kernel_rfl) (by kernel_rfl)
      (OpenSpec.preRow_of_cond 8 hx rfl (fun k hk => by cases hk) (by kernel_rfl) (laid_met os _))) ?_
  intro W base args ds gs before hval0 hW _ _ _ hL hsh _
  have hval : ∀ (j : Nat) t v, Tryz.f14.params[j]? = some t → args[j]? = some v → Value.okWide Tryz.prog W .any base t v := hval0
  have hW' := hW
  obtain ⟨p, q, hA0, hV, rfl, hfz, hnd⟩ := hW
  have hA : DataW.TrodAll enc Tryz.prog W 0 (fun _ => true) true Tryz.f14.params.toList args.toList ds p := hA0
  rw [Tryz.params14] at hA hval
  obtain ⟨v0, d0, rfl, rfl, h0⟩ := trodAll_one hA
  obtain ⟨rfl, rfl⟩ := trodVars_none hV
  simp only [List.append_nil] at hfz hnd hW'
  have hlt : ∀ x ∈ p, x.block < W.heap.size := fun x hx => hW'.lt x hx
  have h0k := h0
  obtain ⟨u0, rfl, hr0⟩ := open_url (hval 0 27 v0 rfl rfl) h0
  refine (StripCap_c u0 W hr0 (gl_of hsh) (tabs_laid hL)).mono fun e W' ⟨he, hb⟩ => ?_
  subst he
  refine ⟨_, rfl, _, _, _, [], p, [], hW', ?_, ?_, ?_, hb.frame _, fun h => by cases h⟩
  · exact trodAll_mk1 (shut_bool Tryz.underlying4 _)
  · exact trodAll_mk1 (Below.trod laidOut (by kernel_rfl) (of_decide_eq_true (by kernel_rfl)) h0k hb hlt)
  · rfl
theorem stripCap_k0 : Rows.stripCapRow.wf (OpenSpec.ofChange (OpenSpec.ofChange Rows.stripCapSpec).bare) = true := by kernel_rfl
theorem stripCap_k3 : Tryz.f14.params.all (PP.readableRec ·) = true := by kernel_rfl
theorem stripCap_k4 : namedTie PP Rows.stripCapRow.named (OpenSpec.ofChange Rows.stripCapSpec).bare.vars = true := by kernel_rfl
theorem stripCap_k5 : (Rows.stripCapRow.stops == []) = true := by kernel_rfl
theorem stripCap_k7 : (Rows.stripCapRow.knobs == []) = true := by kernel_rfl
theorem stripCap_k9 : (Rows.stripCapRow.inPlace == PP.inPlace 14) = true := by kernel_rfl
theorem stripCap_k10 : (Rows.stripCapRow.unfollowed == PP.unfollowed 14) = true := by kernel_rfl
theorem stripCap_k11 : (Rows.stripCapRow.recurses == PP.recurses 14) = true := by kernel_rfl
theorem stripCap_k12 : (Rows.stripCapRow.named == PP.varsNamed 14) = true := by kernel_rfl
theorem stripCap_k13 : (Rows.stripCapRow.maps == (Tryz.f14.params.toList ++ (OpenSpec.ofChange Rows.stripCapSpec).bare.plain.varTypes PP).any (PP.mapsRec ·)) = true := by kernel_rfl
theorem stripCap_k14 : (Rows.stripCapRow.ifaces == (Tryz.f14.params.toList ++ (OpenSpec.ofChange Rows.stripCapSpec).bare.plain.varTypes PP).any (PP.ifacesRec ·)) = true := by kernel_rfl
theorem stripCap_k15 : (Rows.stripCapRow.mapsOut == PP.mapsAmong Tryz.f14.resultTypes.toList) = true := by kernel_rfl
theorem stripCap_k16 : (Rows.stripCapRow.loops == (Tryz.f14.params.toList ++ (OpenSpec.ofChange Rows.stripCapSpec).bare.plain.varTypes PP).any (PP.loopsFrom ·)) = true := by kernel_rfl
theorem stripCap_k17 : (Rows.stripCapRow.wideKeys == (Tryz.f14.params.toList ++ (OpenSpec.ofChange Rows.stripCapSpec).bare.plain.varTypes PP ++ Tryz.f14.resultTypes.toList).any (PP.wideKeysFrom ·)) = true := by kernel_rfl
theorem stripCap_k18 : (OpenSpec.ofChange Rows.stripCapSpec).bare.vars.all (PP.varReadable ·) = true := by kernel_rfl
theorem stripCap_k19 : Tryz.f14.resultTypes.all (fun t => PP.readableRec t && decide (t < PP.types.size)) = true := by kernel_rfl
theorem stripCap_k20 : (Rows.stripCapRow.ifacesOut == Tryz.f14.resultTypes.toList.any (PP.ifacesRec ·)) = true := by kernel_rfl
theorem stripCap_k21 : (Rows.stripCapRow.loopsOut == Tryz.f14.resultTypes.toList.any (PP.loopsFrom ·)) = true := by kernel_rfl
theorem stripCap_k23 : Rows.stripCapRow.shortTexts.isNone = true := by kernel_rfl
theorem stripCap_k28 : (Rows.stripCapRow.kinds == (if Rows.stripCapRow.domain.isEmpty then [] else Tryz.f14.params.toList.map fun t => match PP.underlying t with | some (.int k) => some k | _ => none)) = true := by kernel_rfl
theorem stripCap_k29 : (Rows.stripCapRow.pinned == Rows.stripCapRow.pinnedBy) = true := by kernel_rfl
theorem stripCap_k30 : (Rows.stripCapRow.veiled == (Tryz.f14.params.toList ++ (OpenSpec.ofChange Rows.stripCapSpec).bare.plain.varTypes PP ++ Tryz.f14.resultTypes.toList).any (PP.veiledRec ·)) = true := by kernel_rfl
theorem stripCap_k31 : Rows.stripCapRow.veiledFits PP Tryz.f14.params.toList (Tryz.f14.params.toList ++ (OpenSpec.ofChange Rows.stripCapSpec).bare.plain.varTypes PP ++ Tryz.f14.resultTypes.toList) = true := by kernel_rfl
set_option maxRecDepth 100000 in
theorem stripCap_closed : joinedFacts PP 14 Tryz.f14 (OpenSpec.ofChange Rows.stripCapSpec).bare Rows.stripCapRow = true := and2 (and2 (and2 (and2 (and2 (and2 (and2 (and2 (and2 (and2 (and2 (and2 (and2 (and2 (and2 (and2 (and2 (and2 (and2 (and2 (and2 (and2 (and2 (and2 (and2 (and2 (and2 (and2 (and2 (and2 (and2 (stripCap_k0) j_laidOut) j_rowed) stripCap_k3) stripCap_k4) stripCap_k5) j_stops) stripCap_k7) j_knobs) stripCap_k9) stripCap_k10) stripCap_k11) stripCap_k12) stripCap_k13) stripCap_k14) stripCap_k15) stripCap_k16) stripCap_k17) stripCap_k18) stripCap_k19) stripCap_k20) stripCap_k21) j_plain) stripCap_k23) j_heard) j_enter) j_lift) j_make) stripCap_k28) stripCap_k29) stripCap_k30) stripCap_k31
theorem stripCap_named : Tryz.pinned.checked.prog.funcNamed Rows.stripCapRow.func = some 14 := by kernel_rfl
theorem stripCap_text : Rows.stripCapRow.wfByText (OpenSpec.ofChange Rows.stripCapSpec) = true := by kernel_rfl
theorem stripCap_goes : false = Rows.stripCapRow.goesBy Tryz.pinned.checked.prog := by kernel_rfl
theorem stripCap_said : Rows.StripCapSaid :=
  OpenClaim.holds_of_cond 14 Tryz.f14 rfl rfl rfl rfl rfl rfl rfl ⟨rfl, rfl, rfl, rfl, rfl⟩ rfl rfl rfl rfl rfl stripCap_named Tryz.func14 stripCap_closed
    (of_decide_eq_true (by kernel_rfl)) (by unfold Func.isWrapper; first | (rw [if_pos (by decide +kernel)]; kernel_rfl) | (rw [if_neg (by decide +kernel)]; exact ⟨rfl, rfl⟩))
    (fun os started H enc _ F => by rw [OpenClaim.pre_eq_preRow]; exact stripCap_lifted os started H enc F)
theorem stripCap_plain (f : FuncId) (fn : Func) (hf : Tryz.pinned.checked.prog.funcNamed "postmark/postmarklaw16.StripCap" = some f) (hfn : Tryz.pinned.checked.prog.funcs[f]? = some fn) :
    true = Tryz.pinned.checked.prog.looks [] ∧ ∀ (j : Nat) t, fn.params[j]? = some t → Tryz.pinned.checked.prog.wantsStandIn t = false := by
  obtain rfl : f = 14 := Option.some.inj ((show Tryz.prog.funcNamed "postmark/postmarklaw16.StripCap" = some 14 by kernel_rfl).symm.trans hf) |>.symm
  obtain rfl : fn = Tryz.f14 := (Option.some.inj (Tryz.func14.symm.trans hfn)).symm
  refine ⟨by kernel_rfl, fun j t ht => ?_⟩
  rw [Tryz.params14] at ht
  have hm := Array.mem_of_getElem? ht
  simp only [Array.mem_def, List.mem_cons, List.not_mem_nil, or_false] at hm
  rcases hm with rfl
  · exact (show Tryz.prog.wantsStandIn 27 = false by kernel_rfl)
theorem stripCap_holds : Rows.StripCapCardSaid :=
  Claim7.holds_tied_plain_at .later [] _ _ _ _ stripCap_said (fun _ h => by cases h) stripCap_text (fun _ h => by cases h) stripCap_row_tie rfl ⟨rfl, rfl⟩ j_main rfl stripCap_plain stripCap_goes
#print axioms stripCap_holds
end Go.Proofs.YtlcckikfmlhgjaaGreatDoor
