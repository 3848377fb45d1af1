/-
PlaceStatus: whatever comes in, the law's call returns true, and the arguments read behind the call as they did before; no condition on them. The row lists the two tables of unicode/utf8 (first, acceptRanges); the card ties them.
-/
import Derived.Test.YtppbkblnjlbnfaaGreatDoorTz
import Derived.Test.YtppbkblnjlbnfaaGreatDoorPq
set_option linter.unusedVariables false
set_option linter.unusedSimpArgs false
/-! The walk of PlaceStatus. -/
namespace Go.Proofs.YtppbkblnjlbnfaaGreatDoor
open Go.RowKit
set_option maxRecDepth 100000 in
set_option maxHeartbeats 16000000 in
theorem PlaceStatusL_c (n : Int) (w : World) (hg : Gl w) (hT : Lib.Utf8Tabs 2 3 w) : Calls Tryz.prog 9 #[.int .i64 n] w fun e w' => e = .returned (.bool true) ∧ Below w.heap.size w w' := by
  have HG := Lib.hid hg
  have HTB := Lib.hid hT
  clear hg hT 
  have HB : Hid (Below w.heap.size w w) := Lib.hid (Below.refl _ _)
  go_enter Tryz.func9, Tryz.ntmps9
  go_wp2_with fail
  refine (awake18_c _ (HG.out.below HB.out) (tabs_below HTB.out HB.out)).mono ?_
  rintro e V1 ⟨rfl, hb⟩
  replace HB := Lib.hid (b_then HB.out hb)
  clear hb
  go_wp2_with fail
  refine (Redirects_c n _).mono ?_
  rintro e V20 ⟨rfl, rfl⟩
  by_cases h1 : n = 301
  · subst h1
    have hr : PM.redirects 301 = true := rfl
    go_wp2
    go_ret
    exact ⟨rfl, HB.out⟩
  by_cases h2 : n = 302
  · subst h2
    have hr : PM.redirects 302 = true := rfl
    go_wp2
    go_ret
    exact ⟨rfl, HB.out⟩
  by_cases h3 : n = 303
  · subst h3
    have hr : PM.redirects 303 = true := rfl
    go_wp2
    go_ret
    exact ⟨rfl, HB.out⟩
  by_cases h4 : n = 307
  · subst h4
    have hr : PM.redirects 307 = true := rfl
    go_wp2
    go_ret
    exact ⟨rfl, HB.out⟩
  by_cases h5 : n = 308
  · subst h5
    have hr : PM.redirects 308 = true := rfl
    go_wp2
    go_ret
    exact ⟨rfl, HB.out⟩
  have hr : PM.redirects n = false := by simp [PM.redirects, h1, h2, h3, h4, h5]
  have e1 : (n == 301) = false := beq_eq_false_iff_ne.2 h1
  have e2 : (n == 302) = false := beq_eq_false_iff_ne.2 h2
  have e3 : (n == 303) = false := beq_eq_false_iff_ne.2 h3
  have e4 : (n == 307) = false := beq_eq_false_iff_ne.2 h4
  have e5 : (n == 308) = false := beq_eq_false_iff_ne.2 h5
  clear h1 h2 h3 h4 h5
  go_wp2
  go_ret
  exact ⟨rfl, HB.out⟩
end Go.Proofs.YtppbkblnjlbnfaaGreatDoor
/-! The row of PlaceStatus. -/
namespace Go.Proofs.YtppbkblnjlbnfaaGreatDoor
open Go.ChangeShapes Go.WideShapes Go.ChangeAt Go.RowKit
open Go.WideMaps Go.WideElems
open Go.ChangeMaps (open_string shut_string)
theorem placeStatus_reads (os : Os) {H : Type} (enc : TypeId × Value → H) : ∃ x, DataW.whole enc Tryz.prog ((laidWorld os).forCall (fun _ _ => 0) ⟨#[], #[.int .i64 0], []⟩).memory Tryz.f9.params.toList Rows.placeStatusSpec.vars false (#[.int .i64 0] : Array Value).toList 8 = some x :=
  Option.isSome_iff_exists.1 (by kernel_rfl)
set_option maxRecDepth 100000 in
theorem placeStatus_lifted (os : Os) (started : os.Started) (H : Type) (enc : TypeId × Value → H) (F : Stop.Interp) :
    ReturnsInHanded {} Tryz.checked os 9 .any ((OpenSpec.ofChange Rows.placeStatusSpec).preRow enc Tryz.prog Tryz.f9 Rows.placeStatusRow.domain false Rows.placeStatusRow.laid) (((OpenSpec.ofChange Rows.placeStatusSpec).at F).post enc Tryz.prog Tryz.f9 false true false false) := by
  obtain ⟨x, hx⟩ := placeStatus_reads os enc
  refine returnsInHanded_of_row (C := Tryz.checked) (s := OpenSpec.ofChange Rows.placeStatusSpec) own started (by kernel_rfl) Tryz.func9
    (witness_row_atRef (enc := enc) (C := Tryz.checked) false (laidWorld os) #[.int .i64 0] rfl (by kernel_rfl) (by kernel_rfl) (by kernel_rfl)
      (OpenSpec.preRow_of_cond 8 hx rfl (fun k hk => by cases hk) (by kernel_rfl) (laid_met os _))) ?_
  intro W base args ds gs before hval0 hW _ _ _ hL hsh _
  have hval : ∀ (j : Nat) t v, Tryz.f9.params[j]? = some t → args[j]? = some v → Value.okWide Tryz.prog W .any base t v := hval0
  have hW' := hW
  obtain ⟨p, q, hA0, hV, rfl, hfz, hnd⟩ := hW
  have hA : DataW.TrodAll enc Tryz.prog W 0 (fun _ => true) true Tryz.f9.params.toList args.toList ds p := hA0
  rw [Tryz.params9] at hA hval
  obtain ⟨v0, d0, rfl, rfl, h0⟩ := trodAll_one hA
  obtain ⟨rfl, rfl⟩ := trodVars_none hV
  simp only [List.append_nil] at hfz hnd hW'
  have hlt : ∀ x ∈ p, x.block < W.heap.size := fun x hx => hW'.lt x hx
  have h0k := h0
  obtain ⟨n0, e0, _, _, w0⟩ := open_int Tryz.underlying3 (hval 0 3 v0 rfl rfl) h0
  subst e0
  refine (PlaceStatusL_c n0 W  (gl_of hsh) (tabs_laid hL)).mono fun e W' ⟨he, hb⟩ => ?_
  subst he
  refine ⟨_, rfl, _, _, _, [], p, [], hW', ?_, ?_, ?_, hb.frame _, fun h => by cases h⟩
  · exact trodAll_mk1 (shut_bool Tryz.underlying4 _)
  · exact trodAll_mk1 (Below.trod laidOut (by kernel_rfl) (of_decide_eq_true (by kernel_rfl)) h0k hb hlt)
  · rfl
theorem placeStatus_k0 : Rows.placeStatusRow.wf (OpenSpec.ofChange (OpenSpec.ofChange Rows.placeStatusSpec).bare) = true := by kernel_rfl
theorem placeStatus_k3 : Tryz.f9.params.all (PP.readableRec ·) = true := by kernel_rfl
theorem placeStatus_k4 : namedTie PP Rows.placeStatusRow.named (OpenSpec.ofChange Rows.placeStatusSpec).bare.vars = true := by kernel_rfl
theorem placeStatus_k5 : (Rows.placeStatusRow.stops == []) = true := by kernel_rfl
theorem placeStatus_k7 : (Rows.placeStatusRow.knobs == []) = true := by kernel_rfl
theorem placeStatus_k9 : (Rows.placeStatusRow.inPlace == PP.inPlace 9) = true := by kernel_rfl
theorem placeStatus_k10 : (Rows.placeStatusRow.unfollowed == PP.unfollowed 9) = true := by kernel_rfl
theorem placeStatus_k11 : (Rows.placeStatusRow.recurses == PP.recurses 9) = true := by kernel_rfl
theorem placeStatus_k12 : (Rows.placeStatusRow.named == PP.varsNamed 9) = true := by kernel_rfl
theorem placeStatus_k13 : (Rows.placeStatusRow.maps == (Tryz.f9.params.toList ++ (OpenSpec.ofChange Rows.placeStatusSpec).bare.plain.varTypes PP).any (PP.mapsRec ·)) = true := by kernel_rfl
theorem placeStatus_k14 : (Rows.placeStatusRow.ifaces == (Tryz.f9.params.toList ++ (OpenSpec.ofChange Rows.placeStatusSpec).bare.plain.varTypes PP).any (PP.ifacesRec ·)) = true := by kernel_rfl
theorem placeStatus_k15 : (Rows.placeStatusRow.mapsOut == PP.mapsAmong Tryz.f9.resultTypes.toList) = true := by kernel_rfl
theorem placeStatus_k16 : (Rows.placeStatusRow.loops == (Tryz.f9.params.toList ++ (OpenSpec.ofChange Rows.placeStatusSpec).bare.plain.varTypes PP).any (PP.loopsFrom ·)) = true := by kernel_rfl
theorem placeStatus_k17 : (Rows.placeStatusRow.wideKeys == (Tryz.f9.params.toList ++ (OpenSpec.ofChange Rows.placeStatusSpec).bare.plain.varTypes PP ++ Tryz.f9.resultTypes.toList).any (PP.wideKeysFrom ·)) = true := by kernel_rfl
theorem placeStatus_k18 : (OpenSpec.ofChange Rows.placeStatusSpec).bare.vars.all (PP.varReadable ·) = true := by kernel_rfl
theorem placeStatus_k19 : Tryz.f9.resultTypes.all (fun t => PP.readableRec t && decide (t < PP.types.size)) = true := by kernel_rfl
theorem placeStatus_k20 : (Rows.placeStatusRow.ifacesOut == Tryz.f9.resultTypes.toList.any (PP.ifacesRec ·)) = true := by kernel_rfl
theorem placeStatus_k21 : (Rows.placeStatusRow.loopsOut == Tryz.f9.resultTypes.toList.any (PP.loopsFrom ·)) = true := by kernel_rfl
theorem placeStatus_k23 : Rows.placeStatusRow.shortTexts.isNone = true := by kernel_rfl
theorem placeStatus_k28 : (Rows.placeStatusRow.kinds == (if Rows.placeStatusRow.domain.isEmpty then [] else Tryz.f9.params.toList.map fun t => match PP.underlying t with | some (.int k) => some k | _ => none)) = true := by kernel_rfl
theorem placeStatus_k29 : (Rows.placeStatusRow.pinned == Rows.placeStatusRow.pinnedBy) = true := by kernel_rfl
theorem placeStatus_k30 : (Rows.placeStatusRow.veiled == (Tryz.f9.params.toList ++ (OpenSpec.ofChange Rows.placeStatusSpec).bare.plain.varTypes PP ++ Tryz.f9.resultTypes.toList).any (PP.veiledRec ·)) = true := by kernel_rfl
theorem placeStatus_k31 : Rows.placeStatusRow.veiledFits PP Tryz.f9.params.toList (Tryz.f9.params.toList ++ (OpenSpec.ofChange Rows.placeStatusSpec).bare.plain.varTypes PP ++ Tryz.f9.resultTypes.toList) = true := by kernel_rfl
set_option maxRecDepth 100000 in
theorem placeStatus_closed : joinedFacts PP 9 Tryz.f9 (OpenSpec.ofChange Rows.placeStatusSpec).bare Rows.placeStatusRow = true := and2 (and2 (and2 (and2 (and2 (and2 (and2 (and2 (and2 (and2 (and2 (and2 (and2 (and2 (and2 (and2 (and2 (and2 (and2 (and2 (and2 (and2 (and2 (and2 (and2 (and2 (and2 (and2 (and2 (and2 (and2 (placeStatus_k0) j_laidOut) j_rowed) placeStatus_k3) placeStatus_k4) placeStatus_k5) j_stops) placeStatus_k7) j_knobs) placeStatus_k9) placeStatus_k10) placeStatus_k11) placeStatus_k12) placeStatus_k13) placeStatus_k14) placeStatus_k15) placeStatus_k16) placeStatus_k17) placeStatus_k18) placeStatus_k19) placeStatus_k20) placeStatus_k21) j_plain) placeStatus_k23) j_heard) j_enter) j_lift) j_make) placeStatus_k28) placeStatus_k29) placeStatus_k30) placeStatus_k31
theorem placeStatus_named : Tryz.pinned.checked.prog.funcNamed Rows.placeStatusRow.func = some 9 := by kernel_rfl
theorem placeStatus_text : Rows.placeStatusRow.wfByText (OpenSpec.ofChange Rows.placeStatusSpec) = true := by kernel_rfl
theorem placeStatus_goes : false = Rows.placeStatusRow.goesBy Tryz.pinned.checked.prog := by kernel_rfl
theorem placeStatus_said : Rows.PlaceStatusSaid :=
  OpenClaim.holds_of_cond 9 Tryz.f9 rfl rfl rfl rfl rfl rfl rfl ⟨rfl, rfl, rfl, rfl, rfl⟩ rfl rfl rfl rfl rfl placeStatus_named Tryz.func9 placeStatus_closed
    (of_decide_eq_true (by kernel_rfl)) (by unfold Func.isWrapper; first | (rw [if_pos (by decide +kernel)]; kernel_rfl) | (rw [if_neg (by decide +kernel)]; exact ⟨rfl, rfl⟩))
    (fun os started H enc _ F => by rw [OpenClaim.pre_eq_preRow]; exact placeStatus_lifted os started H enc F)
theorem placeStatus_plain (f : FuncId) (fn : Func) (hf : Tryz.pinned.checked.prog.funcNamed "postmark/postmarklaw18.PlaceStatus" = some f) (hfn : Tryz.pinned.checked.prog.funcs[f]? = some fn) :
    true = Tryz.pinned.checked.prog.looks [] ∧ ∀ (j : Nat) t, fn.params[j]? = some t → Tryz.pinned.checked.prog.wantsStandIn t = false := by
  obtain rfl : f = 9 := Option.some.inj ((show Tryz.prog.funcNamed "postmark/postmarklaw18.PlaceStatus" = some 9 by kernel_rfl).symm.trans hf) |>.symm
  obtain rfl : fn = Tryz.f9 := (Option.some.inj (Tryz.func9.symm.trans hfn)).symm
  refine ⟨by kernel_rfl, fun j t ht => ?_⟩
  rw [Tryz.params9] at ht
  have hm := Array.mem_of_getElem? ht
  simp only [Array.mem_def, List.mem_cons, List.not_mem_nil, or_false] at hm
  rcases hm with rfl
  · exact (show Tryz.prog.wantsStandIn 3 = false by kernel_rfl)
theorem placeStatus_holds : Rows.PlaceStatusCardSaid :=
  Claim7.holds_tied_plain_at .later [] _ _ _ _ placeStatus_said (fun _ h => by cases h) placeStatus_text (fun _ h => by cases h) placeStatus_row_tie rfl ⟨rfl, rfl⟩ j_main rfl placeStatus_plain placeStatus_goes
#print axioms placeStatus_holds
end Go.Proofs.YtppbkblnjlbnfaaGreatDoor
