/-
MethodRewrites: whatever comes in, the law's call returns true, and the arguments read behind the call as they did before; no condition on them. The row lists the two tables of unicode/utf8 (first, acceptRanges); the card ties them.
-/
import Derived.Test.YtppbkblnjlbnfaaGreatDoorTz
import Derived.Test.YtppbkblnjlbnfaaGreatDoorMr
set_option linter.unusedVariables false
set_option linter.unusedSimpArgs false
/-! The three tables that the rows of method list. -/
namespace Go.Proofs.YtppbkblnjlbnfaaGreatDoor
open Go.ChangeShapes Go.WideShapes Go.ChangeAt Go.RowKit Go.Lib Go.Shelf
def laidThree : List (String × DataW Unit) := [("unicode/utf8.acceptRanges", Rows.laid_unicode_utf8_acceptRanges), ("postmark/method.bodies", Rows.laid_postmark_method_bodies), ("unicode/utf8.first", Rows.laid_unicode_utf8_first)]
theorem tabs_laid3 {W : World} (hL : laidMetH Tryz.prog laidThree W) : Lib.Utf8Tabs 2 3 W := by
  have h := hL
  unfold laidThree at h
  rw [accept_eq, first_eq] at h
  exact utf8Tabs_of_readsT (ρ := tabRen) ⟨by kernel_rfl, by kernel_rfl, by kernel_rfl, by kernel_rfl⟩ ⟨by kernel_rfl, by kernel_rfl, by kernel_rfl, by kernel_rfl, by kernel_rfl, by kernel_rfl, by kernel_rfl⟩ (Lib.laidMet.reads h (.tail _ (.tail _ (.head _)))) (Lib.laidMet.reads h (.head _))
set_option maxRecDepth 100000 in
theorem bd_laid {W : World} (hL : laidMetH Tryz.prog laidThree W) : Bd W := by
  obtain ⟨g, t, cs, fuel, p, hg, hty, hvar, hd⟩ := Lib.laidMet.reads (n := "postmark/method.bodies") (d := Rows.laid_postmark_method_bodies) hL (.tail _ (.head _))
  obtain rfl : 0 = g := Option.some.inj ((show Tryz.prog.globalNamed "postmark/method.bodies" = some 0 by kernel_rfl).symm.trans hg)
  obtain rfl : 73 = t := Option.some.inj ((show (Tryz.prog.globals[0]?).map (·.type) = some 73 by kernel_rfl).symm.trans hty)
  have hc1 : Tryz.prog.cellsOf 9 = 1 := by kernel_rfl
  have key : ∀ i (hi : i < 4), W.cell? ⟨0, i, none⟩ = some (.string (mkS (PM.bodies[i]'hi))) := fun i hi => by
    obtain ⟨fuel', d, q, hdi, he⟩ := array_elem Tryz.underlying73 hd i hi
    rw [hc1] at he
    obtain ⟨s, hs, hx⟩ := DataW.trod_string Tryz.underlying9 he
    rw [World.var?_cell hg hvar i, ← Array.getElem?_toList]
    have h0 := congrArg (·[0]?) hs
    simp only [List.getElem?_take, List.getElem?_drop, Nat.mul_one, Nat.add_zero] at h0
    rw [if_pos (by decide)] at h0
    rw [h0]
    obtain ⟨l, rfl⟩ := mkS_surj s
    have hd2 := (Prod.mk.inj hx.1).1
    rw [mkS_data] at hd2
    subst hd2
    have : i = 0 ∨ i = 1 ∨ i = 2 ∨ i = 3 := by omega
    rcases this with rfl | rfl | rfl | rfl <;> (injection hdi with hdi; injection hdi with hdi; injection hdi with hdi; subst hdi; rfl)
  exact ⟨cell_lt (key 0 (by decide)), key⟩
theorem laid_met3 (os : Os) (args : Array Value) : laidMet Tryz.prog laidThree ((laidWorld os).forCall (fun _ _ => 0) ⟨#[], args, []⟩).memory := by
  unfold laidThree
  rw [accept_eq, first_eq]
  exact (LaidIn.of_run (l := [("unicode/utf8.acceptRanges", Lib.acceptData), ("postmark/method.bodies", Rows.laid_postmark_method_bodies), ("unicode/utf8.first", Lib.firstData)]) [3, 0, 2] 8 (by kernel_rfl) (by kernel_rfl) (by kernel_rfl) (by kernel_rfl)).met
end Go.Proofs.YtppbkblnjlbnfaaGreatDoor
/-! The walk of MethodRewrites. -/
namespace Go.Proofs.YtppbkblnjlbnfaaGreatDoor
open Go.RowKit
set_option maxRecDepth 100000 in
set_option maxHeartbeats 16000000 in
theorem MethodRewritesL_c (st : Int) (m : List UInt8) (w : World) (hg : Gl w) (hT : Lib.Utf8Tabs 2 3 w) (hbd : Bd w) : Calls Tryz.prog 6 #[.int .i64 st, .string (mkS m)] w fun e w' => e = .returned (.bool true) ∧ Below w.heap.size w w' := by
  have HG := Lib.hid hg
  have HTB := Lib.hid hT
  have HBD := Lib.hid hbd
  clear hg hT hbd 
  have HB : Hid (Below w.heap.size w w) := Lib.hid (Below.refl _ _)
  go_enter Tryz.func6, Tryz.ntmps6
  go_wp2_with fail
  refine (awake20_c _ (HG.out.below HB.out) (tabs_below HTB.out HB.out) (HBD.out.below HB.out)).mono ?_
  rintro e V1 ⟨rfl, hb⟩
  replace HB := Lib.hid (b_then HB.out hb)
  clear hb
  by_cases hl : 300 < m.length
  · have hl2 : (300 : Int) < m.length := by omega
    go_wp2
    go_ret
    exact ⟨rfl, HB.out⟩
  have hl2 : decide ((300 : Int) < (m.length : Int)) = false := decide_eq_false (by omega)
  clear hl
  obtain ⟨b, hb⟩ : ∃ b, PM.rewrites st m = b := ⟨_, rfl⟩
  have HRW := Lib.hid hb
  clear hb
  go_wp2_with fail
  refine (Rewrites_c st m _).mono ?_
  rw [HRW.out]
  rintro e V20 ⟨rfl, rfl⟩
  clear hl2
  by_cases h1 : m = PM.GET
  · have e1 : (m == [71, 69, 84]) = true := beq_iff_eq.2 h1
    have hb : b = false := by rw [← HRW.out, h1]; exact PM.rew_get st
    subst hb
    clear h1
    go_wp2
    go_ret
    exact ⟨rfl, HB.out⟩
  have e1 : (m == [71, 69, 84]) = false := beq_eq_false_iff_ne.2 h1
  by_cases h2 : m = PM.HEAD
  · have e2 : (m == [72, 69, 65, 68]) = true := beq_iff_eq.2 h2
    have hb : b = false := by rw [← HRW.out, h2]; exact PM.rew_head st
    subst hb
    clear h1 h2
    go_wp2
    go_ret
    exact ⟨rfl, HB.out⟩
  have e2 : (m == [72, 69, 65, 68]) = false := beq_eq_false_iff_ne.2 h2
  by_cases h3 : m = PM.POST
  · have e3 : (m == [80, 79, 83, 84]) = true := beq_iff_eq.2 h3
    have hb : b = decide (301 ≤ st ∧ st ≤ 303) := by
      rw [← HRW.out, h3]
      unfold PM.rewrites
      by_cases s1 : st = 301 ∨ st = 302
      · rw [if_pos s1, decide_eq_true (show 301 ≤ st ∧ st ≤ 303 by omega)]
        rfl
      · rw [if_neg s1]
        by_cases s3 : st = 303
        · subst s3
          rfl
        · rw [if_neg s3, decide_eq_false (show ¬ (301 ≤ st ∧ st ≤ 303) by omega)]
    have HBV := Lib.hid hb
    clear hb h1 h2 h3
    by_cases s1 : (301 : Int) ≤ st
    · by_cases s2 : st ≤ (303 : Int)
      · have hb : b = true := by rw [HBV.out]; exact decide_eq_true ⟨s1, s2⟩
        subst hb
        go_wp2
        go_ret
        exact ⟨rfl, HB.out⟩
      · have hb : b = false := by rw [HBV.out]; exact decide_eq_false (fun h => s2 h.2)
        subst hb
        go_wp2
        go_ret
        exact ⟨congrArg (fun x => Ending.returned (Value.bool x)) (show (!decide (st ≤ 303)) = true by rw [decide_eq_false (Int.not_le.2 s2)]; rfl), HB.out⟩
    · have hb : b = false := by rw [HBV.out]; exact decide_eq_false (fun h => s1 h.1)
      subst hb
      go_wp2
      go_ret
      exact ⟨rfl, HB.out⟩
  have e3 : (m == [80, 79, 83, 84]) = false := beq_eq_false_iff_ne.2 h3
  have hb : b = decide (st = 303) := by
    rw [← HRW.out]
    unfold PM.rewrites
    by_cases s1 : st = 301 ∨ st = 302
    · rw [if_pos s1, decide_eq_false h3, decide_eq_false (show ¬ st = 303 by omega)]
    · rw [if_neg s1]
      by_cases s3 : st = 303
      · rw [if_pos s3, decide_eq_false h1, decide_eq_false h2, decide_eq_true s3]
        rfl
      · rw [if_neg s3, decide_eq_false s3]
  have HBV := Lib.hid hb
  clear hb h1 h2 h3
  by_cases s3 : st = 303
  · have hb : b = true := by rw [HBV.out]; exact decide_eq_true s3
    subst hb
    have e4 : (st == 303) = true := beq_iff_eq.2 s3
    clear s3
    go_wp2
    go_ret
    exact ⟨rfl, HB.out⟩
  · have hb : b = false := by rw [HBV.out]; exact decide_eq_false s3
    subst hb
    have e4 : (st == 303) = false := beq_eq_false_iff_ne.2 s3
    clear s3
    go_wp2
    go_ret
    exact ⟨rfl, HB.out⟩
end Go.Proofs.YtppbkblnjlbnfaaGreatDoor
/-! The row of MethodRewrites. -/
namespace Go.Proofs.YtppbkblnjlbnfaaGreatDoor
open Go.ChangeShapes Go.WideShapes Go.ChangeAt Go.RowKit
open Go.WideMaps Go.WideElems
open Go.ChangeMaps (open_string shut_string)
theorem methodRewrites_reads (os : Os) {H : Type} (enc : TypeId × Value → H) : ∃ x, DataW.whole enc Tryz.prog ((laidWorld os).forCall (fun _ _ => 0) ⟨#[], #[.int .i64 0, .string ⟨#[]⟩], []⟩).memory Tryz.f6.params.toList Rows.methodRewritesSpec.vars false (#[.int .i64 0, .string ⟨#[]⟩] : Array Value).toList 8 = some x :=
  Option.isSome_iff_exists.1 (by kernel_rfl)
set_option maxRecDepth 100000 in
theorem methodRewrites_lifted (os : Os) (started : os.Started) (H : Type) (enc : TypeId × Value → H) (F : Stop.Interp) :
    ReturnsInHanded {} Tryz.checked os 6 .any ((OpenSpec.ofChange Rows.methodRewritesSpec).preRow enc Tryz.prog Tryz.f6 Rows.methodRewritesRow.domain false Rows.methodRewritesRow.laid) (((OpenSpec.ofChange Rows.methodRewritesSpec).at F).post enc Tryz.prog Tryz.f6 false true false false) := by
  obtain ⟨x, hx⟩ := methodRewrites_reads os enc
  refine returnsInHanded_of_row (C := Tryz.checked) (s := OpenSpec.ofChange Rows.methodRewritesSpec) own started (by kernel_rfl) Tryz.func6
    (witness_row_atRef (enc := enc) (C := Tryz.checked) false (laidWorld os) #[.int .i64 0, .string ⟨#[]⟩] rfl (by kernel_rfl) (by kernel_rfl) (by kernel_rfl)
      (OpenSpec.preRow_of_cond 8 hx rfl (fun k hk => by cases hk) (by kernel_rfl) (laid_met3 os _))) ?_
  intro W base args ds gs before hval0 hW _ _ _ hL hsh _
  have hval : ∀ (j : Nat) t v, Tryz.f6.params[j]? = some t → args[j]? = some v → Value.okWide Tryz.prog W .any base t v := hval0
  have hW' := hW
  obtain ⟨p, q, hA0, hV, rfl, hfz, hnd⟩ := hW
  have hA : DataW.TrodAll enc Tryz.prog W 0 (fun _ => true) true Tryz.f6.params.toList args.toList ds p := hA0
  rw [Tryz.params6] at hA hval
  obtain ⟨v0, v1, d0, d1, p0, p1, rfl, rfl, rfl, h0, h1⟩ := trodAll_two hA
  obtain ⟨rfl, rfl⟩ := trodVars_none hV
  simp only [List.append_nil] at hfz hnd hW'
  have hlt : ∀ x ∈ p0 ++ p1, x.block < W.heap.size := fun x hx => hW'.lt x hx
  have h0k := h0
  obtain ⟨n0, e0, _, _, w0⟩ := open_int Tryz.underlying3 (hval 0 3 v0 rfl rfl) h0
  subst e0
  have h1k := h1
  obtain ⟨s1, e1, _, _, w1⟩ := open_string Tryz.underlying9 (hval 1 9 v1 rfl rfl) h1
  obtain ⟨l1, rfl⟩ := mkS_surj s1
  subst e1
  refine (MethodRewritesL_c n0 l1 W  (gl_of hsh) (tabs_laid3 hL) (bd_laid hL)).mono fun e W' ⟨he, hb⟩ => ?_
  subst he
  refine ⟨_, rfl, _, _, _, [], p0 ++ p1, [], hW', ?_, ?_, ?_, hb.frame _, fun h => by cases h⟩
  · exact trodAll_mk1 (shut_bool Tryz.underlying4 _)
  · exact trodAll_mk2 (Below.trod laidOut (by kernel_rfl) (of_decide_eq_true (by kernel_rfl)) h0k hb (fun x hx => hlt x (by simp [hx]))) (Below.trod laidOut (by kernel_rfl) (of_decide_eq_true (by kernel_rfl)) h1k hb (fun x hx => hlt x (by simp [hx])))
  · rfl
theorem methodRewrites_k0 : Rows.methodRewritesRow.wf (OpenSpec.ofChange (OpenSpec.ofChange Rows.methodRewritesSpec).bare) = true := by kernel_rfl
theorem methodRewrites_k3 : Tryz.f6.params.all (PP.readableRec ·) = true := by kernel_rfl
theorem methodRewrites_k4 : namedTie PP Rows.methodRewritesRow.named (OpenSpec.ofChange Rows.methodRewritesSpec).bare.vars = true := by kernel_rfl
theorem methodRewrites_k5 : (Rows.methodRewritesRow.stops == []) = true := by kernel_rfl
theorem methodRewrites_k7 : (Rows.methodRewritesRow.knobs == []) = true := by kernel_rfl
theorem methodRewrites_k9 : (Rows.methodRewritesRow.inPlace == PP.inPlace 6) = true := by kernel_rfl
theorem methodRewrites_k10 : (Rows.methodRewritesRow.unfollowed == PP.unfollowed 6) = true := by kernel_rfl
theorem methodRewrites_k11 : (Rows.methodRewritesRow.recurses == PP.recurses 6) = true := by kernel_rfl
theorem methodRewrites_k12 : (Rows.methodRewritesRow.named == PP.varsNamed 6) = true := by kernel_rfl
theorem methodRewrites_k13 : (Rows.methodRewritesRow.maps == (Tryz.f6.params.toList ++ (OpenSpec.ofChange Rows.methodRewritesSpec).bare.plain.varTypes PP).any (PP.mapsRec ·)) = true := by kernel_rfl
theorem methodRewrites_k14 : (Rows.methodRewritesRow.ifaces == (Tryz.f6.params.toList ++ (OpenSpec.ofChange Rows.methodRewritesSpec).bare.plain.varTypes PP).any (PP.ifacesRec ·)) = true := by kernel_rfl
theorem methodRewrites_k15 : (Rows.methodRewritesRow.mapsOut == PP.mapsAmong Tryz.f6.resultTypes.toList) = true := by kernel_rfl
theorem methodRewrites_k16 : (Rows.methodRewritesRow.loops == (Tryz.f6.params.toList ++ (OpenSpec.ofChange Rows.methodRewritesSpec).bare.plain.varTypes PP).any (PP.loopsFrom ·)) = true := by kernel_rfl
theorem methodRewrites_k17 : (Rows.methodRewritesRow.wideKeys == (Tryz.f6.params.toList ++ (OpenSpec.ofChange Rows.methodRewritesSpec).bare.plain.varTypes PP ++ Tryz.f6.resultTypes.toList).any (PP.wideKeysFrom ·)) = true := by kernel_rfl
theorem methodRewrites_k18 : (OpenSpec.ofChange Rows.methodRewritesSpec).bare.vars.all (PP.varReadable ·) = true := by kernel_rfl
theorem methodRewrites_k19 : Tryz.f6.resultTypes.all (fun t => PP.readableRec t && decide (t < PP.types.size)) = true := by kernel_rfl
theorem methodRewrites_k20 : (Rows.methodRewritesRow.ifacesOut == Tryz.f6.resultTypes.toList.any (PP.ifacesRec ·)) = true := by kernel_rfl
theorem methodRewrites_k21 : (Rows.methodRewritesRow.loopsOut == Tryz.f6.resultTypes.toList.any (PP.loopsFrom ·)) = true := by kernel_rfl
theorem methodRewrites_k23 : Rows.methodRewritesRow.shortTexts.isNone = true := by kernel_rfl
theorem methodRewrites_k28 : (Rows.methodRewritesRow.kinds == (if Rows.methodRewritesRow.domain.isEmpty then [] else Tryz.f6.params.toList.map fun t => match PP.underlying t with | some (.int k) => some k | _ => none)) = true := by kernel_rfl
theorem methodRewrites_k29 : (Rows.methodRewritesRow.pinned == Rows.methodRewritesRow.pinnedBy) = true := by kernel_rfl
theorem methodRewrites_k30 : (Rows.methodRewritesRow.veiled == (Tryz.f6.params.toList ++ (OpenSpec.ofChange Rows.methodRewritesSpec).bare.plain.varTypes PP ++ Tryz.f6.resultTypes.toList).any (PP.veiledRec ·)) = true := by kernel_rfl
theorem methodRewrites_k31 : Rows.methodRewritesRow.veiledFits PP Tryz.f6.params.toList (Tryz.f6.params.toList ++ (OpenSpec.ofChange Rows.methodRewritesSpec).bare.plain.varTypes PP ++ Tryz.f6.resultTypes.toList) = true := by kernel_rfl
set_option maxRecDepth 100000 in
theorem methodRewrites_closed : joinedFacts PP 6 Tryz.f6 (OpenSpec.ofChange Rows.methodRewritesSpec).bare Rows.methodRewritesRow = true := and2 (and2 (and2 (and2 (and2 (and2 (and2 (and2 (and2 (and2 (and2 (and2 (and2 (and2 (and2 (and2 (and2 (and2 (and2 (and2 (and2 (and2 (and2 (and2 (and2 (and2 (and2 (and2 (and2 (and2 (and2 (methodRewrites_k0) j_laidOut) j_rowed) methodRewrites_k3) methodRewrites_k4) methodRewrites_k5) j_stops) methodRewrites_k7) j_knobs) methodRewrites_k9) methodRewrites_k10) methodRewrites_k11) methodRewrites_k12) methodRewrites_k13) methodRewrites_k14) methodRewrites_k15) methodRewrites_k16) methodRewrites_k17) methodRewrites_k18) methodRewrites_k19) methodRewrites_k20) methodRewrites_k21) j_plain) methodRewrites_k23) j_heard) j_enter) j_lift) j_make) methodRewrites_k28) methodRewrites_k29) methodRewrites_k30) methodRewrites_k31
theorem methodRewrites_named : Tryz.pinned.checked.prog.funcNamed Rows.methodRewritesRow.func = some 6 := by kernel_rfl
theorem methodRewrites_text : Rows.methodRewritesRow.wfByText (OpenSpec.ofChange Rows.methodRewritesSpec) = true := by kernel_rfl
theorem methodRewrites_goes : false = Rows.methodRewritesRow.goesBy Tryz.pinned.checked.prog := by kernel_rfl
theorem methodRewrites_said : Rows.MethodRewritesSaid :=
  OpenClaim.holds_of_cond 6 Tryz.f6 rfl rfl rfl rfl rfl rfl rfl ⟨rfl, rfl, rfl, rfl, rfl⟩ rfl rfl rfl rfl rfl methodRewrites_named Tryz.func6 methodRewrites_closed
    (of_decide_eq_true (by kernel_rfl)) (by unfold Func.isWrapper; first | (rw [if_pos (by decide +kernel)]; kernel_rfl) | (rw [if_neg (by decide +kernel)]; exact ⟨rfl, rfl⟩))
    (fun os started H enc _ F => by rw [OpenClaim.pre_eq_preRow]; exact methodRewrites_lifted os started H enc F)
theorem methodRewrites_plain (f : FuncId) (fn : Func) (hf : Tryz.pinned.checked.prog.funcNamed "postmark/postmarklaw20.MethodRewrites" = some f) (hfn : Tryz.pinned.checked.prog.funcs[f]? = some fn) :
    true = Tryz.pinned.checked.prog.looks [] ∧ ∀ (j : Nat) t, fn.params[j]? = some t → Tryz.pinned.checked.prog.wantsStandIn t = false := by
  obtain rfl : f = 6 := Option.some.inj ((show Tryz.prog.funcNamed "postmark/postmarklaw20.MethodRewrites" = some 6 by kernel_rfl).symm.trans hf) |>.symm
  obtain rfl : fn = Tryz.f6 := (Option.some.inj (Tryz.func6.symm.trans hfn)).symm
  refine ⟨by kernel_rfl, fun j t ht => ?_⟩
  rw [Tryz.params6] at ht
  have hm := Array.mem_of_getElem? ht
  simp only [Array.mem_def, List.mem_cons, List.not_mem_nil, or_false] at hm
  rcases hm with rfl | rfl
  · exact (show Tryz.prog.wantsStandIn 3 = false by kernel_rfl)
  · exact (show Tryz.prog.wantsStandIn 9 = false by kernel_rfl)
theorem methodRewrites_holds : Rows.MethodRewritesCardSaid :=
  Claim7.holds_tied_plain_at .later [] _ _ _ _ methodRewrites_said (fun _ h => by cases h) methodRewrites_text (fun _ h => by cases h) methodRewrites_row_tie rfl ⟨rfl, rfl⟩ j_main rfl methodRewrites_plain methodRewrites_goes
#print axioms methodRewrites_holds
end Go.Proofs.YtppbkblnjlbnfaaGreatDoor
