/-
TaintPolicy: whatever comes in, the law's call returns true, and the arguments read behind the call as they did before; no condition on them. The row lists the two tables of unicode/utf8 (first, acceptRanges); the card ties them.
-/
import Derived.Test.YtlcckikfmlhgjaaGreatDoorAw19
import Derived.Test.YtlcckikfmlhgjaaGreatDoorTz
import Derived.Test.YtlcckikfmlhgjaaGreatDoorOq
set_option linter.unusedVariables false
set_option linter.unusedSimpArgs false
/-! The walk of TaintPolicy. -/
namespace Go.Proofs.YtlcckikfmlhgjaaGreatDoor
open Go.RowKit
set_option maxRecDepth 100000 in
set_option maxHeartbeats 16000000 in
theorem TaintPolicy_c (q : QV) (w : World) (hr : RdW w q.u.a q.u.pn q.u.xs) (hf : RdFW w q.ha q.hn q.hs) (hg : Gl w) (hT : Lib.Utf8Tabs 1 2 w) : Calls Tryz.prog 11 #[.agg q.cells] w fun e w' => e = .returned (.bool true) ∧ Below w.heap.size w w' := by
  have HG := Lib.hid hg
  have HTB := Lib.hid hT
  have R := Lib.hid hr
  clear hg hT hr hf
  have HB : Hid (Below w.heap.size w (w.alloc (.cells q.cells 45))) := Lib.hid (b_alloc (Below.refl _ _) _)
  have Hq : Hid ((w.alloc (.cells q.cells 45)).heap[w.heap.size]? = some (.cells q.cells 45 (0, 0))) := Lib.hid ((by have h := Go.heap_alloc_new w (.cells q.cells 45); simpa using h))
  go_enter Tryz.func11, Tryz.ntmps11
  go_upto_region 1 with fail
  generalize w.alloc (.cells q.cells 45) = V0 at HB Hq ⊢
  go_wp2_with fail
  refine (awake19_c _ (HG.out.below HB.out) (tabs_below HTB.out HB.out)).mono ?_
  rintro e V1 ⟨rfl, hb⟩
  replace HB := Lib.hid (b_then HB.out hb)
  replace Hq := Lib.hid (obj_b hb Hq.out)
  clear hb
  go_wp2_with (first | go_skip | (refine wpList_load_g 45 _ rfl (by kernel_rfl) w.heap.size rfl Hq.out Tryz.underlying45 rfl (by kernel_rfl) ?_))
  refine (FewReq_c q _ (R.out.below HB.out)).mono ?_
  rintro e V2 ⟨rfl, hb⟩
  replace HB := Lib.hid (b_then HB.out hb)
  replace Hq := Lib.hid (obj_b hb Hq.out)
  clear hb
  have c38 : V2.cell? ⟨w.heap.size, 38, none⟩ = some (.int .i64 q.mo) := by rw [Lib.cell_of_heap Hq.out]; rfl
  have c21 : V2.cell? ⟨w.heap.size, 21, none⟩ = some (.string (mkS q.me)) := by rw [Lib.cell_of_heap Hq.out]; rfl
  have c42 : V2.cell? ⟨w.heap.size, 42, none⟩ = some (.bool q.ta) := by rw [Lib.cell_of_heap Hq.out]; rfl
  cases hfw : qfew q
  · skip
    go_wp2
    go_ret
    exact ⟨rfl, HB.out⟩
  have OK := Lib.hid (fun W (hb : Below w.heap.size w W) => (qfew_ok (R.out.below hb) hfw).1)
  clear hfw
  cases hpp : (q.mo == 1)
  rotate_left
  · skip
    go_wp2
    go_ret
    exact ⟨rfl, HB.out⟩
  cases hG : (q.me == [71, 69, 84])
  rotate_left
  · skip
    go_wp2
    go_ret
    exact ⟨rfl, HB.out⟩
  cases hH : (q.me == [72, 69, 65, 68])
  rotate_left
  · skip
    go_wp2
    go_ret
    exact ⟨rfl, HB.out⟩
  cases hta : q.ta
  rotate_left
  · rw [hta] at c42
    go_wp2
    go_ret
    exact ⟨rfl, HB.out⟩
  rw [hta] at c42
  have hM : PM.plainM q.me = false := by
    unfold PM.plainM
    rw [← beq_list, ← beq_list]
    show (q.me == [71, 69, 84] || q.me == [72, 69, 65, 68]) = false
    rw [hG, hH]
    rfl
  have h1 : q.mo ≠ 1 := by
    intro h
    rw [h] at hpp
    exact absurd hpp (by decide)
  obtain ⟨S, hS⟩ : ∃ S, PM.originShow q.o.pm = S := ⟨_, rfl⟩
  have HSH := Lib.hid hS
  have hs0 : PM.sends ({ q with po := 1 } : QV).pm = ([110, 117, 108, 108], true) := by
    rw [PM.taint_policy _ hM h1 hta]
    rfl
  have HS0 := Lib.hid hs0
  clear hs0
  have hs1 : PM.sends ({ q with po := 8 } : QV).pm = (S, true) := by
    rw [PM.taint_policy _ hM h1 hta]
    rw [← hS]
    rfl
  have HS1 := Lib.hid hs1
  clear hs1
  have hs2 : PM.sends ({ q with po := 4 } : QV).pm = (S, true) := by
    rw [PM.taint_policy _ hM h1 hta]
    rw [← hS]
    rfl
  have HS2 := Lib.hid hs2
  clear hs2
  have hs3 : PM.sends ({ q with po := 6 } : QV).pm = (S, true) := by
    rw [PM.taint_policy _ hM h1 hta]
    rw [← hS]
    rfl
  have HS3 := Lib.hid hs3
  clear hs3
  clear hM h1 hS hta
  have ff := Lib.frozen_of_heap Hq.out 40
  have dd : V2.cell? ⟨w.heap.size, 40, none⟩ = some (.int .i64 q.po) := by rw [Lib.cell_of_heap Hq.out]; rfl
  go_upto_region 6 with fail
  clear ff dd c38 c21 c42 hpp hG hH
  obtain ⟨W0, hV⟩ : ∃ W0, W0 = V2.setCell ⟨w.heap.size, 40, none⟩ (.int .i64 1) := ⟨_, rfl⟩
  rw [← hV]
  replace Hq := Lib.hid (show W0.heap[w.heap.size]? = some (.cells ({ q with po := 1 } : QV).cells 45 (0, 0)) from by rw [hV]; exact setCell_heap Hq.out 40 _)
  replace HB := Lib.hid (show Below w.heap.size w W0 from by rw [hV]; exact b_set HB.out _ (Nat.le_refl _) _)
  clear hV
  go_wp2_with (first | go_skip | (refine wpList_load_g 45 _ rfl (by kernel_rfl) w.heap.size rfl Hq.out Tryz.underlying45 rfl (by kernel_rfl) ?_))
  refine (Sends_c ({ q with po := 1 } : QV) _ ⟨(OK.out _ HB.out).u, (OK.out _ HB.out).o, (OK.out _ HB.out).me⟩ (HG.out.below HB.out)).mono ?_
  rw [HS0.out]
  rintro e V3 ⟨rfl, hb⟩
  replace HB := Lib.hid (b_then HB.out hb)
  replace Hq := Lib.hid (obj_b hb Hq.out)
  clear hb
  have ff := Lib.frozen_of_heap Hq.out 40
  have dd : V3.cell? ⟨w.heap.size, 40, none⟩ = some (.int .i64 1) := by rw [Lib.cell_of_heap Hq.out]; rfl
  go_upto_region 8 with fail
  clear ff dd
  obtain ⟨W1, hV⟩ : ∃ W1, W1 = V3.setCell ⟨w.heap.size, 40, none⟩ (.int .i64 8) := ⟨_, rfl⟩
  rw [← hV]
  replace Hq := Lib.hid (show W1.heap[w.heap.size]? = some (.cells ({ q with po := 8 } : QV).cells 45 (0, 0)) from by rw [hV]; exact setCell_heap Hq.out 40 _)
  replace HB := Lib.hid (show Below w.heap.size w W1 from by rw [hV]; exact b_set HB.out _ (Nat.le_refl _) _)
  clear hV
  go_wp2_with (first | go_skip | (refine wpList_load_g 45 _ rfl (by kernel_rfl) w.heap.size rfl Hq.out Tryz.underlying45 rfl (by kernel_rfl) ?_))
  refine (Sends_c ({ q with po := 8 } : QV) _ ⟨(OK.out _ HB.out).u, (OK.out _ HB.out).o, (OK.out _ HB.out).me⟩ (HG.out.below HB.out)).mono ?_
  rw [HS1.out]
  rintro e V4 ⟨rfl, hb⟩
  replace HB := Lib.hid (b_then HB.out hb)
  replace Hq := Lib.hid (obj_b hb Hq.out)
  clear hb
  have ff := Lib.frozen_of_heap Hq.out 40
  have dd : V4.cell? ⟨w.heap.size, 40, none⟩ = some (.int .i64 8) := by rw [Lib.cell_of_heap Hq.out]; rfl
  go_upto_region 10 with fail
  clear ff dd
  obtain ⟨W2, hV⟩ : ∃ W2, W2 = V4.setCell ⟨w.heap.size, 40, none⟩ (.int .i64 4) := ⟨_, rfl⟩
  rw [← hV]
  replace Hq := Lib.hid (show W2.heap[w.heap.size]? = some (.cells ({ q with po := 4 } : QV).cells 45 (0, 0)) from by rw [hV]; exact setCell_heap Hq.out 40 _)
  replace HB := Lib.hid (show Below w.heap.size w W2 from by rw [hV]; exact b_set HB.out _ (Nat.le_refl _) _)
  clear hV
  go_wp2_with (first | go_skip | (refine wpList_load_g 45 _ rfl (by kernel_rfl) w.heap.size rfl Hq.out Tryz.underlying45 rfl (by kernel_rfl) ?_))
  refine (Sends_c ({ q with po := 4 } : QV) _ ⟨(OK.out _ HB.out).u, (OK.out _ HB.out).o, (OK.out _ HB.out).me⟩ (HG.out.below HB.out)).mono ?_
  rw [HS2.out]
  rintro e V5 ⟨rfl, hb⟩
  replace HB := Lib.hid (b_then HB.out hb)
  replace Hq := Lib.hid (obj_b hb Hq.out)
  clear hb
  have ff := Lib.frozen_of_heap Hq.out 40
  have dd : V5.cell? ⟨w.heap.size, 40, none⟩ = some (.int .i64 4) := by rw [Lib.cell_of_heap Hq.out]; rfl
  go_upto_region 12 with fail
  clear ff dd
  obtain ⟨W3, hV⟩ : ∃ W3, W3 = V5.setCell ⟨w.heap.size, 40, none⟩ (.int .i64 6) := ⟨_, rfl⟩
  rw [← hV]
  replace Hq := Lib.hid (show W3.heap[w.heap.size]? = some (.cells ({ q with po := 6 } : QV).cells 45 (0, 0)) from by rw [hV]; exact setCell_heap Hq.out 40 _)
  replace HB := Lib.hid (show Below w.heap.size w W3 from by rw [hV]; exact b_set HB.out _ (Nat.le_refl _) _)
  clear hV
  go_wp2_with (first | go_skip | (refine wpList_load_g 45 _ rfl (by kernel_rfl) w.heap.size rfl Hq.out Tryz.underlying45 rfl (by kernel_rfl) ?_))
  refine (Sends_c ({ q with po := 6 } : QV) _ ⟨(OK.out _ HB.out).u, (OK.out _ HB.out).o, (OK.out _ HB.out).me⟩ (HG.out.below HB.out)).mono ?_
  rw [HS3.out]
  rintro e V6 ⟨rfl, hb⟩
  replace HB := Lib.hid (b_then HB.out hb)
  replace Hq := Lib.hid (obj_b hb Hq.out)
  clear hb
  go_wp2_with (first | go_skip | (refine wpList_load_mg 35 _ rfl (by kernel_rfl) w.heap.size 24 rfl q.o.cells (q_org (q := { q with po := 6 }) Hq.out) Tryz.underlying35 rfl (by kernel_rfl) ?_))
  refine (Show_o_c q.o _ (OK.out _ HB.out).o (HG.out.below HB.out)).mono ?_
  rw [HSH.out]
  rintro e V7 ⟨rfl, hb⟩
  replace HB := Lib.hid (b_then HB.out hb)
  replace Hq := Lib.hid (obj_b hb Hq.out)
  clear hb
  go_wp2
  go_ret
  exact ⟨rfl, HB.out⟩
end Go.Proofs.YtlcckikfmlhgjaaGreatDoor
/-! The row of TaintPolicy. -/
namespace Go.Proofs.YtlcckikfmlhgjaaGreatDoor
open Go.ChangeShapes Go.WideShapes Go.ChangeAt Go.RowKit
open Go.WideMaps Go.WideElems
open Go.ChangeMaps (open_string shut_string)
theorem taintPolicy_reads (os : Os) {H : Type} (enc : TypeId × Value → H) : ∃ x, DataW.whole enc Tryz.prog ((laidWorld os).forCall (fun _ _ => 0) ⟨#[], #[.agg zreq], []⟩).memory Tryz.f11.params.toList Rows.taintPolicySpec.vars false (#[.agg zreq] : Array Value).toList 8 = some x :=
  Option.isSome_iff_exists.1 (by kernel_rfl)
set_option maxRecDepth 100000 in
theorem taintPolicy_lifted (os : Os) (started : os.Started) (H : Type) (enc : TypeId × Value → H) (F : Stop.Interp) :
    ReturnsInHanded {} Tryz.checked os 11 .any ((OpenSpec.ofChange Rows.taintPolicySpec).preRow enc Tryz.prog Tryz.f11 Rows.taintPolicyRow.domain false Rows.taintPolicyRow.laid) (((OpenSpec.ofChange Rows.taintPolicySpec).at F).post enc Tryz.prog Tryz.f11 false true false false) := by
  obtain ⟨x, hx⟩ := taintPolicy_reads os enc
  refine returnsInHanded_of_row (C := Tryz.checked) (s := OpenSpec.ofChange Rows.taintPolicySpec) own started (by kernel_rfl) Tryz.func11
    (witness_row_atRef (enc := enc) (C := Tryz.checked) false (laidWorld os) #[.agg zreq] rfl (by kernel_rfl) (by kernel_rfl) (by kernel_rfl)
      (OpenSpec.preRow_of_cond 8 hx rfl (fun k hk => by cases hk) (by kernel_rfl) (laid_met os _))) ?_
  intro W base args ds gs before hval0 hW _ _ _ hL hsh _
  have hval : ∀ (j : Nat) t v, Tryz.f11.params[j]? = some t → args[j]? = some v → Value.okWide Tryz.prog W .any base t v := hval0
  have hW' := hW
  obtain ⟨p, q, hA0, hV, rfl, hfz, hnd⟩ := hW
  have hA : DataW.TrodAll enc Tryz.prog W 0 (fun _ => true) true Tryz.f11.params.toList args.toList ds p := hA0
  rw [Tryz.params11] at hA hval
  obtain ⟨v0, d0, rfl, rfl, h0⟩ := trodAll_one hA
  obtain ⟨rfl, rfl⟩ := trodVars_none hV
  simp only [List.append_nil] at hfz hnd hW'
  have hlt : ∀ x ∈ p, x.block < W.heap.size := fun x hx => hW'.lt x hx
  have h0k := h0
  obtain ⟨q0, rfl, hr0, hf0⟩ := open_req (hval 0 45 v0 rfl rfl) h0
  refine (TaintPolicy_c q0 W hr0 hf0 (gl_of hsh) (tabs_laid hL)).mono fun e W' ⟨he, hb⟩ => ?_
  subst he
  refine ⟨_, rfl, _, _, _, [], p, [], hW', ?_, ?_, ?_, hb.frame _, fun h => by cases h⟩
  · exact trodAll_mk1 (shut_bool Tryz.underlying4 _)
  · exact trodAll_mk1 (Below.trod laidOut (by kernel_rfl) (of_decide_eq_true (by kernel_rfl)) h0k hb hlt)
  · rfl
theorem taintPolicy_k0 : Rows.taintPolicyRow.wf (OpenSpec.ofChange (OpenSpec.ofChange Rows.taintPolicySpec).bare) = true := by kernel_rfl
theorem taintPolicy_k3 : Tryz.f11.params.all (PP.readableRec ·) = true := by kernel_rfl
theorem taintPolicy_k4 : namedTie PP Rows.taintPolicyRow.named (OpenSpec.ofChange Rows.taintPolicySpec).bare.vars = true := by kernel_rfl
theorem taintPolicy_k5 : (Rows.taintPolicyRow.stops == []) = true := by kernel_rfl
theorem taintPolicy_k7 : (Rows.taintPolicyRow.knobs == []) = true := by kernel_rfl
theorem taintPolicy_k9 : (Rows.taintPolicyRow.inPlace == PP.inPlace 11) = true := by kernel_rfl
theorem taintPolicy_k10 : (Rows.taintPolicyRow.unfollowed == PP.unfollowed 11) = true := by kernel_rfl
theorem taintPolicy_k11 : (Rows.taintPolicyRow.recurses == PP.recurses 11) = true := by kernel_rfl
theorem taintPolicy_k12 : (Rows.taintPolicyRow.named == PP.varsNamed 11) = true := by kernel_rfl
theorem taintPolicy_k13 : (Rows.taintPolicyRow.maps == (Tryz.f11.params.toList ++ (OpenSpec.ofChange Rows.taintPolicySpec).bare.plain.varTypes PP).any (PP.mapsRec ·)) = true := by kernel_rfl
theorem taintPolicy_k14 : (Rows.taintPolicyRow.ifaces == (Tryz.f11.params.toList ++ (OpenSpec.ofChange Rows.taintPolicySpec).bare.plain.varTypes PP).any (PP.ifacesRec ·)) = true := by kernel_rfl
theorem taintPolicy_k15 : (Rows.taintPolicyRow.mapsOut == PP.mapsAmong Tryz.f11.resultTypes.toList) = true := by kernel_rfl
theorem taintPolicy_k16 : (Rows.taintPolicyRow.loops == (Tryz.f11.params.toList ++ (OpenSpec.ofChange Rows.taintPolicySpec).bare.plain.varTypes PP).any (PP.loopsFrom ·)) = true := by kernel_rfl
theorem taintPolicy_k17 : (Rows.taintPolicyRow.wideKeys == (Tryz.f11.params.toList ++ (OpenSpec.ofChange Rows.taintPolicySpec).bare.plain.varTypes PP ++ Tryz.f11.resultTypes.toList).any (PP.wideKeysFrom ·)) = true := by kernel_rfl
theorem taintPolicy_k18 : (OpenSpec.ofChange Rows.taintPolicySpec).bare.vars.all (PP.varReadable ·) = true := by kernel_rfl
theorem taintPolicy_k19 : Tryz.f11.resultTypes.all (fun t => PP.readableRec t && decide (t < PP.types.size)) = true := by kernel_rfl
theorem taintPolicy_k20 : (Rows.taintPolicyRow.ifacesOut == Tryz.f11.resultTypes.toList.any (PP.ifacesRec ·)) = true := by kernel_rfl
theorem taintPolicy_k21 : (Rows.taintPolicyRow.loopsOut == Tryz.f11.resultTypes.toList.any (PP.loopsFrom ·)) = true := by kernel_rfl
theorem taintPolicy_k23 : Rows.taintPolicyRow.shortTexts.isNone = true := by kernel_rfl
theorem taintPolicy_k28 : (Rows.taintPolicyRow.kinds == (if Rows.taintPolicyRow.domain.isEmpty then [] else Tryz.f11.params.toList.map fun t => match PP.underlying t with | some (.int k) => some k | _ => none)) = true := by kernel_rfl
theorem taintPolicy_k29 : (Rows.taintPolicyRow.pinned == Rows.taintPolicyRow.pinnedBy) = true := by kernel_rfl
theorem taintPolicy_k30 : (Rows.taintPolicyRow.veiled == (Tryz.f11.params.toList ++ (OpenSpec.ofChange Rows.taintPolicySpec).bare.plain.varTypes PP ++ Tryz.f11.resultTypes.toList).any (PP.veiledRec ·)) = true := by kernel_rfl
theorem taintPolicy_k31 : Rows.taintPolicyRow.veiledFits PP Tryz.f11.params.toList (Tryz.f11.params.toList ++ (OpenSpec.ofChange Rows.taintPolicySpec).bare.plain.varTypes PP ++ Tryz.f11.resultTypes.toList) = true := by kernel_rfl
set_option maxRecDepth 100000 in
theorem taintPolicy_closed : joinedFacts PP 11 Tryz.f11 (OpenSpec.ofChange Rows.taintPolicySpec).bare Rows.taintPolicyRow = true := and2 (and2 (and2 (and2 (and2 (and2 (and2 (and2 (and2 (and2 (and2 (and2 (and2 (and2 (and2 (and2 (and2 (and2 (and2 (and2 (and2 (and2 (and2 (and2 (and2 (and2 (and2 (and2 (and2 (and2 (and2 (taintPolicy_k0) j_laidOut) j_rowed) taintPolicy_k3) taintPolicy_k4) taintPolicy_k5) j_stops) taintPolicy_k7) j_knobs) taintPolicy_k9) taintPolicy_k10) taintPolicy_k11) taintPolicy_k12) taintPolicy_k13) taintPolicy_k14) taintPolicy_k15) taintPolicy_k16) taintPolicy_k17) taintPolicy_k18) taintPolicy_k19) taintPolicy_k20) taintPolicy_k21) j_plain) taintPolicy_k23) j_heard) j_enter) j_lift) j_make) taintPolicy_k28) taintPolicy_k29) taintPolicy_k30) taintPolicy_k31
theorem taintPolicy_named : Tryz.pinned.checked.prog.funcNamed Rows.taintPolicyRow.func = some 11 := by kernel_rfl
theorem taintPolicy_text : Rows.taintPolicyRow.wfByText (OpenSpec.ofChange Rows.taintPolicySpec) = true := by kernel_rfl
theorem taintPolicy_goes : false = Rows.taintPolicyRow.goesBy Tryz.pinned.checked.prog := by kernel_rfl
theorem taintPolicy_said : Rows.TaintPolicySaid :=
  OpenClaim.holds_of_cond 11 Tryz.f11 rfl rfl rfl rfl rfl rfl rfl ⟨rfl, rfl, rfl, rfl, rfl⟩ rfl rfl rfl rfl rfl taintPolicy_named Tryz.func11 taintPolicy_closed
    (of_decide_eq_true (by kernel_rfl)) (by unfold Func.isWrapper; first | (rw [if_pos (by decide +kernel)]; kernel_rfl) | (rw [if_neg (by decide +kernel)]; exact ⟨rfl, rfl⟩))
    (fun os started H enc _ F => by rw [OpenClaim.pre_eq_preRow]; exact taintPolicy_lifted os started H enc F)
theorem taintPolicy_plain (f : FuncId) (fn : Func) (hf : Tryz.pinned.checked.prog.funcNamed "postmark/postmarklaw19.TaintPolicy" = some f) (hfn : Tryz.pinned.checked.prog.funcs[f]? = some fn) :
    true = Tryz.pinned.checked.prog.looks [] ∧ ∀ (j : Nat) t, fn.params[j]? = some t → Tryz.pinned.checked.prog.wantsStandIn t = false := by
  obtain rfl : f = 11 := Option.some.inj ((show Tryz.prog.funcNamed "postmark/postmarklaw19.TaintPolicy" = some 11 by kernel_rfl).symm.trans hf) |>.symm
  obtain rfl : fn = Tryz.f11 := (Option.some.inj (Tryz.func11.symm.trans hfn)).symm
  refine ⟨by kernel_rfl, fun j t ht => ?_⟩
  rw [Tryz.params11] at ht
  have hm := Array.mem_of_getElem? ht
  simp only [Array.mem_def, List.mem_cons, List.not_mem_nil, or_false] at hm
  rcases hm with rfl
  · exact (show Tryz.prog.wantsStandIn 45 = false by kernel_rfl)
theorem taintPolicy_holds : Rows.TaintPolicyCardSaid :=
  Claim7.holds_tied_plain_at .later [] _ _ _ _ taintPolicy_said (fun _ h => by cases h) taintPolicy_text (fun _ h => by cases h) taintPolicy_row_tie rfl ⟨rfl, rfl⟩ j_main rfl taintPolicy_plain taintPolicy_goes
#print axioms taintPolicy_holds
end Go.Proofs.YtlcckikfmlhgjaaGreatDoor
