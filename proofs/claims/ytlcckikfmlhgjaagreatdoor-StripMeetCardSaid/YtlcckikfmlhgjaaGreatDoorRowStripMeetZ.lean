/-
StripMeet: whatever comes in, the law's call returns true, and the arguments read behind the call as they did before; no condition on them. The row lists the two tables of unicode/utf8 (first, acceptRanges); the card ties them.
-/
import Derived.Test.YtlcckikfmlhgjaaGreatDoorAw16
import Derived.Test.YtlcckikfmlhgjaaGreatDoorTz
set_option linter.unusedVariables false
set_option linter.unusedSimpArgs false
/-! The walk of StripMeet. -/
namespace Go.Proofs.YtlcckikfmlhgjaaGreatDoor
open Go.RowKit
set_option maxRecDepth 100000 in
set_option maxHeartbeats 16000000 in
theorem StripMeet_c (u : UV) (a b : Int) (w : World) (hu : RdW w u.a u.pn u.xs) (hg : Gl w) (hT : Lib.Utf8Tabs 1 2 w) : Calls Tryz.prog 18 #[.agg u.cells, .int .i64 a, .int .i64 b] w fun e w' => e = .returned (.bool true) ∧ Below w.heap.size w w' := by
  have HG := Lib.hid hg
  have HTB := Lib.hid hT
  have Ru := Lib.hid hu
  clear hg hT hu
  have HB : Hid (Below w.heap.size w (w.alloc (.cells u.cells 27))) := Lib.hid (b_alloc (Below.refl _ _) _)
  have Hu : Hid ((w.alloc (.cells u.cells 27)).heap[w.heap.size]? = some (.cells u.cells 27 (0, 0))) := Lib.hid ((by have h := Go.heap_alloc_new w (.cells u.cells 27); simpa using h))
  go_enter Tryz.func18, Tryz.ntmps18
  go_upto_region 1 with fail
  generalize w.alloc (.cells u.cells 27) = V0 at HB Hu ⊢
  go_wp2_with fail
  refine (awake16_c _ (HG.out.below HB.out) (tabs_below HTB.out HB.out)).mono ?_
  rintro e V1 ⟨rfl, hb⟩
  replace HB := Lib.hid (b_then HB.out hb)
  replace Hu := Lib.hid (obj_b hb Hu.out)
  clear hb
  go_wp2_with (first | go_skip | (refine wpList_load_g 27 _ rfl (by kernel_rfl) w.heap.size rfl Hu.out Tryz.underlying27 rfl (by kernel_rfl) ?_))
  refine (Few_c u _ (Ru.out.below HB.out)).mono ?_
  rintro e V2 ⟨rfl, hb⟩
  replace HB := Lib.hid (b_then HB.out hb)
  replace Hu := Lib.hid (obj_b hb Hu.out)
  clear hb
  cases hfu : PM.few u.pm
  · go_wp2
    go_ret
    exact ⟨rfl, HB.out⟩
  have Ou := Lib.hid (few_ok (Ru.out.below HB.out) hfu)
  have Fu := Lib.hid hfu
  clear hfu
  obtain ⟨k, hk⟩ : ∃ k, PM.meet a b = k := ⟨_, rfl⟩
  have hM := Meet_c a b
  rw [hk] at hM
  have HMM := Lib.hid hM
  have hlaw := PM.strip_meet u.pm a b
  rw [hk] at hlaw
  have HL := Lib.hid hlaw
  clear hM hk hlaw
  go_wp2_with fail
  refine wp_region_noPanic ?_
  refine wp_region_held_drew (S := fun W' => UOk w.heap.size u w W') (by kernel_rfl) (UOk.below ⟨Hu.out, Ou.out, HB.out⟩ (b_drew (Below.refl _ _))) (fun hS0 => ?_)
  clear Hu Ou HB
  refine wpAnyH_take (i := 0) (v := ?_) rfl (by kernel_rfl) (by kernel_rfl) (by kernel_rfl) (fun _ _ _ h => h) (Or.inl ⟨by kernel_rfl, fun W hW => ?_⟩) (by assumption) ?_
  rotate_left
  · refine yield_row 27 (.tmp 3) ?_ w.heap.size ?_ hW.one Tryz.underlying27 rfl (by kernel_rfl)
    · rfl
    · rfl
  (try simp only [List.getElem_toArray, List.getElem_cons_zero, List.getElem_cons_succ, Act.put, List.setIfInBounds_toArray, List.set_cons_zero, List.set_cons_succ])
  refine wpAnyH_take (i := 1) (v := ?_) rfl (by kernel_rfl) (by kernel_rfl) (by kernel_rfl) (fun _ _ _ h => h) (Or.inl ⟨by kernel_rfl, fun W hW => ?_⟩) (by assumption) ?_
  rotate_left
  · go_simp
    try with_reducible rfl
  (try simp only [List.getElem_toArray, List.getElem_cons_zero, List.getElem_cons_succ, Act.put, List.setIfInBounds_toArray, List.set_cons_zero, List.set_cons_succ])
  refine wpAnyH_take (i := 2) (v := ?_) rfl (by kernel_rfl) (by kernel_rfl) (by kernel_rfl) (fun _ _ _ h => h) (Or.inl ⟨by kernel_rfl, fun W hW => ?_⟩) (by assumption) ?_
  rotate_left
  · go_simp
    try with_reducible rfl
  (try simp only [List.getElem_toArray, List.getElem_cons_zero, List.getElem_cons_succ, Act.put, List.setIfInBounds_toArray, List.set_cons_zero, List.set_cons_succ])
  refine wpAnyH_ready (rs := [3]) (by kernel_rfl) (by simp) ?_
  refine AllReadyH.cons rfl (fun K hK => ?_) AllReadyH.nil
  go_simp
  refine (HMM.out _).mono ?_
  rintro e U1 ⟨rfl, hb⟩
  have hSn := hS0.below hb
  clear hb hS0
  refine hK.out _ _ hSn (fun _ => ?_)
  clear hK K
  (try simp only [List.getElem_toArray, List.getElem_cons_zero, List.getElem_cons_succ, Act.put, List.setIfInBounds_toArray, List.set_cons_zero, List.set_cons_succ])
  refine wpAnyH_ready (rs := [4]) (by kernel_rfl) (by simp) ?_
  refine AllReadyH.cons rfl (fun K hK => ?_) AllReadyH.nil
  go_simp
  refine (Tell_c u k _ hSn.ok (HG.out.below hSn.be)).mono ?_
  rintro e U2 ⟨rfl, hb⟩
  replace hSn := hSn.below hb
  clear hb
  refine hK.out _ _ hSn (fun _ => ?_)
  clear hK K
  (try simp only [List.getElem_toArray, List.getElem_cons_zero, List.getElem_cons_succ, Act.put, List.setIfInBounds_toArray, List.set_cons_zero, List.set_cons_succ])
  refine wpAnyH_take (i := 5) (v := ?_) rfl (by kernel_rfl) (by kernel_rfl) (by kernel_rfl) (fun _ _ _ h => h) (Or.inl ⟨by kernel_rfl, fun W hW => ?_⟩) (by assumption) ?_
  rotate_left
  · go_simp
    try with_reducible rfl
  (try simp only [List.getElem_toArray, List.getElem_cons_zero, List.getElem_cons_succ, Act.put, List.setIfInBounds_toArray, List.set_cons_zero, List.set_cons_succ])
  refine wpAnyH_take (i := 6) (v := ?_) rfl (by kernel_rfl) (by kernel_rfl) (by kernel_rfl) (fun _ _ _ h => h) (Or.inl ⟨by kernel_rfl, fun W hW => ?_⟩) (by assumption) ?_
  rotate_left
  · go_simp
    try with_reducible rfl
  (try simp only [List.getElem_toArray, List.getElem_cons_zero, List.getElem_cons_succ, Act.put, List.setIfInBounds_toArray, List.set_cons_zero, List.set_cons_succ])
  refine wpAnyH_take (i := 7) (v := ?_) rfl (by kernel_rfl) (by kernel_rfl) (by kernel_rfl) (fun _ _ _ h => h) (Or.inl ⟨by kernel_rfl, fun W hW => ?_⟩) (by assumption) ?_
  rotate_left
  · go_simp
    try with_reducible rfl
  (try simp only [List.getElem_toArray, List.getElem_cons_zero, List.getElem_cons_succ, Act.put, List.setIfInBounds_toArray, List.set_cons_zero, List.set_cons_succ])
  refine wpAnyH_take (i := 8) (v := ?_) rfl (by kernel_rfl) (by kernel_rfl) (by kernel_rfl) (fun _ _ _ h => h) (Or.inl ⟨by kernel_rfl, fun W hW => ?_⟩) (by assumption) ?_
  rotate_left
  · go_simp
    try with_reducible rfl
  (try simp only [List.getElem_toArray, List.getElem_cons_zero, List.getElem_cons_succ, Act.put, List.setIfInBounds_toArray, List.set_cons_zero, List.set_cons_succ])
  refine wpAnyH_take (i := 9) (v := ?_) rfl (by kernel_rfl) (by kernel_rfl) (by kernel_rfl) (fun _ _ _ h => h) (Or.inl ⟨by kernel_rfl, fun W hW => ?_⟩) (by assumption) ?_
  rotate_left
  · go_simp
    try with_reducible rfl
  (try simp only [List.getElem_toArray, List.getElem_cons_zero, List.getElem_cons_succ, Act.put, List.setIfInBounds_toArray, List.set_cons_zero, List.set_cons_succ])
  refine wpAnyH_done (by kernel_rfl) ?_ _
  refine NoPanic.normal ?_
  have Hu := Lib.hid hSn.one
  have Ou := Lib.hid hSn.ok
  have HB := Lib.hid hSn.be
  clear hSn
  go_wp2_with (first | go_skip | (refine wpList_load_g 27 _ rfl (by kernel_rfl) w.heap.size rfl Hu.out Tryz.underlying27 rfl (by kernel_rfl) ?_))
  refine (Tell_c u a _ Ou.out (HG.out.below HB.out)).mono ?_
  rintro e V3 ⟨rfl, hb⟩
  replace HB := Lib.hid (b_then HB.out hb)
  replace Hu := Lib.hid (obj_b hb Hu.out)
  replace Ou := Lib.hid (Ou.out.below hb)
  clear hb
  go_wp2_with (first | go_skip | (refine wpList_load_g 27 _ rfl (by kernel_rfl) w.heap.size rfl Hu.out Tryz.underlying27 rfl (by kernel_rfl) ?_))
  refine (Tell_c u b _ Ou.out (HG.out.below HB.out)).mono ?_
  rintro e V4 ⟨rfl, hb⟩
  replace HB := Lib.hid (b_then HB.out hb)
  replace Hu := Lib.hid (obj_b hb Hu.out)
  replace Ou := Lib.hid (Ou.out.below hb)
  clear hb
  have hl := HL.out
  clear HL
  generalize PM.stripAt u.pm k = S at hl ⊢
  generalize PM.stripAt u.pm a = X at hl ⊢
  generalize PM.stripAt u.pm b = Y at hl ⊢
  have hne : ∀ l : List UInt8, decide (l ≠ []) = !l.isEmpty := fun l => by cases l <;> simp
  rw [hne, hne, hne] at hl
  obtain ⟨hl1, hl2⟩ := hl
  clear hne
  cases hs : S.isEmpty
  rotate_left
  · rw [hs] at hl1 hl2
    have hs' := hs
    clear hs hl1
    cases hx : X.isEmpty
    · cases hy : Y.isEmpty
      · rw [hx, hy] at hl2
        cases hl2
      · clear hl2
        go_wp2
        go_ret
        exact ⟨rfl, HB.out⟩
    · clear hl2
      go_wp2
      go_ret
      exact ⟨rfl, HB.out⟩
  rw [hs] at hl1 hl2
  simp only [Bool.not_false, Bool.and_eq_true, Bool.not_eq_true', Bool.not_true, Bool.false_or, decide_eq_true_eq, Bool.or_eq_true] at hl1 hl2
  obtain ⟨hx, hy⟩ := hl2
  obtain ⟨_, _, q1, q2, q3⟩ := hl1
  have q1' : ((S.length : Int) ≤ X.length) := by omega
  have q2' : ((S.length : Int) ≤ Y.length) := by omega
  cases hsx : (S == X)
  · have hsy : (S == Y) = true := by
      rcases q3 with h | h
      · rw [h] at hsx; simp at hsx
      · rw [h]; simp
    clear q3
    go_wp2
    go_ret
    exact ⟨rfl, HB.out⟩
  · clear q3
    go_wp2
    go_ret
    exact ⟨rfl, HB.out⟩
end Go.Proofs.YtlcckikfmlhgjaaGreatDoor
/-! The row of StripMeet. -/
namespace Go.Proofs.YtlcckikfmlhgjaaGreatDoor
open Go.ChangeShapes Go.WideShapes Go.ChangeAt Go.RowKit
open Go.WideMaps Go.WideElems
open Go.ChangeMaps (open_string shut_string)
theorem stripMeet_reads (os : Os) {H : Type} (enc : TypeId × Value → H) : ∃ x, DataW.whole enc Tryz.prog ((laidWorld os).forCall (fun _ _ => 0) ⟨#[], #[.agg #[.string ⟨#[]⟩, .string ⟨#[]⟩, .string ⟨#[]⟩, .int .i64 0, .string ⟨#[]⟩, .int .i64 0, .int .i64 0, .int .i64 0, .int .i64 0, .int .i64 0, .int .i64 0, .int .i64 0, .int .i64 0, .int .i64 0, .int .i64 0, .slice none 0 0, .string ⟨#[]⟩, .string ⟨#[]⟩, .string ⟨#[]⟩, .bool false, .bool false], .int .i64 0, .int .i64 0], []⟩).memory Tryz.f18.params.toList Rows.stripMeetSpec.vars false (#[.agg #[.string ⟨#[]⟩, .string ⟨#[]⟩, .string ⟨#[]⟩, .int .i64 0, .string ⟨#[]⟩, .int .i64 0, .int .i64 0, .int .i64 0, .int .i64 0, .int .i64 0, .int .i64 0, .int .i64 0, .int .i64 0, .int .i64 0, .int .i64 0, .slice none 0 0, .string ⟨#[]⟩, .string ⟨#[]⟩, .string ⟨#[]⟩, .bool false, .bool false], .int .i64 0, .int .i64 0] : Array Value).toList 8 = some x :=
  Option.isSome_iff_exists.1 (by kernel_rfl)
set_option maxRecDepth 100000 in
theorem stripMeet_lifted (os : Os) (started : os.Started) (H : Type) (enc : TypeId × Value → H) (F : Stop.Interp) :
    ReturnsInHanded {} Tryz.checked os 18 .any ((OpenSpec.ofChange Rows.stripMeetSpec).preRow enc Tryz.prog Tryz.f18 Rows.stripMeetRow.domain false Rows.stripMeetRow.laid) (((OpenSpec.ofChange Rows.stripMeetSpec).at F).post enc Tryz.prog Tryz.f18 false true false false) := by
  obtain ⟨x, hx⟩ := stripMeet_reads os enc
  refine returnsInHanded_of_row (C := Tryz.checked) (s := OpenSpec.ofChange Rows.stripMeetSpec) own started (by kernel_rfl) Tryz.func18
    (witness_row_atRef (enc := enc) (C := Tryz.checked) false (laidWorld os) #[.agg #[.string ⟨#[]⟩, .string ⟨#[]⟩, .string ⟨#[]⟩, .int .i64 0, .string ⟨#[]⟩, .int .i64 0, .int .i64 0, .int .i64 0, .int .i64 0, .int .i64 0, .int .i64 0, .int .i64 0, .int .i64 0, .int .i64 0, .int .i64 0, .slice none 0 0, .string ⟨#[]⟩, .string ⟨#[]⟩, .string ⟨#[]⟩, .bool false, .bool false], .int .i64 0, .int .i64 0] rfl (by kernel_rfl) (by kernel_rfl) (by kernel_rfl)
      (OpenSpec.preRow_of_cond 8 hx rfl (fun k hk => by cases hk) (by kernel_rfl) (laid_met os _))) ?_
  intro W base args ds gs before hval0 hW _ _ _ hL hsh _
  have hval : ∀ (j : Nat) t v, Tryz.f18.params[j]? = some t → args[j]? = some v → Value.okWide Tryz.prog W .any base t v := hval0
  have hW' := hW
  obtain ⟨p, q, hA0, hV, rfl, hfz, hnd⟩ := hW
  have hA : DataW.TrodAll enc Tryz.prog W 0 (fun _ => true) true Tryz.f18.params.toList args.toList ds p := hA0
  rw [Tryz.params18] at hA hval
  obtain ⟨v0, v1, v2, d0, d1, d2, p0, p1, p2, rfl, rfl, rfl, h0, h1, h2⟩ := trodAll_three hA
  obtain ⟨rfl, rfl⟩ := trodVars_none hV
  simp only [List.append_nil] at hfz hnd hW'
  have hlt : ∀ x ∈ p0 ++ p1 ++ p2, x.block < W.heap.size := fun x hx => hW'.lt x hx
  have h0k := h0
  obtain ⟨u0, rfl, hr0⟩ := open_url (hval 0 27 v0 rfl rfl) h0
  have h1k := h1
  obtain ⟨n1, e1, _, _, w1⟩ := open_int Tryz.underlying3 (hval 1 3 v1 rfl rfl) h1
  subst e1
  have h2k := h2
  obtain ⟨n2, e2, _, _, w2⟩ := open_int Tryz.underlying3 (hval 2 3 v2 rfl rfl) h2
  subst e2
  refine (StripMeet_c u0 n1 n2 W hr0 (gl_of hsh) (tabs_laid hL)).mono fun e W' ⟨he, hb⟩ => ?_
  subst he
  refine ⟨_, rfl, _, _, _, [], p0 ++ p1 ++ p2, [], hW', ?_, ?_, ?_, hb.frame _, fun h => by cases h⟩
  · exact trodAll_mk1 (shut_bool Tryz.underlying4 _)
  · have h3 := trodAll_mk3 (Below.trod laidOut (by kernel_rfl) (of_decide_eq_true (by kernel_rfl)) h0k hb (fun x hx => hlt x (by simp [hx]))) (Below.trod laidOut (by kernel_rfl) (of_decide_eq_true (by kernel_rfl)) h1k hb (fun x hx => hlt x (by simp [hx]))) (Below.trod laidOut (by kernel_rfl) (of_decide_eq_true (by kernel_rfl)) h2k hb (fun x hx => hlt x (by simp [hx])))
    rw [← List.append_assoc] at h3
    exact h3
  · rfl
theorem stripMeet_k0 : Rows.stripMeetRow.wf (OpenSpec.ofChange (OpenSpec.ofChange Rows.stripMeetSpec).bare) = true := by kernel_rfl
theorem stripMeet_k3 : Tryz.f18.params.all (PP.readableRec ·) = true := by kernel_rfl
theorem stripMeet_k4 : namedTie PP Rows.stripMeetRow.named (OpenSpec.ofChange Rows.stripMeetSpec).bare.vars = true := by kernel_rfl
theorem stripMeet_k5 : (Rows.stripMeetRow.stops == []) = true := by kernel_rfl
theorem stripMeet_k7 : (Rows.stripMeetRow.knobs == []) = true := by kernel_rfl
theorem stripMeet_k9 : (Rows.stripMeetRow.inPlace == PP.inPlace 18) = true := by kernel_rfl
theorem stripMeet_k10 : (Rows.stripMeetRow.unfollowed == PP.unfollowed 18) = true := by kernel_rfl
theorem stripMeet_k11 : (Rows.stripMeetRow.recurses == PP.recurses 18) = true := by kernel_rfl
theorem stripMeet_k12 : (Rows.stripMeetRow.named == PP.varsNamed 18) = true := by kernel_rfl
theorem stripMeet_k13 : (Rows.stripMeetRow.maps == (Tryz.f18.params.toList ++ (OpenSpec.ofChange Rows.stripMeetSpec).bare.plain.varTypes PP).any (PP.mapsRec ·)) = true := by kernel_rfl
theorem stripMeet_k14 : (Rows.stripMeetRow.ifaces == (Tryz.f18.params.toList ++ (OpenSpec.ofChange Rows.stripMeetSpec).bare.plain.varTypes PP).any (PP.ifacesRec ·)) = true := by kernel_rfl
theorem stripMeet_k15 : (Rows.stripMeetRow.mapsOut == PP.mapsAmong Tryz.f18.resultTypes.toList) = true := by kernel_rfl
theorem stripMeet_k16 : (Rows.stripMeetRow.loops == (Tryz.f18.params.toList ++ (OpenSpec.ofChange Rows.stripMeetSpec).bare.plain.varTypes PP).any (PP.loopsFrom ·)) = true := by kernel_rfl
theorem stripMeet_k17 : (Rows.stripMeetRow.wideKeys == (Tryz.f18.params.toList ++ (OpenSpec.ofChange Rows.stripMeetSpec).bare.plain.varTypes PP ++ Tryz.f18.resultTypes.toList).any (PP.wideKeysFrom ·)) = true := by kernel_rfl
theorem stripMeet_k18 : (OpenSpec.ofChange Rows.stripMeetSpec).bare.vars.all (PP.varReadable ·) = true := by kernel_rfl
theorem stripMeet_k19 : Tryz.f18.resultTypes.all (fun t => PP.readableRec t && decide (t < PP.types.size)) = true := by kernel_rfl
theorem stripMeet_k20 : (Rows.stripMeetRow.ifacesOut == Tryz.f18.resultTypes.toList.any (PP.ifacesRec ·)) = true := by kernel_rfl
theorem stripMeet_k21 : (Rows.stripMeetRow.loopsOut == Tryz.f18.resultTypes.toList.any (PP.loopsFrom ·)) = true := by kernel_rfl
theorem stripMeet_k23 : Rows.stripMeetRow.shortTexts.isNone = true := by kernel_rfl
theorem stripMeet_k28 : (Rows.stripMeetRow.kinds == (if Rows.stripMeetRow.domain.isEmpty then [] else Tryz.f18.params.toList.map fun t => match PP.underlying t with | some (.int k) => some k | _ => none)) = true := by kernel_rfl
theorem stripMeet_k29 : (Rows.stripMeetRow.pinned == Rows.stripMeetRow.pinnedBy) = true := by kernel_rfl
theorem stripMeet_k30 : (Rows.stripMeetRow.veiled == (Tryz.f18.params.toList ++ (OpenSpec.ofChange Rows.stripMeetSpec).bare.plain.varTypes PP ++ Tryz.f18.resultTypes.toList).any (PP.veiledRec ·)) = true := by kernel_rfl
theorem stripMeet_k31 : Rows.stripMeetRow.veiledFits PP Tryz.f18.params.toList (Tryz.f18.params.toList ++ (OpenSpec.ofChange Rows.stripMeetSpec).bare.plain.varTypes PP ++ Tryz.f18.resultTypes.toList) = true := by kernel_rfl
set_option maxRecDepth 100000 in
theorem stripMeet_closed : joinedFacts PP 18 Tryz.f18 (OpenSpec.ofChange Rows.stripMeetSpec).bare Rows.stripMeetRow = true := and2 (and2 (and2 (and2 (and2 (and2 (and2 (and2 (and2 (and2 (and2 (and2 (and2 (and2 (and2 (and2 (and2 (and2 (and2 (and2 (and2 (and2 (and2 (and2 (and2 (and2 (and2 (and2 (and2 (and2 (and2 (stripMeet_k0) j_laidOut) j_rowed) stripMeet_k3) stripMeet_k4) stripMeet_k5) j_stops) stripMeet_k7) j_knobs) stripMeet_k9) stripMeet_k10) stripMeet_k11) stripMeet_k12) stripMeet_k13) stripMeet_k14) stripMeet_k15) stripMeet_k16) stripMeet_k17) stripMeet_k18) stripMeet_k19) stripMeet_k20) stripMeet_k21) j_plain) stripMeet_k23) j_heard) j_enter) j_lift) j_make) stripMeet_k28) stripMeet_k29) stripMeet_k30) stripMeet_k31
theorem stripMeet_named : Tryz.pinned.checked.prog.funcNamed Rows.stripMeetRow.func = some 18 := by kernel_rfl
theorem stripMeet_text : Rows.stripMeetRow.wfByText (OpenSpec.ofChange Rows.stripMeetSpec) = true := by kernel_rfl
theorem stripMeet_goes : false = Rows.stripMeetRow.goesBy Tryz.pinned.checked.prog := by kernel_rfl
theorem stripMeet_said : Rows.StripMeetSaid :=
  OpenClaim.holds_of_cond 18 Tryz.f18 rfl rfl rfl rfl rfl rfl rfl ⟨rfl, rfl, rfl, rfl, rfl⟩ rfl rfl rfl rfl rfl stripMeet_named Tryz.func18 stripMeet_closed
    (of_decide_eq_true (by kernel_rfl)) (by unfold Func.isWrapper; first | (rw [if_pos (by decide +kernel)]; kernel_rfl) | (rw [if_neg (by decide +kernel)]; exact ⟨rfl, rfl⟩))
    (fun os started H enc _ F => by rw [OpenClaim.pre_eq_preRow]; exact stripMeet_lifted os started H enc F)
theorem stripMeet_plain (f : FuncId) (fn : Func) (hf : Tryz.pinned.checked.prog.funcNamed "postmark/postmarklaw16.StripMeet" = some f) (hfn : Tryz.pinned.checked.prog.funcs[f]? = some fn) :
    true = Tryz.pinned.checked.prog.looks [] ∧ ∀ (j : Nat) t, fn.params[j]? = some t → Tryz.pinned.checked.prog.wantsStandIn t = false := by
  obtain rfl : f = 18 := Option.some.inj ((show Tryz.prog.funcNamed "postmark/postmarklaw16.StripMeet" = some 18 by kernel_rfl).symm.trans hf) |>.symm
  obtain rfl : fn = Tryz.f18 := (Option.some.inj (Tryz.func18.symm.trans hfn)).symm
  refine ⟨by kernel_rfl, fun j t ht => ?_⟩
  rw [Tryz.params18] at ht
  have hm := Array.mem_of_getElem? ht
  simp only [Array.mem_def, List.mem_cons, List.not_mem_nil, or_false] at hm
  rcases hm with rfl | rfl | rfl
  · exact (show Tryz.prog.wantsStandIn 27 = false by kernel_rfl)
  · exact (show Tryz.prog.wantsStandIn 3 = false by kernel_rfl)
  · exact (show Tryz.prog.wantsStandIn 3 = false by kernel_rfl)
theorem stripMeet_holds : Rows.StripMeetCardSaid :=
  Claim7.holds_tied_plain_at .later [] _ _ _ _ stripMeet_said (fun _ h => by cases h) stripMeet_text (fun _ h => by cases h) stripMeet_row_tie rfl ⟨rfl, rfl⟩ j_main rfl stripMeet_plain stripMeet_goes
#print axioms stripMeet_holds
end Go.Proofs.YtlcckikfmlhgjaaGreatDoor
