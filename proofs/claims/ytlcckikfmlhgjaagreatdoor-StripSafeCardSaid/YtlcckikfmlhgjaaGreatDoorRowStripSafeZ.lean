/-
StripSafe: whatever comes in, the law's call returns true, and the arguments read behind the call as they did before; no condition on them. The row lists the two tables of unicode/utf8 (first, acceptRanges); the card ties them.
-/
import Derived.Test.YtlcckikfmlhgjaaGreatDoorAw16
import Derived.Test.YtlcckikfmlhgjaaGreatDoorTz
set_option linter.unusedVariables false
set_option linter.unusedSimpArgs false
/-! The walk of StripSafe. -/
namespace Go.Proofs.YtlcckikfmlhgjaaGreatDoor
open Go.RowKit
theorem strip_safe2 {u : PM.Url} (h : PM.isW u = true) (lu : u.host.six.length = 8) (lp : u.path.length ≤ 10000) {k : Int} (hk : k = 1 ∨ k = 2) : ∃ x, PM.urlParse (PM.stripAt u k) = some x ∧ x.user = [] ∧ x.pass = [] ∧ x.hasFrag = false ∧ PM.both u x = true ∧ x.path.length ≤ 10000 := by
  have ho : ∃ x, PM.urlParse (PM.stripOrigin u) = some x ∧ x.user = [] ∧ x.pass = [] ∧ x.hasFrag = false ∧ PM.both u x = true ∧ x.path.length ≤ 10000 := by
    have qo : (PM.originOf u).opq = false := by rw [PM.opq_of, h]; rfl
    have hf : PM.isW (PM.front (PM.originOf u)) = true := by rw [← PM.originMay_open qo]; exact PM.may_of u
    have e : PM.stripOrigin u = PM.showUrl (PM.front (PM.originOf u)) := by
      rw [PM.front_show hf]
      unfold PM.stripOrigin
      rw [if_pos h, PM.originShow_eq (PM.may_of u) qo]
    refine ⟨_, by rw [e]; exact PM.parse_show ((PM.isW_iff _).1 hf).1 (PM.of_six lu), rfl, rfl, rfl, ?_, by show ([[]] : List (List UInt8)).length ≤ 10000; decide⟩
    rw [PM.both_iff, PM.originOf_front qo (PM.may_of u)]
    exact ⟨h, rfl⟩
  have hfu : ∃ x, PM.urlParse (PM.stripFull u) = some x ∧ x.user = [] ∧ x.pass = [] ∧ x.hasFrag = false ∧ PM.both u x = true ∧ x.path.length ≤ 10000 := by
    unfold PM.stripFull
    rw [if_pos h]
    have hw := PM.isW_open h
    refine ⟨_, PM.parse_show ((PM.isW_iff _).1 hw).1 lu, rfl, rfl, rfl, ?_, lp⟩
    rw [PM.both_iff, PM.originOf_w h, PM.originOf_w hw]
    exact ⟨h, rfl⟩
  rcases hk with rfl | rfl
  · exact ho
  · show ∃ x, PM.urlParse (PM.stripCap u) = some x ∧ _
    unfold PM.stripCap
    split
    · exact hfu
    · exact ho
theorem strip_len2 {u : UV} (h : PM.isW u.pm = true) (k : Int) : (PM.stripAt u.pm k).length ≤ 4096 := by
  have := PM.strip_len h rfl (sixShow_len u.six rfl) (fourShow_len u.m) (by unfold PM.digs PM.rdig; rw [List.length_reverse]; exact Nat.le_trans (rdigF_len _ _) (by decide))
  unfold PM.stripAt
  split
  · exact this.1
  · split
    · exact this.2
    · simp
set_option maxRecDepth 100000 in
set_option maxHeartbeats 16000000 in
theorem StripSafe_c (u : UV) (n : Int) (w : World) (hu : RdW w u.a u.pn u.xs) (hg : Gl w) (hT : Lib.Utf8Tabs 1 2 w) : Calls Tryz.prog 16 #[.agg u.cells, .int .i64 n] w fun e w' => e = .returned (.bool true) ∧ Below w.heap.size w w' := by
  have HG := Lib.hid hg
  have HTB := Lib.hid hT
  have Ru := Lib.hid hu
  clear hg hT hu
  have HB : Hid (Below w.heap.size w (w.alloc (.cells u.cells 27))) := Lib.hid (b_alloc (Below.refl _ _) _)
  have Hu : Hid ((w.alloc (.cells u.cells 27)).heap[w.heap.size]? = some (.cells u.cells 27 (0, 0))) := Lib.hid ((by have h := Go.heap_alloc_new w (.cells u.cells 27); simpa using h))
  go_enter Tryz.func16, Tryz.ntmps16
  go_upto_region 1 with fail
  generalize w.alloc (.cells u.cells 27) = V0 at HB Hu ⊢
  go_wp2_with fail
  refine (awake16_c _ (HG.out.below HB.out) (tabs_below HTB.out HB.out)).mono ?_
  rintro e V1 ⟨rfl, hb⟩
  replace HB := Lib.hid (b_then HB.out hb)
  replace Hu := Lib.hid (obj_b hb Hu.out)
  clear hb
  go_wp2_with (first | go_skip | (refine wpList_load_g 27 _ rfl (by kernel_rfl) w.heap.size rfl Hu.out Tryz.underlying27 rfl (by kernel_rfl) ?_))
  refine (Few_c u _ (Ru.out.below HB.out)).mono ?_
  rintro e V2 ⟨rfl, hb⟩
  replace HB := Lib.hid (b_then HB.out hb)
  replace Hu := Lib.hid (obj_b hb Hu.out)
  clear hb
  cases hfu : PM.few u.pm
  · go_wp2
    go_ret
    exact ⟨rfl, HB.out⟩
  have Ou := Lib.hid (few_ok (Ru.out.below HB.out) hfu)
  have Fu := Lib.hid hfu
  clear hfu
  have hxn : u.pm.path.length ≤ 10000 := Ou.out.xn
  have HXN := Lib.hid hxn
  clear hxn
  go_wp2_with (first | go_skip | (refine wpList_load_g 27 _ rfl (by kernel_rfl) w.heap.size rfl Hu.out Tryz.underlying27 rfl (by kernel_rfl) ?_))
  refine (Tell_c u n _ Ou.out (HG.out.below HB.out)).mono ?_
  rintro e V3 ⟨rfl, hb⟩
  replace HB := Lib.hid (b_then HB.out hb)
  replace Hu := Lib.hid (obj_b hb Hu.out)
  replace Ou := Lib.hid (Ou.out.below hb)
  clear hb
  cases he : (PM.stripAt u.pm n).isEmpty
  rotate_left
  · have hs : PM.stripAt u.pm n = [] := by simpa using he
    rw [hs]
    have HSE := Lib.hid hs
    clear he hs
    by_cases h1 : n < 1
    · have q1 : decide (n < 1) = true := decide_eq_true h1
      clear h1
      go_wp2
      go_ret
      exact ⟨rfl, HB.out⟩
    by_cases h2 : 2 < n
    · have q1 : decide (n < 1) = false := decide_eq_false h1
      have q2 : decide (2 < n) = true := decide_eq_true h2
      clear h1 h2
      go_wp2
      go_ret
      exact ⟨rfl, HB.out⟩
    have q1 : decide (n < 1) = false := decide_eq_false h1
    have q2 : decide (2 < n) = false := decide_eq_false h2
    have hnw : PM.isW u.pm = false := by
      cases hh : PM.isW u.pm
      · rfl
      · rcases (show n = 1 ∨ n = 2 by omega) with rfl | rfl
        · exact absurd HSE.out (PM.origin_ne hh)
        · exact absurd HSE.out (PM.cap_ne hh)
    have HNW := Lib.hid hnw
    clear h1 h2 hnw
    obtain ⟨m, hm⟩ : ∃ m, PM.urlMay u.pm = m := ⟨_, rfl⟩
    have HM := Lib.hid hm
    clear hm
    go_wp2_with (first | go_skip | (refine wpList_load_g 27 _ rfl (by kernel_rfl) w.heap.size rfl Hu.out Tryz.underlying27 rfl (by kernel_rfl) ?_))
    refine (urlMay_c u _ Ou.out (HG.out.below HB.out)).mono ?_
    rw [HM.out]
    rintro e V4 ⟨rfl, hb⟩
    replace HB := Lib.hid (b_then HB.out hb)
    replace Hu := Lib.hid (obj_b hb Hu.out)
    replace Ou := Lib.hid (Ou.out.below hb)
    clear hb
    cases m
    · go_wp2
      go_ret
      exact ⟨rfl, HB.out⟩
    have hw : PM.web u.sc = 0 := by
      have h := HNW.out
      unfold PM.isW at h
      rw [HM.out] at h
      have h2 : PM.web u.pm.scheme = 0 := by simpa using h
      exact h2
    have hw2 : (PM.web u.sc == 0) = true := by simpa using hw
    clear hw
    obtain ⟨c0, c1, c2, c3, c4, c5, c6, c7, c8, c9, c10, c11, c12, c13, c14, c15, c16, c17, c18, c19, c20⟩ := UrlAt.of_heap Hu.out
    go_wp2_with fail
    refine (Web_c u.sc _).mono ?_
    rintro e V50 ⟨rfl, rfl⟩
    go_wp2
    go_ret
    exact ⟨rfl, HB.out⟩
  have hwk : PM.isW u.pm = true ∧ (n = 1 ∨ n = 2) := by
    cases hh : PM.isW u.pm
    · rw [PM.strip_no hh] at he
      cases he
    · refine ⟨rfl, ?_⟩
      by_cases h1 : n = 1
      · exact .inl h1
      · by_cases h2 : n = 2
        · exact .inr h2
        · unfold PM.stripAt at he
          rw [if_neg h1, if_neg h2] at he
          cases he
  obtain ⟨y, p1, p2, p3, p4, p5, p6⟩ := strip_safe2 hwk.1 rfl HXN.out hwk.2
  have hlen := strip_len2 (u := u) hwk.1 n
  generalize PM.stripAt u.pm n = S at he p1 hlen ⊢
  have q1 : ((S.length : Int) ≤ 4096) := by omega
  have P1 := Lib.hid p1
  have P2 := Lib.hid (And.intro p2 (And.intro p3 (And.intro p4 p5)))
  have P6 := Lib.hid p6
  have HL := Lib.hid hlen
  have he' : (S.isEmpty) = false := he
  clear hwk p1 p2 p3 p4 p5 p6 hlen
  go_wp2_with fail
  refine (known_c S y (by have := HL.out; omega) P1.out P6.out _ (HG.out.below HB.out) (tabs_below HTB.out HB.out)).mono ?_
  rintro e V5 ⟨⟨x, rfl, hxp, hxo⟩, hb⟩
  replace HB := Lib.hid (b_then HB.out hb)
  replace Hu := Lib.hid (obj_b hb Hu.out)
  replace Ou := Lib.hid (Ou.out.below hb)
  clear hb
  have HXP := Lib.hid hxp
  have HXO := Lib.hid hxo
  clear hxp hxo
  skip
  have HN := Lib.hid (Go.heap_alloc_new V5 (.cells zurl 27))
  unfold zurl at HN 
  go_upto_region 9 with (first | (refine wpList_store_row rfl 27 _ _ rfl V5.heap.size x.cells rfl rfl 27 _ HN.out (by kernel_rfl) rfl (agg_one x) ?_))
  obtain ⟨W1, hV⟩ : ∃ W1, W1 = (V5.alloc (.cells #[.string ⟨#[]⟩, .string ⟨#[]⟩, .string ⟨#[]⟩, .int .i64 0, .string ⟨#[]⟩, .int .i64 0, .int .i64 0, .int .i64 0, .int .i64 0, .int .i64 0, .int .i64 0, .int .i64 0, .int .i64 0, .int .i64 0, .int .i64 0, .slice none 0 0, .string ⟨#[]⟩, .string ⟨#[]⟩, .string ⟨#[]⟩, .bool false, .bool false] 27)).setRow V5.heap.size x.cells := ⟨_, rfl⟩
  have hN : W1.heap[V5.heap.size]? = some (.cells x.cells 27 (0, 0)) := by rw [hV]; exact heap_setRow HN.out _
  have hb : Below V5.heap.size V5 W1 := by rw [hV]; exact below_setRow (b_alloc (Below.refl _ _) _) (Nat.le_refl _) _
  rw [← hV]
  clear hV HN 
  have Hx := Lib.hid hN
  clear hN
  have hlt_bx_Hu : w.heap.size < V5.heap.size := h_lt Hu.out
  have hlw_bx : w.heap.size ≤ V5.heap.size := HB.out.size
  replace HB := Lib.hid (b_then HB.out hb)
  replace Hu := Lib.hid (obj_b hb Hu.out)
  replace Ou := Lib.hid (Ou.out.below hb)
  replace HXO := Lib.hid (HXO.out.below hb)
  clear hb
  generalize V5.heap.size = bx at Hx hlt_bx_Hu hlw_bx ⊢
  (try simp only [Act.put])
  obtain ⟨d0, d1, d2, d3, d4, d5, d6, d7, d8, d9, d10, d11, d12, d13, d14, d15, d16, d17, d18, d19, d20⟩ := UrlAt.of_heap Hx.out
  have hu1 : x.us = [] := (show x.pm.user = [] from by rw [HXP.out]; exact P2.out.1)
  have hp1 : x.pa = [] := (show x.pm.pass = [] from by rw [HXP.out]; exact P2.out.2.1)
  have hf1 : x.hf = false := (show x.pm.hasFrag = false from by rw [HXP.out]; exact P2.out.2.2.1)
  have hb1 : PM.both u.pm x.pm = true := by rw [HXP.out]; exact P2.out.2.2.2
  have HBB := Lib.hid hb1
  rw [hu1] at d1
  rw [hp1] at d2
  rw [hf1] at d20
  clear hu1 hp1 hf1 hb1
  go_wp2_with (first | go_skip | (refine wpList_load_g 27 _ rfl (by kernel_rfl) w.heap.size rfl Hu.out Tryz.underlying27 rfl (by kernel_rfl) ?_) | (refine wpList_load_g 27 _ rfl (by kernel_rfl) bx rfl Hx.out Tryz.underlying27 rfl (by kernel_rfl) ?_))
  refine (Both_c u x _ Ou.out HXO.out (HG.out.below HB.out)).mono ?_
  rw [HBB.out]
  rintro e V6 ⟨rfl, hb⟩
  replace HB := Lib.hid (b_then HB.out hb)
  replace Hu := Lib.hid (obj_b hb Hu.out)
  replace Hx := Lib.hid (obj_b hb Hx.out)
  replace Ou := Lib.hid (Ou.out.below hb)
  replace HXO := Lib.hid (HXO.out.below hb)
  clear hb
  go_wp2
  go_ret
  exact ⟨rfl, HB.out⟩
end Go.Proofs.YtlcckikfmlhgjaaGreatDoor
/-! The row of StripSafe. -/
namespace Go.Proofs.YtlcckikfmlhgjaaGreatDoor
open Go.ChangeShapes Go.WideShapes Go.ChangeAt Go.RowKit
open Go.WideMaps Go.WideElems
open Go.ChangeMaps (open_string shut_string)
theorem stripSafe_reads (os : Os) {H : Type} (enc : TypeId × Value → H) : ∃ x, DataW.whole enc Tryz.prog ((laidWorld os).forCall (fun _ _ => 0) ⟨#[], #[.agg #[.string ⟨#[]⟩, .string ⟨#[]⟩, .string ⟨#[]⟩, .int .i64 0, .string ⟨#[]⟩, .int .i64 0, .int .i64 0, .int .i64 0, .int .i64 0, .int .i64 0, .int .i64 0, .int .i64 0, .int .i64 0, .int .i64 0, .int .i64 0, .slice none 0 0, .string ⟨#[]⟩, .string ⟨#[]⟩, .string ⟨#[]⟩, .bool false, .bool false], .int .i64 0], []⟩).memory Tryz.f16.params.toList Rows.stripSafeSpec.vars false (#[.agg #[.string ⟨#[]⟩, .string ⟨#[]⟩, .string ⟨#[]⟩, .int .i64 0, .string ⟨#[]⟩, .int .i64 0, .int .i64 0, .int .i64 0, .int .i64 0, .int .i64 0, .int .i64 0, .int .i64 0, .int .i64 0, .int .i64 0, .int .i64 0, .slice none 0 0, .string ⟨#[]⟩, .string ⟨#[]⟩, .string ⟨#[]⟩, .bool false, .bool false], .int .i64 0] : Array Value).toList 8 = some x :=
  Option.isSome_iff_exists.1 (by kernel_rfl)
set_option maxRecDepth 100000 in
theorem stripSafe_lifted (os : Os) (started : os.Started) (H : Type) (enc : TypeId × Value → H) (F : Stop.Interp) :
    ReturnsInHanded {} Tryz.checked os 16 .any ((OpenSpec.ofChange Rows.stripSafeSpec).preRow enc Tryz.prog Tryz.f16 Rows.stripSafeRow.domain false Rows.stripSafeRow.laid) (((OpenSpec.ofChange Rows.stripSafeSpec).at F).post enc Tryz.prog Tryz.f16 false true false false) := by
  obtain ⟨x, hx⟩ := stripSafe_reads os enc
  refine returnsInHanded_of_row (C := Tryz.checked) (s := OpenSpec.ofChange Rows.stripSafeSpec) own started (by kernel_rfl) Tryz.func16
    (witness_row_atRef (enc := enc) (C := Tryz.checked) false (laidWorld os) #[.agg #[.string ⟨#[]⟩, .string ⟨#[]⟩, .string ⟨#[]⟩, .int .i64 0, .string ⟨#[]⟩, .int .i64 0, .int .i64 0, .int .i64 0, .int .i64 0, .int .i64 0, .int .i64 0, .int .i64 0, .int .i64 0, .int .i64 0, .int .i64 0, .slice none 0 0, .string ⟨#[]⟩, .string ⟨#[]⟩, .string ⟨#[]⟩, .bool false, .bool false], .int .i64 0] rfl (by kernel_rfl) (by kernel_rfl) (by kernel_rfl)
      (OpenSpec.preRow_of_cond 8 hx rfl (fun k hk => by cases hk) (by kernel_rfl) (laid_met os _))) ?_
  intro W base args ds gs before hval0 hW _ _ _ hL hsh _
  have hval : ∀ (j : Nat) t v, Tryz.f16.params[j]? = some t → args[j]? = some v → Value.okWide Tryz.prog W .any base t v := hval0
  have hW' := hW
  obtain ⟨p, q, hA0, hV, rfl, hfz, hnd⟩ := hW
  have hA : DataW.TrodAll enc Tryz.prog W 0 (fun _ => true) true Tryz.f16.params.toList args.toList ds p := hA0
  rw [Tryz.params16] at hA hval
  obtain ⟨v0, v1, d0, d1, p0, p1, rfl, rfl, rfl, h0, h1⟩ := trodAll_two hA
  obtain ⟨rfl, rfl⟩ := trodVars_none hV
  simp only [List.append_nil] at hfz hnd hW'
  have hlt : ∀ x ∈ p0 ++ p1, x.block < W.heap.size := fun x hx => hW'.lt x hx
  have h0k := h0
  obtain ⟨u0, rfl, hr0⟩ := open_url (hval 0 27 v0 rfl rfl) h0
  have h1k := h1
  obtain ⟨n1, e1, _, _, w1⟩ := open_int Tryz.underlying3 (hval 1 3 v1 rfl rfl) h1
  subst e1
  refine (StripSafe_c u0 n1 W hr0 (gl_of hsh) (tabs_laid hL)).mono fun e W' ⟨he, hb⟩ => ?_
  subst he
  refine ⟨_, rfl, _, _, _, [], p0 ++ p1, [], hW', ?_, ?_, ?_, hb.frame _, fun h => by cases h⟩
  · exact trodAll_mk1 (shut_bool Tryz.underlying4 _)
  · exact trodAll_mk2 (Below.trod laidOut (by kernel_rfl) (of_decide_eq_true (by kernel_rfl)) h0k hb (fun x hx => hlt x (by simp [hx]))) (Below.trod laidOut (by kernel_rfl) (of_decide_eq_true (by kernel_rfl)) h1k hb (fun x hx => hlt x (by simp [hx])))
  · rfl
theorem stripSafe_k0 : Rows.stripSafeRow.wf (OpenSpec.ofChange (OpenSpec.ofChange Rows.stripSafeSpec).bare) = true := by kernel_rfl
theorem stripSafe_k3 : Tryz.f16.params.all (PP.readableRec ·) = true := by kernel_rfl
theorem stripSafe_k4 : namedTie PP Rows.stripSafeRow.named (OpenSpec.ofChange Rows.stripSafeSpec).bare.vars = true := by kernel_rfl
theorem stripSafe_k5 : (Rows.stripSafeRow.stops == []) = true := by kernel_rfl
theorem stripSafe_k7 : (Rows.stripSafeRow.knobs == []) = true := by kernel_rfl
theorem stripSafe_k9 : (Rows.stripSafeRow.inPlace == PP.inPlace 16) = true := by kernel_rfl
theorem stripSafe_k10 : (Rows.stripSafeRow.unfollowed == PP.unfollowed 16) = true := by kernel_rfl
theorem stripSafe_k11 : (Rows.stripSafeRow.recurses == PP.recurses 16) = true := by kernel_rfl
theorem stripSafe_k12 : (Rows.stripSafeRow.named == PP.varsNamed 16) = true := by kernel_rfl
theorem stripSafe_k13 : (Rows.stripSafeRow.maps == (Tryz.f16.params.toList ++ (OpenSpec.ofChange Rows.stripSafeSpec).bare.plain.varTypes PP).any (PP.mapsRec ·)) = true := by kernel_rfl
theorem stripSafe_k14 : (Rows.stripSafeRow.ifaces == (Tryz.f16.params.toList ++ (OpenSpec.ofChange Rows.stripSafeSpec).bare.plain.varTypes PP).any (PP.ifacesRec ·)) = true := by kernel_rfl
theorem stripSafe_k15 : (Rows.stripSafeRow.mapsOut == PP.mapsAmong Tryz.f16.resultTypes.toList) = true := by kernel_rfl
theorem stripSafe_k16 : (Rows.stripSafeRow.loops == (Tryz.f16.params.toList ++ (OpenSpec.ofChange Rows.stripSafeSpec).bare.plain.varTypes PP).any (PP.loopsFrom ·)) = true := by kernel_rfl
theorem stripSafe_k17 : (Rows.stripSafeRow.wideKeys == (Tryz.f16.params.toList ++ (OpenSpec.ofChange Rows.stripSafeSpec).bare.plain.varTypes PP ++ Tryz.f16.resultTypes.toList).any (PP.wideKeysFrom ·)) = true := by kernel_rfl
theorem stripSafe_k18 : (OpenSpec.ofChange Rows.stripSafeSpec).bare.vars.all (PP.varReadable ·) = true := by kernel_rfl
theorem stripSafe_k19 : Tryz.f16.resultTypes.all (fun t => PP.readableRec t && decide (t < PP.types.size)) = true := by kernel_rfl
theorem stripSafe_k20 : (Rows.stripSafeRow.ifacesOut == Tryz.f16.resultTypes.toList.any (PP.ifacesRec ·)) = true := by kernel_rfl
theorem stripSafe_k21 : (Rows.stripSafeRow.loopsOut == Tryz.f16.resultTypes.toList.any (PP.loopsFrom ·)) = true := by kernel_rfl
theorem stripSafe_k23 : Rows.stripSafeRow.shortTexts.isNone = true := by kernel_rfl
theorem stripSafe_k28 : (Rows.stripSafeRow.kinds == (if Rows.stripSafeRow.domain.isEmpty then [] else Tryz.f16.params.toList.map fun t => match PP.underlying t with | some (.int k) => some k | _ => none)) = true := by kernel_rfl
theorem stripSafe_k29 : (Rows.stripSafeRow.pinned == Rows.stripSafeRow.pinnedBy) = true := by kernel_rfl
theorem stripSafe_k30 : (Rows.stripSafeRow.veiled == (Tryz.f16.params.toList ++ (OpenSpec.ofChange Rows.stripSafeSpec).bare.plain.varTypes PP ++ Tryz.f16.resultTypes.toList).any (PP.veiledRec ·)) = true := by kernel_rfl
theorem stripSafe_k31 : Rows.stripSafeRow.veiledFits PP Tryz.f16.params.toList (Tryz.f16.params.toList ++ (OpenSpec.ofChange Rows.stripSafeSpec).bare.plain.varTypes PP ++ Tryz.f16.resultTypes.toList) = true := by kernel_rfl
set_option maxRecDepth 100000 in
theorem stripSafe_closed : joinedFacts PP 16 Tryz.f16 (OpenSpec.ofChange Rows.stripSafeSpec).bare Rows.stripSafeRow = true := and2 (and2 (and2 (and2 (and2 (and2 (and2 (and2 (and2 (and2 (and2 (and2 (and2 (and2 (and2 (and2 (and2 (and2 (and2 (and2 (and2 (and2 (and2 (and2 (and2 (and2 (and2 (and2 (and2 (and2 (and2 (stripSafe_k0) j_laidOut) j_rowed) stripSafe_k3) stripSafe_k4) stripSafe_k5) j_stops) stripSafe_k7) j_knobs) stripSafe_k9) stripSafe_k10) stripSafe_k11) stripSafe_k12) stripSafe_k13) stripSafe_k14) stripSafe_k15) stripSafe_k16) stripSafe_k17) stripSafe_k18) stripSafe_k19) stripSafe_k20) stripSafe_k21) j_plain) stripSafe_k23) j_heard) j_enter) j_lift) j_make) stripSafe_k28) stripSafe_k29) stripSafe_k30) stripSafe_k31
theorem stripSafe_named : Tryz.pinned.checked.prog.funcNamed Rows.stripSafeRow.func = some 16 := by kernel_rfl
theorem stripSafe_text : Rows.stripSafeRow.wfByText (OpenSpec.ofChange Rows.stripSafeSpec) = true := by kernel_rfl
theorem stripSafe_goes : false = Rows.stripSafeRow.goesBy Tryz.pinned.checked.prog := by kernel_rfl
theorem stripSafe_said : Rows.StripSafeSaid :=
  OpenClaim.holds_of_cond 16 Tryz.f16 rfl rfl rfl rfl rfl rfl rfl ⟨rfl, rfl, rfl, rfl, rfl⟩ rfl rfl rfl rfl rfl stripSafe_named Tryz.func16 stripSafe_closed
    (of_decide_eq_true (by kernel_rfl)) (by unfold Func.isWrapper; first | (rw [if_pos (by decide +kernel)]; kernel_rfl) | (rw [if_neg (by decide +kernel)]; exact ⟨rfl, rfl⟩))
    (fun os started H enc _ F => by rw [OpenClaim.pre_eq_preRow]; exact stripSafe_lifted os started H enc F)
theorem stripSafe_plain (f : FuncId) (fn : Func) (hf : Tryz.pinned.checked.prog.funcNamed "postmark/postmarklaw16.StripSafe" = some f) (hfn : Tryz.pinned.checked.prog.funcs[f]? = some fn) :
    true = Tryz.pinned.checked.prog.looks [] ∧ ∀ (j : Nat) t, fn.params[j]? = some t → Tryz.pinned.checked.prog.wantsStandIn t = false := by
  obtain rfl : f = 16 := Option.some.inj ((show Tryz.prog.funcNamed "postmark/postmarklaw16.StripSafe" = some 16 by kernel_rfl).symm.trans hf) |>.symm
  obtain rfl : fn = Tryz.f16 := (Option.some.inj (Tryz.func16.symm.trans hfn)).symm
  refine ⟨by kernel_rfl, fun j t ht => ?_⟩
  rw [Tryz.params16] at ht
  have hm := Array.mem_of_getElem? ht
  simp only [Array.mem_def, List.mem_cons, List.not_mem_nil, or_false] at hm
  rcases hm with rfl | rfl
  · exact (show Tryz.prog.wantsStandIn 27 = false by kernel_rfl)
  · exact (show Tryz.prog.wantsStandIn 3 = false by kernel_rfl)
theorem stripSafe_holds : Rows.StripSafeCardSaid :=
  Claim7.holds_tied_plain_at .later [] _ _ _ _ stripSafe_said (fun _ h => by cases h) stripSafe_text (fun _ h => by cases h) stripSafe_row_tie rfl ⟨rfl, rfl⟩ j_main rfl stripSafe_plain stripSafe_goes
#print axioms stripSafe_holds
end Go.Proofs.YtlcckikfmlhgjaaGreatDoor
