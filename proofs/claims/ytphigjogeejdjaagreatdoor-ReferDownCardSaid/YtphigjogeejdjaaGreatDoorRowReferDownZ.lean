/-
ReferDown: whatever comes in, the law's call returns true, and the arguments read behind the call as they did before; no condition on them. The row lists the two tables of unicode/utf8 (first, acceptRanges); the card ties them.
-/
import Derived.Test.YtphigjogeejdjaaGreatDoorTz
import Derived.Test.YtphigjogeejdjaaGreatDoorRq
set_option linter.unusedVariables false
set_option linter.unusedSimpArgs false
/-! The walk of ReferDown. -/
namespace Go.Proofs.YtphigjogeejdjaaGreatDoor
open Go.RowKit
set_option maxRecDepth 100000 in
set_option maxHeartbeats 16000000 in
theorem ReferDown_c (p : Int) (a b : UV) (w : World) (hra : RdW w a.a a.pn a.xs) (hrb : RdW w b.a b.pn b.xs) (hg : Gl w) (hT : Lib.Utf8Tabs 1 2 w) : Calls Tryz.prog 11 #[.int .i64 p, .agg a.cells, .agg b.cells] w fun e w' => e = .returned (.bool true) ∧ Below w.heap.size w w' := by
  have HG := Lib.hid hg
  have HTB := Lib.hid hT
  have Ra := Lib.hid hra
  have Rb := Lib.hid hrb
  clear hg hT hra hrb
  have HB : Hid (Below w.heap.size w ((w.alloc (.cells a.cells 27)).alloc (.cells b.cells 27))) := Lib.hid (b_alloc (b_alloc (Below.refl _ _) _) _)
  have Ha : Hid (((w.alloc (.cells a.cells 27)).alloc (.cells b.cells 27)).heap[w.heap.size]? = some (.cells a.cells 27 (0, 0))) := Lib.hid (heap_b (b_alloc (Below.refl _ _) _) (by have h := Go.heap_alloc_new w (.cells a.cells 27); simpa using h))
  have Hb : Hid (((w.alloc (.cells a.cells 27)).alloc (.cells b.cells 27)).heap[w.heap.size + 1]? = some (.cells b.cells 27 (0, 0))) := Lib.hid ((by have h := Go.heap_alloc_new (w.alloc (.cells a.cells 27)) (.cells b.cells 27); simpa using h))
  go_enter Tryz.func11, Tryz.ntmps11
  go_upto_region 1 with fail
  generalize (w.alloc (.cells a.cells 27)).alloc (.cells b.cells 27) = V0 at HB Ha Hb ⊢
  generalize hbb : w.heap.size + 1 = bb at Hb ⊢
  have hlw_bb : w.heap.size ≤ bb := by omega
  have hne_b_a : w.heap.size < bb := by omega
  clear hbb
  go_wp2_with fail
  refine (awake17_c _ (HG.out.below HB.out) (tabs_below HTB.out HB.out)).mono ?_
  rintro e V1 ⟨rfl, hb⟩
  replace HB := Lib.hid (b_then HB.out hb)
  replace Hb := Lib.hid (obj_b hb Hb.out)
  replace Ha := Lib.hid (obj_b hb Ha.out)
  clear hb
  go_wp2_with (first | go_skip | (refine wpList_load_g 27 _ rfl (by kernel_rfl) w.heap.size rfl Ha.out Tryz.underlying27 rfl (by kernel_rfl) ?_))
  refine (Few_c a _ (Ra.out.below HB.out)).mono ?_
  rintro e V2 ⟨rfl, hb⟩
  replace HB := Lib.hid (b_then HB.out hb)
  replace Hb := Lib.hid (obj_b hb Hb.out)
  replace Ha := Lib.hid (obj_b hb Ha.out)
  clear hb
  go_wp2_with (first | go_skip | (refine wpList_load_g 27 _ rfl (by kernel_rfl) bb rfl Hb.out Tryz.underlying27 rfl (by kernel_rfl) ?_))
  refine (Few_c b _ (Rb.out.below HB.out)).mono ?_
  rintro e V3 ⟨rfl, hb⟩
  replace HB := Lib.hid (b_then HB.out hb)
  replace Hb := Lib.hid (obj_b hb Hb.out)
  replace Ha := Lib.hid (obj_b hb Ha.out)
  clear hb
  cases hfa : PM.few a.pm
  · go_wp2
    go_ret
    exact ⟨rfl, HB.out⟩
  have Oa := Lib.hid (few_ok (Ra.out.below HB.out) hfa)
  have Fa := Lib.hid hfa
  clear hfa
  cases hfb : PM.few b.pm
  · go_wp2
    go_ret
    exact ⟨rfl, HB.out⟩
  have Ob := Lib.hid (few_ok (Rb.out.below HB.out) hfb)
  have Fb := Lib.hid hfb
  clear hfb
  have hd0 : PM.goesDown a.pm b.pm = (PM.trust a.pm && !PM.trust b.pm) := rfl
  have hd1 := PM.refer_down p a.pm b.pm
  obtain ⟨D, hD⟩ : ∃ D, PM.goesDown a.pm b.pm = D := ⟨_, rfl⟩
  have HD := Lib.hid hD
  obtain ⟨S, hS⟩ : ∃ S, PM.both a.pm b.pm = S := ⟨_, rfl⟩
  have HS := Lib.hid hS
  obtain ⟨N, hN⟩ : ∃ N, PM.level p a.pm b.pm = N := ⟨_, rfl⟩
  have HN := Lib.hid hN
  obtain ⟨T1, hT1⟩ : ∃ T1, PM.trust a.pm = T1 := ⟨_, rfl⟩
  have HT1 := Lib.hid hT1
  obtain ⟨T2, hT2⟩ : ∃ T2, PM.trust b.pm = T2 := ⟨_, rfl⟩
  have HT2 := Lib.hid hT2
  rw [hD, hT1, hT2] at hd0
  rw [hD, hS, hN] at hd1
  have HD0 := Lib.hid hd0
  have HD1 := Lib.hid hd1
  clear hd0 hd1 hD hS hN hT1 hT2
  go_wp2_with (first | go_skip | (refine wpList_load_g 27 _ rfl (by kernel_rfl) w.heap.size rfl Ha.out Tryz.underlying27 rfl (by kernel_rfl) ?_) | (refine wpList_load_g 27 _ rfl (by kernel_rfl) bb rfl Hb.out Tryz.underlying27 rfl (by kernel_rfl) ?_))
  refine (Down_r_c a b _ Oa.out Ob.out (HG.out.below HB.out)).mono ?_
  rw [HD.out]
  rintro e V4 ⟨rfl, hb⟩
  replace HB := Lib.hid (b_then HB.out hb)
  replace Hb := Lib.hid (obj_b hb Hb.out)
  replace Ha := Lib.hid (obj_b hb Ha.out)
  replace Oa := Lib.hid (Oa.out.below hb)
  replace Ob := Lib.hid (Ob.out.below hb)
  clear hb
  go_upto_region 7 with fail
  go_cut [11] (fun q wr => ∃ Q : Bool, q = .bool Q ∧ Hid (Q = true → p = 0 ∨ p = 5 ∨ p = 7 ∨ p = 2) ∧ wr = V4)
  case first =>
    rcases (by omega : p = 0 ∨ p = 5 ∨ p = 7 ∨ p = 2 ∨ (p ≠ 0 ∧ p ≠ 5 ∧ p ≠ 7 ∧ p ≠ 2)) with rfl | rfl | rfl | rfl | ⟨n0, n5, n7, n2⟩
    · go_wp2
      go_meet
      exact ⟨true, rfl, Lib.hid (by simp), rfl⟩
    · go_wp2
      go_meet
      exact ⟨true, rfl, Lib.hid (by simp), rfl⟩
    · go_wp2
      go_meet
      exact ⟨true, rfl, Lib.hid (by simp), rfl⟩
    · go_wp2
      go_meet
      exact ⟨true, rfl, Lib.hid (by simp), rfl⟩
    · have e0 : (p == 0) = false := by simpa using n0
      have e5 : (p == 5) = false := by simpa using n5
      have e7 : (p == 7) = false := by simpa using n7
      have e2 : (p == 2) = false := by simpa using n2
      clear n0 n5 n7 n2
      go_wp2
      go_meet
      exact ⟨false, rfl, Lib.hid (by simp), rfl⟩
  case rest =>
    obtain ⟨Q, rfl, HQ, rfl⟩ := hcut
    go_wp2_with (first | go_skip | (refine wpList_load_g 27 _ rfl (by kernel_rfl) w.heap.size rfl Ha.out Tryz.underlying27 rfl (by kernel_rfl) ?_) | (refine wpList_load_g 27 _ rfl (by kernel_rfl) bb rfl Hb.out Tryz.underlying27 rfl (by kernel_rfl) ?_))
    refine (Level_r_c p a b _ Oa.out Ob.out (HG.out.below HB.out)).mono ?_
    rw [HN.out]
    rintro e V5 ⟨rfl, hb⟩
    replace HB := Lib.hid (b_then HB.out hb)
    replace Hb := Lib.hid (obj_b hb Hb.out)
    replace Ha := Lib.hid (obj_b hb Ha.out)
    replace Oa := Lib.hid (Oa.out.below hb)
    replace Ob := Lib.hid (Ob.out.below hb)
    clear hb
    go_wp2_with (first | go_skip | (refine wpList_load_g 27 _ rfl (by kernel_rfl) w.heap.size rfl Ha.out Tryz.underlying27 rfl (by kernel_rfl) ?_) | (refine wpList_load_g 27 _ rfl (by kernel_rfl) bb rfl Hb.out Tryz.underlying27 rfl (by kernel_rfl) ?_))
    refine (Trust_c a _ Oa.out (HG.out.below HB.out)).mono ?_
    rw [HT1.out]
    rintro e V6 ⟨rfl, hb⟩
    replace HB := Lib.hid (b_then HB.out hb)
    replace Hb := Lib.hid (obj_b hb Hb.out)
    replace Ha := Lib.hid (obj_b hb Ha.out)
    replace Oa := Lib.hid (Oa.out.below hb)
    replace Ob := Lib.hid (Ob.out.below hb)
    clear hb
    cases T1
    · have hd : D = false := by rw [HD0.out]; rfl
      subst hd
      go_wp2
      go_ret
      exact ⟨rfl, HB.out⟩
    cases T2
    rotate_left
    · have hd : D = false := by rw [HD0.out]; rfl
      subst hd
      go_wp2_with (first | go_skip | (refine wpList_load_g 27 _ rfl (by kernel_rfl) w.heap.size rfl Ha.out Tryz.underlying27 rfl (by kernel_rfl) ?_) | (refine wpList_load_g 27 _ rfl (by kernel_rfl) bb rfl Hb.out Tryz.underlying27 rfl (by kernel_rfl) ?_))
      refine (Trust_c b _ Ob.out (HG.out.below HB.out)).mono ?_
      rw [HT2.out]
      rintro e V7 ⟨rfl, hb⟩
      replace HB := Lib.hid (b_then HB.out hb)
      replace Hb := Lib.hid (obj_b hb Hb.out)
      replace Ha := Lib.hid (obj_b hb Ha.out)
      replace Oa := Lib.hid (Oa.out.below hb)
      replace Ob := Lib.hid (Ob.out.below hb)
      clear hb
      go_wp2
      go_ret
      exact ⟨rfl, HB.out⟩
    have hd : D = true := by rw [HD0.out]; rfl
    subst hd
    have hs := (HD1.out rfl).1
    have HNQ := Lib.hid (HD1.out rfl).2
    clear HD1
    subst hs
    go_wp2_with (first | go_skip | (refine wpList_load_g 27 _ rfl (by kernel_rfl) w.heap.size rfl Ha.out Tryz.underlying27 rfl (by kernel_rfl) ?_) | (refine wpList_load_g 27 _ rfl (by kernel_rfl) bb rfl Hb.out Tryz.underlying27 rfl (by kernel_rfl) ?_))
    refine (Trust_c b _ Ob.out (HG.out.below HB.out)).mono ?_
    rw [HT2.out]
    rintro e V7 ⟨rfl, hb⟩
    replace HB := Lib.hid (b_then HB.out hb)
    replace Hb := Lib.hid (obj_b hb Hb.out)
    replace Ha := Lib.hid (obj_b hb Ha.out)
    replace Oa := Lib.hid (Oa.out.below hb)
    replace Ob := Lib.hid (Ob.out.below hb)
    clear hb
    cases Q
    · skip
      go_wp2_with (first | go_skip | (refine wpList_load_g 27 _ rfl (by kernel_rfl) w.heap.size rfl Ha.out Tryz.underlying27 rfl (by kernel_rfl) ?_) | (refine wpList_load_g 27 _ rfl (by kernel_rfl) bb rfl Hb.out Tryz.underlying27 rfl (by kernel_rfl) ?_))
      refine (Both_c a b _ Oa.out Ob.out (HG.out.below HB.out)).mono ?_
      rw [HS.out]
      rintro e V8 ⟨rfl, hb⟩
      replace HB := Lib.hid (b_then HB.out hb)
      replace Hb := Lib.hid (obj_b hb Hb.out)
      replace Ha := Lib.hid (obj_b hb Ha.out)
      replace Oa := Lib.hid (Oa.out.below hb)
      replace Ob := Lib.hid (Ob.out.below hb)
      clear hb
      go_wp2
      go_ret
      exact ⟨rfl, HB.out⟩
    · have hn := HNQ.out (HQ.out (by first | rfl | trivial))
      subst hn
      go_wp2_with (first | go_skip | (refine wpList_load_g 27 _ rfl (by kernel_rfl) w.heap.size rfl Ha.out Tryz.underlying27 rfl (by kernel_rfl) ?_) | (refine wpList_load_g 27 _ rfl (by kernel_rfl) bb rfl Hb.out Tryz.underlying27 rfl (by kernel_rfl) ?_))
      refine (Both_c a b _ Oa.out Ob.out (HG.out.below HB.out)).mono ?_
      rw [HS.out]
      rintro e V8 ⟨rfl, hb⟩
      replace HB := Lib.hid (b_then HB.out hb)
      replace Hb := Lib.hid (obj_b hb Hb.out)
      replace Ha := Lib.hid (obj_b hb Ha.out)
      replace Oa := Lib.hid (Oa.out.below hb)
      replace Ob := Lib.hid (Ob.out.below hb)
      clear hb
      go_wp2
      go_ret
      exact ⟨rfl, HB.out⟩
end Go.Proofs.YtphigjogeejdjaaGreatDoor
/-! The row of ReferDown. -/
namespace Go.Proofs.YtphigjogeejdjaaGreatDoor
open Go.ChangeShapes Go.WideShapes Go.ChangeAt Go.RowKit
open Go.WideMaps Go.WideElems
open Go.ChangeMaps (open_string shut_string)
theorem referDown_reads (os : Os) {H : Type} (enc : TypeId × Value → H) : ∃ x, DataW.whole enc Tryz.prog ((laidWorld os).forCall (fun _ _ => 0) ⟨#[], #[.int .i64 0, .agg #[.string ⟨#[]⟩, .string ⟨#[]⟩, .string ⟨#[]⟩, .int .i64 0, .string ⟨#[]⟩, .int .i64 0, .int .i64 0, .int .i64 0, .int .i64 0, .int .i64 0, .int .i64 0, .int .i64 0, .int .i64 0, .int .i64 0, .int .i64 0, .slice none 0 0, .string ⟨#[]⟩, .string ⟨#[]⟩, .string ⟨#[]⟩, .bool false, .bool false], .agg #[.string ⟨#[]⟩, .string ⟨#[]⟩, .string ⟨#[]⟩, .int .i64 0, .string ⟨#[]⟩, .int .i64 0, .int .i64 0, .int .i64 0, .int .i64 0, .int .i64 0, .int .i64 0, .int .i64 0, .int .i64 0, .int .i64 0, .int .i64 0, .slice none 0 0, .string ⟨#[]⟩, .string ⟨#[]⟩, .string ⟨#[]⟩, .bool false, .bool false]], []⟩).memory Tryz.f11.params.toList Rows.referDownSpec.vars false (#[.int .i64 0, .agg #[.string ⟨#[]⟩, .string ⟨#[]⟩, .string ⟨#[]⟩, .int .i64 0, .string ⟨#[]⟩, .int .i64 0, .int .i64 0, .int .i64 0, .int .i64 0, .int .i64 0, .int .i64 0, .int .i64 0, .int .i64 0, .int .i64 0, .int .i64 0, .slice none 0 0, .string ⟨#[]⟩, .string ⟨#[]⟩, .string ⟨#[]⟩, .bool false, .bool false], .agg #[.string ⟨#[]⟩, .string ⟨#[]⟩, .string ⟨#[]⟩, .int .i64 0, .string ⟨#[]⟩, .int .i64 0, .int .i64 0, .int .i64 0, .int .i64 0, .int .i64 0, .int .i64 0, .int .i64 0, .int .i64 0, .int .i64 0, .int .i64 0, .slice none 0 0, .string ⟨#[]⟩, .string ⟨#[]⟩, .string ⟨#[]⟩, .bool false, .bool false]] : Array Value).toList 8 = some x :=
  Option.isSome_iff_exists.1 (by kernel_rfl)
set_option maxRecDepth 100000 in
theorem referDown_lifted (os : Os) (started : os.Started) (H : Type) (enc : TypeId × Value → H) (F : Stop.Interp) :
    ReturnsInHanded {} Tryz.checked os 11 .any ((OpenSpec.ofChange Rows.referDownSpec).preRow enc Tryz.prog Tryz.f11 Rows.referDownRow.domain false Rows.referDownRow.laid) (((OpenSpec.ofChange Rows.referDownSpec).at F).post enc Tryz.prog Tryz.f11 false true false false) := by
  obtain ⟨x, hx⟩ := referDown_reads os enc
  refine returnsInHanded_of_row (C := Tryz.checked) (s := OpenSpec.ofChange Rows.referDownSpec) own started (by kernel_rfl) Tryz.func11
    (witness_row_atRef (enc := enc) (C := Tryz.checked) false (laidWorld os) #[.int .i64 0, .agg #[.string ⟨#[]⟩, .string ⟨#[]⟩, .string ⟨#[]⟩, .int .i64 0, .string ⟨#[]⟩, .int .i64 0, .int .i64 0, .int .i64 0, .int .i64 0, .int .i64 0, .int .i64 0, .int .i64 0, .int .i64 0, .int .i64 0, .int .i64 0, .slice none 0 0, .string ⟨#[]⟩, .string ⟨#[]⟩, .string ⟨#[]⟩, .bool false, .bool false], .agg #[.string ⟨#[]⟩, .string ⟨#[]⟩, .string ⟨#[]⟩, .int .i64 0, .string ⟨#[]⟩, .int .i64 0, .int .i64 0, .int .i64 0, .int .i64 0, .int .i64 0, .int .i64 0, .int .i64 0, .int .i64 0, .int .i64 0, .int .i64 0, .slice none 0 0, .string ⟨#[]⟩, .string ⟨#[]⟩, .string ⟨#[]⟩, .bool false, .bool false]] rfl (by kernel_rfl) (by kernel_rfl) (by kernel_rfl)
      (OpenSpec.preRow_of_cond 8 hx rfl (fun k hk => by cases hk) (by kernel_rfl) (laid_met os _))) ?_
  intro W base args ds gs before hval0 hW _ _ _ hL hsh _
  have hval : ∀ (j : Nat) t v, Tryz.f11.params[j]? = some t → args[j]? = some v → Value.okWide Tryz.prog W .any base t v := hval0
  have hW' := hW
  obtain ⟨p, q, hA0, hV, rfl, hfz, hnd⟩ := hW
  have hA : DataW.TrodAll enc Tryz.prog W 0 (fun _ => true) true Tryz.f11.params.toList args.toList ds p := hA0
  rw [Tryz.params11] at hA hval
  obtain ⟨v0, v1, v2, d0, d1, d2, p0, p1, p2, rfl, rfl, rfl, h0, h1, h2⟩ := trodAll_three hA
  obtain ⟨rfl, rfl⟩ := trodVars_none hV
  simp only [List.append_nil] at hfz hnd hW'
  have hlt : ∀ x ∈ p0 ++ p1 ++ p2, x.block < W.heap.size := fun x hx => hW'.lt x hx
  have h0k := h0
  obtain ⟨n0, e0, _, _, w0⟩ := open_int Tryz.underlying3 (hval 0 3 v0 rfl rfl) h0
  subst e0
  have h1k := h1
  obtain ⟨u1, rfl, hr1⟩ := open_url (hval 1 27 v1 rfl rfl) h1
  have h2k := h2
  obtain ⟨u2, rfl, hr2⟩ := open_url (hval 2 27 v2 rfl rfl) h2
  refine (ReferDown_c n0 u1 u2 W hr1 hr2 (gl_of hsh) (tabs_laid hL)).mono fun e W' ⟨he, hb⟩ => ?_
  subst he
  refine ⟨_, rfl, _, _, _, [], p0 ++ p1 ++ p2, [], hW', ?_, ?_, ?_, hb.frame _, fun h => by cases h⟩
  · exact trodAll_mk1 (shut_bool Tryz.underlying4 _)
  · have h3 := trodAll_mk3 (Below.trod laidOut (by kernel_rfl) (of_decide_eq_true (by kernel_rfl)) h0k hb (fun x hx => hlt x (by simp [hx]))) (Below.trod laidOut (by kernel_rfl) (of_decide_eq_true (by kernel_rfl)) h1k hb (fun x hx => hlt x (by simp [hx]))) (Below.trod laidOut (by kernel_rfl) (of_decide_eq_true (by kernel_rfl)) h2k hb (fun x hx => hlt x (by simp [hx])))
    rw [← List.append_assoc] at h3
    exact h3
  · rfl
theorem referDown_k0 : Rows.referDownRow.wf (OpenSpec.ofChange (OpenSpec.ofChange Rows.referDownSpec).bare) = true := by kernel_rfl
theorem referDown_k3 : Tryz.f11.params.all (PP.readableRec ·) = true := by kernel_rfl
theorem referDown_k4 : namedTie PP Rows.referDownRow.named (OpenSpec.ofChange Rows.referDownSpec).bare.vars = true := by kernel_rfl
theorem referDown_k5 : (Rows.referDownRow.stops == []) = true := by kernel_rfl
theorem referDown_k7 : (Rows.referDownRow.knobs == []) = true := by kernel_rfl
theorem referDown_k9 : (Rows.referDownRow.inPlace == PP.inPlace 11) = true := by kernel_rfl
theorem referDown_k10 : (Rows.referDownRow.unfollowed == PP.unfollowed 11) = true := by kernel_rfl
theorem referDown_k11 : (Rows.referDownRow.recurses == PP.recurses 11) = true := by kernel_rfl
theorem referDown_k12 : (Rows.referDownRow.named == PP.varsNamed 11) = true := by kernel_rfl
theorem referDown_k13 : (Rows.referDownRow.maps == (Tryz.f11.params.toList ++ (OpenSpec.ofChange Rows.referDownSpec).bare.plain.varTypes PP).any (PP.mapsRec ·)) = true := by kernel_rfl
theorem referDown_k14 : (Rows.referDownRow.ifaces == (Tryz.f11.params.toList ++ (OpenSpec.ofChange Rows.referDownSpec).bare.plain.varTypes PP).any (PP.ifacesRec ·)) = true := by kernel_rfl
theorem referDown_k15 : (Rows.referDownRow.mapsOut == PP.mapsAmong Tryz.f11.resultTypes.toList) = true := by kernel_rfl
theorem referDown_k16 : (Rows.referDownRow.loops == (Tryz.f11.params.toList ++ (OpenSpec.ofChange Rows.referDownSpec).bare.plain.varTypes PP).any (PP.loopsFrom ·)) = true := by kernel_rfl
theorem referDown_k17 : (Rows.referDownRow.wideKeys == (Tryz.f11.params.toList ++ (OpenSpec.ofChange Rows.referDownSpec).bare.plain.varTypes PP ++ Tryz.f11.resultTypes.toList).any (PP.wideKeysFrom ·)) = true := by kernel_rfl
theorem referDown_k18 : (OpenSpec.ofChange Rows.referDownSpec).bare.vars.all (PP.varReadable ·) = true := by kernel_rfl
theorem referDown_k19 : Tryz.f11.resultTypes.all (fun t => PP.readableRec t && decide (t < PP.types.size)) = true := by kernel_rfl
theorem referDown_k20 : (Rows.referDownRow.ifacesOut == Tryz.f11.resultTypes.toList.any (PP.ifacesRec ·)) = true := by kernel_rfl
theorem referDown_k21 : (Rows.referDownRow.loopsOut == Tryz.f11.resultTypes.toList.any (PP.loopsFrom ·)) = true := by kernel_rfl
theorem referDown_k23 : Rows.referDownRow.shortTexts.isNone = true := by kernel_rfl
theorem referDown_k28 : (Rows.referDownRow.kinds == (if Rows.referDownRow.domain.isEmpty then [] else Tryz.f11.params.toList.map fun t => match PP.underlying t with | some (.int k) => some k | _ => none)) = true := by kernel_rfl
theorem referDown_k29 : (Rows.referDownRow.pinned == Rows.referDownRow.pinnedBy) = true := by kernel_rfl
theorem referDown_k30 : (Rows.referDownRow.veiled == (Tryz.f11.params.toList ++ (OpenSpec.ofChange Rows.referDownSpec).bare.plain.varTypes PP ++ Tryz.f11.resultTypes.toList).any (PP.veiledRec ·)) = true := by kernel_rfl
theorem referDown_k31 : Rows.referDownRow.veiledFits PP Tryz.f11.params.toList (Tryz.f11.params.toList ++ (OpenSpec.ofChange Rows.referDownSpec).bare.plain.varTypes PP ++ Tryz.f11.resultTypes.toList) = true := by kernel_rfl
set_option maxRecDepth 100000 in
theorem referDown_closed : joinedFacts PP 11 Tryz.f11 (OpenSpec.ofChange Rows.referDownSpec).bare Rows.referDownRow = true := and2 (and2 (and2 (and2 (and2 (and2 (and2 (and2 (and2 (and2 (and2 (and2 (and2 (and2 (and2 (and2 (and2 (and2 (and2 (and2 (and2 (and2 (and2 (and2 (and2 (and2 (and2 (and2 (and2 (and2 (and2 (referDown_k0) j_laidOut) j_rowed) referDown_k3) referDown_k4) referDown_k5) j_stops) referDown_k7) j_knobs) referDown_k9) referDown_k10) referDown_k11) referDown_k12) referDown_k13) referDown_k14) referDown_k15) referDown_k16) referDown_k17) referDown_k18) referDown_k19) referDown_k20) referDown_k21) j_plain) referDown_k23) j_heard) j_enter) j_lift) j_make) referDown_k28) referDown_k29) referDown_k30) referDown_k31
theorem referDown_named : Tryz.pinned.checked.prog.funcNamed Rows.referDownRow.func = some 11 := by kernel_rfl
theorem referDown_text : Rows.referDownRow.wfByText (OpenSpec.ofChange Rows.referDownSpec) = true := by kernel_rfl
theorem referDown_goes : false = Rows.referDownRow.goesBy Tryz.pinned.checked.prog := by kernel_rfl
theorem referDown_said : Rows.ReferDownSaid :=
  OpenClaim.holds_of_cond 11 Tryz.f11 rfl rfl rfl rfl rfl rfl rfl ⟨rfl, rfl, rfl, rfl, rfl⟩ rfl rfl rfl rfl rfl referDown_named Tryz.func11 referDown_closed
    (of_decide_eq_true (by kernel_rfl)) (by unfold Func.isWrapper; first | (rw [if_pos (by decide +kernel)]; kernel_rfl) | (rw [if_neg (by decide +kernel)]; exact ⟨rfl, rfl⟩))
    (fun os started H enc _ F => by rw [OpenClaim.pre_eq_preRow]; exact referDown_lifted os started H enc F)
theorem referDown_plain (f : FuncId) (fn : Func) (hf : Tryz.pinned.checked.prog.funcNamed "postmark/postmarklaw17.ReferDown" = some f) (hfn : Tryz.pinned.checked.prog.funcs[f]? = some fn) :
    true = Tryz.pinned.checked.prog.looks [] ∧ ∀ (j : Nat) t, fn.params[j]? = some t → Tryz.pinned.checked.prog.wantsStandIn t = false := by
  obtain rfl : f = 11 := Option.some.inj ((show Tryz.prog.funcNamed "postmark/postmarklaw17.ReferDown" = some 11 by kernel_rfl).symm.trans hf) |>.symm
  obtain rfl : fn = Tryz.f11 := (Option.some.inj (Tryz.func11.symm.trans hfn)).symm
  refine ⟨by kernel_rfl, fun j t ht => ?_⟩
  rw [Tryz.params11] at ht
  have hm := Array.mem_of_getElem? ht
  simp only [Array.mem_def, List.mem_cons, List.not_mem_nil, or_false] at hm
  rcases hm with rfl | rfl | rfl
  · exact (show Tryz.prog.wantsStandIn 3 = false by kernel_rfl)
  · exact (show Tryz.prog.wantsStandIn 27 = false by kernel_rfl)
  · exact (show Tryz.prog.wantsStandIn 27 = false by kernel_rfl)
theorem referDown_holds : Rows.ReferDownCardSaid :=
  Claim7.holds_tied_plain_at .later [] _ _ _ _ referDown_said (fun _ h => by cases h) referDown_text (fun _ h => by cases h) referDown_row_tie rfl ⟨rfl, rfl⟩ j_main rfl referDown_plain referDown_goes
#print axioms referDown_holds
end Go.Proofs.YtphigjogeejdjaaGreatDoor
