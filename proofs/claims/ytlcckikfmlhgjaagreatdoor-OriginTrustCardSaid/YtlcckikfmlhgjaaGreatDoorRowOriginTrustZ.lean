/-
OriginTrust: whatever comes in, the law's call returns true, and the arguments read behind the call as they did before; no condition on them. The row lists the two tables of unicode/utf8 (first, acceptRanges); the card ties them.
-/
import Derived.Test.YtlcckikfmlhgjaaGreatDoorAw12
import Derived.Test.YtlcckikfmlhgjaaGreatDoorTz
set_option linter.unusedVariables false
set_option linter.unusedSimpArgs false
/-! The walk of OriginTrust. -/
namespace Go.Proofs.YtlcckikfmlhgjaaGreatDoor
open Go.RowKit
@[go_sem] theorem field_oq (o : OV) (W : World) : (Instr.field 35 (.agg o.cells) 0).run Tryz.prog W = .ok (.bool o.q) W := by kernel_rfl
theorem ofOV_q (u : UV) : (ofOV u).q = !PM.isW u.pm := by rw [← PM.opq_of, ← ofOV_pm]; rfl
/-- Where a law of two addresses stands. -/
structure Duo (u v : UV) (bv : Nat) (w W : World) : Prop where
  u : W.heap[w.heap.size]? = some (.cells u.cells 27 (0, 0))
  v : W.heap[bv]? = some (.cells v.cells 27 (0, 0))
  be : Below w.heap.size w W
theorem Duo.below {u v : UV} {bv : Nat} {w W W' : World} (h : Duo u v bv w W) (hb : Below W.heap.size W W') : Duo u v bv w W' := ⟨heap_b hb h.u, heap_b hb h.v, b_then h.be hb⟩
set_option maxRecDepth 100000 in
set_option maxHeartbeats 16000000 in
theorem OriginTrust_c (u v : UV) (w : World) (hu : RdW w u.a u.pn u.xs) (hv : RdW w v.a v.pn v.xs) (hg : Gl w) (hT : Lib.Utf8Tabs 1 2 w) : Calls Tryz.prog 5 #[.agg u.cells, .agg v.cells] w fun e w' => e = .returned (.bool true) ∧ Below w.heap.size w w' := by
  have HG := Lib.hid hg
  have HTB := Lib.hid hT
  have Ru := Lib.hid hu
  have Rv := Lib.hid hv
  clear hg hT hu hv
  have HB : Hid (Below w.heap.size w ((w.alloc (.cells u.cells 27)).alloc (.cells v.cells 27))) := Lib.hid (b_alloc (b_alloc (Below.refl _ _) _) _)
  have Hu : Hid (((w.alloc (.cells u.cells 27)).alloc (.cells v.cells 27)).heap[w.heap.size]? = some (.cells u.cells 27 (0, 0))) := Lib.hid (heap_b (b_alloc (Below.refl _ _) _) (by have h := Go.heap_alloc_new w (.cells u.cells 27); simpa using h))
  have Hv : Hid (((w.alloc (.cells u.cells 27)).alloc (.cells v.cells 27)).heap[w.heap.size + 1]? = some (.cells v.cells 27 (0, 0))) := Lib.hid ((by have h := Go.heap_alloc_new (w.alloc (.cells u.cells 27)) (.cells v.cells 27); simpa using h))
  go_enter Tryz.func5, Tryz.ntmps5
  go_upto_region 1 with fail
  generalize (w.alloc (.cells u.cells 27)).alloc (.cells v.cells 27) = V0 at HB Hu Hv ⊢
  generalize hbv : w.heap.size + 1 = bv at Hv ⊢
  have hlw_bv : w.heap.size ≤ bv := by omega
  have hne_v_u : w.heap.size < bv := by omega
  clear hbv
  go_wp2_with fail
  refine (awake12_c _ (HG.out.below HB.out) (tabs_below HTB.out HB.out)).mono ?_
  rintro e V1 ⟨rfl, hb⟩
  replace HB := Lib.hid (b_then HB.out hb)
  replace Hv := Lib.hid (obj_b hb Hv.out)
  replace Hu := Lib.hid (obj_b hb Hu.out)
  clear hb
  go_wp2_with (first | go_skip | (refine wpList_load_g 27 _ rfl (by kernel_rfl) w.heap.size rfl Hu.out Tryz.underlying27 rfl (by kernel_rfl) ?_))
  refine (Few_c u _ (Ru.out.below HB.out)).mono ?_
  rintro e V2 ⟨rfl, hb⟩
  replace HB := Lib.hid (b_then HB.out hb)
  replace Hv := Lib.hid (obj_b hb Hv.out)
  replace Hu := Lib.hid (obj_b hb Hu.out)
  clear hb
  go_wp2_with (first | go_skip | (refine wpList_load_g 27 _ rfl (by kernel_rfl) bv rfl Hv.out Tryz.underlying27 rfl (by kernel_rfl) ?_))
  refine (Few_c v _ (Rv.out.below HB.out)).mono ?_
  rintro e V3 ⟨rfl, hb⟩
  replace HB := Lib.hid (b_then HB.out hb)
  replace Hv := Lib.hid (obj_b hb Hv.out)
  replace Hu := Lib.hid (obj_b hb Hu.out)
  clear hb
  cases hfu : PM.few u.pm
  · go_wp2
    go_ret
    exact ⟨rfl, HB.out⟩
  have Ou := Lib.hid (few_ok (Ru.out.below HB.out) hfu)
  have Fu := Lib.hid hfu
  clear hfu
  cases hfv : PM.few v.pm
  · go_wp2
    go_ret
    exact ⟨rfl, HB.out⟩
  have Ov := Lib.hid (few_ok (Rv.out.below HB.out) hfv)
  have Fv := Lib.hid hfv
  clear hfv
  have Ruok : ∀ W, Below w.heap.size w W → u.Ok W := fun W hb => few_ok (Ru.out.below hb) Fu.out
  have Rvok : ∀ W, Below w.heap.size w W → v.Ok W := fun W hb => few_ok (Rv.out.below hb) Fv.out
  obtain ⟨T, hT⟩ : ∃ T, PM.trust u.pm = T := ⟨_, rfl⟩
  have HT := Lib.hid hT
  obtain ⟨D, hD⟩ : ∃ D, PM.both u.pm v.pm = D := ⟨_, rfl⟩
  have HD := Lib.hid hD
  clear hT hD
  have HTW : Hid (true = T → (ofOV u).q = false) := Lib.hid (fun h => by rw [ofOV_q, PM.trust_w (by rw [HT.out]; exact h.symm)]; rfl)
  have HTD : Hid (true = D → PM.trust v.pm = T) := Lib.hid (fun h => by rw [← HT.out]; exact (PM.trust_both (by rw [HD.out]; exact h.symm)).symm)
  have HTRUE : Hid (true = true) := Lib.hid rfl
  have HTH : Hid ((u.sc == [104, 116, 116, 112, 115]) = true → PM.urlMay u.pm = T) := Lib.hid (fun h => by rw [← HT.out]; exact (PM.trust_https (u := u.pm) (of_decide_eq_true (by rw [← beq_list]; exact h))).symm)
  go_wp2_with (first | go_skip | (refine wpList_load_g 27 _ rfl (by kernel_rfl) w.heap.size rfl Hu.out Tryz.underlying27 rfl (by kernel_rfl) ?_))
  refine (Trust_c u _ Ou.out (HG.out.below HB.out)).mono ?_
  rw [HT.out]
  rintro e V4 ⟨rfl, hb⟩
  replace HB := Lib.hid (b_then HB.out hb)
  replace Hv := Lib.hid (obj_b hb Hv.out)
  replace Hu := Lib.hid (obj_b hb Hu.out)
  replace Ou := Lib.hid (Ou.out.below hb)
  replace Ov := Lib.hid (Ov.out.below hb)
  clear hb
  cases T
  · skip
    cases D
    · skip
      cases hB : (u.sc == [104, 116, 116, 112, 115])
      · skip
        go_wp2_with (first | go_skip | (refine wpList_load_g 27 _ rfl (by kernel_rfl) w.heap.size rfl Hu.out Tryz.underlying27 rfl (by kernel_rfl) ?_) | (refine wpList_load_g 27 _ rfl (by kernel_rfl) bv rfl Hv.out Tryz.underlying27 rfl (by kernel_rfl) ?_))
        refine (Both_c u v _ Ou.out Ov.out (HG.out.below HB.out)).mono ?_
        rw [HD.out]
        rintro e V5 ⟨rfl, hb⟩
        replace HB := Lib.hid (b_then HB.out hb)
        replace Hv := Lib.hid (obj_b hb Hv.out)
        replace Hu := Lib.hid (obj_b hb Hu.out)
        replace Ou := Lib.hid (Ou.out.below hb)
        replace Ov := Lib.hid (Ov.out.below hb)
        clear hb
        obtain ⟨c0, c1, c2, c3, c4, c5, c6, c7, c8, c9, c10, c11, c12, c13, c14, c15, c16, c17, c18, c19, c20⟩ := UrlAt.of_heap Hu.out
        go_wp2
        go_ret
        exact ⟨rfl, HB.out⟩
      · skip
        go_wp2_with (first | go_skip | (refine wpList_load_g 27 _ rfl (by kernel_rfl) w.heap.size rfl Hu.out Tryz.underlying27 rfl (by kernel_rfl) ?_) | (refine wpList_load_g 27 _ rfl (by kernel_rfl) bv rfl Hv.out Tryz.underlying27 rfl (by kernel_rfl) ?_))
        refine (Both_c u v _ Ou.out Ov.out (HG.out.below HB.out)).mono ?_
        rw [HD.out]
        rintro e V6 ⟨rfl, hb⟩
        replace HB := Lib.hid (b_then HB.out hb)
        replace Hv := Lib.hid (obj_b hb Hv.out)
        replace Hu := Lib.hid (obj_b hb Hu.out)
        replace Ou := Lib.hid (Ou.out.below hb)
        replace Ov := Lib.hid (Ov.out.below hb)
        clear hb
        obtain ⟨c0, c1, c2, c3, c4, c5, c6, c7, c8, c9, c10, c11, c12, c13, c14, c15, c16, c17, c18, c19, c20⟩ := UrlAt.of_heap Hu.out
        have HBB := Lib.hid (HTH.out hB)
        go_wp2_with (first | go_skip | (refine wpList_load_g 27 _ rfl (by kernel_rfl) w.heap.size rfl Hu.out Tryz.underlying27 rfl (by kernel_rfl) ?_))
        refine (urlMay_c u _ Ou.out (HG.out.below HB.out)).mono ?_
        rw [HBB.out]
        rintro e V7 ⟨rfl, hb⟩
        replace HB := Lib.hid (b_then HB.out hb)
        replace Hv := Lib.hid (obj_b hb Hv.out)
        replace Hu := Lib.hid (obj_b hb Hu.out)
        replace Ou := Lib.hid (Ou.out.below hb)
        replace Ov := Lib.hid (Ov.out.below hb)
        clear hb
        go_wp2
        go_ret
        exact ⟨rfl, HB.out⟩
    · skip
      cases hB : (u.sc == [104, 116, 116, 112, 115])
      · skip
        go_wp2_with (first | go_skip | (refine wpList_load_g 27 _ rfl (by kernel_rfl) w.heap.size rfl Hu.out Tryz.underlying27 rfl (by kernel_rfl) ?_) | (refine wpList_load_g 27 _ rfl (by kernel_rfl) bv rfl Hv.out Tryz.underlying27 rfl (by kernel_rfl) ?_))
        refine (Both_c u v _ Ou.out Ov.out (HG.out.below HB.out)).mono ?_
        rw [HD.out]
        rintro e V8 ⟨rfl, hb⟩
        replace HB := Lib.hid (b_then HB.out hb)
        replace Hv := Lib.hid (obj_b hb Hv.out)
        replace Hu := Lib.hid (obj_b hb Hu.out)
        replace Ou := Lib.hid (Ou.out.below hb)
        replace Ov := Lib.hid (Ov.out.below hb)
        clear hb
        go_wp2_with (first | go_skip | (refine wpList_load_g 27 _ rfl (by kernel_rfl) bv rfl Hv.out Tryz.underlying27 rfl (by kernel_rfl) ?_))
        refine (Trust_c v _ Ov.out (HG.out.below HB.out)).mono ?_
        rw [HTD.out (by trivial)]
        rintro e V9 ⟨rfl, hb⟩
        replace HB := Lib.hid (b_then HB.out hb)
        replace Hv := Lib.hid (obj_b hb Hv.out)
        replace Hu := Lib.hid (obj_b hb Hu.out)
        replace Ou := Lib.hid (Ou.out.below hb)
        replace Ov := Lib.hid (Ov.out.below hb)
        clear hb
        obtain ⟨c0, c1, c2, c3, c4, c5, c6, c7, c8, c9, c10, c11, c12, c13, c14, c15, c16, c17, c18, c19, c20⟩ := UrlAt.of_heap Hu.out
        go_wp2
        go_ret
        exact ⟨rfl, HB.out⟩
      · skip
        go_wp2_with (first | go_skip | (refine wpList_load_g 27 _ rfl (by kernel_rfl) w.heap.size rfl Hu.out Tryz.underlying27 rfl (by kernel_rfl) ?_) | (refine wpList_load_g 27 _ rfl (by kernel_rfl) bv rfl Hv.out Tryz.underlying27 rfl (by kernel_rfl) ?_))
        refine (Both_c u v _ Ou.out Ov.out (HG.out.below HB.out)).mono ?_
        rw [HD.out]
        rintro e V10 ⟨rfl, hb⟩
        replace HB := Lib.hid (b_then HB.out hb)
        replace Hv := Lib.hid (obj_b hb Hv.out)
        replace Hu := Lib.hid (obj_b hb Hu.out)
        replace Ou := Lib.hid (Ou.out.below hb)
        replace Ov := Lib.hid (Ov.out.below hb)
        clear hb
        go_wp2_with (first | go_skip | (refine wpList_load_g 27 _ rfl (by kernel_rfl) bv rfl Hv.out Tryz.underlying27 rfl (by kernel_rfl) ?_))
        refine (Trust_c v _ Ov.out (HG.out.below HB.out)).mono ?_
        rw [HTD.out (by trivial)]
        rintro e V11 ⟨rfl, hb⟩
        replace HB := Lib.hid (b_then HB.out hb)
        replace Hv := Lib.hid (obj_b hb Hv.out)
        replace Hu := Lib.hid (obj_b hb Hu.out)
        replace Ou := Lib.hid (Ou.out.below hb)
        replace Ov := Lib.hid (Ov.out.below hb)
        clear hb
        obtain ⟨c0, c1, c2, c3, c4, c5, c6, c7, c8, c9, c10, c11, c12, c13, c14, c15, c16, c17, c18, c19, c20⟩ := UrlAt.of_heap Hu.out
        have HBB := Lib.hid (HTH.out hB)
        go_wp2_with (first | go_skip | (refine wpList_load_g 27 _ rfl (by kernel_rfl) w.heap.size rfl Hu.out Tryz.underlying27 rfl (by kernel_rfl) ?_))
        refine (urlMay_c u _ Ou.out (HG.out.below HB.out)).mono ?_
        rw [HBB.out]
        rintro e V12 ⟨rfl, hb⟩
        replace HB := Lib.hid (b_then HB.out hb)
        replace Hv := Lib.hid (obj_b hb Hv.out)
        replace Hu := Lib.hid (obj_b hb Hu.out)
        replace Ou := Lib.hid (Ou.out.below hb)
        replace Ov := Lib.hid (Ov.out.below hb)
        clear hb
        go_wp2
        go_ret
        exact ⟨rfl, HB.out⟩
  · skip
    have hq0 := HTW.out (by trivial)
    cases D
    · skip
      cases hB : (u.sc == [104, 116, 116, 112, 115])
      · skip
        go_wp2_with (first | go_skip | (refine wpList_load_g 27 _ rfl (by kernel_rfl) w.heap.size rfl Hu.out Tryz.underlying27 rfl (by kernel_rfl) ?_))
        refine (Of_c u _ Ou.out (HG.out.below HB.out)).mono ?_
        rintro e V13 ⟨rfl, hb⟩
        replace HB := Lib.hid (b_then HB.out hb)
        replace Hv := Lib.hid (obj_b hb Hv.out)
        replace Hu := Lib.hid (obj_b hb Hu.out)
        replace Ou := Lib.hid (Ou.out.below hb)
        replace Ov := Lib.hid (Ov.out.below hb)
        clear hb
        go_wp2_with (first | go_skip | (refine wpList_load_g 27 _ rfl (by kernel_rfl) w.heap.size rfl Hu.out Tryz.underlying27 rfl (by kernel_rfl) ?_) | (refine wpList_load_g 27 _ rfl (by kernel_rfl) bv rfl Hv.out Tryz.underlying27 rfl (by kernel_rfl) ?_))
        refine (Both_c u v _ Ou.out Ov.out (HG.out.below HB.out)).mono ?_
        rw [HD.out]
        rintro e V14 ⟨rfl, hb⟩
        replace HB := Lib.hid (b_then HB.out hb)
        replace Hv := Lib.hid (obj_b hb Hv.out)
        replace Hu := Lib.hid (obj_b hb Hu.out)
        replace Ou := Lib.hid (Ou.out.below hb)
        replace Ov := Lib.hid (Ov.out.below hb)
        clear hb
        obtain ⟨c0, c1, c2, c3, c4, c5, c6, c7, c8, c9, c10, c11, c12, c13, c14, c15, c16, c17, c18, c19, c20⟩ := UrlAt.of_heap Hu.out
        go_wp2
        go_ret
        exact ⟨rfl, HB.out⟩
      · skip
        go_wp2_with (first | go_skip | (refine wpList_load_g 27 _ rfl (by kernel_rfl) w.heap.size rfl Hu.out Tryz.underlying27 rfl (by kernel_rfl) ?_))
        refine (Of_c u _ Ou.out (HG.out.below HB.out)).mono ?_
        rintro e V15 ⟨rfl, hb⟩
        replace HB := Lib.hid (b_then HB.out hb)
        replace Hv := Lib.hid (obj_b hb Hv.out)
        replace Hu := Lib.hid (obj_b hb Hu.out)
        replace Ou := Lib.hid (Ou.out.below hb)
        replace Ov := Lib.hid (Ov.out.below hb)
        clear hb
        go_wp2_with (first | go_skip | (refine wpList_load_g 27 _ rfl (by kernel_rfl) w.heap.size rfl Hu.out Tryz.underlying27 rfl (by kernel_rfl) ?_) | (refine wpList_load_g 27 _ rfl (by kernel_rfl) bv rfl Hv.out Tryz.underlying27 rfl (by kernel_rfl) ?_))
        refine (Both_c u v _ Ou.out Ov.out (HG.out.below HB.out)).mono ?_
        rw [HD.out]
        rintro e V16 ⟨rfl, hb⟩
        replace HB := Lib.hid (b_then HB.out hb)
        replace Hv := Lib.hid (obj_b hb Hv.out)
        replace Hu := Lib.hid (obj_b hb Hu.out)
        replace Ou := Lib.hid (Ou.out.below hb)
        replace Ov := Lib.hid (Ov.out.below hb)
        clear hb
        obtain ⟨c0, c1, c2, c3, c4, c5, c6, c7, c8, c9, c10, c11, c12, c13, c14, c15, c16, c17, c18, c19, c20⟩ := UrlAt.of_heap Hu.out
        have HBB := Lib.hid (HTH.out hB)
        go_wp2_with (first | go_skip | (refine wpList_load_g 27 _ rfl (by kernel_rfl) w.heap.size rfl Hu.out Tryz.underlying27 rfl (by kernel_rfl) ?_))
        refine (urlMay_c u _ Ou.out (HG.out.below HB.out)).mono ?_
        rw [HBB.out]
        rintro e V17 ⟨rfl, hb⟩
        replace HB := Lib.hid (b_then HB.out hb)
        replace Hv := Lib.hid (obj_b hb Hv.out)
        replace Hu := Lib.hid (obj_b hb Hu.out)
        replace Ou := Lib.hid (Ou.out.below hb)
        replace Ov := Lib.hid (Ov.out.below hb)
        clear hb
        go_wp2
        go_ret
        exact ⟨rfl, HB.out⟩
    · skip
      cases hB : (u.sc == [104, 116, 116, 112, 115])
      · skip
        go_wp2_with (first | go_skip | (refine wpList_load_g 27 _ rfl (by kernel_rfl) w.heap.size rfl Hu.out Tryz.underlying27 rfl (by kernel_rfl) ?_))
        refine (Of_c u _ Ou.out (HG.out.below HB.out)).mono ?_
        rintro e V18 ⟨rfl, hb⟩
        replace HB := Lib.hid (b_then HB.out hb)
        replace Hv := Lib.hid (obj_b hb Hv.out)
        replace Hu := Lib.hid (obj_b hb Hu.out)
        replace Ou := Lib.hid (Ou.out.below hb)
        replace Ov := Lib.hid (Ov.out.below hb)
        clear hb
        go_wp2_with (first | go_skip | (refine wpList_load_g 27 _ rfl (by kernel_rfl) w.heap.size rfl Hu.out Tryz.underlying27 rfl (by kernel_rfl) ?_) | (refine wpList_load_g 27 _ rfl (by kernel_rfl) bv rfl Hv.out Tryz.underlying27 rfl (by kernel_rfl) ?_))
        refine (Both_c u v _ Ou.out Ov.out (HG.out.below HB.out)).mono ?_
        rw [HD.out]
        rintro e V19 ⟨rfl, hb⟩
        replace HB := Lib.hid (b_then HB.out hb)
        replace Hv := Lib.hid (obj_b hb Hv.out)
        replace Hu := Lib.hid (obj_b hb Hu.out)
        replace Ou := Lib.hid (Ou.out.below hb)
        replace Ov := Lib.hid (Ov.out.below hb)
        clear hb
        go_wp2_with (first | go_skip | (refine wpList_load_g 27 _ rfl (by kernel_rfl) bv rfl Hv.out Tryz.underlying27 rfl (by kernel_rfl) ?_))
        refine (Trust_c v _ Ov.out (HG.out.below HB.out)).mono ?_
        rw [HTD.out (by trivial)]
        rintro e V20 ⟨rfl, hb⟩
        replace HB := Lib.hid (b_then HB.out hb)
        replace Hv := Lib.hid (obj_b hb Hv.out)
        replace Hu := Lib.hid (obj_b hb Hu.out)
        replace Ou := Lib.hid (Ou.out.below hb)
        replace Ov := Lib.hid (Ov.out.below hb)
        clear hb
        obtain ⟨c0, c1, c2, c3, c4, c5, c6, c7, c8, c9, c10, c11, c12, c13, c14, c15, c16, c17, c18, c19, c20⟩ := UrlAt.of_heap Hu.out
        go_wp2
        go_ret
        exact ⟨rfl, HB.out⟩
      · skip
        go_wp2_with (first | go_skip | (refine wpList_load_g 27 _ rfl (by kernel_rfl) w.heap.size rfl Hu.out Tryz.underlying27 rfl (by kernel_rfl) ?_))
        refine (Of_c u _ Ou.out (HG.out.below HB.out)).mono ?_
        rintro e V21 ⟨rfl, hb⟩
        replace HB := Lib.hid (b_then HB.out hb)
        replace Hv := Lib.hid (obj_b hb Hv.out)
        replace Hu := Lib.hid (obj_b hb Hu.out)
        replace Ou := Lib.hid (Ou.out.below hb)
        replace Ov := Lib.hid (Ov.out.below hb)
        clear hb
        go_wp2_with (first | go_skip | (refine wpList_load_g 27 _ rfl (by kernel_rfl) w.heap.size rfl Hu.out Tryz.underlying27 rfl (by kernel_rfl) ?_) | (refine wpList_load_g 27 _ rfl (by kernel_rfl) bv rfl Hv.out Tryz.underlying27 rfl (by kernel_rfl) ?_))
        refine (Both_c u v _ Ou.out Ov.out (HG.out.below HB.out)).mono ?_
        rw [HD.out]
        rintro e V22 ⟨rfl, hb⟩
        replace HB := Lib.hid (b_then HB.out hb)
        replace Hv := Lib.hid (obj_b hb Hv.out)
        replace Hu := Lib.hid (obj_b hb Hu.out)
        replace Ou := Lib.hid (Ou.out.below hb)
        replace Ov := Lib.hid (Ov.out.below hb)
        clear hb
        go_wp2_with (first | go_skip | (refine wpList_load_g 27 _ rfl (by kernel_rfl) bv rfl Hv.out Tryz.underlying27 rfl (by kernel_rfl) ?_))
        refine (Trust_c v _ Ov.out (HG.out.below HB.out)).mono ?_
        rw [HTD.out (by trivial)]
        rintro e V23 ⟨rfl, hb⟩
        replace HB := Lib.hid (b_then HB.out hb)
        replace Hv := Lib.hid (obj_b hb Hv.out)
        replace Hu := Lib.hid (obj_b hb Hu.out)
        replace Ou := Lib.hid (Ou.out.below hb)
        replace Ov := Lib.hid (Ov.out.below hb)
        clear hb
        obtain ⟨c0, c1, c2, c3, c4, c5, c6, c7, c8, c9, c10, c11, c12, c13, c14, c15, c16, c17, c18, c19, c20⟩ := UrlAt.of_heap Hu.out
        have HBB := Lib.hid (HTH.out hB)
        go_wp2_with (first | go_skip | (refine wpList_load_g 27 _ rfl (by kernel_rfl) w.heap.size rfl Hu.out Tryz.underlying27 rfl (by kernel_rfl) ?_))
        refine (urlMay_c u _ Ou.out (HG.out.below HB.out)).mono ?_
        rw [HBB.out]
        rintro e V24 ⟨rfl, hb⟩
        replace HB := Lib.hid (b_then HB.out hb)
        replace Hv := Lib.hid (obj_b hb Hv.out)
        replace Hu := Lib.hid (obj_b hb Hu.out)
        replace Ou := Lib.hid (Ou.out.below hb)
        replace Ov := Lib.hid (Ov.out.below hb)
        clear hb
        go_wp2
        go_ret
        exact ⟨rfl, HB.out⟩
end Go.Proofs.YtlcckikfmlhgjaaGreatDoor
/-! The row of OriginTrust. -/
namespace Go.Proofs.YtlcckikfmlhgjaaGreatDoor
open Go.ChangeShapes Go.WideShapes Go.ChangeAt Go.RowKit
open Go.WideMaps Go.WideElems
open Go.ChangeMaps (open_string shut_string)
theorem originTrust_reads (os : Os) {H : Type} (enc : TypeId × Value → H) : ∃ x, DataW.whole enc Tryz.prog ((laidWorld os).forCall (fun _ _ => 0) ⟨#[], #[.agg #[.string ⟨#[]⟩, .string ⟨#[]⟩, .string ⟨#[]⟩, .int .i64 0, .string ⟨#[]⟩, .int .i64 0, .int .i64 0, .int .i64 0, .int .i64 0, .int .i64 0, .int .i64 0, .int .i64 0, .int .i64 0, .int .i64 0, .int .i64 0, .slice none 0 0, .string ⟨#[]⟩, .string ⟨#[]⟩, .string ⟨#[]⟩, .bool false, .bool false], .agg #[.string ⟨#[]⟩, .string ⟨#[]⟩, .string ⟨#[]⟩, .int .i64 0, .string ⟨#[]⟩, .int .i64 0, .int .i64 0, .int .i64 0, .int .i64 0, .int .i64 0, .int .i64 0, .int .i64 0, .int .i64 0, .int .i64 0, .int .i64 0, .slice none 0 0, .string ⟨#[]⟩, .string ⟨#[]⟩, .string ⟨#[]⟩, .bool false, .bool false]], []⟩).memory Tryz.f5.params.toList Rows.originTrustSpec.vars false (#[.agg #[.string ⟨#[]⟩, .string ⟨#[]⟩, .string ⟨#[]⟩, .int .i64 0, .string ⟨#[]⟩, .int .i64 0, .int .i64 0, .int .i64 0, .int .i64 0, .int .i64 0, .int .i64 0, .int .i64 0, .int .i64 0, .int .i64 0, .int .i64 0, .slice none 0 0, .string ⟨#[]⟩, .string ⟨#[]⟩, .string ⟨#[]⟩, .bool false, .bool false], .agg #[.string ⟨#[]⟩, .string ⟨#[]⟩, .string ⟨#[]⟩, .int .i64 0, .string ⟨#[]⟩, .int .i64 0, .int .i64 0, .int .i64 0, .int .i64 0, .int .i64 0, .int .i64 0, .int .i64 0, .int .i64 0, .int .i64 0, .int .i64 0, .slice none 0 0, .string ⟨#[]⟩, .string ⟨#[]⟩, .string ⟨#[]⟩, .bool false, .bool false]] : Array Value).toList 8 = some x :=
  Option.isSome_iff_exists.1 (by kernel_rfl)
set_option maxRecDepth 100000 in
theorem originTrust_lifted (os : Os) (started : os.Started) (H : Type) (enc : TypeId × Value → H) (F : Stop.Interp) :
    ReturnsInHanded {} Tryz.checked os 5 .any ((OpenSpec.ofChange Rows.originTrustSpec).preRow enc Tryz.prog Tryz.f5 Rows.originTrustRow.domain false Rows.originTrustRow.laid) (((OpenSpec.ofChange Rows.originTrustSpec).at F).post enc Tryz.prog Tryz.f5 false true false false) := by
  obtain ⟨x, hx⟩ := originTrust_reads os enc
  refine returnsInHanded_of_row (C := Tryz.checked) (s := OpenSpec.ofChange Rows.originTrustSpec) own started (by kernel_rfl) Tryz.func5
    (witness_row_atRef (enc := enc) (C := Tryz.checked) false (laidWorld os) #[.agg #[.string ⟨#[]⟩, .string ⟨#[]⟩, .string ⟨#[]⟩, .int .i64 0, .string ⟨#[]⟩, .int .i64 0, .int .i64 0, .int .i64 0, .int .i64 0, .int .i64 0, .int .i64 0, .int .i64 0, .int .i64 0, .int .i64 0, .int .i64 0, .slice none 0 0, .string ⟨#[]⟩, .string ⟨#[]⟩, .string ⟨#[]⟩, .bool false, .bool false], .agg #[.string ⟨#[]⟩, .string ⟨#[]⟩, .string ⟨#[]⟩, .int .i64 0, .string ⟨#[]⟩, .int .i64 0, .int .i64 0, .int .i64 0, .int .i64 0, .int .i64 0, .int .i64 0, .int .i64 0, .int .i64 0, .int .i64 0, .int .i64 0, .slice none 0 0, .string ⟨#[]⟩, .string ⟨#[]⟩, .string ⟨#[]⟩, .bool false, .bool false]] rfl (by kernel_rfl) (by kernel_rfl) (by kernel_rfl)
      (OpenSpec.preRow_of_cond 8 hx rfl (fun k hk => by cases hk) (by kernel_rfl) (laid_met os _))) ?_
  intro W base args ds gs before hval0 hW _ _ _ hL hsh _
  have hval : ∀ (j : Nat) t v, Tryz.f5.params[j]? = some t → args[j]? = some v → Value.okWide Tryz.prog W .any base t v := hval0
  have hW' := hW
  obtain ⟨p, q, hA0, hV, rfl, hfz, hnd⟩ := hW
  have hA : DataW.TrodAll enc Tryz.prog W 0 (fun _ => true) true Tryz.f5.params.toList args.toList ds p := hA0
  rw [Tryz.params5] at hA hval
  obtain ⟨v0, v1, d0, d1, p0, p1, rfl, rfl, rfl, h0, h1⟩ := trodAll_two hA
  obtain ⟨rfl, rfl⟩ := trodVars_none hV
  simp only [List.append_nil] at hfz hnd hW'
  have hlt : ∀ x ∈ p0 ++ p1, x.block < W.heap.size := fun x hx => hW'.lt x hx
  have h0k := h0
  obtain ⟨u0, rfl, hr0⟩ := open_url (hval 0 27 v0 rfl rfl) h0
  have h1k := h1
  obtain ⟨u1, rfl, hr1⟩ := open_url (hval 1 27 v1 rfl rfl) h1
  refine (OriginTrust_c u0 u1 W hr0 hr1 (gl_of hsh) (tabs_laid hL)).mono fun e W' ⟨he, hb⟩ => ?_
  subst he
  refine ⟨_, rfl, _, _, _, [], p0 ++ p1, [], hW', ?_, ?_, ?_, hb.frame _, fun h => by cases h⟩
  · exact trodAll_mk1 (shut_bool Tryz.underlying4 _)
  · exact trodAll_mk2 (Below.trod laidOut (by kernel_rfl) (of_decide_eq_true (by kernel_rfl)) h0k hb (fun x hx => hlt x (by simp [hx]))) (Below.trod laidOut (by kernel_rfl) (of_decide_eq_true (by kernel_rfl)) h1k hb (fun x hx => hlt x (by simp [hx])))
  · rfl
theorem originTrust_k0 : Rows.originTrustRow.wf (OpenSpec.ofChange (OpenSpec.ofChange Rows.originTrustSpec).bare) = true := by kernel_rfl
theorem originTrust_k3 : Tryz.f5.params.all (PP.readableRec ·) = true := by kernel_rfl
theorem originTrust_k4 : namedTie PP Rows.originTrustRow.named (OpenSpec.ofChange Rows.originTrustSpec).bare.vars = true := by kernel_rfl
theorem originTrust_k5 : (Rows.originTrustRow.stops == []) = true := by kernel_rfl
theorem originTrust_k7 : (Rows.originTrustRow.knobs == []) = true := by kernel_rfl
theorem originTrust_k9 : (Rows.originTrustRow.inPlace == PP.inPlace 5) = true := by kernel_rfl
theorem originTrust_k10 : (Rows.originTrustRow.unfollowed == PP.unfollowed 5) = true := by kernel_rfl
theorem originTrust_k11 : (Rows.originTrustRow.recurses == PP.recurses 5) = true := by kernel_rfl
theorem originTrust_k12 : (Rows.originTrustRow.named == PP.varsNamed 5) = true := by kernel_rfl
theorem originTrust_k13 : (Rows.originTrustRow.maps == (Tryz.f5.params.toList ++ (OpenSpec.ofChange Rows.originTrustSpec).bare.plain.varTypes PP).any (PP.mapsRec ·)) = true := by kernel_rfl
theorem originTrust_k14 : (Rows.originTrustRow.ifaces == (Tryz.f5.params.toList ++ (OpenSpec.ofChange Rows.originTrustSpec).bare.plain.varTypes PP).any (PP.ifacesRec ·)) = true := by kernel_rfl
theorem originTrust_k15 : (Rows.originTrustRow.mapsOut == PP.mapsAmong Tryz.f5.resultTypes.toList) = true := by kernel_rfl
theorem originTrust_k16 : (Rows.originTrustRow.loops == (Tryz.f5.params.toList ++ (OpenSpec.ofChange Rows.originTrustSpec).bare.plain.varTypes PP).any (PP.loopsFrom ·)) = true := by kernel_rfl
theorem originTrust_k17 : (Rows.originTrustRow.wideKeys == (Tryz.f5.params.toList ++ (OpenSpec.ofChange Rows.originTrustSpec).bare.plain.varTypes PP ++ Tryz.f5.resultTypes.toList).any (PP.wideKeysFrom ·)) = true := by kernel_rfl
theorem originTrust_k18 : (OpenSpec.ofChange Rows.originTrustSpec).bare.vars.all (PP.varReadable ·) = true := by kernel_rfl
theorem originTrust_k19 : Tryz.f5.resultTypes.all (fun t => PP.readableRec t && decide (t < PP.types.size)) = true := by kernel_rfl
theorem originTrust_k20 : (Rows.originTrustRow.ifacesOut == Tryz.f5.resultTypes.toList.any (PP.ifacesRec ·)) = true := by kernel_rfl
theorem originTrust_k21 : (Rows.originTrustRow.loopsOut == Tryz.f5.resultTypes.toList.any (PP.loopsFrom ·)) = true := by kernel_rfl
theorem originTrust_k23 : Rows.originTrustRow.shortTexts.isNone = true := by kernel_rfl
theorem originTrust_k28 : (Rows.originTrustRow.kinds == (if Rows.originTrustRow.domain.isEmpty then [] else Tryz.f5.params.toList.map fun t => match PP.underlying t with | some (.int k) => some k | _ => none)) = true := by kernel_rfl
theorem originTrust_k29 : (Rows.originTrustRow.pinned == Rows.originTrustRow.pinnedBy) = true := by kernel_rfl
theorem originTrust_k30 : (Rows.originTrustRow.veiled == (Tryz.f5.params.toList ++ (OpenSpec.ofChange Rows.originTrustSpec).bare.plain.varTypes PP ++ Tryz.f5.resultTypes.toList).any (PP.veiledRec ·)) = true := by kernel_rfl
theorem originTrust_k31 : Rows.originTrustRow.veiledFits PP Tryz.f5.params.toList (Tryz.f5.params.toList ++ (OpenSpec.ofChange Rows.originTrustSpec).bare.plain.varTypes PP ++ Tryz.f5.resultTypes.toList) = true := by kernel_rfl
set_option maxRecDepth 100000 in
theorem originTrust_closed : joinedFacts PP 5 Tryz.f5 (OpenSpec.ofChange Rows.originTrustSpec).bare Rows.originTrustRow = true := and2 (and2 (and2 (and2 (and2 (and2 (and2 (and2 (and2 (and2 (and2 (and2 (and2 (and2 (and2 (and2 (and2 (and2 (and2 (and2 (and2 (and2 (and2 (and2 (and2 (and2 (and2 (and2 (and2 (and2 (and2 (originTrust_k0) j_laidOut) j_rowed) originTrust_k3) originTrust_k4) originTrust_k5) j_stops) originTrust_k7) j_knobs) originTrust_k9) originTrust_k10) originTrust_k11) originTrust_k12) originTrust_k13) originTrust_k14) originTrust_k15) originTrust_k16) originTrust_k17) originTrust_k18) originTrust_k19) originTrust_k20) originTrust_k21) j_plain) originTrust_k23) j_heard) j_enter) j_lift) j_make) originTrust_k28) originTrust_k29) originTrust_k30) originTrust_k31
theorem originTrust_named : Tryz.pinned.checked.prog.funcNamed Rows.originTrustRow.func = some 5 := by kernel_rfl
theorem originTrust_text : Rows.originTrustRow.wfByText (OpenSpec.ofChange Rows.originTrustSpec) = true := by kernel_rfl
theorem originTrust_goes : false = Rows.originTrustRow.goesBy Tryz.pinned.checked.prog := by kernel_rfl
theorem originTrust_said : Rows.OriginTrustSaid :=
  OpenClaim.holds_of_cond 5 Tryz.f5 rfl rfl rfl rfl rfl rfl rfl ⟨rfl, rfl, rfl, rfl, rfl⟩ rfl rfl rfl rfl rfl originTrust_named Tryz.func5 originTrust_closed
    (of_decide_eq_true (by kernel_rfl)) (by unfold Func.isWrapper; first | (rw [if_pos (by decide +kernel)]; kernel_rfl) | (rw [if_neg (by decide +kernel)]; exact ⟨rfl, rfl⟩))
    (fun os started H enc _ F => by rw [OpenClaim.pre_eq_preRow]; exact originTrust_lifted os started H enc F)
theorem originTrust_plain (f : FuncId) (fn : Func) (hf : Tryz.pinned.checked.prog.funcNamed "postmark/postmarklaw12.OriginTrust" = some f) (hfn : Tryz.pinned.checked.prog.funcs[f]? = some fn) :
    true = Tryz.pinned.checked.prog.looks [] ∧ ∀ (j : Nat) t, fn.params[j]? = some t → Tryz.pinned.checked.prog.wantsStandIn t = false := by
  obtain rfl : f = 5 := Option.some.inj ((show Tryz.prog.funcNamed "postmark/postmarklaw12.OriginTrust" = some 5 by kernel_rfl).symm.trans hf) |>.symm
  obtain rfl : fn = Tryz.f5 := (Option.some.inj (Tryz.func5.symm.trans hfn)).symm
  refine ⟨by kernel_rfl, fun j t ht => ?_⟩
  rw [Tryz.params5] at ht
  have hm := Array.mem_of_getElem? ht
  simp only [Array.mem_def, List.mem_cons, List.not_mem_nil, or_false] at hm
  rcases hm with rfl | rfl
  · exact (show Tryz.prog.wantsStandIn 27 = false by kernel_rfl)
  · exact (show Tryz.prog.wantsStandIn 27 = false by kernel_rfl)
theorem originTrust_holds : Rows.OriginTrustCardSaid :=
  Claim7.holds_tied_plain_at .later [] _ _ _ _ originTrust_said (fun _ h => by cases h) originTrust_text (fun _ h => by cases h) originTrust_row_tie rfl ⟨rfl, rfl⟩ j_main rfl originTrust_plain originTrust_goes
#print axioms originTrust_holds
end Go.Proofs.YtlcckikfmlhgjaaGreatDoor
