/-
OriginShow: whatever comes in, the law's call returns true, and the arguments read behind the call as they did before; no condition on them. The row lists the two tables of unicode/utf8 (first, acceptRanges); the card ties them.
-/
import Derived.Test.YtlcckikfmlhgjaaGreatDoorAw12
import Derived.Test.YtlcckikfmlhgjaaGreatDoorTz
set_option linter.unusedVariables false
set_option linter.unusedSimpArgs false
/-! The walk of OriginShow. -/
namespace PM
def oth : L := [111, 116, 104, 101, 114]
/-- An address without a user, a fragment, and a query, with another path. -/
def plainer (u : Url) : Url := { open_ u with path := [oth], query := [], hasQuery := false }
theorem isW_plainer {u : Url} (h : isW u = true) : isW (plainer u) = true := by
  obtain ⟨hm, hw⟩ := (isW_iff u).1 h
  obtain ⟨h1, h2, h3, h4, h5, h6, h7, h8⟩ := may_web hm hw
  have hpos : 0 < web u.scheme := by have := web_nonneg u.scheme; omega
  rw [isW_iff]
  refine ⟨?_, hw⟩
  unfold urlMay plainer open_ bare
  dsimp only
  rw [opq_of_web hw]
  unfold mayWeb qf
  dsimp only
  rw [decide_eq_true hpos, h1, h5, decide_eq_true h6, decide_eq_true h7, decide_eq_true h8]
  have : pathMay [oth] = true := by decide
  rw [this]
  rfl
theorem plainer_of {u : Url} (h : isW u = true) : originOf (plainer u) = originOf u := by
  rw [originOf_w h, originOf_w (isW_plainer h)]
  rfl
end PM
namespace Go.Proofs.YtlcckikfmlhgjaaGreatDoor
open Go.RowKit
def UV.wQuery (u : UV) (q : List UInt8) : UV := { u with qu := q }
def UV.wHq (u : UV) (k : Bool) : UV := { u with hq := k }
def UV.wPath (u : UV) (a : Option Addr) (n c : Nat) (xs : List (List UInt8)) : UV := { u with a := a, pn := n, pc := c, xs := xs }
theorem wquery_cells (u : UV) (q : List UInt8) : u.cells.setIfInBounds 17 (.string (mkS q)) = (u.wQuery q).cells := by kernel_rfl
theorem hq_cells (u : UV) (k : Bool) : u.cells.setIfInBounds 19 (.bool k) = (u.wHq k).cells := by kernel_rfl
theorem wpath_cells (u : UV) (a : Option Addr) (n c : Nat) (xs : List (List UInt8)) : u.cells.setIfInBounds 15 (.slice a n c) = (u.wPath a n c xs).cells := by kernel_rfl
theorem Ok_query {u : UV} {W : World} (h : u.Ok W) (q : List UInt8) (hq : q.length ≤ 1000000) : (u.wQuery q).Ok W := ⟨h.sc, h.us, h.pa, h.n, h.op, hq, h.fr, h.xn, h.xl, h.rd⟩
theorem Ok_hq {u : UV} {W : World} (h : u.Ok W) (k : Bool) : (u.wHq k).Ok W := ⟨h.sc, h.us, h.pa, h.n, h.op, h.qu, h.fr, h.xn, h.xl, h.rd⟩
theorem Ok_other {u : UV} {w W : World} (h : u.Ok w) {b c : Nat} (hb : W.heap[b]? = some (.cells #[.string (mkS PM.oth)] 9 (0, 0))) : (u.wPath (some ⟨b, 0, none⟩) 1 c [PM.oth]).Ok W :=
  ⟨h.sc, h.us, h.pa, h.n, h.op, h.qu, h.fr, by show [PM.oth].length ≤ _; decide, fun s hs => by
    have : s = PM.oth := by simpa [UV.wPath] using hs
    subst this
    decide, ⟨rfl, by show 1 * 16 ≤ _; decide, .inr ⟨b, 0, rfl, (Array.getElem?_eq_some_iff.1 hb).1, fun j hj => by
      have hj0 : j = 0 := by simpa [UV.wPath] using hj
      subst hj0
      rw [Lib.cell_of_heap hb]
      rfl⟩⟩⟩
/-- Where OriginShow stands. -/
structure ShS (u v : UV) (o : OV) (x y : UV) (bv bo bx by_ : Nat) (w W : World) : Prop where
  hu : W.heap[w.heap.size]? = some (.cells u.cells 27 (0, 0))
  hv : W.heap[bv]? = some (.cells v.cells 27 (0, 0))
  ho : W.heap[bo]? = some (.cells o.cells 35 (0, 0))
  hx : W.heap[bx]? = some (.cells x.cells 27 (0, 0))
  hy : W.heap[by_]? = some (.cells y.cells 27 (0, 0))
  ox : x.Ok W
  oy : y.Ok W
  be : Below w.heap.size w W
theorem ShS.below {u v : UV} {o : OV} {x y : UV} {bv bo bx by_ : Nat} {w W W' : World} (h : ShS u v o x y bv bo bx by_ w W) (hb : Below W.heap.size W W') : ShS u v o x y bv bo bx by_ w W' := ⟨heap_b hb h.hu, heap_b hb h.hv, heap_b hb h.ho, heap_b hb h.hx, heap_b hb h.hy, h.ox.below hb, h.oy.below hb, b_then h.be hb⟩
theorem eq_same {a b : OV} (h : a.pm = b.pm) (W : World) : (Op.equalIn 10000 35 (.agg a.cells) (.agg b.cells)).run Tryz.prog W = .ok true W := by
  rw [eq_origin, h, PM.originEq_refl]
end Go.Proofs.YtlcckikfmlhgjaaGreatDoor
namespace Go.Proofs.YtlcckikfmlhgjaaGreatDoor
open Go.RowKit
set_option maxRecDepth 100000 in
set_option maxHeartbeats 16000000 in
theorem OriginShow_c (u v : UV) (w : World) (hu : RdW w u.a u.pn u.xs) (hv : RdW w v.a v.pn v.xs) (hg : Gl w) (hT : Lib.Utf8Tabs 1 2 w) : Calls Tryz.prog 13 #[.agg u.cells, .agg v.cells] w fun e w' => e = .returned (.bool true) ∧ Below w.heap.size w w' := by
  have HG := Lib.hid hg
  have HTB := Lib.hid hT
  have Ru := Lib.hid hu
  have Rv := Lib.hid hv
  clear hg hT hu hv
  have HB : Hid (Below w.heap.size w ((w.alloc (.cells u.cells 27)).alloc (.cells v.cells 27))) := Lib.hid (b_alloc (b_alloc (Below.refl _ _) _) _)
  have Hu : Hid (((w.alloc (.cells u.cells 27)).alloc (.cells v.cells 27)).heap[w.heap.size]? = some (.cells u.cells 27 (0, 0))) := Lib.hid (heap_b (b_alloc (Below.refl _ _) _) (by have h := Go.heap_alloc_new w (.cells u.cells 27); simpa using h))
  have Hv : Hid (((w.alloc (.cells u.cells 27)).alloc (.cells v.cells 27)).heap[w.heap.size + 1]? = some (.cells v.cells 27 (0, 0))) := Lib.hid ((by have h := Go.heap_alloc_new (w.alloc (.cells u.cells 27)) (.cells v.cells 27); simpa using h))
  go_enter Tryz.func13, Tryz.ntmps13
  go_upto_region 1 with fail
  generalize (w.alloc (.cells u.cells 27)).alloc (.cells v.cells 27) = V0 at HB Hu Hv ⊢
  generalize hbv : w.heap.size + 1 = bv at Hv ⊢
  have hlw_bv : w.heap.size ≤ bv := by omega
  have hne_v_u : w.heap.size < bv := by omega
  clear hbv
  go_wp2_with fail
  refine (awake12_c _ (HG.out.below HB.out) (tabs_below HTB.out HB.out)).mono ?_
  rintro e V1 ⟨rfl, hb⟩
  replace HB := Lib.hid (b_then HB.out hb)
  replace Hv := Lib.hid (obj_b hb Hv.out)
  replace Hu := Lib.hid (obj_b hb Hu.out)
  clear hb
  go_wp2_with (first | go_skip | (refine wpList_load_g 27 _ rfl (by kernel_rfl) w.heap.size rfl Hu.out Tryz.underlying27 rfl (by kernel_rfl) ?_))
  refine (Few_c u _ (Ru.out.below HB.out)).mono ?_
  rintro e V2 ⟨rfl, hb⟩
  replace HB := Lib.hid (b_then HB.out hb)
  replace Hv := Lib.hid (obj_b hb Hv.out)
  replace Hu := Lib.hid (obj_b hb Hu.out)
  clear hb
  go_wp2_with (first | go_skip | (refine wpList_load_g 27 _ rfl (by kernel_rfl) bv rfl Hv.out Tryz.underlying27 rfl (by kernel_rfl) ?_))
  refine (Few_c v _ (Rv.out.below HB.out)).mono ?_
  rintro e V3 ⟨rfl, hb⟩
  replace HB := Lib.hid (b_then HB.out hb)
  replace Hv := Lib.hid (obj_b hb Hv.out)
  replace Hu := Lib.hid (obj_b hb Hu.out)
  clear hb
  cases hfu : PM.few u.pm
  · go_wp2
    go_ret
    exact ⟨rfl, HB.out⟩
  have Ou := Lib.hid (few_ok (Ru.out.below HB.out) hfu)
  have Fu := Lib.hid hfu
  clear hfu
  cases hfv : PM.few v.pm
  · go_wp2
    go_ret
    exact ⟨rfl, HB.out⟩
  have Ov := Lib.hid (few_ok (Rv.out.below HB.out) hfv)
  have Fv := Lib.hid hfv
  clear hfv
  have Ruok : ∀ W, Below w.heap.size w W → u.Ok W := fun W hb => few_ok (Ru.out.below hb) Fu.out
  have Rvok : ∀ W, Below w.heap.size w W → v.Ok W := fun W hb => few_ok (Rv.out.below hb) Fv.out
  obtain ⟨m, hm⟩ : ∃ m, PM.urlMay u.pm = m := ⟨_, rfl⟩
  have HM := Lib.hid hm
  clear hm
  go_wp2_with (first | go_skip | (refine wpList_load_g 27 _ rfl (by kernel_rfl) w.heap.size rfl Hu.out Tryz.underlying27 rfl (by kernel_rfl) ?_))
  refine (urlMay_c u _ Ou.out (HG.out.below HB.out)).mono ?_
  rw [HM.out]
  rintro e V4 ⟨rfl, hb⟩
  replace HB := Lib.hid (b_then HB.out hb)
  replace Hv := Lib.hid (obj_b hb Hv.out)
  replace Hu := Lib.hid (obj_b hb Hu.out)
  replace Ou := Lib.hid (Ou.out.below hb)
  replace Ov := Lib.hid (Ov.out.below hb)
  clear hb
  cases m
  · go_wp2
    go_ret
    exact ⟨rfl, HB.out⟩
  obtain ⟨c0, c1, c2, c3, c4, c5, c6, c7, c8, c9, c10, c11, c12, c13, c14, c15, c16, c17, c18, c19, c20⟩ := UrlAt.of_heap Hu.out
  go_wp2_with fail
  refine (Web_c u.sc _).mono ?_
  rintro e V50 ⟨rfl, rfl⟩
  by_cases hw : PM.web u.sc = 0
  · have hw2 : (PM.web u.sc == 0) = true := by simpa using hw
    clear hw
    go_wp2
    go_ret
    exact ⟨rfl, HB.out⟩
  have hw2 : (PM.web u.sc == 0) = false := by simpa using hw
  have hisw : PM.isW u.pm = true := (PM.isW_iff _).2 ⟨HM.out, hw⟩
  have HW := Lib.hid hisw
  clear hw hisw
  go_wp2_with (first | go_skip | (refine wpList_load_g 27 _ rfl (by kernel_rfl) w.heap.size rfl Hu.out Tryz.underlying27 rfl (by kernel_rfl) ?_))
  refine (Of_c u _ Ou.out (HG.out.below HB.out)).mono ?_
  rintro e V5 ⟨rfl, hb⟩
  replace HB := Lib.hid (b_then HB.out hb)
  replace Hv := Lib.hid (obj_b hb Hv.out)
  replace Hu := Lib.hid (obj_b hb Hu.out)
  replace Ou := Lib.hid (Ou.out.below hb)
  replace Ov := Lib.hid (Ov.out.below hb)
  clear hb
  clear c0 c1 c2 c3 c4 c5 c6 c7 c8 c9 c10 c11 c12 c13 c14 c15 c16 c17 c18 c19 c20 hw2
  have ho1 : (ofOV u).Ok := ofOV_ok Ou.out
  have HOK := Lib.hid ho1
  have ho2 : (ofOV u).pm = PM.originOf u.pm := ofOV_pm u
  have HOP := Lib.hid ho2
  obtain ⟨o, ho⟩ : ∃ o, ofOV u = o := ⟨_, rfl⟩
  rw [ho] at HOK HOP ⊢
  clear ho1 ho2 ho
  have HN := Lib.hid (Go.heap_alloc_new V5 (.cells zo 35))
  unfold zo at HN 
  go_upto_region 7 with (first | (refine wpList_store_row rfl 35 _ _ rfl V5.heap.size o.cells rfl rfl 35 _ HN.out (by kernel_rfl) rfl (oagg_one o) ?_))
  obtain ⟨W1, hV⟩ : ∃ W1, W1 = (V5.alloc (.cells #[.bool false, .string ⟨#[]⟩, .int .i64 0, .string ⟨#[]⟩, .int .i64 0, .int .i64 0, .int .i64 0, .int .i64 0, .int .i64 0, .int .i64 0, .int .i64 0, .int .i64 0, .int .i64 0, .int .i64 0] 35)).setRow V5.heap.size o.cells := ⟨_, rfl⟩
  have hN : W1.heap[V5.heap.size]? = some (.cells o.cells 35 (0, 0)) := by rw [hV]; exact heap_setRow HN.out _
  have hb : Below V5.heap.size V5 W1 := by rw [hV]; exact below_setRow (b_alloc (Below.refl _ _) _) (Nat.le_refl _) _
  rw [← hV]
  clear hV HN 
  have Ho := Lib.hid hN
  clear hN
  have hlt_bo_Hv : bv < V5.heap.size := h_lt Hv.out
  have hlt_bo_Hu : w.heap.size < V5.heap.size := h_lt Hu.out
  have hlw_bo : w.heap.size ≤ V5.heap.size := HB.out.size
  replace HB := Lib.hid (b_then HB.out hb)
  replace Hv := Lib.hid (obj_b hb Hv.out)
  replace Hu := Lib.hid (obj_b hb Hu.out)
  replace Ou := Lib.hid (Ou.out.below hb)
  replace Ov := Lib.hid (Ov.out.below hb)
  clear hb
  generalize V5.heap.size = bo at Ho hlt_bo_Hv hlt_bo_Hu hlw_bo ⊢
  (try simp only [Act.put])
  have hfo : PM.isW (PM.front o.pm) = true := by rw [← PM.originMay_open (by rw [HOP.out, PM.opq_of, HW.out]; rfl), HOP.out]; exact PM.may_of _
  have hqo : o.pm.opq = false := by rw [HOP.out, PM.opq_of, HW.out]; rfl
  have hmo : PM.originMay o.pm = true := by rw [HOP.out]; exact PM.may_of _
  have HFO := Lib.hid hfo
  have HQO := Lib.hid hqo
  have HMO := Lib.hid hmo
  obtain ⟨S, hS⟩ : ∃ S, PM.originShow o.pm = S := ⟨_, rfl⟩
  have HS := Lib.hid hS
  have hSl : S.length ≤ 30000 := by
    rw [← hS, PM.originShow_eq hmo hqo]
    have h1 : o.pm.sch.length ≤ 5 := by
      rcases PM.web_eq hfo with e | e
      · rw [show o.pm.sch = PM.http from e]; decide
      · rw [show o.pm.sch = PM.https from e]; decide
    have h2 := PM.odoor_len hfo rfl (sixShow_len o.host.six rfl) (fourShow_len o.m) (by unfold PM.digs PM.rdig; rw [List.length_reverse]; exact Nat.le_trans (rdigF_len _ _) (by decide))
    rw [List.length_append, List.length_cons, List.length_cons, List.length_cons]
    omega
  have hSp : PM.urlParse S = some (PM.front o.pm) := by rw [← hS, PM.originShow_eq hmo hqo]; exact PM.parse_origin hfo rfl
  have hSs : PM.showUrl (PM.front o.pm) = S ++ [47] := by rw [PM.front_show hfo, ← hS, PM.originShow_eq hmo hqo]
  have HSL := Lib.hid hSl
  have HSP := Lib.hid hSp
  have HSS := Lib.hid hSs
  clear hfo hqo hmo hS hSl hSp hSs
  go_wp2_with (first | go_skip | (refine wpList_load_g 35 _ rfl (by kernel_rfl) bo rfl Ho.out Tryz.underlying35 rfl (by kernel_rfl) ?_))
  refine (Show_o_c o _ HOK.out (HG.out.below HB.out)).mono ?_
  rw [HS.out]
  rintro e V6 ⟨rfl, hb⟩
  replace HB := Lib.hid (b_then HB.out hb)
  replace Hv := Lib.hid (obj_b hb Hv.out)
  replace Hu := Lib.hid (obj_b hb Hu.out)
  replace Ho := Lib.hid (obj_b hb Ho.out)
  replace Ou := Lib.hid (Ou.out.below hb)
  replace Ov := Lib.hid (Ov.out.below hb)
  clear hb
  go_wp2_with fail
  refine (known_c S _ HSL.out HSP.out (by show ([[]] : List (List UInt8)).length ≤ 10000; decide) _ (HG.out.below HB.out) (tabs_below HTB.out HB.out)).mono ?_
  rintro e V7 ⟨⟨x, rfl, hxp, hxo⟩, hb⟩
  replace HB := Lib.hid (b_then HB.out hb)
  replace Hv := Lib.hid (obj_b hb Hv.out)
  replace Hu := Lib.hid (obj_b hb Hu.out)
  replace Ho := Lib.hid (obj_b hb Ho.out)
  replace Ou := Lib.hid (Ou.out.below hb)
  replace Ov := Lib.hid (Ov.out.below hb)
  clear hb
  have HXP := Lib.hid hxp
  have HX0 := Lib.hid hxo
  clear hxp hxo
  have HXB : Hid (Below V7.heap.size V7 V7) := Lib.hid (Below.refl _ _)
  have HN := Lib.hid (Go.heap_alloc_new V7 (.cells zurl 27))
  unfold zurl at HN 
  go_upto_region 9 with (first | (refine wpList_store_row rfl 27 _ _ rfl V7.heap.size x.cells rfl rfl 27 _ HN.out (by kernel_rfl) rfl (agg_one x) ?_))
  obtain ⟨W2, hV⟩ : ∃ W2, W2 = (V7.alloc (.cells #[.string ⟨#[]⟩, .string ⟨#[]⟩, .string ⟨#[]⟩, .int .i64 0, .string ⟨#[]⟩, .int .i64 0, .int .i64 0, .int .i64 0, .int .i64 0, .int .i64 0, .int .i64 0, .int .i64 0, .int .i64 0, .int .i64 0, .int .i64 0, .slice none 0 0, .string ⟨#[]⟩, .string ⟨#[]⟩, .string ⟨#[]⟩, .bool false, .bool false] 27)).setRow V7.heap.size x.cells := ⟨_, rfl⟩
  have hN : W2.heap[V7.heap.size]? = some (.cells x.cells 27 (0, 0)) := by rw [hV]; exact heap_setRow HN.out _
  have hb : Below V7.heap.size V7 W2 := by rw [hV]; exact below_setRow (b_alloc (Below.refl _ _) _) (Nat.le_refl _) _
  rw [← hV]
  clear hV HN 
  have Hx := Lib.hid hN
  clear hN
  have hlt_bx_Hv : bv < V7.heap.size := h_lt Hv.out
  have hlt_bx_Hu : w.heap.size < V7.heap.size := h_lt Hu.out
  have hlt_bx_Ho : bo < V7.heap.size := h_lt Ho.out
  have hlw_bx : w.heap.size ≤ V7.heap.size := HB.out.size
  have hle_bx_HXB : V7.heap.size ≤ V7.heap.size := HXB.out.size
  replace HB := Lib.hid (b_then HB.out hb)
  replace Hv := Lib.hid (obj_b hb Hv.out)
  replace Hu := Lib.hid (obj_b hb Hu.out)
  replace Ho := Lib.hid (obj_b hb Ho.out)
  replace Ou := Lib.hid (Ou.out.below hb)
  replace Ov := Lib.hid (Ov.out.below hb)
  replace HXB := Lib.hid (b_then HXB.out hb)
  clear hb
  generalize V7.heap.size = bx at Hx hlt_bx_Hv hlt_bx_Hu hlt_bx_Ho hlw_bx hle_bx_HXB ⊢
  (try simp only [Act.put])
  go_wp2_with (first | go_skip | (refine wpList_load_g 27 _ rfl (by kernel_rfl) w.heap.size rfl Hu.out Tryz.underlying27 rfl (by kernel_rfl) ?_))
  refine (Open_c u _ Ou.out).mono ?_
  rintro e V8 ⟨y0, rfl, hyp, hyo, hyf, hb⟩
  replace HB := Lib.hid (b_then HB.out hb)
  replace Hv := Lib.hid (obj_b hb Hv.out)
  replace Hu := Lib.hid (obj_b hb Hu.out)
  replace Ho := Lib.hid (obj_b hb Ho.out)
  replace Hx := Lib.hid (obj_b hb Hx.out)
  replace Ou := Lib.hid (Ou.out.below hb)
  replace Ov := Lib.hid (Ov.out.below hb)
  replace HXB := Lib.hid (b_then HXB.out hb)
  clear hb
  have HYP := Lib.hid hyp
  have HY0 := Lib.hid hyo
  clear hyp hyo hyf
  have HN := Lib.hid (Go.heap_alloc_new V8 (.cells zurl 27))
  unfold zurl at HN 
  go_upto_region 10 with (first | (refine wpList_store_row rfl 27 _ _ rfl V8.heap.size y0.cells rfl rfl 27 _ HN.out (by kernel_rfl) rfl (agg_one y0) ?_))
  obtain ⟨W3, hV⟩ : ∃ W3, W3 = (V8.alloc (.cells #[.string ⟨#[]⟩, .string ⟨#[]⟩, .string ⟨#[]⟩, .int .i64 0, .string ⟨#[]⟩, .int .i64 0, .int .i64 0, .int .i64 0, .int .i64 0, .int .i64 0, .int .i64 0, .int .i64 0, .int .i64 0, .int .i64 0, .int .i64 0, .slice none 0 0, .string ⟨#[]⟩, .string ⟨#[]⟩, .string ⟨#[]⟩, .bool false, .bool false] 27)).setRow V8.heap.size y0.cells := ⟨_, rfl⟩
  have hN : W3.heap[V8.heap.size]? = some (.cells y0.cells 27 (0, 0)) := by rw [hV]; exact heap_setRow HN.out _
  have hb : Below V8.heap.size V8 W3 := by rw [hV]; exact below_setRow (b_alloc (Below.refl _ _) _) (Nat.le_refl _) _
  rw [← hV]
  clear hV HN 
  have Hy := Lib.hid hN
  clear hN
  have hlt_by__Hv : bv < V8.heap.size := h_lt Hv.out
  have hlt_by__Hu : w.heap.size < V8.heap.size := h_lt Hu.out
  have hlt_by__Ho : bo < V8.heap.size := h_lt Ho.out
  have hlt_by__Hx : bx < V8.heap.size := h_lt Hx.out
  have hlw_by_ : w.heap.size ≤ V8.heap.size := HB.out.size
  have hle_by__HXB : V7.heap.size ≤ V8.heap.size := HXB.out.size
  replace HB := Lib.hid (b_then HB.out hb)
  replace Hv := Lib.hid (obj_b hb Hv.out)
  replace Hu := Lib.hid (obj_b hb Hu.out)
  replace Ho := Lib.hid (obj_b hb Ho.out)
  replace Hx := Lib.hid (obj_b hb Hx.out)
  replace Ou := Lib.hid (Ou.out.below hb)
  replace Ov := Lib.hid (Ov.out.below hb)
  replace HXB := Lib.hid (b_then HXB.out hb)
  clear hb
  generalize V8.heap.size = by_ at Hy hlt_by__Hv hlt_by__Hu hlt_by__Ho hlt_by__Hx hlw_by_ hle_by__HXB ⊢
  (try simp only [Act.put])
  clear Ou Ov
  have f15 := Lib.frozen_of_heap (obj_b (b_alloc (Below.refl _ _) (.cells #[.string { data := #[111, 116, 104, 101, 114] }] 9)) Hy.out) 15
  have d15 : (W3.alloc (.cells #[.string { data := #[111, 116, 104, 101, 114] }] 9)).cell? ⟨by_, 15, none⟩ = some (.slice y0.a y0.pn y0.pc) := by rw [Lib.cell_of_heap (obj_b (b_alloc (Below.refl _ _) (.cells #[.string { data := #[111, 116, 104, 101, 114] }] 9)) Hy.out)]; rfl
  go_upto_region 11 with fail
  clear f15 d15
  have hlt_HAR : by_ < W3.heap.size := h_lt Hy.out
  obtain ⟨W4, hV⟩ : ∃ W4, W4 = (W3.alloc (.cells #[.string { data := #[111, 116, 104, 101, 114] }] 9)).setCell ⟨by_, 15, none⟩ (.slice (some ⟨W3.heap.size, 0, none⟩) 1 1) := ⟨_, rfl⟩
  rw [← hV]
  have HAR := Lib.hid (show W4.heap[W3.heap.size]? = some (.cells #[.string { data := #[111, 116, 104, 101, 114] }] 9 (0, 0)) from by rw [hV]; exact heap_set_other (Go.heap_alloc_new _ _) _ _ _ (by have := h_lt Hy.out; omega))
  replace Hv := Lib.hid (show W4.heap[bv]? = some (.cells _ 27 (0, 0)) from by rw [hV]; exact heap_set_other (obj_b (b_alloc (Below.refl _ _) _) Hv.out) _ _ _ (by omega))
  replace Hu := Lib.hid (show W4.heap[w.heap.size]? = some (.cells _ 27 (0, 0)) from by rw [hV]; exact heap_set_other (obj_b (b_alloc (Below.refl _ _) _) Hu.out) _ _ _ (by omega))
  replace Ho := Lib.hid (show W4.heap[bo]? = some (.cells _ 35 (0, 0)) from by rw [hV]; exact heap_set_other (obj_b (b_alloc (Below.refl _ _) _) Ho.out) _ _ _ (by omega))
  replace Hx := Lib.hid (show W4.heap[bx]? = some (.cells _ 27 (0, 0)) from by rw [hV]; exact heap_set_other (obj_b (b_alloc (Below.refl _ _) _) Hx.out) _ _ _ (by omega))
  replace Hy := Lib.hid (show W4.heap[by_]? = some (.cells (y0.wPath (some ⟨W3.heap.size, 0, none⟩) 1 1 [PM.oth]).cells 27 (0, 0)) from by rw [hV]; exact setCell_heap (obj_b (b_alloc (Below.refl _ _) _) Hy.out) 15 _)
  replace HB := Lib.hid (show Below w.heap.size w W4 from by rw [hV]; exact b_set (b_alloc HB.out _) _ hlw_by_ _)
  replace HXB := Lib.hid (show Below V7.heap.size V7 W4 from by rw [hV]; exact b_set (b_alloc HXB.out _) _ hle_by__HXB _)
  clear hV
  have hw3 : w.heap.size ≤ W3.heap.size := by omega
  generalize W3.heap.size = ba at HAR Hy hlt_HAR hw3 ⊢
  have f17 := Lib.frozen_of_heap Hy.out 17
  have d17 : W4.cell? ⟨by_, 17, none⟩ = some (.string (mkS y0.qu)) := by rw [Lib.cell_of_heap Hy.out]; rfl
  go_upto_region 12 with fail
  clear f17 d17
  obtain ⟨W5, hV⟩ : ∃ W5, W5 = W4.setCell ⟨by_, 17, none⟩ (.string ⟨#[]⟩) := ⟨_, rfl⟩
  rw [← hV]
  replace Hy := Lib.hid (show W5.heap[by_]? = some (.cells ((y0.wPath (some ⟨ba, 0, none⟩) 1 1 [PM.oth]).wQuery []).cells 27 (0, 0)) from by rw [hV]; exact setCell_heap Hy.out 17 _)
  replace Hv := Lib.hid (show W5.heap[bv]? = some (.cells _ 27 (0, 0)) from by rw [hV]; exact heap_set_other Hv.out _ _ _ (by omega))
  replace Hu := Lib.hid (show W5.heap[w.heap.size]? = some (.cells _ 27 (0, 0)) from by rw [hV]; exact heap_set_other Hu.out _ _ _ (by omega))
  replace Ho := Lib.hid (show W5.heap[bo]? = some (.cells _ 35 (0, 0)) from by rw [hV]; exact heap_set_other Ho.out _ _ _ (by omega))
  replace Hx := Lib.hid (show W5.heap[bx]? = some (.cells _ 27 (0, 0)) from by rw [hV]; exact heap_set_other Hx.out _ _ _ (by omega))
  replace HAR := Lib.hid (show W5.heap[ba]? = some (.cells _ 9 (0, 0)) from by rw [hV]; exact heap_set_other HAR.out _ _ _ (by omega))
  replace HB := Lib.hid (show Below w.heap.size w W5 from by rw [hV]; exact b_set HB.out _ hlw_by_ _)
  replace HXB := Lib.hid (show Below V7.heap.size V7 W5 from by rw [hV]; exact b_set HXB.out _ hle_by__HXB _)
  clear hV
  have f19 := Lib.frozen_of_heap Hy.out 19
  have d19 : W5.cell? ⟨by_, 19, none⟩ = some (.bool y0.hq) := by rw [Lib.cell_of_heap Hy.out]; rfl
  go_upto_region 13 with fail
  clear f19 d19
  obtain ⟨W6, hV⟩ : ∃ W6, W6 = W5.setCell ⟨by_, 19, none⟩ (.bool false) := ⟨_, rfl⟩
  rw [← hV]
  replace Hy := Lib.hid (show W6.heap[by_]? = some (.cells (((y0.wPath (some ⟨ba, 0, none⟩) 1 1 [PM.oth]).wQuery []).wHq false).cells 27 (0, 0)) from by rw [hV]; exact setCell_heap Hy.out 19 _)
  replace Hv := Lib.hid (show W6.heap[bv]? = some (.cells _ 27 (0, 0)) from by rw [hV]; exact heap_set_other Hv.out _ _ _ (by omega))
  replace Hu := Lib.hid (show W6.heap[w.heap.size]? = some (.cells _ 27 (0, 0)) from by rw [hV]; exact heap_set_other Hu.out _ _ _ (by omega))
  replace Ho := Lib.hid (show W6.heap[bo]? = some (.cells _ 35 (0, 0)) from by rw [hV]; exact heap_set_other Ho.out _ _ _ (by omega))
  replace Hx := Lib.hid (show W6.heap[bx]? = some (.cells _ 27 (0, 0)) from by rw [hV]; exact heap_set_other Hx.out _ _ _ (by omega))
  replace HAR := Lib.hid (show W6.heap[ba]? = some (.cells _ 9 (0, 0)) from by rw [hV]; exact heap_set_other HAR.out _ _ _ (by omega))
  replace HB := Lib.hid (show Below w.heap.size w W6 from by rw [hV]; exact b_set HB.out _ hlw_by_ _)
  replace HXB := Lib.hid (show Below V7.heap.size V7 W6 from by rw [hV]; exact b_set HXB.out _ hle_by__HXB _)
  clear hV
  have hyo := Ok_hq (Ok_query (Ok_other (c := 1) HY0.out HAR.out) [] (by decide)) false
  have hyp : (((y0.wPath (some ⟨ba, 0, none⟩) 1 1 [PM.oth]).wQuery []).wHq false).pm = PM.plainer u.pm := by
    show ({ y0.pm with path := [PM.oth], query := [], hasQuery := false } : PM.Url) = _
    rw [HYP.out]
    rfl
  obtain ⟨y, hy⟩ : ∃ y, ((y0.wPath (some ⟨ba, 0, none⟩) 1 1 [PM.oth]).wQuery []).wHq false = y := ⟨_, rfl⟩
  rw [hy] at Hy hyo hyp
  have hxo := HX0.out.below HXB.out
  have HXO := Lib.hid hxo
  have HYO := Lib.hid hyo
  have HYP2 := Lib.hid hyp
  clear hy hyo hyp hxo HAR
  have hso' : (S == PM.originShow (ofOV v).pm) = PM.both u.pm v.pm := by rw [ofOV_pm, beq_list, ← HS.out, HOP.out]; exact PM.show_both HW.out rfl rfl
  have HSO := Lib.hid hso'
  clear hso'
  have hsl : ¬ 9223372036854775807 < S.length + 1 := by have := HSL.out; omega
  have hap : mkS S ++ ({ data := #[47] } : ByteArray) = mkS (S ++ [47]) := mkS_append S [47]
  obtain ⟨T, hT⟩ : ∃ T, PM.originShow (ofOV v).pm = T := ⟨_, rfl⟩
  obtain ⟨D, hD⟩ : ∃ D, PM.both u.pm v.pm = D := ⟨_, rfl⟩
  have HT := Lib.hid hT
  have HD := Lib.hid hD
  rw [hT, hD] at HSO
  clear hT hD
  have e1 := eq_same (a := ofOV x) (b := o) (by rw [ofOV_pm, HXP.out]; exact PM.originOf_front HQO.out HMO.out)
  have e2 := eq_same (a := ofOV y) (b := o) (by rw [ofOV_pm, HYP2.out, HOP.out]; exact PM.plainer_of HW.out)
  have hST := HSO.out
  cases D
  · skip
    have hsx : PM.showUrl x.pm = S ++ [47] := by rw [HXP.out]; exact HSS.out
    have HSX := Lib.hid hsx
    clear hsx
    go_wp2_with fail
    refine wp_region_noPanic ?_
    refine wp_region_held_drew (S := fun W' => ShS u v o x y bv bo bx by_ w W') (by kernel_rfl) (ShS.below ⟨Hu.out, Hv.out, Ho.out, Hx.out, Hy.out, HXO.out, HYO.out, HB.out⟩ (b_drew (Below.refl _ _))) (fun hS0 => ?_)
    refine wpAnyH_take (i := 0) (v := ?_) rfl (by kernel_rfl) (by kernel_rfl) (by kernel_rfl) (fun _ _ _ h => h) (Or.inl ⟨by kernel_rfl, fun W hW => ?_⟩) (by assumption) ?_
    rotate_left
    · go_simp
      try with_reducible rfl
    (try simp only [List.getElem_toArray, List.getElem_cons_zero, List.getElem_cons_succ, Act.put, List.setIfInBounds_toArray, List.set_cons_zero, List.set_cons_succ])
    refine wpAnyH_take (i := 1) (v := ?_) rfl (by kernel_rfl) (by kernel_rfl) (by kernel_rfl) (fun _ _ _ h => h) (Or.inl ⟨by kernel_rfl, fun W hW => ?_⟩) (by assumption) ?_
    rotate_left
    · refine yield_row 27 (.tmp 3) ?_ bv ?_ hW.hv Tryz.underlying27 rfl (by kernel_rfl)
      · rfl
      · rfl
    (try simp only [List.getElem_toArray, List.getElem_cons_zero, List.getElem_cons_succ, Act.put, List.setIfInBounds_toArray, List.set_cons_zero, List.set_cons_succ])
    refine wpAnyH_take (i := 5) (v := ?_) rfl (by kernel_rfl) (by kernel_rfl) (by kernel_rfl) (fun _ _ _ h => h) (Or.inl ⟨by kernel_rfl, fun W hW => ?_⟩) (by assumption) ?_
    rotate_left
    · refine yield_row 27 (.tmp 2) ?_ w.heap.size ?_ hW.hu Tryz.underlying27 rfl (by kernel_rfl)
      · rfl
      · rfl
    (try simp only [List.getElem_toArray, List.getElem_cons_zero, List.getElem_cons_succ, Act.put, List.setIfInBounds_toArray, List.set_cons_zero, List.set_cons_succ])
    refine wpAnyH_take (i := 6) (v := ?_) rfl (by kernel_rfl) (by kernel_rfl) (by kernel_rfl) (fun _ _ _ h => h) (Or.inl ⟨by kernel_rfl, fun W hW => ?_⟩) (by assumption) ?_
    rotate_left
    · refine yield_row 27 (.tmp 3) ?_ bv ?_ hW.hv Tryz.underlying27 rfl (by kernel_rfl)
      · rfl
      · rfl
    (try simp only [List.getElem_toArray, List.getElem_cons_zero, List.getElem_cons_succ, Act.put, List.setIfInBounds_toArray, List.set_cons_zero, List.set_cons_succ])
    refine wpAnyH_ready (rs := [2]) (by kernel_rfl) (by simp) ?_
    refine AllReadyH.cons rfl (fun K hK => ?_) AllReadyH.nil
    go_simp
    refine (Of_c v _ (Rvok _ hS0.be) (HG.out.below hS0.be)).mono ?_
    rintro e U1 ⟨rfl, hb⟩
    have hSn := hS0.below hb
    clear hb hS0
    have hvo : (ofOV v).Ok := ofOV_ok (Rvok _ hSn.be)
    refine hK.out _ _ hSn (fun _ => ?_)
    clear hK K
    (try simp only [List.getElem_toArray, List.getElem_cons_zero, List.getElem_cons_succ, Act.put, List.setIfInBounds_toArray, List.set_cons_zero, List.set_cons_succ])
    refine wpAnyH_ready (rs := [3]) (by kernel_rfl) (by simp) ?_
    refine AllReadyH.cons rfl (fun K hK => ?_) AllReadyH.nil
    go_simp
    refine (Show_o_c (ofOV v) _ hvo (HG.out.below hSn.be)).mono ?_
    rw [HT.out]
    rintro e U2 ⟨rfl, hb⟩
    replace hSn := hSn.below hb
    clear hb
    refine hK.out _ _ hSn (fun _ => ?_)
    clear hK K
    (try simp only [List.getElem_toArray, List.getElem_cons_zero, List.getElem_cons_succ, Act.put, List.setIfInBounds_toArray, List.set_cons_zero, List.set_cons_succ])
    refine wpAnyH_take (i := 4) (v := ?_) rfl (by kernel_rfl) (by kernel_rfl) (by kernel_rfl) (fun _ _ _ h => h) (Or.inl ⟨by kernel_rfl, fun W hW => ?_⟩) (by assumption) ?_
    rotate_left
    · go_simp
      try with_reducible rfl
    (try simp only [List.getElem_toArray, List.getElem_cons_zero, List.getElem_cons_succ, Act.put, List.setIfInBounds_toArray, List.set_cons_zero, List.set_cons_succ])
    refine wpAnyH_ready (rs := [7]) (by kernel_rfl) (by simp) ?_
    refine AllReadyH.cons rfl (fun K hK => ?_) AllReadyH.nil
    go_simp
    refine (Both_c u v _ (Ruok _ hSn.be) (Rvok _ hSn.be) (HG.out.below hSn.be)).mono ?_
    rw [HD.out]
    rintro e U3 ⟨rfl, hb⟩
    replace hSn := hSn.below hb
    clear hb
    refine hK.out _ _ hSn (fun _ => ?_)
    clear hK K
    (try simp only [List.getElem_toArray, List.getElem_cons_zero, List.getElem_cons_succ, Act.put, List.setIfInBounds_toArray, List.set_cons_zero, List.set_cons_succ])
    refine wpAnyH_take (i := 8) (v := ?_) rfl (by kernel_rfl) (by kernel_rfl) (by kernel_rfl) (fun _ _ _ h => h) (Or.inl ⟨by kernel_rfl, fun W hW => ?_⟩) (by assumption) ?_
    rotate_left
    · go_simp
      try with_reducible rfl
    (try simp only [List.getElem_toArray, List.getElem_cons_zero, List.getElem_cons_succ, Act.put, List.setIfInBounds_toArray, List.set_cons_zero, List.set_cons_succ])
    refine wpAnyH_take (i := 9) (v := ?_) rfl (by kernel_rfl) (by kernel_rfl) (by kernel_rfl) (fun _ _ _ h => h) (Or.inl ⟨by kernel_rfl, fun W hW => ?_⟩) (by assumption) ?_
    rotate_left
    · go_simp
      try with_reducible rfl
    (try simp only [List.getElem_toArray, List.getElem_cons_zero, List.getElem_cons_succ, Act.put, List.setIfInBounds_toArray, List.set_cons_zero, List.set_cons_succ])
    refine wpAnyH_take (i := 10) (v := ?_) rfl (by kernel_rfl) (by kernel_rfl) (by kernel_rfl) (fun _ _ _ h => h) (Or.inl ⟨by kernel_rfl, fun W hW => ?_⟩) (by assumption) ?_
    rotate_left
    · go_simp
      try with_reducible rfl
    (try simp only [List.getElem_toArray, List.getElem_cons_zero, List.getElem_cons_succ, Act.put, List.setIfInBounds_toArray, List.set_cons_zero, List.set_cons_succ])
    refine wpAnyH_take (i := 11) (v := ?_) rfl (by kernel_rfl) (by kernel_rfl) (by kernel_rfl) (fun _ _ _ h => h) (Or.inl ⟨by kernel_rfl, fun W hW => ?_⟩) (by assumption) ?_
    rotate_left
    · go_simp
      try with_reducible rfl
    (try simp only [List.getElem_toArray, List.getElem_cons_zero, List.getElem_cons_succ, Act.put, List.setIfInBounds_toArray, List.set_cons_zero, List.set_cons_succ])
    refine wpAnyH_take (i := 12) (v := ?_) rfl (by kernel_rfl) (by kernel_rfl) (by kernel_rfl) (fun _ _ _ h => h) (Or.inl ⟨by kernel_rfl, fun W hW => ?_⟩) (by assumption) ?_
    rotate_left
    · go_simp
      try with_reducible rfl
    (try simp only [List.getElem_toArray, List.getElem_cons_zero, List.getElem_cons_succ, Act.put, List.setIfInBounds_toArray, List.set_cons_zero, List.set_cons_succ])
    refine wpAnyH_take (i := 13) (v := ?_) rfl (by kernel_rfl) (by kernel_rfl) (by kernel_rfl) (fun _ _ _ h => h) (Or.inl ⟨by kernel_rfl, fun W hW => ?_⟩) (by assumption) ?_
    rotate_left
    · refine yield_row 27 (.tmp 10) ?_ bx ?_ hW.hx Tryz.underlying27 rfl (by kernel_rfl)
      · rfl
      · rfl
    (try simp only [List.getElem_toArray, List.getElem_cons_zero, List.getElem_cons_succ, Act.put, List.setIfInBounds_toArray, List.set_cons_zero, List.set_cons_succ])
    refine wpAnyH_take (i := 15) (v := ?_) rfl (by kernel_rfl) (by kernel_rfl) (by kernel_rfl) (fun _ _ _ h => h) (Or.inl ⟨by kernel_rfl, fun W hW => ?_⟩) (by assumption) ?_
    rotate_left
    · refine yield_row 35 (.tmp 8) ?_ bo ?_ hW.ho Tryz.underlying35 rfl (by kernel_rfl)
      · rfl
      · rfl
    (try simp only [List.getElem_toArray, List.getElem_cons_zero, List.getElem_cons_succ, Act.put, List.setIfInBounds_toArray, List.set_cons_zero, List.set_cons_succ])
    refine wpAnyH_ready (rs := [14]) (by kernel_rfl) (by simp) ?_
    refine AllReadyH.cons rfl (fun K hK => ?_) AllReadyH.nil
    go_simp
    refine (Of_c x _ hSn.ox (HG.out.below hSn.be)).mono ?_
    rintro e U4 ⟨rfl, hb⟩
    replace hSn := hSn.below hb
    clear hb
    refine hK.out _ _ hSn (fun _ => ?_)
    clear hK K
    (try simp only [List.getElem_toArray, List.getElem_cons_zero, List.getElem_cons_succ, Act.put, List.setIfInBounds_toArray, List.set_cons_zero, List.set_cons_succ])
    refine wpAnyH_take (i := 16) (v := ?_) rfl (by kernel_rfl) (by kernel_rfl) (by kernel_rfl) (fun _ _ _ h => h) (Or.inl ⟨by kernel_rfl, fun W hW => ?_⟩) (by assumption) ?_
    rotate_left
    · go_simp
      try with_reducible rfl
    (try simp only [List.getElem_toArray, List.getElem_cons_zero, List.getElem_cons_succ, Act.put, List.setIfInBounds_toArray, List.set_cons_zero, List.set_cons_succ])
    refine wpAnyH_take (i := 17) (v := ?_) rfl (by kernel_rfl) (by kernel_rfl) (by kernel_rfl) (fun _ _ _ h => h) (Or.inl ⟨by kernel_rfl, fun W hW => ?_⟩) (by assumption) ?_
    rotate_left
    · go_simp
      try with_reducible rfl
    (try simp only [List.getElem_toArray, List.getElem_cons_zero, List.getElem_cons_succ, Act.put, List.setIfInBounds_toArray, List.set_cons_zero, List.set_cons_succ])
    refine wpAnyH_take (i := 18) (v := ?_) rfl (by kernel_rfl) (by kernel_rfl) (by kernel_rfl) (fun _ _ _ h => h) (Or.inl ⟨by kernel_rfl, fun W hW => ?_⟩) (by assumption) ?_
    rotate_left
    · go_simp
      try with_reducible rfl
    (try simp only [List.getElem_toArray, List.getElem_cons_zero, List.getElem_cons_succ, Act.put, List.setIfInBounds_toArray, List.set_cons_zero, List.set_cons_succ])
    refine wpAnyH_take (i := 19) (v := ?_) rfl (by kernel_rfl) (by kernel_rfl) (by kernel_rfl) (fun _ _ _ h => h) (Or.inl ⟨by kernel_rfl, fun W hW => ?_⟩) (by assumption) ?_
    rotate_left
    · refine yield_row 27 (.tmp 12) ?_ by_ ?_ hW.hy Tryz.underlying27 rfl (by kernel_rfl)
      · rfl
      · rfl
    (try simp only [List.getElem_toArray, List.getElem_cons_zero, List.getElem_cons_succ, Act.put, List.setIfInBounds_toArray, List.set_cons_zero, List.set_cons_succ])
    refine wpAnyH_take (i := 21) (v := ?_) rfl (by kernel_rfl) (by kernel_rfl) (by kernel_rfl) (fun _ _ _ h => h) (Or.inl ⟨by kernel_rfl, fun W hW => ?_⟩) (by assumption) ?_
    rotate_left
    · refine yield_row 35 (.tmp 8) ?_ bo ?_ hW.ho Tryz.underlying35 rfl (by kernel_rfl)
      · rfl
      · rfl
    (try simp only [List.getElem_toArray, List.getElem_cons_zero, List.getElem_cons_succ, Act.put, List.setIfInBounds_toArray, List.set_cons_zero, List.set_cons_succ])
    refine wpAnyH_ready (rs := [20]) (by kernel_rfl) (by simp) ?_
    refine AllReadyH.cons rfl (fun K hK => ?_) AllReadyH.nil
    go_simp
    refine (Of_c y _ hSn.oy (HG.out.below hSn.be)).mono ?_
    rintro e U5 ⟨rfl, hb⟩
    replace hSn := hSn.below hb
    clear hb
    refine hK.out _ _ hSn (fun _ => ?_)
    clear hK K
    (try simp only [List.getElem_toArray, List.getElem_cons_zero, List.getElem_cons_succ, Act.put, List.setIfInBounds_toArray, List.set_cons_zero, List.set_cons_succ])
    refine wpAnyH_take (i := 22) (v := ?_) rfl (by kernel_rfl) (by kernel_rfl) (by kernel_rfl) (fun _ _ _ h => h) (Or.inl ⟨by kernel_rfl, fun W hW => ?_⟩) (by assumption) ?_
    rotate_left
    · go_simp
      try with_reducible rfl
    (try simp only [List.getElem_toArray, List.getElem_cons_zero, List.getElem_cons_succ, Act.put, List.setIfInBounds_toArray, List.set_cons_zero, List.set_cons_succ])
    refine wpAnyH_take (i := 23) (v := ?_) rfl (by kernel_rfl) (by kernel_rfl) (by kernel_rfl) (fun _ _ _ h => h) (Or.inl ⟨by kernel_rfl, fun W hW => ?_⟩) (by assumption) ?_
    rotate_left
    · go_simp
      try with_reducible rfl
    (try simp only [List.getElem_toArray, List.getElem_cons_zero, List.getElem_cons_succ, Act.put, List.setIfInBounds_toArray, List.set_cons_zero, List.set_cons_succ])
    refine wpAnyH_take (i := 24) (v := ?_) rfl (by kernel_rfl) (by kernel_rfl) (by kernel_rfl) (fun _ _ _ h => h) (Or.inl ⟨by kernel_rfl, fun W hW => ?_⟩) (by assumption) ?_
    rotate_left
    · go_simp
      try with_reducible rfl
    (try simp only [List.getElem_toArray, List.getElem_cons_zero, List.getElem_cons_succ, Act.put, List.setIfInBounds_toArray, List.set_cons_zero, List.set_cons_succ])
    refine wpAnyH_take (i := 25) (v := ?_) rfl (by kernel_rfl) (by kernel_rfl) (by kernel_rfl) (fun _ _ _ h => h) (Or.inl ⟨by kernel_rfl, fun W hW => ?_⟩) (by assumption) ?_
    rotate_left
    · refine yield_row 27 (.tmp 10) ?_ bx ?_ hW.hx Tryz.underlying27 rfl (by kernel_rfl)
      · rfl
      · rfl
    (try simp only [List.getElem_toArray, List.getElem_cons_zero, List.getElem_cons_succ, Act.put, List.setIfInBounds_toArray, List.set_cons_zero, List.set_cons_succ])
    refine wpAnyH_take (i := 27) (v := ?_) rfl (by kernel_rfl) (by kernel_rfl) (by kernel_rfl) (fun _ _ _ h => h) (Or.inl ⟨by kernel_rfl, fun W hW => ?_⟩) (by assumption) ?_
    rotate_left
    · go_simp
      try with_reducible rfl
    (try simp only [List.getElem_toArray, List.getElem_cons_zero, List.getElem_cons_succ, Act.put, List.setIfInBounds_toArray, List.set_cons_zero, List.set_cons_succ])
    refine wpAnyH_take (i := 28) (v := ?_) rfl (by kernel_rfl) (by kernel_rfl) (by kernel_rfl) (fun _ _ _ h => h) (Or.inl ⟨by kernel_rfl, fun W hW => ?_⟩) (by assumption) ?_
    rotate_left
    · go_simp
      try with_reducible rfl
    (try simp only [List.getElem_toArray, List.getElem_cons_zero, List.getElem_cons_succ, Act.put, List.setIfInBounds_toArray, List.set_cons_zero, List.set_cons_succ])
    refine wpAnyH_ready (rs := [26]) (by kernel_rfl) (by simp) ?_
    refine AllReadyH.cons rfl (fun K hK => ?_) AllReadyH.nil
    go_simp
    refine (showUrl_c x _ hSn.ox (HG.out.below hSn.be)).mono ?_
    rw [HSX.out]
    rintro e U6 ⟨rfl, hb⟩
    replace hSn := hSn.below hb
    clear hb
    refine hK.out _ _ hSn (fun _ => ?_)
    clear hK K
    (try simp only [List.getElem_toArray, List.getElem_cons_zero, List.getElem_cons_succ, Act.put, List.setIfInBounds_toArray, List.set_cons_zero, List.set_cons_succ])
    refine wpAnyH_take (i := 29) (v := ?_) rfl (by kernel_rfl) (by kernel_rfl) (by kernel_rfl) (fun _ _ _ h => h) (Or.inl ⟨by kernel_rfl, fun W hW => ?_⟩) (by assumption) ?_
    rotate_left
    · go_simp
      try with_reducible rfl
    (try simp only [List.getElem_toArray, List.getElem_cons_zero, List.getElem_cons_succ, Act.put, List.setIfInBounds_toArray, List.set_cons_zero, List.set_cons_succ])
    refine wpAnyH_take (i := 30) (v := ?_) rfl (by kernel_rfl) (by kernel_rfl) (by kernel_rfl) (fun _ _ _ h => h) (Or.inl ⟨by kernel_rfl, fun W hW => ?_⟩) (by assumption) ?_
    rotate_left
    · go_simp
      try with_reducible rfl
    (try simp only [List.getElem_toArray, List.getElem_cons_zero, List.getElem_cons_succ, Act.put, List.setIfInBounds_toArray, List.set_cons_zero, List.set_cons_succ])
    refine wpAnyH_take (i := 31) (v := ?_) rfl (by kernel_rfl) (by kernel_rfl) (by kernel_rfl) (fun _ _ _ h => h) (Or.inl ⟨by kernel_rfl, fun W hW => ?_⟩) (by assumption) ?_
    rotate_left
    · go_simp
      try with_reducible rfl
    (try simp only [List.getElem_toArray, List.getElem_cons_zero, List.getElem_cons_succ, Act.put, List.setIfInBounds_toArray, List.set_cons_zero, List.set_cons_succ])
    refine wpAnyH_done (by kernel_rfl) ?_ _
    refine NoPanic.normal ?_
    go_wp2
    go_ret
    exact ⟨rfl, hSn.be⟩
  · skip
    have hsx : PM.showUrl x.pm = S ++ [47] := by rw [HXP.out]; exact HSS.out
    have HSX := Lib.hid hsx
    clear hsx
    go_wp2_with fail
    refine wp_region_noPanic ?_
    refine wp_region_held_drew (S := fun W' => ShS u v o x y bv bo bx by_ w W') (by kernel_rfl) (ShS.below ⟨Hu.out, Hv.out, Ho.out, Hx.out, Hy.out, HXO.out, HYO.out, HB.out⟩ (b_drew (Below.refl _ _))) (fun hS0 => ?_)
    refine wpAnyH_take (i := 0) (v := ?_) rfl (by kernel_rfl) (by kernel_rfl) (by kernel_rfl) (fun _ _ _ h => h) (Or.inl ⟨by kernel_rfl, fun W hW => ?_⟩) (by assumption) ?_
    rotate_left
    · go_simp
      try with_reducible rfl
    (try simp only [List.getElem_toArray, List.getElem_cons_zero, List.getElem_cons_succ, Act.put, List.setIfInBounds_toArray, List.set_cons_zero, List.set_cons_succ])
    refine wpAnyH_take (i := 1) (v := ?_) rfl (by kernel_rfl) (by kernel_rfl) (by kernel_rfl) (fun _ _ _ h => h) (Or.inl ⟨by kernel_rfl, fun W hW => ?_⟩) (by assumption) ?_
    rotate_left
    · refine yield_row 27 (.tmp 3) ?_ bv ?_ hW.hv Tryz.underlying27 rfl (by kernel_rfl)
      · rfl
      · rfl
    (try simp only [List.getElem_toArray, List.getElem_cons_zero, List.getElem_cons_succ, Act.put, List.setIfInBounds_toArray, List.set_cons_zero, List.set_cons_succ])
    refine wpAnyH_take (i := 5) (v := ?_) rfl (by kernel_rfl) (by kernel_rfl) (by kernel_rfl) (fun _ _ _ h => h) (Or.inl ⟨by kernel_rfl, fun W hW => ?_⟩) (by assumption) ?_
    rotate_left
    · refine yield_row 27 (.tmp 2) ?_ w.heap.size ?_ hW.hu Tryz.underlying27 rfl (by kernel_rfl)
      · rfl
      · rfl
    (try simp only [List.getElem_toArray, List.getElem_cons_zero, List.getElem_cons_succ, Act.put, List.setIfInBounds_toArray, List.set_cons_zero, List.set_cons_succ])
    refine wpAnyH_take (i := 6) (v := ?_) rfl (by kernel_rfl) (by kernel_rfl) (by kernel_rfl) (fun _ _ _ h => h) (Or.inl ⟨by kernel_rfl, fun W hW => ?_⟩) (by assumption) ?_
    rotate_left
    · refine yield_row 27 (.tmp 3) ?_ bv ?_ hW.hv Tryz.underlying27 rfl (by kernel_rfl)
      · rfl
      · rfl
    (try simp only [List.getElem_toArray, List.getElem_cons_zero, List.getElem_cons_succ, Act.put, List.setIfInBounds_toArray, List.set_cons_zero, List.set_cons_succ])
    refine wpAnyH_ready (rs := [2]) (by kernel_rfl) (by simp) ?_
    refine AllReadyH.cons rfl (fun K hK => ?_) AllReadyH.nil
    go_simp
    refine (Of_c v _ (Rvok _ hS0.be) (HG.out.below hS0.be)).mono ?_
    rintro e U7 ⟨rfl, hb⟩
    have hSn := hS0.below hb
    clear hb hS0
    have hvo : (ofOV v).Ok := ofOV_ok (Rvok _ hSn.be)
    refine hK.out _ _ hSn (fun _ => ?_)
    clear hK K
    (try simp only [List.getElem_toArray, List.getElem_cons_zero, List.getElem_cons_succ, Act.put, List.setIfInBounds_toArray, List.set_cons_zero, List.set_cons_succ])
    refine wpAnyH_ready (rs := [3]) (by kernel_rfl) (by simp) ?_
    refine AllReadyH.cons rfl (fun K hK => ?_) AllReadyH.nil
    go_simp
    refine (Show_o_c (ofOV v) _ hvo (HG.out.below hSn.be)).mono ?_
    rw [HT.out]
    rintro e U8 ⟨rfl, hb⟩
    replace hSn := hSn.below hb
    clear hb
    refine hK.out _ _ hSn (fun _ => ?_)
    clear hK K
    (try simp only [List.getElem_toArray, List.getElem_cons_zero, List.getElem_cons_succ, Act.put, List.setIfInBounds_toArray, List.set_cons_zero, List.set_cons_succ])
    refine wpAnyH_take (i := 4) (v := ?_) rfl (by kernel_rfl) (by kernel_rfl) (by kernel_rfl) (fun _ _ _ h => h) (Or.inl ⟨by kernel_rfl, fun W hW => ?_⟩) (by assumption) ?_
    rotate_left
    · go_simp
      try with_reducible rfl
    (try simp only [List.getElem_toArray, List.getElem_cons_zero, List.getElem_cons_succ, Act.put, List.setIfInBounds_toArray, List.set_cons_zero, List.set_cons_succ])
    refine wpAnyH_ready (rs := [7]) (by kernel_rfl) (by simp) ?_
    refine AllReadyH.cons rfl (fun K hK => ?_) AllReadyH.nil
    go_simp
    refine (Both_c u v _ (Ruok _ hSn.be) (Rvok _ hSn.be) (HG.out.below hSn.be)).mono ?_
    rw [HD.out]
    rintro e U9 ⟨rfl, hb⟩
    replace hSn := hSn.below hb
    clear hb
    refine hK.out _ _ hSn (fun _ => ?_)
    clear hK K
    (try simp only [List.getElem_toArray, List.getElem_cons_zero, List.getElem_cons_succ, Act.put, List.setIfInBounds_toArray, List.set_cons_zero, List.set_cons_succ])
    refine wpAnyH_take (i := 8) (v := ?_) rfl (by kernel_rfl) (by kernel_rfl) (by kernel_rfl) (fun _ _ _ h => h) (Or.inl ⟨by kernel_rfl, fun W hW => ?_⟩) (by assumption) ?_
    rotate_left
    · go_simp
      try with_reducible rfl
    (try simp only [List.getElem_toArray, List.getElem_cons_zero, List.getElem_cons_succ, Act.put, List.setIfInBounds_toArray, List.set_cons_zero, List.set_cons_succ])
    refine wpAnyH_take (i := 9) (v := ?_) rfl (by kernel_rfl) (by kernel_rfl) (by kernel_rfl) (fun _ _ _ h => h) (Or.inl ⟨by kernel_rfl, fun W hW => ?_⟩) (by assumption) ?_
    rotate_left
    · go_simp
      try with_reducible rfl
    (try simp only [List.getElem_toArray, List.getElem_cons_zero, List.getElem_cons_succ, Act.put, List.setIfInBounds_toArray, List.set_cons_zero, List.set_cons_succ])
    refine wpAnyH_take (i := 10) (v := ?_) rfl (by kernel_rfl) (by kernel_rfl) (by kernel_rfl) (fun _ _ _ h => h) (Or.inl ⟨by kernel_rfl, fun W hW => ?_⟩) (by assumption) ?_
    rotate_left
    · go_simp
      try with_reducible rfl
    (try simp only [List.getElem_toArray, List.getElem_cons_zero, List.getElem_cons_succ, Act.put, List.setIfInBounds_toArray, List.set_cons_zero, List.set_cons_succ])
    refine wpAnyH_take (i := 11) (v := ?_) rfl (by kernel_rfl) (by kernel_rfl) (by kernel_rfl) (fun _ _ _ h => h) (Or.inl ⟨by kernel_rfl, fun W hW => ?_⟩) (by assumption) ?_
    rotate_left
    · go_simp
      try with_reducible rfl
    (try simp only [List.getElem_toArray, List.getElem_cons_zero, List.getElem_cons_succ, Act.put, List.setIfInBounds_toArray, List.set_cons_zero, List.set_cons_succ])
    refine wpAnyH_take (i := 12) (v := ?_) rfl (by kernel_rfl) (by kernel_rfl) (by kernel_rfl) (fun _ _ _ h => h) (Or.inl ⟨by kernel_rfl, fun W hW => ?_⟩) (by assumption) ?_
    rotate_left
    · go_simp
      try with_reducible rfl
    (try simp only [List.getElem_toArray, List.getElem_cons_zero, List.getElem_cons_succ, Act.put, List.setIfInBounds_toArray, List.set_cons_zero, List.set_cons_succ])
    refine wpAnyH_take (i := 13) (v := ?_) rfl (by kernel_rfl) (by kernel_rfl) (by kernel_rfl) (fun _ _ _ h => h) (Or.inl ⟨by kernel_rfl, fun W hW => ?_⟩) (by assumption) ?_
    rotate_left
    · refine yield_row 27 (.tmp 10) ?_ bx ?_ hW.hx Tryz.underlying27 rfl (by kernel_rfl)
      · rfl
      · rfl
    (try simp only [List.getElem_toArray, List.getElem_cons_zero, List.getElem_cons_succ, Act.put, List.setIfInBounds_toArray, List.set_cons_zero, List.set_cons_succ])
    refine wpAnyH_take (i := 15) (v := ?_) rfl (by kernel_rfl) (by kernel_rfl) (by kernel_rfl) (fun _ _ _ h => h) (Or.inl ⟨by kernel_rfl, fun W hW => ?_⟩) (by assumption) ?_
    rotate_left
    · refine yield_row 35 (.tmp 8) ?_ bo ?_ hW.ho Tryz.underlying35 rfl (by kernel_rfl)
      · rfl
      · rfl
    (try simp only [List.getElem_toArray, List.getElem_cons_zero, List.getElem_cons_succ, Act.put, List.setIfInBounds_toArray, List.set_cons_zero, List.set_cons_succ])
    refine wpAnyH_ready (rs := [14]) (by kernel_rfl) (by simp) ?_
    refine AllReadyH.cons rfl (fun K hK => ?_) AllReadyH.nil
    go_simp
    refine (Of_c x _ hSn.ox (HG.out.below hSn.be)).mono ?_
    rintro e U10 ⟨rfl, hb⟩
    replace hSn := hSn.below hb
    clear hb
    refine hK.out _ _ hSn (fun _ => ?_)
    clear hK K
    (try simp only [List.getElem_toArray, List.getElem_cons_zero, List.getElem_cons_succ, Act.put, List.setIfInBounds_toArray, List.set_cons_zero, List.set_cons_succ])
    refine wpAnyH_take (i := 16) (v := ?_) rfl (by kernel_rfl) (by kernel_rfl) (by kernel_rfl) (fun _ _ _ h => h) (Or.inl ⟨by kernel_rfl, fun W hW => ?_⟩) (by assumption) ?_
    rotate_left
    · go_simp
      try with_reducible rfl
    (try simp only [List.getElem_toArray, List.getElem_cons_zero, List.getElem_cons_succ, Act.put, List.setIfInBounds_toArray, List.set_cons_zero, List.set_cons_succ])
    refine wpAnyH_take (i := 17) (v := ?_) rfl (by kernel_rfl) (by kernel_rfl) (by kernel_rfl) (fun _ _ _ h => h) (Or.inl ⟨by kernel_rfl, fun W hW => ?_⟩) (by assumption) ?_
    rotate_left
    · go_simp
      try with_reducible rfl
    (try simp only [List.getElem_toArray, List.getElem_cons_zero, List.getElem_cons_succ, Act.put, List.setIfInBounds_toArray, List.set_cons_zero, List.set_cons_succ])
    refine wpAnyH_take (i := 18) (v := ?_) rfl (by kernel_rfl) (by kernel_rfl) (by kernel_rfl) (fun _ _ _ h => h) (Or.inl ⟨by kernel_rfl, fun W hW => ?_⟩) (by assumption) ?_
    rotate_left
    · go_simp
      try with_reducible rfl
    (try simp only [List.getElem_toArray, List.getElem_cons_zero, List.getElem_cons_succ, Act.put, List.setIfInBounds_toArray, List.set_cons_zero, List.set_cons_succ])
    refine wpAnyH_take (i := 19) (v := ?_) rfl (by kernel_rfl) (by kernel_rfl) (by kernel_rfl) (fun _ _ _ h => h) (Or.inl ⟨by kernel_rfl, fun W hW => ?_⟩) (by assumption) ?_
    rotate_left
    · refine yield_row 27 (.tmp 12) ?_ by_ ?_ hW.hy Tryz.underlying27 rfl (by kernel_rfl)
      · rfl
      · rfl
    (try simp only [List.getElem_toArray, List.getElem_cons_zero, List.getElem_cons_succ, Act.put, List.setIfInBounds_toArray, List.set_cons_zero, List.set_cons_succ])
    refine wpAnyH_take (i := 21) (v := ?_) rfl (by kernel_rfl) (by kernel_rfl) (by kernel_rfl) (fun _ _ _ h => h) (Or.inl ⟨by kernel_rfl, fun W hW => ?_⟩) (by assumption) ?_
    rotate_left
    · refine yield_row 35 (.tmp 8) ?_ bo ?_ hW.ho Tryz.underlying35 rfl (by kernel_rfl)
      · rfl
      · rfl
    (try simp only [List.getElem_toArray, List.getElem_cons_zero, List.getElem_cons_succ, Act.put, List.setIfInBounds_toArray, List.set_cons_zero, List.set_cons_succ])
    refine wpAnyH_ready (rs := [20]) (by kernel_rfl) (by simp) ?_
    refine AllReadyH.cons rfl (fun K hK => ?_) AllReadyH.nil
    go_simp
    refine (Of_c y _ hSn.oy (HG.out.below hSn.be)).mono ?_
    rintro e U11 ⟨rfl, hb⟩
    replace hSn := hSn.below hb
    clear hb
    refine hK.out _ _ hSn (fun _ => ?_)
    clear hK K
    (try simp only [List.getElem_toArray, List.getElem_cons_zero, List.getElem_cons_succ, Act.put, List.setIfInBounds_toArray, List.set_cons_zero, List.set_cons_succ])
    refine wpAnyH_take (i := 22) (v := ?_) rfl (by kernel_rfl) (by kernel_rfl) (by kernel_rfl) (fun _ _ _ h => h) (Or.inl ⟨by kernel_rfl, fun W hW => ?_⟩) (by assumption) ?_
    rotate_left
    · go_simp
      try with_reducible rfl
    (try simp only [List.getElem_toArray, List.getElem_cons_zero, List.getElem_cons_succ, Act.put, List.setIfInBounds_toArray, List.set_cons_zero, List.set_cons_succ])
    refine wpAnyH_take (i := 23) (v := ?_) rfl (by kernel_rfl) (by kernel_rfl) (by kernel_rfl) (fun _ _ _ h => h) (Or.inl ⟨by kernel_rfl, fun W hW => ?_⟩) (by assumption) ?_
    rotate_left
    · go_simp
      try with_reducible rfl
    (try simp only [List.getElem_toArray, List.getElem_cons_zero, List.getElem_cons_succ, Act.put, List.setIfInBounds_toArray, List.set_cons_zero, List.set_cons_succ])
    refine wpAnyH_take (i := 24) (v := ?_) rfl (by kernel_rfl) (by kernel_rfl) (by kernel_rfl) (fun _ _ _ h => h) (Or.inl ⟨by kernel_rfl, fun W hW => ?_⟩) (by assumption) ?_
    rotate_left
    · go_simp
      try with_reducible rfl
    (try simp only [List.getElem_toArray, List.getElem_cons_zero, List.getElem_cons_succ, Act.put, List.setIfInBounds_toArray, List.set_cons_zero, List.set_cons_succ])
    refine wpAnyH_take (i := 25) (v := ?_) rfl (by kernel_rfl) (by kernel_rfl) (by kernel_rfl) (fun _ _ _ h => h) (Or.inl ⟨by kernel_rfl, fun W hW => ?_⟩) (by assumption) ?_
    rotate_left
    · refine yield_row 27 (.tmp 10) ?_ bx ?_ hW.hx Tryz.underlying27 rfl (by kernel_rfl)
      · rfl
      · rfl
    (try simp only [List.getElem_toArray, List.getElem_cons_zero, List.getElem_cons_succ, Act.put, List.setIfInBounds_toArray, List.set_cons_zero, List.set_cons_succ])
    refine wpAnyH_take (i := 27) (v := ?_) rfl (by kernel_rfl) (by kernel_rfl) (by kernel_rfl) (fun _ _ _ h => h) (Or.inl ⟨by kernel_rfl, fun W hW => ?_⟩) (by assumption) ?_
    rotate_left
    · go_simp
      try with_reducible rfl
    (try simp only [List.getElem_toArray, List.getElem_cons_zero, List.getElem_cons_succ, Act.put, List.setIfInBounds_toArray, List.set_cons_zero, List.set_cons_succ])
    refine wpAnyH_take (i := 28) (v := ?_) rfl (by kernel_rfl) (by kernel_rfl) (by kernel_rfl) (fun _ _ _ h => h) (Or.inl ⟨by kernel_rfl, fun W hW => ?_⟩) (by assumption) ?_
    rotate_left
    · go_simp
      try with_reducible rfl
    (try simp only [List.getElem_toArray, List.getElem_cons_zero, List.getElem_cons_succ, Act.put, List.setIfInBounds_toArray, List.set_cons_zero, List.set_cons_succ])
    refine wpAnyH_ready (rs := [26]) (by kernel_rfl) (by simp) ?_
    refine AllReadyH.cons rfl (fun K hK => ?_) AllReadyH.nil
    go_simp
    refine (showUrl_c x _ hSn.ox (HG.out.below hSn.be)).mono ?_
    rw [HSX.out]
    rintro e U12 ⟨rfl, hb⟩
    replace hSn := hSn.below hb
    clear hb
    refine hK.out _ _ hSn (fun _ => ?_)
    clear hK K
    (try simp only [List.getElem_toArray, List.getElem_cons_zero, List.getElem_cons_succ, Act.put, List.setIfInBounds_toArray, List.set_cons_zero, List.set_cons_succ])
    refine wpAnyH_take (i := 29) (v := ?_) rfl (by kernel_rfl) (by kernel_rfl) (by kernel_rfl) (fun _ _ _ h => h) (Or.inl ⟨by kernel_rfl, fun W hW => ?_⟩) (by assumption) ?_
    rotate_left
    · go_simp
      try with_reducible rfl
    (try simp only [List.getElem_toArray, List.getElem_cons_zero, List.getElem_cons_succ, Act.put, List.setIfInBounds_toArray, List.set_cons_zero, List.set_cons_succ])
    refine wpAnyH_take (i := 30) (v := ?_) rfl (by kernel_rfl) (by kernel_rfl) (by kernel_rfl) (fun _ _ _ h => h) (Or.inl ⟨by kernel_rfl, fun W hW => ?_⟩) (by assumption) ?_
    rotate_left
    · go_simp
      try with_reducible rfl
    (try simp only [List.getElem_toArray, List.getElem_cons_zero, List.getElem_cons_succ, Act.put, List.setIfInBounds_toArray, List.set_cons_zero, List.set_cons_succ])
    refine wpAnyH_take (i := 31) (v := ?_) rfl (by kernel_rfl) (by kernel_rfl) (by kernel_rfl) (fun _ _ _ h => h) (Or.inl ⟨by kernel_rfl, fun W hW => ?_⟩) (by assumption) ?_
    rotate_left
    · go_simp
      try with_reducible rfl
    (try simp only [List.getElem_toArray, List.getElem_cons_zero, List.getElem_cons_succ, Act.put, List.setIfInBounds_toArray, List.set_cons_zero, List.set_cons_succ])
    refine wpAnyH_done (by kernel_rfl) ?_ _
    refine NoPanic.normal ?_
    go_wp2
    go_ret
    exact ⟨rfl, hSn.be⟩
end Go.Proofs.YtlcckikfmlhgjaaGreatDoor
/-! The row of OriginShow. -/
namespace Go.Proofs.YtlcckikfmlhgjaaGreatDoor
open Go.ChangeShapes Go.WideShapes Go.ChangeAt Go.RowKit
open Go.WideMaps Go.WideElems
open Go.ChangeMaps (open_string shut_string)
theorem originShow_reads (os : Os) {H : Type} (enc : TypeId × Value → H) : ∃ x, DataW.whole enc Tryz.prog ((laidWorld os).forCall (fun _ _ => 0) ⟨#[], #[.agg #[.string ⟨#[]⟩, .string ⟨#[]⟩, .string ⟨#[]⟩, .int .i64 0, .string ⟨#[]⟩, .int .i64 0, .int .i64 0, .int .i64 0, .int .i64 0, .int .i64 0, .int .i64 0, .int .i64 0, .int .i64 0, .int .i64 0, .int .i64 0, .slice none 0 0, .string ⟨#[]⟩, .string ⟨#[]⟩, .string ⟨#[]⟩, .bool false, .bool false], .agg #[.string ⟨#[]⟩, .string ⟨#[]⟩, .string ⟨#[]⟩, .int .i64 0, .string ⟨#[]⟩, .int .i64 0, .int .i64 0, .int .i64 0, .int .i64 0, .int .i64 0, .int .i64 0, .int .i64 0, .int .i64 0, .int .i64 0, .int .i64 0, .slice none 0 0, .string ⟨#[]⟩, .string ⟨#[]⟩, .string ⟨#[]⟩, .bool false, .bool false]], []⟩).memory Tryz.f13.params.toList Rows.originShowSpec.vars false (#[.agg #[.string ⟨#[]⟩, .string ⟨#[]⟩, .string ⟨#[]⟩, .int .i64 0, .string ⟨#[]⟩, .int .i64 0, .int .i64 0, .int .i64 0, .int .i64 0, .int .i64 0, .int .i64 0, .int .i64 0, .int .i64 0, .int .i64 0, .int .i64 0, .slice none 0 0, .string ⟨#[]⟩, .string ⟨#[]⟩, .string ⟨#[]⟩, .bool false, .bool false], .agg #[.string ⟨#[]⟩, .string ⟨#[]⟩, .string ⟨#[]⟩, .int .i64 0, .string ⟨#[]⟩, .int .i64 0, .int .i64 0, .int .i64 0, .int .i64 0, .int .i64 0, .int .i64 0, .int .i64 0, .int .i64 0, .int .i64 0, .int .i64 0, .slice none 0 0, .string ⟨#[]⟩, .string ⟨#[]⟩, .string ⟨#[]⟩, .bool false, .bool false]] : Array Value).toList 8 = some x :=
  Option.isSome_iff_exists.1 (by kernel_rfl)
set_option maxRecDepth 100000 in
theorem originShow_lifted (os : Os) (started : os.Started) (H : Type) (enc : TypeId × Value → H) (F : Stop.Interp) :
    ReturnsInHanded {} Tryz.checked os 13 .any ((OpenSpec.ofChange Rows.originShowSpec).preRow enc Tryz.prog Tryz.f13 Rows.originShowRow.domain false Rows.originShowRow.laid) (((OpenSpec.ofChange Rows.originShowSpec).at F).post enc Tryz.prog Tryz.f13 false true false false) := by
  obtain ⟨x, hx⟩ := originShow_reads os enc
  refine returnsInHanded_of_row (C := Tryz.checked) (s := OpenSpec.ofChange Rows.originShowSpec) own started (by kernel_rfl) Tryz.func13
    (witness_row_atRef (enc := enc) (C := Tryz.checked) false (laidWorld os) #[.agg #[.string ⟨#[]⟩, .string ⟨#[]⟩, .string ⟨#[]⟩, .int .i64 0, .string ⟨#[]⟩, .int .i64 0, .int .i64 0, .int .i64 0, .int .i64 0, .int .i64 0, .int .i64 0, .int .i64 0, .int .i64 0, .int .i64 0, .int .i64 0, .slice none 0 0, .string ⟨#[]⟩, .string ⟨#[]⟩, .string ⟨#[]⟩, .bool false, .bool false], .agg #[.string ⟨#[]⟩, .string ⟨#[]⟩, .string ⟨#[]⟩, .int .i64 0, .string ⟨#[]⟩, .int .i64 0, .int .i64 0, .int .i64 0, .int .i64 0, .int .i64 0, .int .i64 0, .int .i64 0, .int .i64 0, .int .i64 0, .int .i64 0, .slice none 0 0, .string ⟨#[]⟩, .string ⟨#[]⟩, .string ⟨#[]⟩, .bool false, .bool false]] rfl (by kernel_rfl) (by kernel_rfl) (by kernel_rfl)
      (OpenSpec.preRow_of_cond 8 hx rfl (fun k hk => by cases hk) (by kernel_rfl) (laid_met os _))) ?_
  intro W base args ds gs before hval0 hW _ _ _ hL hsh _
  have hval : ∀ (j : Nat) t v, Tryz.f13.params[j]? = some t → args[j]? = some v → Value.okWide Tryz.prog W .any base t v := hval0
  have hW' := hW
  obtain ⟨p, q, hA0, hV, rfl, hfz, hnd⟩ := hW
  have hA : DataW.TrodAll enc Tryz.prog W 0 (fun _ => true) true Tryz.f13.params.toList args.toList ds p := hA0
  rw [Tryz.params13] at hA hval
  obtain ⟨v0, v1, d0, d1, p0, p1, rfl, rfl, rfl, h0, h1⟩ := trodAll_two hA
  obtain ⟨rfl, rfl⟩ := trodVars_none hV
  simp only [List.append_nil] at hfz hnd hW'
  have hlt : ∀ x ∈ p0 ++ p1, x.block < W.heap.size := fun x hx => hW'.lt x hx
  have h0k := h0
  obtain ⟨u0, rfl, hr0⟩ := open_url (hval 0 27 v0 rfl rfl) h0
  have h1k := h1
  obtain ⟨u1, rfl, hr1⟩ := open_url (hval 1 27 v1 rfl rfl) h1
  refine (OriginShow_c u0 u1 W hr0 hr1 (gl_of hsh) (tabs_laid hL)).mono fun e W' ⟨he, hb⟩ => ?_
  subst he
  refine ⟨_, rfl, _, _, _, [], p0 ++ p1, [], hW', ?_, ?_, ?_, hb.frame _, fun h => by cases h⟩
  · exact trodAll_mk1 (shut_bool Tryz.underlying4 _)
  · exact trodAll_mk2 (Below.trod laidOut (by kernel_rfl) (of_decide_eq_true (by kernel_rfl)) h0k hb (fun x hx => hlt x (by simp [hx]))) (Below.trod laidOut (by kernel_rfl) (of_decide_eq_true (by kernel_rfl)) h1k hb (fun x hx => hlt x (by simp [hx])))
  · rfl
theorem originShow_k0 : Rows.originShowRow.wf (OpenSpec.ofChange (OpenSpec.ofChange Rows.originShowSpec).bare) = true := by kernel_rfl
theorem originShow_k3 : Tryz.f13.params.all (PP.readableRec ·) = true := by kernel_rfl
theorem originShow_k4 : namedTie PP Rows.originShowRow.named (OpenSpec.ofChange Rows.originShowSpec).bare.vars = true := by kernel_rfl
theorem originShow_k5 : (Rows.originShowRow.stops == []) = true := by kernel_rfl
theorem originShow_k7 : (Rows.originShowRow.knobs == []) = true := by kernel_rfl
theorem originShow_k9 : (Rows.originShowRow.inPlace == PP.inPlace 13) = true := by kernel_rfl
theorem originShow_k10 : (Rows.originShowRow.unfollowed == PP.unfollowed 13) = true := by kernel_rfl
theorem originShow_k11 : (Rows.originShowRow.recurses == PP.recurses 13) = true := by kernel_rfl
theorem originShow_k12 : (Rows.originShowRow.named == PP.varsNamed 13) = true := by kernel_rfl
theorem originShow_k13 : (Rows.originShowRow.maps == (Tryz.f13.params.toList ++ (OpenSpec.ofChange Rows.originShowSpec).bare.plain.varTypes PP).any (PP.mapsRec ·)) = true := by kernel_rfl
theorem originShow_k14 : (Rows.originShowRow.ifaces == (Tryz.f13.params.toList ++ (OpenSpec.ofChange Rows.originShowSpec).bare.plain.varTypes PP).any (PP.ifacesRec ·)) = true := by kernel_rfl
theorem originShow_k15 : (Rows.originShowRow.mapsOut == PP.mapsAmong Tryz.f13.resultTypes.toList) = true := by kernel_rfl
theorem originShow_k16 : (Rows.originShowRow.loops == (Tryz.f13.params.toList ++ (OpenSpec.ofChange Rows.originShowSpec).bare.plain.varTypes PP).any (PP.loopsFrom ·)) = true := by kernel_rfl
theorem originShow_k17 : (Rows.originShowRow.wideKeys == (Tryz.f13.params.toList ++ (OpenSpec.ofChange Rows.originShowSpec).bare.plain.varTypes PP ++ Tryz.f13.resultTypes.toList).any (PP.wideKeysFrom ·)) = true := by kernel_rfl
theorem originShow_k18 : (OpenSpec.ofChange Rows.originShowSpec).bare.vars.all (PP.varReadable ·) = true := by kernel_rfl
theorem originShow_k19 : Tryz.f13.resultTypes.all (fun t => PP.readableRec t && decide (t < PP.types.size)) = true := by kernel_rfl
theorem originShow_k20 : (Rows.originShowRow.ifacesOut == Tryz.f13.resultTypes.toList.any (PP.ifacesRec ·)) = true := by kernel_rfl
theorem originShow_k21 : (Rows.originShowRow.loopsOut == Tryz.f13.resultTypes.toList.any (PP.loopsFrom ·)) = true := by kernel_rfl
theorem originShow_k23 : Rows.originShowRow.shortTexts.isNone = true := by kernel_rfl
theorem originShow_k28 : (Rows.originShowRow.kinds == (if Rows.originShowRow.domain.isEmpty then [] else Tryz.f13.params.toList.map fun t => match PP.underlying t with | some (.int k) => some k | _ => none)) = true := by kernel_rfl
theorem originShow_k29 : (Rows.originShowRow.pinned == Rows.originShowRow.pinnedBy) = true := by kernel_rfl
theorem originShow_k30 : (Rows.originShowRow.veiled == (Tryz.f13.params.toList ++ (OpenSpec.ofChange Rows.originShowSpec).bare.plain.varTypes PP ++ Tryz.f13.resultTypes.toList).any (PP.veiledRec ·)) = true := by kernel_rfl
theorem originShow_k31 : Rows.originShowRow.veiledFits PP Tryz.f13.params.toList (Tryz.f13.params.toList ++ (OpenSpec.ofChange Rows.originShowSpec).bare.plain.varTypes PP ++ Tryz.f13.resultTypes.toList) = true := by kernel_rfl
set_option maxRecDepth 100000 in
theorem originShow_closed : joinedFacts PP 13 Tryz.f13 (OpenSpec.ofChange Rows.originShowSpec).bare Rows.originShowRow = true := and2 (and2 (and2 (and2 (and2 (and2 (and2 (and2 (and2 (and2 (and2 (and2 (and2 (and2 (and2 (and2 (and2 (and2 (and2 (and2 (and2 (and2 (and2 (and2 (and2 (and2 (and2 (and2 (and2 (and2 (and2 (originShow_k0) j_laidOut) j_rowed) originShow_k3) originShow_k4) originShow_k5) j_stops) originShow_k7) j_knobs) originShow_k9) originShow_k10) originShow_k11) originShow_k12) originShow_k13) originShow_k14) originShow_k15) originShow_k16) originShow_k17) originShow_k18) originShow_k19) originShow_k20) originShow_k21) j_plain) originShow_k23) j_heard) j_enter) j_lift) j_make) originShow_k28) originShow_k29) originShow_k30) originShow_k31
theorem originShow_named : Tryz.pinned.checked.prog.funcNamed Rows.originShowRow.func = some 13 := by kernel_rfl
theorem originShow_text : Rows.originShowRow.wfByText (OpenSpec.ofChange Rows.originShowSpec) = true := by kernel_rfl
theorem originShow_goes : false = Rows.originShowRow.goesBy Tryz.pinned.checked.prog := by kernel_rfl
theorem originShow_said : Rows.OriginShowSaid :=
  OpenClaim.holds_of_cond 13 Tryz.f13 rfl rfl rfl rfl rfl rfl rfl ⟨rfl, rfl, rfl, rfl, rfl⟩ rfl rfl rfl rfl rfl originShow_named Tryz.func13 originShow_closed
    (of_decide_eq_true (by kernel_rfl)) (by unfold Func.isWrapper; first | (rw [if_pos (by decide +kernel)]; kernel_rfl) | (rw [if_neg (by decide +kernel)]; exact ⟨rfl, rfl⟩))
    (fun os started H enc _ F => by rw [OpenClaim.pre_eq_preRow]; exact originShow_lifted os started H enc F)
theorem originShow_plain (f : FuncId) (fn : Func) (hf : Tryz.pinned.checked.prog.funcNamed "postmark/postmarklaw12.OriginShow" = some f) (hfn : Tryz.pinned.checked.prog.funcs[f]? = some fn) :
    true = Tryz.pinned.checked.prog.looks [] ∧ ∀ (j : Nat) t, fn.params[j]? = some t → Tryz.pinned.checked.prog.wantsStandIn t = false := by
  obtain rfl : f = 13 := Option.some.inj ((show Tryz.prog.funcNamed "postmark/postmarklaw12.OriginShow" = some 13 by kernel_rfl).symm.trans hf) |>.symm
  obtain rfl : fn = Tryz.f13 := (Option.some.inj (Tryz.func13.symm.trans hfn)).symm
  refine ⟨by kernel_rfl, fun j t ht => ?_⟩
  rw [Tryz.params13] at ht
  have hm := Array.mem_of_getElem? ht
  simp only [Array.mem_def, List.mem_cons, List.not_mem_nil, or_false] at hm
  rcases hm with rfl | rfl
  · exact (show Tryz.prog.wantsStandIn 27 = false by kernel_rfl)
  · exact (show Tryz.prog.wantsStandIn 27 = false by kernel_rfl)
theorem originShow_holds : Rows.OriginShowCardSaid :=
  Claim7.holds_tied_plain_at .later [] _ _ _ _ originShow_said (fun _ h => by cases h) originShow_text (fun _ h => by cases h) originShow_row_tie rfl ⟨rfl, rfl⟩ j_main rfl originShow_plain originShow_goes
#print axioms originShow_holds
end Go.Proofs.YtlcckikfmlhgjaaGreatDoor
