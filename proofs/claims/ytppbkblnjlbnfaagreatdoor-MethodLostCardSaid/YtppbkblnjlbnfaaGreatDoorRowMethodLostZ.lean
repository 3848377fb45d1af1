/-
MethodLost: whatever comes in, the law's call returns true, and the arguments read behind the call as they did before; no condition on them. The row lists the two tables of unicode/utf8 (first, acceptRanges); the card ties them.
-/
import Derived.Test.YtppbkblnjlbnfaaGreatDoorTz
import Derived.Test.YtppbkblnjlbnfaaGreatDoorMr
set_option linter.unusedVariables false
set_option linter.unusedSimpArgs false
/-! The three tables that the rows of method list. -/
namespace Go.Proofs.YtppbkblnjlbnfaaGreatDoor
open Go.ChangeShapes Go.WideShapes Go.ChangeAt Go.RowKit Go.Lib Go.Shelf
def laidThree : List (String × DataW Unit) := [("unicode/utf8.acceptRanges", Rows.laid_unicode_utf8_acceptRanges), ("postmark/method.bodies", Rows.laid_postmark_method_bodies), ("unicode/utf8.first", Rows.laid_unicode_utf8_first)]
theorem tabs_laid3 {W : World} (hL : laidMetH Tryz.prog laidThree W) : Lib.Utf8Tabs 2 3 W := by
  have h := hL
  unfold laidThree at h
  rw [accept_eq, first_eq] at h
  exact utf8Tabs_of_readsT (ρ := tabRen) ⟨by kernel_rfl, by kernel_rfl, by kernel_rfl, by kernel_rfl⟩ ⟨by kernel_rfl, by kernel_rfl, by kernel_rfl, by kernel_rfl, by kernel_rfl, by kernel_rfl, by kernel_rfl⟩ (Lib.laidMet.reads h (.tail _ (.tail _ (.head _)))) (Lib.laidMet.reads h (.head _))
set_option maxRecDepth 100000 in
theorem bd_laid {W : World} (hL : laidMetH Tryz.prog laidThree W) : Bd W := by
  obtain ⟨g, t, cs, fuel, p, hg, hty, hvar, hd⟩ := Lib.laidMet.reads (n := "postmark/method.bodies") (d := Rows.laid_postmark_method_bodies) hL (.tail _ (.head _))
  obtain rfl : 0 = g := Option.some.inj ((show Tryz.prog.globalNamed "postmark/method.bodies" = some 0 by kernel_rfl).symm.trans hg)
  obtain rfl : 73 = t := Option.some.inj ((show (Tryz.prog.globals[0]?).map (·.type) = some 73 by kernel_rfl).symm.trans hty)
  have hc1 : Tryz.prog.cellsOf 9 = 1 := by kernel_rfl
  have key : ∀ i (hi : i < 4), W.cell? ⟨0, i, none⟩ = some (.string (mkS (PM.bodies[i]'hi))) := fun i hi => by
    obtain ⟨fuel', d, q, hdi, he⟩ := array_elem Tryz.underlying73 hd i hi
    rw [hc1] at he
    obtain ⟨s, hs, hx⟩ := DataW.trod_string Tryz.underlying9 he
    rw [World.var?_cell hg hvar i, ← Array.getElem?_toList]
    have h0 := congrArg (·[0]?) hs
    simp only [List.getElem?_take, List.getElem?_drop, Nat.mul_one, Nat.add_zero] at h0
    rw [if_pos (by decide)] at h0
    rw [h0]
    obtain ⟨l, rfl⟩ := mkS_surj s
    have hd2 := (Prod.mk.inj hx.1).1
    rw [mkS_data] at hd2
    subst hd2
    have : i = 0 ∨ i = 1 ∨ i = 2 ∨ i = 3 := by omega
    rcases this with rfl | rfl | rfl | rfl <;> (injection hdi with hdi; injection hdi with hdi; injection hdi with hdi; subst hdi; rfl)
  exact ⟨cell_lt (key 0 (by decide)), key⟩
theorem laid_met3 (os : Os) (args : Array Value) : laidMet Tryz.prog laidThree ((laidWorld os).forCall (fun _ _ => 0) ⟨#[], args, []⟩).memory := by
  unfold laidThree
  rw [accept_eq, first_eq]
  exact (LaidIn.of_run (l := [("unicode/utf8.acceptRanges", Lib.acceptData), ("postmark/method.bodies", Rows.laid_postmark_method_bodies), ("unicode/utf8.first", Lib.firstData)]) [3, 0, 2] 8 (by kernel_rfl) (by kernel_rfl) (by kernel_rfl) (by kernel_rfl)).met
end Go.Proofs.YtppbkblnjlbnfaaGreatDoor
/-! The walk of MethodLost. -/
namespace Go.Proofs.YtppbkblnjlbnfaaGreatDoor
open Go.RowKit
theorem qfew20_ok {q : QV} {w : World} (hr : RdW w q.u.a q.u.pn q.u.xs) (hf : RdFW w q.ha q.hn q.hs) (h : qfew20 q = true) : QIn q w ∧ q.hn ≤ 1000 ∧ ∀ f ∈ q.hs, f.1.length ≤ 1000 ∧ f.2.length ≤ 1000 := by
  unfold qfew20 at h
  rw [Bool.and_eq_true] at h
  obtain ⟨h1, h2⟩ := few13_ok h.2 hf
  exact ⟨⟨(qfew_ok hr h.1).1, hf⟩, by omega, h2⟩
theorem change_sub (q : QV) (st : Int) (f : List UInt8 × List UInt8) (h : f ∈ (PM.change q.pm st).heads) : f ∈ q.hs := by
  unfold PM.change at h
  split at h
  · exact (List.mem_filter.1 h).1
  · exact (List.mem_filter.1 h).1
set_option maxRecDepth 100000 in
set_option maxHeartbeats 16000000 in
theorem MethodLostL_c (q : QV) (st t : Int) (w : World) (hr : RdW w q.u.a q.u.pn q.u.xs) (hf : RdFW w q.ha q.hn q.hs) (hg : Gl w) (hT : Lib.Utf8Tabs 2 3 w) (hbd : Bd w) : Calls Tryz.prog 3 #[.agg q.cells, .int .i64 st, .int .i64 t] w fun e w' => e = .returned (.bool true) ∧ Below w.heap.size w w' := by
  have HG := Lib.hid hg
  have HTB := Lib.hid hT
  have HBD := Lib.hid hbd
  have RRq := Lib.hid hr
  have RFq := Lib.hid hf
  clear hg hT hbd hr hf
  have HB : Hid (Below w.heap.size w (w.alloc (.cells q.cells 32))) := Lib.hid (b_alloc (Below.refl _ _) _)
  have Hq : Hid ((w.alloc (.cells q.cells 32)).heap[w.heap.size]? = some (.cells q.cells 32 (0, 0))) := Lib.hid ((by have h := Go.heap_alloc_new w (.cells q.cells 32); simpa using h))
  go_enter Tryz.func3, Tryz.ntmps3
  go_upto_region 1 with fail
  generalize w.alloc (.cells q.cells 32) = V0 at HB Hq ⊢
  go_wp2_with fail
  refine (awake20_c _ (HG.out.below HB.out) (tabs_below HTB.out HB.out) (HBD.out.below HB.out)).mono ?_
  rintro e V1 ⟨rfl, hb⟩
  replace HB := Lib.hid (b_then HB.out hb)
  replace Hq := Lib.hid (obj_b hb Hq.out)
  clear hb
  go_wp2_with (first | go_skip | (refine wpList_load_g 32 _ rfl (by kernel_rfl) w.heap.size rfl Hq.out Tryz.underlying32 rfl (by kernel_rfl) ?_))
  refine (Few20_c q _ (RRq.out.below HB.out) (RFq.out.below HB.out)).mono ?_
  rintro e V2 ⟨rfl, hb⟩
  replace HB := Lib.hid (b_then HB.out hb)
  replace Hq := Lib.hid (obj_b hb Hq.out)
  clear hb
  cases hfq : qfew20 q
  · go_wp2
    go_ret
    exact ⟨rfl, HB.out⟩
  have QOq := Lib.hid (qfew20_ok (RRq.out.below HB.out) (RFq.out.below HB.out) hfq)
  clear hfq
  have Iq := Lib.hid QOq.out.1
  go_wp2_with (first | go_skip | (refine wpList_load_g 32 _ rfl (by kernel_rfl) w.heap.size rfl Hq.out Tryz.underlying32 rfl (by kernel_rfl) ?_))
  refine (Change_c q st _ Iq.out (fun f hf => Nat.le_trans (QOq.out.2.2 f hf).1 (by decide)) (Nat.le_trans QOq.out.2.1 (by decide)) (HBD.out.below HB.out)).mono ?_
  rintro e V3 ⟨⟨x, rfl, hvp, hvi, hvn, -⟩, hb⟩
  have Px := Lib.hid hvp
  have Ix := Lib.hid hvi
  have Nx := Lib.hid hvn
  clear hvp hvi hvn
  replace HB := Lib.hid (b_then HB.out hb)
  replace Hq := Lib.hid (obj_b hb Hq.out)
  replace Iq := Lib.hid (Iq.out.below hb)
  clear hb
  have HN := Lib.hid (Go.heap_alloc_new V3 (.cells #[.string ⟨#[]⟩, .string ⟨#[]⟩, .string ⟨#[]⟩, .int .i64 0, .string ⟨#[]⟩, .int .i64 0, .int .i64 0, .int .i64 0, .int .i64 0, .int .i64 0, .int .i64 0, .int .i64 0, .int .i64 0, .int .i64 0, .int .i64 0, .slice none 0 0, .string ⟨#[]⟩, .string ⟨#[]⟩, .string ⟨#[]⟩, .bool false, .bool false, .string ⟨#[]⟩, .slice none 0 0, .bool false, .bool false, .string ⟨#[]⟩, .int .i64 0, .string ⟨#[]⟩, .int .i64 0, .int .i64 0, .int .i64 0, .int .i64 0, .int .i64 0, .int .i64 0, .int .i64 0, .int .i64 0, .int .i64 0, .int .i64 0, .int .i64 0, .int .i64 0, .int .i64 0, .string ⟨#[]⟩, .bool false, .bool false, .int .i64 0] 32))
  go_upto_region 6 with (first | (refine wpList_store_row rfl 32 _ _ rfl V3.heap.size x.cells rfl rfl 32 _ HN.out (by kernel_rfl) rfl (qagg_one x) ?_))
  obtain ⟨V4, hV⟩ : ∃ V4, V4 = (V3.alloc (.cells #[.string ⟨#[]⟩, .string ⟨#[]⟩, .string ⟨#[]⟩, .int .i64 0, .string ⟨#[]⟩, .int .i64 0, .int .i64 0, .int .i64 0, .int .i64 0, .int .i64 0, .int .i64 0, .int .i64 0, .int .i64 0, .int .i64 0, .int .i64 0, .slice none 0 0, .string ⟨#[]⟩, .string ⟨#[]⟩, .string ⟨#[]⟩, .bool false, .bool false, .string ⟨#[]⟩, .slice none 0 0, .bool false, .bool false, .string ⟨#[]⟩, .int .i64 0, .string ⟨#[]⟩, .int .i64 0, .int .i64 0, .int .i64 0, .int .i64 0, .int .i64 0, .int .i64 0, .int .i64 0, .int .i64 0, .int .i64 0, .int .i64 0, .int .i64 0, .int .i64 0, .int .i64 0, .string ⟨#[]⟩, .bool false, .bool false, .int .i64 0] 32)).setRow V3.heap.size x.cells := ⟨_, rfl⟩
  rw [← hV]
  have Hx : Hid (V4.heap[V3.heap.size]? = some (.cells x.cells 32 (0, 0))) := Lib.hid (by rw [hV]; exact heap_setRow HN.out _)
  have hb : Below V3.heap.size V3 V4 := by rw [hV]; exact below_setRow (b_alloc (Below.refl _ _) _) (Nat.le_refl _) _
  clear hV HN
  replace HB := Lib.hid (b_then HB.out hb)
  replace Hq := Lib.hid (obj_b hb Hq.out)
  replace Iq := Lib.hid (Iq.out.below hb)
  replace Ix := Lib.hid (Ix.out.below hb)
  clear hb
  generalize V3.heap.size = kx at Hx ⊢
  (try simp only [Act.put])
  have hxs : ∀ f ∈ x.hs, f.1.length ≤ 1000000 ∧ f.2.length ≤ 1000000 := fun f hf => by
    have h := change_sub q st f (by rw [← Px.out]; exact hf)
    exact ⟨Nat.le_trans (QOq.out.2.2 f h).1 (by decide), Nat.le_trans (QOq.out.2.2 f h).2 (by decide)⟩
  have HXS := Lib.hid hxs
  have NX : Hid (x.hn ≤ 1000) := Lib.hid (Nat.le_trans Nx.out QOq.out.2.1)
  clear hxs
  go_wp2_with (first | go_skip | (refine wpList_load_g 32 _ rfl (by kernel_rfl) kx rfl Hx.out Tryz.underlying32 rfl (by kernel_rfl) ?_) | (refine wpList_load_g 32 _ rfl (by kernel_rfl) w.heap.size rfl Hq.out Tryz.underlying32 rfl (by kernel_rfl) ?_))
  refine (Change_c x t _ Ix.out (fun f hf => (HXS.out f hf).1) (Nat.le_trans NX.out (by decide)) (HBD.out.below HB.out)).mono ?_
  rintro e V5 ⟨⟨y, rfl, hvp, hvi, hvn, -⟩, hb⟩
  have Py := Lib.hid hvp
  have Iy := Lib.hid hvi
  have Ny := Lib.hid hvn
  clear hvp hvi hvn
  replace HB := Lib.hid (b_then HB.out hb)
  replace Hq := Lib.hid (obj_b hb Hq.out)
  replace Hx := Lib.hid (obj_b hb Hx.out)
  replace Iq := Lib.hid (Iq.out.below hb)
  replace Ix := Lib.hid (Ix.out.below hb)
  clear hb
  have HN := Lib.hid (Go.heap_alloc_new V5 (.cells #[.string ⟨#[]⟩, .string ⟨#[]⟩, .string ⟨#[]⟩, .int .i64 0, .string ⟨#[]⟩, .int .i64 0, .int .i64 0, .int .i64 0, .int .i64 0, .int .i64 0, .int .i64 0, .int .i64 0, .int .i64 0, .int .i64 0, .int .i64 0, .slice none 0 0, .string ⟨#[]⟩, .string ⟨#[]⟩, .string ⟨#[]⟩, .bool false, .bool false, .string ⟨#[]⟩, .slice none 0 0, .bool false, .bool false, .string ⟨#[]⟩, .int .i64 0, .string ⟨#[]⟩, .int .i64 0, .int .i64 0, .int .i64 0, .int .i64 0, .int .i64 0, .int .i64 0, .int .i64 0, .int .i64 0, .int .i64 0, .int .i64 0, .int .i64 0, .int .i64 0, .int .i64 0, .string ⟨#[]⟩, .bool false, .bool false, .int .i64 0] 32))
  go_upto_region 7 with (first | (refine wpList_store_row rfl 32 _ _ rfl V5.heap.size y.cells rfl rfl 32 _ HN.out (by kernel_rfl) rfl (qagg_one y) ?_))
  obtain ⟨V6, hV⟩ : ∃ V6, V6 = (V5.alloc (.cells #[.string ⟨#[]⟩, .string ⟨#[]⟩, .string ⟨#[]⟩, .int .i64 0, .string ⟨#[]⟩, .int .i64 0, .int .i64 0, .int .i64 0, .int .i64 0, .int .i64 0, .int .i64 0, .int .i64 0, .int .i64 0, .int .i64 0, .int .i64 0, .slice none 0 0, .string ⟨#[]⟩, .string ⟨#[]⟩, .string ⟨#[]⟩, .bool false, .bool false, .string ⟨#[]⟩, .slice none 0 0, .bool false, .bool false, .string ⟨#[]⟩, .int .i64 0, .string ⟨#[]⟩, .int .i64 0, .int .i64 0, .int .i64 0, .int .i64 0, .int .i64 0, .int .i64 0, .int .i64 0, .int .i64 0, .int .i64 0, .int .i64 0, .int .i64 0, .int .i64 0, .int .i64 0, .string ⟨#[]⟩, .bool false, .bool false, .int .i64 0] 32)).setRow V5.heap.size y.cells := ⟨_, rfl⟩
  rw [← hV]
  have Hy : Hid (V6.heap[V5.heap.size]? = some (.cells y.cells 32 (0, 0))) := Lib.hid (by rw [hV]; exact heap_setRow HN.out _)
  have hb : Below V5.heap.size V5 V6 := by rw [hV]; exact below_setRow (b_alloc (Below.refl _ _) _) (Nat.le_refl _) _
  clear hV HN
  replace HB := Lib.hid (b_then HB.out hb)
  replace Hq := Lib.hid (obj_b hb Hq.out)
  replace Hx := Lib.hid (obj_b hb Hx.out)
  replace Iq := Lib.hid (Iq.out.below hb)
  replace Ix := Lib.hid (Ix.out.below hb)
  replace Iy := Lib.hid (Iy.out.below hb)
  clear hb
  generalize V5.heap.size = ky at Hy ⊢
  (try simp only [Act.put])
  have NY : Hid (y.hn ≤ 1000) := Lib.hid (Nat.le_trans Ny.out NX.out)
  obtain ⟨b, hb⟩ : ∃ b, PM.rewrites st q.me = b := ⟨_, rfl⟩
  have HRW := Lib.hid hb
  clear hb
  have hml := PM.method_lost q.pm st t
  rw [show q.pm.method = q.me from rfl, HRW.out] at hml
  have HML := Lib.hid hml
  clear hml
  have c21 : V6.cell? ⟨w.heap.size, 21, none⟩ = some (.string (mkS q.me)) := by rw [Lib.cell_of_heap Hq.out]; rfl
  go_wp2_with fail
  refine (Rewrites_c st q.me _).mono ?_
  rw [HRW.out]
  rintro e V30 ⟨rfl, rfl⟩
  clear c21
  cases b
  · have hxe : x.pm = q.pm := by rw [Px.out]; exact HML.out.1 rfl
    have HXE := Lib.hid hxe
    clear hxe
    go_wp2_with (first | go_skip | (refine wpList_load_g 32 _ rfl (by kernel_rfl) kx rfl Hx.out Tryz.underlying32 rfl (by kernel_rfl) ?_) | (refine wpList_load_g 32 _ rfl (by kernel_rfl) w.heap.size rfl Hq.out Tryz.underlying32 rfl (by kernel_rfl) ?_))
    refine (Named_c x q _ Ix.out Iq.out (Nat.le_trans NX.out (by decide)) (Nat.le_trans QOq.out.2.1 (by decide))).mono ?_
    rw [HXE.out, (PM.named_iff _ _).2 rfl]
    rintro e V31 ⟨rfl, hb⟩
    replace HB := Lib.hid (b_then HB.out hb)
    replace Hq := Lib.hid (obj_b hb Hq.out)
    replace Hx := Lib.hid (obj_b hb Hx.out)
    replace Hy := Lib.hid (obj_b hb Hy.out)
    replace Iq := Lib.hid (Iq.out.below hb)
    replace Ix := Lib.hid (Ix.out.below hb)
    replace Iy := Lib.hid (Iy.out.below hb)
    clear hb
    go_wp2
    go_ret
    exact ⟨rfl, HB.out⟩
  · obtain ⟨m1, m2, m3, m4, m5⟩ := HML.out.2 rfl
    rw [← Px.out] at m1 m2 m3 m4
    have a1 : x.me = PM.GET := m1
    have a2 : x.bo = false := m2
    have HP3 : Hid (PM.plainH x.hs = true) := Lib.hid m3
    have HY : Hid (y.pm = x.pm) := Lib.hid (by rw [Py.out]; exact m4)
    have c21 : V30.cell? ⟨kx, 21, none⟩ = some (.string (mkS [71, 69, 84])) := by rw [Lib.cell_of_heap Hx.out]; exact congrArg (fun z => some (Value.string (mkS z))) a1
    have c23 : V30.cell? ⟨kx, 23, none⟩ = some (.bool false) := by rw [Lib.cell_of_heap Hx.out]; exact congrArg (fun z => some (Value.bool z)) a2
    have c22 : V30.cell? ⟨kx, 22, none⟩ = some (.slice x.ha x.hn x.hc) := by rw [Lib.cell_of_heap Hx.out]; rfl
    clear m1 m2 m3 m4 a1 a2
    have M5 := Lib.hid m5
    clear m5
    go_wp2_with fail
    refine (PlainH_c _ _ _ _ _ Ix.out.rd (Nat.le_trans NX.out (by decide)) HXS.out (HBD.out.below HB.out)).mono ?_
    rw [HP3.out]
    rintro e V31 ⟨rfl, hb⟩
    clear c21 c22 c23
    replace HB := Lib.hid (b_then HB.out hb)
    replace Hq := Lib.hid (obj_b hb Hq.out)
    replace Hx := Lib.hid (obj_b hb Hx.out)
    replace Hy := Lib.hid (obj_b hb Hy.out)
    replace Iq := Lib.hid (Iq.out.below hb)
    replace Ix := Lib.hid (Ix.out.below hb)
    replace Iy := Lib.hid (Iy.out.below hb)
    clear hb
    go_wp2_with (first | go_skip | (refine wpList_load_g 32 _ rfl (by kernel_rfl) kx rfl Hx.out Tryz.underlying32 rfl (by kernel_rfl) ?_) | (refine wpList_load_g 32 _ rfl (by kernel_rfl) ky rfl Hy.out Tryz.underlying32 rfl (by kernel_rfl) ?_))
    refine (Named_c x y _ Ix.out Iy.out (Nat.le_trans NX.out (by decide)) (Nat.le_trans NY.out (by decide))).mono ?_
    rw [HY.out, (PM.named_iff _ _).2 rfl]
    rintro e V32 ⟨rfl, hb⟩
    replace HB := Lib.hid (b_then HB.out hb)
    replace Hq := Lib.hid (obj_b hb Hq.out)
    replace Hx := Lib.hid (obj_b hb Hx.out)
    replace Hy := Lib.hid (obj_b hb Hy.out)
    replace Iq := Lib.hid (Iq.out.below hb)
    replace Ix := Lib.hid (Ix.out.below hb)
    replace Iy := Lib.hid (Iy.out.below hb)
    clear hb
    have c21 : V32.cell? ⟨w.heap.size, 21, none⟩ = some (.string (mkS q.me)) := by rw [Lib.cell_of_heap Hq.out]; rfl
    have e1 : (q.me == [71, 69, 84]) = false := beq_eq_false_iff_ne.2 M5.out.1
    have e2 : (q.me == [72, 69, 65, 68]) = false := beq_eq_false_iff_ne.2 M5.out.2
    go_wp2
    go_ret
    exact ⟨rfl, HB.out⟩
end Go.Proofs.YtppbkblnjlbnfaaGreatDoor
/-! The row of MethodLost. -/
namespace Go.Proofs.YtppbkblnjlbnfaaGreatDoor
open Go.ChangeShapes Go.WideShapes Go.ChangeAt Go.RowKit
open Go.WideMaps Go.WideElems
open Go.ChangeMaps (open_string shut_string)
theorem methodLost_reads (os : Os) {H : Type} (enc : TypeId × Value → H) : ∃ x, DataW.whole enc Tryz.prog ((laidWorld os).forCall (fun _ _ => 0) ⟨#[], #[.agg zreq, .int .i64 0, .int .i64 0], []⟩).memory Tryz.f3.params.toList Rows.methodLostSpec.vars false (#[.agg zreq, .int .i64 0, .int .i64 0] : Array Value).toList 8 = some x :=
  Option.isSome_iff_exists.1 (by kernel_rfl)
set_option maxRecDepth 100000 in
theorem methodLost_lifted (os : Os) (started : os.Started) (H : Type) (enc : TypeId × Value → H) (F : Stop.Interp) :
    ReturnsInHanded {} Tryz.checked os 3 .any ((OpenSpec.ofChange Rows.methodLostSpec).preRow enc Tryz.prog Tryz.f3 Rows.methodLostRow.domain false Rows.methodLostRow.laid) (((OpenSpec.ofChange Rows.methodLostSpec).at F).post enc Tryz.prog Tryz.f3 false true false false) := by
  obtain ⟨x, hx⟩ := methodLost_reads os enc
  refine returnsInHanded_of_row (C := Tryz.checked) (s := OpenSpec.ofChange Rows.methodLostSpec) own started (by kernel_rfl) Tryz.func3
    (witness_row_atRef (enc := enc) (C := Tryz.checked) false (laidWorld os) #[.agg zreq, .int .i64 0, .int .i64 0] rfl (by kernel_rfl) (by kernel_rfl) (by kernel_rfl)
      (OpenSpec.preRow_of_cond 8 hx rfl (fun k hk => by cases hk) (by kernel_rfl) (laid_met3 os _))) ?_
  intro W base args ds gs before hval0 hW _ _ _ hL hsh _
  have hval : ∀ (j : Nat) t v, Tryz.f3.params[j]? = some t → args[j]? = some v → Value.okWide Tryz.prog W .any base t v := hval0
  have hW' := hW
  obtain ⟨p, q, hA0, hV, rfl, hfz, hnd⟩ := hW
  have hA : DataW.TrodAll enc Tryz.prog W 0 (fun _ => true) true Tryz.f3.params.toList args.toList ds p := hA0
  rw [Tryz.params3] at hA hval
  obtain ⟨v0, v1, v2, d0, d1, d2, p0, p1, p2, rfl, rfl, rfl, h0, h1, h2⟩ := trodAll_three hA
  obtain ⟨rfl, rfl⟩ := trodVars_none hV
  simp only [List.append_nil] at hfz hnd hW'
  have hlt : ∀ x ∈ p0 ++ p1 ++ p2, x.block < W.heap.size := fun x hx => hW'.lt x hx
  have h0k := h0
  obtain ⟨q0, rfl, hr0, hf0⟩ := open_req (hval 0 32 v0 rfl rfl) h0
  have h1k := h1
  obtain ⟨n1, e1, _, _, w1⟩ := open_int Tryz.underlying3 (hval 1 3 v1 rfl rfl) h1
  subst e1
  have h2k := h2
  obtain ⟨n2, e2, _, _, w2⟩ := open_int Tryz.underlying3 (hval 2 3 v2 rfl rfl) h2
  subst e2
  refine (MethodLostL_c q0 n1 n2 W hr0 hf0 (gl_of hsh) (tabs_laid3 hL) (bd_laid hL)).mono fun e W' ⟨he, hb⟩ => ?_
  subst he
  refine ⟨_, rfl, _, _, _, [], p0 ++ p1 ++ p2, [], hW', ?_, ?_, ?_, hb.frame _, fun h => by cases h⟩
  · exact trodAll_mk1 (shut_bool Tryz.underlying4 _)
  · have h3 := trodAll_mk3 (Below.trod laidOut (by kernel_rfl) (of_decide_eq_true (by kernel_rfl)) h0k hb (fun x hx => hlt x (by simp [hx]))) (Below.trod laidOut (by kernel_rfl) (of_decide_eq_true (by kernel_rfl)) h1k hb (fun x hx => hlt x (by simp [hx]))) (Below.trod laidOut (by kernel_rfl) (of_decide_eq_true (by kernel_rfl)) h2k hb (fun x hx => hlt x (by simp [hx])))
    rw [← List.append_assoc] at h3
    exact h3
  · rfl
theorem methodLost_k0 : Rows.methodLostRow.wf (OpenSpec.ofChange (OpenSpec.ofChange Rows.methodLostSpec).bare) = true := by kernel_rfl
theorem methodLost_k3 : Tryz.f3.params.all (PP.readableRec ·) = true := by kernel_rfl
theorem methodLost_k4 : namedTie PP Rows.methodLostRow.named (OpenSpec.ofChange Rows.methodLostSpec).bare.vars = true := by kernel_rfl
theorem methodLost_k5 : (Rows.methodLostRow.stops == []) = true := by kernel_rfl
theorem methodLost_k7 : (Rows.methodLostRow.knobs == []) = true := by kernel_rfl
theorem methodLost_k9 : (Rows.methodLostRow.inPlace == PP.inPlace 3) = true := by kernel_rfl
theorem methodLost_k10 : (Rows.methodLostRow.unfollowed == PP.unfollowed 3) = true := by kernel_rfl
theorem methodLost_k11 : (Rows.methodLostRow.recurses == PP.recurses 3) = true := by kernel_rfl
theorem methodLost_k12 : (Rows.methodLostRow.named == PP.varsNamed 3) = true := by kernel_rfl
theorem methodLost_k13 : (Rows.methodLostRow.maps == (Tryz.f3.params.toList ++ (OpenSpec.ofChange Rows.methodLostSpec).bare.plain.varTypes PP).any (PP.mapsRec ·)) = true := by kernel_rfl
theorem methodLost_k14 : (Rows.methodLostRow.ifaces == (Tryz.f3.params.toList ++ (OpenSpec.ofChange Rows.methodLostSpec).bare.plain.varTypes PP).any (PP.ifacesRec ·)) = true := by kernel_rfl
theorem methodLost_k15 : (Rows.methodLostRow.mapsOut == PP.mapsAmong Tryz.f3.resultTypes.toList) = true := by kernel_rfl
theorem methodLost_k16 : (Rows.methodLostRow.loops == (Tryz.f3.params.toList ++ (OpenSpec.ofChange Rows.methodLostSpec).bare.plain.varTypes PP).any (PP.loopsFrom ·)) = true := by kernel_rfl
theorem methodLost_k17 : (Rows.methodLostRow.wideKeys == (Tryz.f3.params.toList ++ (OpenSpec.ofChange Rows.methodLostSpec).bare.plain.varTypes PP ++ Tryz.f3.resultTypes.toList).any (PP.wideKeysFrom ·)) = true := by kernel_rfl
theorem methodLost_k18 : (OpenSpec.ofChange Rows.methodLostSpec).bare.vars.all (PP.varReadable ·) = true := by kernel_rfl
theorem methodLost_k19 : Tryz.f3.resultTypes.all (fun t => PP.readableRec t && decide (t < PP.types.size)) = true := by kernel_rfl
theorem methodLost_k20 : (Rows.methodLostRow.ifacesOut == Tryz.f3.resultTypes.toList.any (PP.ifacesRec ·)) = true := by kernel_rfl
theorem methodLost_k21 : (Rows.methodLostRow.loopsOut == Tryz.f3.resultTypes.toList.any (PP.loopsFrom ·)) = true := by kernel_rfl
theorem methodLost_k23 : Rows.methodLostRow.shortTexts.isNone = true := by kernel_rfl
theorem methodLost_k28 : (Rows.methodLostRow.kinds == (if Rows.methodLostRow.domain.isEmpty then [] else Tryz.f3.params.toList.map fun t => match PP.underlying t with | some (.int k) => some k | _ => none)) = true := by kernel_rfl
theorem methodLost_k29 : (Rows.methodLostRow.pinned == Rows.methodLostRow.pinnedBy) = true := by kernel_rfl
theorem methodLost_k30 : (Rows.methodLostRow.veiled == (Tryz.f3.params.toList ++ (OpenSpec.ofChange Rows.methodLostSpec).bare.plain.varTypes PP ++ Tryz.f3.resultTypes.toList).any (PP.veiledRec ·)) = true := by kernel_rfl
theorem methodLost_k31 : Rows.methodLostRow.veiledFits PP Tryz.f3.params.toList (Tryz.f3.params.toList ++ (OpenSpec.ofChange Rows.methodLostSpec).bare.plain.varTypes PP ++ Tryz.f3.resultTypes.toList) = true := by kernel_rfl
set_option maxRecDepth 100000 in
theorem methodLost_closed : joinedFacts PP 3 Tryz.f3 (OpenSpec.ofChange Rows.methodLostSpec).bare Rows.methodLostRow = true := and2 (and2 (and2 (and2 (and2 (and2 (and2 (and2 (and2 (and2 (and2 (and2 (and2 (and2 (and2 (and2 (and2 (and2 (and2 (and2 (and2 (and2 (and2 (and2 (and2 (and2 (and2 (and2 (and2 (and2 (and2 (methodLost_k0) j_laidOut) j_rowed) methodLost_k3) methodLost_k4) methodLost_k5) j_stops) methodLost_k7) j_knobs) methodLost_k9) methodLost_k10) methodLost_k11) methodLost_k12) methodLost_k13) methodLost_k14) methodLost_k15) methodLost_k16) methodLost_k17) methodLost_k18) methodLost_k19) methodLost_k20) methodLost_k21) j_plain) methodLost_k23) j_heard) j_enter) j_lift) j_make) methodLost_k28) methodLost_k29) methodLost_k30) methodLost_k31
theorem methodLost_named : Tryz.pinned.checked.prog.funcNamed Rows.methodLostRow.func = some 3 := by kernel_rfl
theorem methodLost_text : Rows.methodLostRow.wfByText (OpenSpec.ofChange Rows.methodLostSpec) = true := by kernel_rfl
theorem methodLost_goes : false = Rows.methodLostRow.goesBy Tryz.pinned.checked.prog := by kernel_rfl
theorem methodLost_said : Rows.MethodLostSaid :=
  OpenClaim.holds_of_cond 3 Tryz.f3 rfl rfl rfl rfl rfl rfl rfl ⟨rfl, rfl, rfl, rfl, rfl⟩ rfl rfl rfl rfl rfl methodLost_named Tryz.func3 methodLost_closed
    (of_decide_eq_true (by kernel_rfl)) (by unfold Func.isWrapper; first | (rw [if_pos (by decide +kernel)]; kernel_rfl) | (rw [if_neg (by decide +kernel)]; exact ⟨rfl, rfl⟩))
    (fun os started H enc _ F => by rw [OpenClaim.pre_eq_preRow]; exact methodLost_lifted os started H enc F)
theorem methodLost_plain (f : FuncId) (fn : Func) (hf : Tryz.pinned.checked.prog.funcNamed "postmark/postmarklaw20.MethodLost" = some f) (hfn : Tryz.pinned.checked.prog.funcs[f]? = some fn) :
    true = Tryz.pinned.checked.prog.looks [] ∧ ∀ (j : Nat) t, fn.params[j]? = some t → Tryz.pinned.checked.prog.wantsStandIn t = false := by
  obtain rfl : f = 3 := Option.some.inj ((show Tryz.prog.funcNamed "postmark/postmarklaw20.MethodLost" = some 3 by kernel_rfl).symm.trans hf) |>.symm
  obtain rfl : fn = Tryz.f3 := (Option.some.inj (Tryz.func3.symm.trans hfn)).symm
  refine ⟨by kernel_rfl, fun j t ht => ?_⟩
  rw [Tryz.params3] at ht
  have hm := Array.mem_of_getElem? ht
  simp only [Array.mem_def, List.mem_cons, List.not_mem_nil, or_false] at hm
  rcases hm with rfl | rfl | rfl
  · exact (show Tryz.prog.wantsStandIn 32 = false by kernel_rfl)
  · exact (show Tryz.prog.wantsStandIn 3 = false by kernel_rfl)
  · exact (show Tryz.prog.wantsStandIn 3 = false by kernel_rfl)
theorem methodLost_holds : Rows.MethodLostCardSaid :=
  Claim7.holds_tied_plain_at .later [] _ _ _ _ methodLost_said (fun _ h => by cases h) methodLost_text (fun _ h => by cases h) methodLost_row_tie rfl ⟨rfl, rfl⟩ j_main rfl methodLost_plain methodLost_goes
#print axioms methodLost_holds
end Go.Proofs.YtppbkblnjlbnfaaGreatDoor
