/-
MethodPlain: whatever comes in, the law's call returns true, and the arguments read behind the call as they did before; no condition on them. The row lists the two tables of unicode/utf8 (first, acceptRanges); the card ties them.
-/
import Derived.Test.YtppbkblnjlbnfaaGreatDoorTz
import Derived.Test.YtppbkblnjlbnfaaGreatDoorMr
set_option linter.unusedVariables false
set_option linter.unusedSimpArgs false
/-! The three tables that the rows of method list. -/
namespace Go.Proofs.YtppbkblnjlbnfaaGreatDoor
open Go.ChangeShapes Go.WideShapes Go.ChangeAt Go.RowKit Go.Lib Go.Shelf
def laidThree : List (String × DataW Unit) := [("unicode/utf8.acceptRanges", Rows.laid_unicode_utf8_acceptRanges), ("postmark/method.bodies", Rows.laid_postmark_method_bodies), ("unicode/utf8.first", Rows.laid_unicode_utf8_first)]
theorem tabs_laid3 {W : World} (hL : laidMetH Tryz.prog laidThree W) : Lib.Utf8Tabs 2 3 W := by
  have h := hL
  unfold laidThree at h
  rw [accept_eq, first_eq] at h
  exact utf8Tabs_of_readsT (ρ := tabRen) ⟨by kernel_rfl, by kernel_rfl, by kernel_rfl, by kernel_rfl⟩ ⟨by kernel_rfl, by kernel_rfl, by kernel_rfl, by kernel_rfl, by kernel_rfl, by kernel_rfl, by kernel_rfl⟩ (Lib.laidMet.reads h (.tail _ (.tail _ (.head _)))) (Lib.laidMet.reads h (.head _))
set_option maxRecDepth 100000 in
theorem bd_laid {W : World} (hL : laidMetH Tryz.prog laidThree W) : Bd W := by
  obtain ⟨g, t, cs, fuel, p, hg, hty, hvar, hd⟩ := Lib.laidMet.reads (n := "postmark/method.bodies") (d := Rows.laid_postmark_method_bodies) hL (.tail _ (.head _))
  obtain rfl : 0 = g := Option.some.inj ((show Tryz.prog.globalNamed "postmark/method.bodies" = some 0 by kernel_rfl).symm.trans hg)
  obtain rfl : 73 = t := Option.some.inj ((show (Tryz.prog.globals[0]?).map (·.type) = some 73 by kernel_rfl).symm.trans hty)
  have hc1 : Tryz.prog.cellsOf 9 = 1 := by kernel_rfl
  have key : ∀ i (hi : i < 4), W.cell? ⟨0, i, none⟩ = some (.string (mkS (PM.bodies[i]'hi))) := fun i hi => by
    obtain ⟨fuel', d, q, hdi, he⟩ := array_elem Tryz.underlying73 hd i hi
    rw [hc1] at he
    obtain ⟨s, hs, hx⟩ := DataW.trod_string Tryz.underlying9 he
    rw [World.var?_cell hg hvar i, ← Array.getElem?_toList]
    have h0 := congrArg (·[0]?) hs
    simp only [List.getElem?_take, List.getElem?_drop, Nat.mul_one, Nat.add_zero] at h0
    rw [if_pos (by decide)] at h0
    rw [h0]
    obtain ⟨l, rfl⟩ := mkS_surj s
    have hd2 := (Prod.mk.inj hx.1).1
    rw [mkS_data] at hd2
    subst hd2
    have : i = 0 ∨ i = 1 ∨ i = 2 ∨ i = 3 := by omega
    rcases this with rfl | rfl | rfl | rfl <;> (injection hdi with hdi; injection hdi with hdi; injection hdi with hdi; subst hdi; rfl)
  exact ⟨cell_lt (key 0 (by decide)), key⟩
theorem laid_met3 (os : Os) (args : Array Value) : laidMet Tryz.prog laidThree ((laidWorld os).forCall (fun _ _ => 0) ⟨#[], args, []⟩).memory := by
  unfold laidThree
  rw [accept_eq, first_eq]
  exact (LaidIn.of_run (l := [("unicode/utf8.acceptRanges", Lib.acceptData), ("postmark/method.bodies", Rows.laid_postmark_method_bodies), ("unicode/utf8.first", Lib.firstData)]) [3, 0, 2] 8 (by kernel_rfl) (by kernel_rfl) (by kernel_rfl) (by kernel_rfl)).met
end Go.Proofs.YtppbkblnjlbnfaaGreatDoor
/-! The walk of MethodPlain. -/
namespace PM
def lowB : List L := bodies.map lower
theorem dropN_low (l : Fs) : dropN l lowB = dropN l bodies := by
  unfold dropN lowB
  congr 1
/-- MethodPlain. -/
theorem method_plain (q : Req) (st : Int) : dropN (change q st).heads lowB = dropN q.heads lowB ∧ (change q st).count = q.count ∧ (change q st).tainted = q.tainted ∧ (change q st).policy = q.policy ∧ (change q st).url = q.url ∧ plainH q.heads = !(lowB.any fun s => hasN q.heads s) := by
  refine ⟨?_, ?_, ?_, ?_, ?_, ?_⟩
  · rw [dropN_low, dropN_low]
    unfold change
    split
    · exact dropN_drop q.heads bodies
    · show dropN (dropN q.heads []) bodies = _
      rw [dropN_nil]
  all_goals try (unfold change; split <;> rfl)
  unfold plainH lowB
  rw [List.any_map]
  congr 2
  funext s
  exact hasN_of (lower_lower s).symm q.heads
end PM
namespace Go.Proofs.YtppbkblnjlbnfaaGreatDoor
open Go.RowKit
theorem qfew20_ok {q : QV} {w : World} (hr : RdW w q.u.a q.u.pn q.u.xs) (hf : RdFW w q.ha q.hn q.hs) (h : qfew20 q = true) : QIn q w ∧ q.hn ≤ 1000 ∧ ∀ f ∈ q.hs, f.1.length ≤ 1000 ∧ f.2.length ≤ 1000 := by
  unfold qfew20 at h
  rw [Bool.and_eq_true] at h
  obtain ⟨h1, h2⟩ := few13_ok h.2 hf
  exact ⟨⟨(qfew_ok hr h.1).1, hf⟩, by omega, h2⟩
theorem low_names (W : World) (b : Nat) (h : W.heap[b]? = some (.cells #[.string ⟨#[99, 111, 110, 116, 101, 110, 116, 45, 101, 110, 99, 111, 100, 105, 110, 103]⟩, .string ⟨#[99, 111, 110, 116, 101, 110, 116, 45, 108, 97, 110, 103, 117, 97, 103, 101]⟩, .string ⟨#[99, 111, 110, 116, 101, 110, 116, 45, 108, 111, 99, 97, 116, 105, 111, 110]⟩, .string ⟨#[99, 111, 110, 116, 101, 110, 116, 45, 116, 121, 112, 101]⟩] 9 (0, 0))) : RdS W (some ⟨b, 0, none⟩) 4 PM.lowB := ⟨rfl, by decide, .inr ⟨b, 0, rfl, h_lt h, fun j hj => by
  have : j = 0 ∨ j = 1 ∨ j = 2 ∨ j = 3 := by have : j < 4 := hj; omega
  rcases this with rfl | rfl | rfl | rfl <;> (rw [Lib.cell_of_heap h]; rfl)⟩⟩
theorem low_len : ∀ s ∈ PM.lowB, s.length ≤ 1000000 := by decide
theorem change_sub (q : QV) (st : Int) (f : List UInt8 × List UInt8) (h : f ∈ (PM.change q.pm st).heads) : f ∈ q.hs := by
  unfold PM.change at h
  split at h
  · exact (List.mem_filter.1 h).1
  · exact (List.mem_filter.1 h).1
structure Mark (a b c d : Bool) : Prop where
def PcAt (W : World) (b : Nat) (co : Int) (ta : Bool) (po : Int) : Prop := W.cell? ⟨b, 44, none⟩ = some (.int .i64 co) ∧ W.cell? ⟨b, 42, none⟩ = some (.bool ta) ∧ W.cell? ⟨b, 40, none⟩ = some (.int .i64 po)
theorem PcAt.of_heap {W : World} {b : Nat} {q : QV} (h : W.heap[b]? = some (.cells q.cells 32 (0, 0))) : PcAt W b q.co q.ta q.po := ⟨by rw [Lib.cell_of_heap h]; rfl, by rw [Lib.cell_of_heap h]; rfl, by rw [Lib.cell_of_heap h]; rfl⟩
structure QXS (gq gx : Nat) (q x : QV) (w W : World) : Prop where
  hq : W.heap[gq]? = some (.cells q.cells 32 (0, 0))
  hx : W.heap[gx]? = some (.cells x.cells 32 (0, 0))
  be : Below w.heap.size w W
theorem QXS.below {gq gx : Nat} {q x : QV} {w W W' : World} (h : QXS gq gx q x w W) (hb : Below W.heap.size W W') : QXS gq gx q x w W' := ⟨heap_b hb h.hq, heap_b hb h.hx, b_then h.be hb⟩
set_option maxRecDepth 100000 in
set_option maxHeartbeats 32000000 in
theorem MethodPlainL_c (q : QV) (st : Int) (w : World) (hr : RdW w q.u.a q.u.pn q.u.xs) (hf : RdFW w q.ha q.hn q.hs) (hg : Gl w) (hT : Lib.Utf8Tabs 2 3 w) (hbd : Bd w) : Calls Tryz.prog 8 #[.agg q.cells, .int .i64 st] w fun e w' => e = .returned (.bool true) ∧ Below w.heap.size w w' := by
  have HG := Lib.hid hg
  have HTB := Lib.hid hT
  have HBD := Lib.hid hbd
  have RRq := Lib.hid hr
  have RFq := Lib.hid hf
  clear hg hT hbd hr hf
  have HB : Hid (Below w.heap.size w (w.alloc (.cells q.cells 32))) := Lib.hid (b_alloc (Below.refl _ _) _)
  have Hq : Hid ((w.alloc (.cells q.cells 32)).heap[w.heap.size]? = some (.cells q.cells 32 (0, 0))) := Lib.hid ((by have h := Go.heap_alloc_new w (.cells q.cells 32); simpa using h))
  go_enter Tryz.func8, Tryz.ntmps8
  go_upto_region 1 with fail
  generalize w.alloc (.cells q.cells 32) = V0 at HB Hq ⊢
  go_wp2_with fail
  refine (awake20_c _ (HG.out.below HB.out) (tabs_below HTB.out HB.out) (HBD.out.below HB.out)).mono ?_
  rintro e V1 ⟨rfl, hb⟩
  replace HB := Lib.hid (b_then HB.out hb)
  replace Hq := Lib.hid (obj_b hb Hq.out)
  clear hb
  go_wp2_with (first | go_skip | (refine wpList_load_g 32 _ rfl (by kernel_rfl) w.heap.size rfl Hq.out Tryz.underlying32 rfl (by kernel_rfl) ?_))
  refine (Few20_c q _ (RRq.out.below HB.out) (RFq.out.below HB.out)).mono ?_
  rintro e V2 ⟨rfl, hb⟩
  replace HB := Lib.hid (b_then HB.out hb)
  replace Hq := Lib.hid (obj_b hb Hq.out)
  clear hb
  cases hfq : qfew20 q
  · go_wp2
    go_ret
    exact ⟨rfl, HB.out⟩
  have QOq := Lib.hid (qfew20_ok (RRq.out.below HB.out) (RFq.out.below HB.out) hfq)
  clear hfq
  have Iq := Lib.hid QOq.out.1
  go_wp2_with (first | go_skip | (refine wpList_load_g 32 _ rfl (by kernel_rfl) w.heap.size rfl Hq.out Tryz.underlying32 rfl (by kernel_rfl) ?_))
  refine (Change_c q st _ Iq.out (fun f hf => Nat.le_trans (QOq.out.2.2 f hf).1 (by decide)) (Nat.le_trans QOq.out.2.1 (by decide)) (HBD.out.below HB.out)).mono ?_
  rintro e V3 ⟨⟨x, rfl, hvp, hvi, hvn, -⟩, hb⟩
  have Px := Lib.hid hvp
  have Ix := Lib.hid hvi
  have Nx := Lib.hid hvn
  clear hvp hvi hvn
  replace HB := Lib.hid (b_then HB.out hb)
  replace Hq := Lib.hid (obj_b hb Hq.out)
  replace Iq := Lib.hid (Iq.out.below hb)
  clear hb
  have HN := Lib.hid (Go.heap_alloc_new V3 (.cells #[.string ⟨#[]⟩, .string ⟨#[]⟩, .string ⟨#[]⟩, .int .i64 0, .string ⟨#[]⟩, .int .i64 0, .int .i64 0, .int .i64 0, .int .i64 0, .int .i64 0, .int .i64 0, .int .i64 0, .int .i64 0, .int .i64 0, .int .i64 0, .slice none 0 0, .string ⟨#[]⟩, .string ⟨#[]⟩, .string ⟨#[]⟩, .bool false, .bool false, .string ⟨#[]⟩, .slice none 0 0, .bool false, .bool false, .string ⟨#[]⟩, .int .i64 0, .string ⟨#[]⟩, .int .i64 0, .int .i64 0, .int .i64 0, .int .i64 0, .int .i64 0, .int .i64 0, .int .i64 0, .int .i64 0, .int .i64 0, .int .i64 0, .int .i64 0, .int .i64 0, .int .i64 0, .string ⟨#[]⟩, .bool false, .bool false, .int .i64 0] 32))
  go_upto_region 6 with (first | (refine wpList_store_row rfl 32 _ _ rfl V3.heap.size x.cells rfl rfl 32 _ HN.out (by kernel_rfl) rfl (qagg_one x) ?_))
  obtain ⟨V4, hV⟩ : ∃ V4, V4 = (V3.alloc (.cells #[.string ⟨#[]⟩, .string ⟨#[]⟩, .string ⟨#[]⟩, .int .i64 0, .string ⟨#[]⟩, .int .i64 0, .int .i64 0, .int .i64 0, .int .i64 0, .int .i64 0, .int .i64 0, .int .i64 0, .int .i64 0, .int .i64 0, .int .i64 0, .slice none 0 0, .string ⟨#[]⟩, .string ⟨#[]⟩, .string ⟨#[]⟩, .bool false, .bool false, .string ⟨#[]⟩, .slice none 0 0, .bool false, .bool false, .string ⟨#[]⟩, .int .i64 0, .string ⟨#[]⟩, .int .i64 0, .int .i64 0, .int .i64 0, .int .i64 0, .int .i64 0, .int .i64 0, .int .i64 0, .int .i64 0, .int .i64 0, .int .i64 0, .int .i64 0, .int .i64 0, .int .i64 0, .string ⟨#[]⟩, .bool false, .bool false, .int .i64 0] 32)).setRow V3.heap.size x.cells := ⟨_, rfl⟩
  rw [← hV]
  have Hx : Hid (V4.heap[V3.heap.size]? = some (.cells x.cells 32 (0, 0))) := Lib.hid (by rw [hV]; exact heap_setRow HN.out _)
  have hb : Below V3.heap.size V3 V4 := by rw [hV]; exact below_setRow (b_alloc (Below.refl _ _) _) (Nat.le_refl _) _
  clear hV HN
  replace HB := Lib.hid (b_then HB.out hb)
  replace Hq := Lib.hid (obj_b hb Hq.out)
  replace Iq := Lib.hid (Iq.out.below hb)
  replace Ix := Lib.hid (Ix.out.below hb)
  clear hb
  generalize V3.heap.size = kx at Hx ⊢
  (try simp only [Act.put])
  have c22 : V4.cell? ⟨w.heap.size, 22, none⟩ = some (.slice q.ha q.hn q.hc) := by rw [Lib.cell_of_heap Hq.out]; rfl
  go_wp2_with fail
  refine (Get_c q.ha q.hn q.hc q.hs [99, 111, 110, 116, 101, 110, 116, 45, 101, 110, 99, 111, 100, 105, 110, 103] _ Iq.out.rd (Nat.le_trans QOq.out.2.1 (by decide)) (by decide) (fun f hf => ⟨Nat.le_trans (QOq.out.2.2 f hf).1 (by decide), Nat.le_trans (QOq.out.2.2 f hf).2 (by decide)⟩)).mono ?_
  rintro e V5 ⟨⟨j0, rfl⟩, hb⟩
  clear c22
  replace HB := Lib.hid (b_then HB.out hb)
  replace Hq := Lib.hid (obj_b hb Hq.out)
  replace Hx := Lib.hid (obj_b hb Hx.out)
  replace Iq := Lib.hid (Iq.out.below hb)
  replace Ix := Lib.hid (Ix.out.below hb)
  clear hb
  have c22 : V5.cell? ⟨w.heap.size, 22, none⟩ = some (.slice q.ha q.hn q.hc) := by rw [Lib.cell_of_heap Hq.out]; rfl
  go_wp2_with fail
  refine (Get_c q.ha q.hn q.hc q.hs [67, 79, 78, 84, 69, 78, 84, 45, 76, 65, 78, 71, 85, 65, 71, 69] _ Iq.out.rd (Nat.le_trans QOq.out.2.1 (by decide)) (by decide) (fun f hf => ⟨Nat.le_trans (QOq.out.2.2 f hf).1 (by decide), Nat.le_trans (QOq.out.2.2 f hf).2 (by decide)⟩)).mono ?_
  rintro e V6 ⟨⟨j1, rfl⟩, hb⟩
  clear c22
  replace HB := Lib.hid (b_then HB.out hb)
  replace Hq := Lib.hid (obj_b hb Hq.out)
  replace Hx := Lib.hid (obj_b hb Hx.out)
  replace Iq := Lib.hid (Iq.out.below hb)
  replace Ix := Lib.hid (Ix.out.below hb)
  clear hb
  have c22 : V6.cell? ⟨w.heap.size, 22, none⟩ = some (.slice q.ha q.hn q.hc) := by rw [Lib.cell_of_heap Hq.out]; rfl
  go_wp2_with fail
  refine (Get_c q.ha q.hn q.hc q.hs [99, 111, 110, 116, 101, 110, 116, 45, 108, 111, 99, 97, 116, 105, 111, 110] _ Iq.out.rd (Nat.le_trans QOq.out.2.1 (by decide)) (by decide) (fun f hf => ⟨Nat.le_trans (QOq.out.2.2 f hf).1 (by decide), Nat.le_trans (QOq.out.2.2 f hf).2 (by decide)⟩)).mono ?_
  rintro e V7 ⟨⟨j2, rfl⟩, hb⟩
  clear c22
  replace HB := Lib.hid (b_then HB.out hb)
  replace Hq := Lib.hid (obj_b hb Hq.out)
  replace Hx := Lib.hid (obj_b hb Hx.out)
  replace Iq := Lib.hid (Iq.out.below hb)
  replace Ix := Lib.hid (Ix.out.below hb)
  clear hb
  have c22 : V7.cell? ⟨w.heap.size, 22, none⟩ = some (.slice q.ha q.hn q.hc) := by rw [Lib.cell_of_heap Hq.out]; rfl
  go_wp2_with fail
  refine (Get_c q.ha q.hn q.hc q.hs [67, 111, 110, 116, 101, 110, 116, 45, 84, 121, 112, 101] _ Iq.out.rd (Nat.le_trans QOq.out.2.1 (by decide)) (by decide) (fun f hf => ⟨Nat.le_trans (QOq.out.2.2 f hf).1 (by decide), Nat.le_trans (QOq.out.2.2 f hf).2 (by decide)⟩)).mono ?_
  rintro e V8 ⟨⟨j3, rfl⟩, hb⟩
  clear c22
  replace HB := Lib.hid (b_then HB.out hb)
  replace Hq := Lib.hid (obj_b hb Hq.out)
  replace Hx := Lib.hid (obj_b hb Hx.out)
  replace Iq := Lib.hid (Iq.out.below hb)
  replace Ix := Lib.hid (Ix.out.below hb)
  clear hb
  have hxs : ∀ f ∈ x.hs, f.1.length ≤ 1000000 := fun f hf => by
    have h := change_sub q st f (by rw [← Px.out]; exact hf)
    exact Nat.le_trans (QOq.out.2.2 f h).1 (by decide)
  have HXS := Lib.hid hxs
  have NX : Hid (x.hn ≤ 1000) := Lib.hid (Nat.le_trans Nx.out QOq.out.2.1)
  clear hxs
  have c22 : V8.cell? ⟨w.heap.size, 22, none⟩ = some (.slice q.ha q.hn q.hc) := by rw [Lib.cell_of_heap Hq.out]; rfl
  have hba : Below V8.heap.size V8 (V8.alloc (.cells #[.string ⟨#[99, 111, 110, 116, 101, 110, 116, 45, 101, 110, 99, 111, 100, 105, 110, 103]⟩, .string ⟨#[99, 111, 110, 116, 101, 110, 116, 45, 108, 97, 110, 103, 117, 97, 103, 101]⟩, .string ⟨#[99, 111, 110, 116, 101, 110, 116, 45, 108, 111, 99, 97, 116, 105, 111, 110]⟩, .string ⟨#[99, 111, 110, 116, 101, 110, 116, 45, 116, 121, 112, 101]⟩] 9)) := b_alloc (Below.refl _ _) _
  go_wp2_with fail
  refine (Drop_c q.ha q.hn q.hc q.hs (some ⟨V8.heap.size, 0, none⟩) 4 4 PM.lowB _ (Iq.out.rd.below hba) (Nat.le_trans QOq.out.2.1 (by decide)) (fun f hf => Nat.le_trans (QOq.out.2.2 f hf).1 (by decide)) (low_names _ _ (Go.heap_alloc_new _ _)) low_len).mono ?_
  rintro e V9 ⟨⟨da, dm, dc, rfl, hdm, -, hdr, -⟩, hb0⟩
  have hb : Below V8.heap.size V8 V9 := b_then hba hb0
  have Rd := Lib.hid hdr
  have Md := Lib.hid hdm
  clear hdr hdm c22 hba hb0
  generalize (some (⟨V8.heap.size, 0, none⟩ : Addr)) = nd
  replace HB := Lib.hid (b_then HB.out hb)
  replace Hq := Lib.hid (obj_b hb Hq.out)
  replace Hx := Lib.hid (obj_b hb Hx.out)
  replace Iq := Lib.hid (Iq.out.below hb)
  replace Ix := Lib.hid (Ix.out.below hb)
  clear hb
  have c22 : V9.cell? ⟨kx, 22, none⟩ = some (.slice x.ha x.hn x.hc) := by rw [Lib.cell_of_heap Hx.out]; rfl
  have hba : Below V9.heap.size V9 (V9.alloc (.cells #[.string ⟨#[99, 111, 110, 116, 101, 110, 116, 45, 101, 110, 99, 111, 100, 105, 110, 103]⟩, .string ⟨#[99, 111, 110, 116, 101, 110, 116, 45, 108, 97, 110, 103, 117, 97, 103, 101]⟩, .string ⟨#[99, 111, 110, 116, 101, 110, 116, 45, 108, 111, 99, 97, 116, 105, 111, 110]⟩, .string ⟨#[99, 111, 110, 116, 101, 110, 116, 45, 116, 121, 112, 101]⟩] 9)) := b_alloc (Below.refl _ _) _
  go_wp2_with fail
  refine (Drop_c x.ha x.hn x.hc x.hs (some ⟨V9.heap.size, 0, none⟩) 4 4 PM.lowB _ (Ix.out.rd.below hba) (Nat.le_trans NX.out (by decide)) HXS.out (low_names _ _ (Go.heap_alloc_new _ _)) low_len).mono ?_
  rintro e V10 ⟨⟨ka, km, kc, rfl, hkm, -, hkr, -⟩, hb0⟩
  have hb : Below V9.heap.size V9 V10 := b_then hba hb0
  have Rk := Lib.hid hkr
  have Mk := Lib.hid hkm
  clear hkr hkm c22 hba hb0
  generalize (some (⟨V9.heap.size, 0, none⟩ : Addr)) = nk
  replace HB := Lib.hid (b_then HB.out hb)
  replace Hq := Lib.hid (obj_b hb Hq.out)
  replace Hx := Lib.hid (obj_b hb Hx.out)
  replace Iq := Lib.hid (Iq.out.below hb)
  replace Ix := Lib.hid (Ix.out.below hb)
  replace Rd := Lib.hid (Rd.out.below hb)
  clear hb
  have hmp := PM.method_plain q.pm st
  rw [← Px.out] at hmp
  have HMP := Lib.hid hmp
  clear hmp
  go_wp2_with fail
  refine (Same13_c ka da km kc dm dc _ _ _ Rk.out Rd.out (Nat.le_trans Mk.out (Nat.le_trans NX.out (by decide))) (Nat.le_trans Md.out (Nat.le_trans QOq.out.2.1 (by decide)))).mono ?_
  rw [decide_eq_true (show PM.dropN x.hs PM.lowB = PM.dropN q.hs PM.lowB from HMP.out.1)]
  rintro e V11 ⟨rfl, hb⟩
  replace HB := Lib.hid (b_then HB.out hb)
  replace Hq := Lib.hid (obj_b hb Hq.out)
  replace Hx := Lib.hid (obj_b hb Hx.out)
  replace Iq := Lib.hid (Iq.out.below hb)
  replace Ix := Lib.hid (Ix.out.below hb)
  replace Rd := Lib.hid (Rd.out.below hb)
  replace Rk := Lib.hid (Rk.out.below hb)
  clear hb
  have hpl := HMP.out.2.2.2.2.2
  have hb4 : PM.plainH q.hs = !((PM.hasN q.hs [99, 111, 110, 116, 101, 110, 116, 45, 101, 110, 99, 111, 100, 105, 110, 103]) || (PM.hasN q.hs [67, 79, 78, 84, 69, 78, 84, 45, 76, 65, 78, 71, 85, 65, 71, 69]) || (PM.hasN q.hs [99, 111, 110, 116, 101, 110, 116, 45, 108, 111, 99, 97, 116, 105, 111, 110]) || (PM.hasN q.hs [67, 111, 110, 116, 101, 110, 116, 45, 84, 121, 112, 101])) := by
    have h : PM.plainH q.hs = !(PM.lowB.any fun s => PM.hasN q.hs s) := hpl
    rw [h, PM.hasN_of (show PM.lower [67, 79, 78, 84, 69, 78, 84, 45, 76, 65, 78, 71, 85, 65, 71, 69] = PM.lower [99, 111, 110, 116, 101, 110, 116, 45, 108, 97, 110, 103, 117, 97, 103, 101] from rfl), PM.hasN_of (show PM.lower [67, 111, 110, 116, 101, 110, 116, 45, 84, 121, 112, 101] = PM.lower [99, 111, 110, 116, 101, 110, 116, 45, 116, 121, 112, 101] from rfl)]
    simp [PM.lowB, PM.bodies, List.any_cons, List.any_nil, Bool.or_assoc]
    rfl
  generalize PM.hasN q.hs [99, 111, 110, 116, 101, 110, 116, 45, 101, 110, 99, 111, 100, 105, 110, 103] = b0 at hb4 ⊢
  generalize PM.hasN q.hs [67, 79, 78, 84, 69, 78, 84, 45, 76, 65, 78, 71, 85, 65, 71, 69] = b1 at hb4 ⊢
  generalize PM.hasN q.hs [99, 111, 110, 116, 101, 110, 116, 45, 108, 111, 99, 97, 116, 105, 111, 110] = b2 at hb4 ⊢
  generalize PM.hasN q.hs [67, 111, 110, 116, 101, 110, 116, 45, 84, 121, 112, 101] = b3 at hb4 ⊢
  have hco : x.co = q.co := HMP.out.2.1
  have hta : x.ta = q.ta := HMP.out.2.2.1
  have hpo : x.po = q.po := HMP.out.2.2.2.1
  have hur : x.u.pm = q.u.pm := HMP.out.2.2.2.2.1
  have qp : ∀ W, Below w.heap.size w W → Calls Tryz.prog 20 #[.slice q.ha q.hn q.hc] W fun e w' => e = .returned (.bool (PM.plainH q.hs)) ∧ Below W.heap.size W w' := fun W hb => PlainH_c _ _ _ _ W (RFq.out.below hb) (Nat.le_trans QOq.out.2.1 (by decide)) (fun f hf => ⟨Nat.le_trans (QOq.out.2.2 f hf).1 (by decide), Nat.le_trans (QOq.out.2.2 f hf).2 (by decide)⟩) (HBD.out.below hb)
  generalize PM.plainH q.hs = PB at hb4 qp
  have qx : ∀ W, Calls Tryz.prog 29 #[.agg x.u.cells] W fun e w' => e = .returned (.bool (PM.creds x.u.pm)) ∧ Below W.heap.size W w' := fun W => Creds_c x.u W Ix.out.ok.u.us Ix.out.ok.u.pa
  have qq : ∀ W, Calls Tryz.prog 29 #[.agg q.u.cells] W fun e w' => e = .returned (.bool (PM.creds q.u.pm)) ∧ Below W.heap.size W w' := fun W => Creds_c q.u W Iq.out.ok.u.us Iq.out.ok.u.pa
  rw [hur] at qx
  generalize PM.creds q.u.pm = KR at qx qq
  have hat : ∀ W, W.heap[kx]? = some (.cells x.cells 32 (0, 0)) → PcAt W kx q.co q.ta q.po := fun W h => by have h' := PcAt.of_heap h; rw [hco, hta, hpo] at h'; exact h'
  have HAT := Lib.hid hat
  have QP := Lib.hid qp
  have QX := Lib.hid qx
  have QQ := Lib.hid qq
  have HPB := Lib.hid hb4
  have MK : Mark b0 b1 b2 b3 := ⟨⟩
  clear hat qp qx qq hb4 hpl hco hta hpo hur
  go_upto_region 12 with fail
  refine wp_region_noPanic ?_
  refine wp_region_held_drew (S := fun W' => QXS w.heap.size kx q x w W') (by kernel_rfl) (QXS.below ⟨Hq.out, Hx.out, HB.out⟩ (b_drew (Below.refl _ _))) (fun hS0 => ?_)
  cases b0
  cases b1
  cases b2
  cases b3
  all_goals first | (obtain rfl : PB = false := HPB.out) | (obtain rfl : PB = true := HPB.out)
  all_goals
    refine wpAnyH_take (i := 0) (v := ?_) rfl (by kernel_rfl) (by kernel_rfl) (by kernel_rfl) (fun _ _ _ h => h) (Or.inl ⟨by kernel_rfl, fun W hW => ?_⟩) (by assumption) ?_
    rotate_left
    · go_simp
      try with_reducible rfl
    (try simp only [List.getElem_toArray, List.getElem_cons_zero, List.getElem_cons_succ, Act.put, List.setIfInBounds_toArray, List.set_cons_zero, List.set_cons_succ])
  all_goals
    refine wpAnyH_take (i := 1) (v := ?_) rfl (by kernel_rfl) (by kernel_rfl) (by kernel_rfl) (fun _ _ _ h => h) (Or.inl ⟨by kernel_rfl, fun W hW => ?_⟩) (by assumption) ?_
    rotate_left
    · have c22 : W.cell? ⟨w.heap.size, 22, none⟩ = some (.slice q.ha q.hn q.hc) := by rw [Lib.cell_of_heap hW.hq]; rfl
      go_simp
      try with_reducible rfl
    (try simp only [List.getElem_toArray, List.getElem_cons_zero, List.getElem_cons_succ, Act.put, List.setIfInBounds_toArray, List.set_cons_zero, List.set_cons_succ])
  all_goals
    refine wpAnyH_take (i := 3) (v := ?_) rfl (by kernel_rfl) (by kernel_rfl) (by kernel_rfl) (fun _ _ _ h => h) (Or.inl ⟨by kernel_rfl, fun W hW => ?_⟩) (by assumption) ?_
    rotate_left
    · go_simp
      try with_reducible rfl
    (try simp only [List.getElem_toArray, List.getElem_cons_zero, List.getElem_cons_succ, Act.put, List.setIfInBounds_toArray, List.set_cons_zero, List.set_cons_succ])
  all_goals
    refine wpAnyH_ready (rs := [2]) (by kernel_rfl) (by simp) ?_
    refine AllReadyH.cons rfl (fun K hK => ?_) AllReadyH.nil
    go_simp
    refine (QP.out _ hS0.be).mono ?_
    rintro e U2 ⟨rfl, hb⟩
    have hSn := hS0.below hb
    clear hb hS0
    refine hK.out _ _ hSn (fun _ => ?_)
    clear hK K
    (try simp only [List.getElem_toArray, List.getElem_cons_zero, List.getElem_cons_succ, Act.put, List.setIfInBounds_toArray, List.set_cons_zero, List.set_cons_succ])
  all_goals
    refine wpAnyH_take (i := 4) (v := ?_) rfl (by kernel_rfl) (by kernel_rfl) (by kernel_rfl) (fun _ _ _ h => h) (Or.inl ⟨by kernel_rfl, fun W hW => ?_⟩) (by assumption) ?_
    rotate_left
    · go_simp
      try with_reducible rfl
    (try simp only [List.getElem_toArray, List.getElem_cons_zero, List.getElem_cons_succ, Act.put, List.setIfInBounds_toArray, List.set_cons_zero, List.set_cons_succ])
  all_goals first
    | have hm := (MK : Mark false _ _ _)
      clear hm
      refine wpAnyH_take (i := 5) (v := ?_) rfl (by kernel_rfl) (by kernel_rfl) (by kernel_rfl) (fun _ _ _ h => h) (Or.inl ⟨by kernel_rfl, fun W hW => ?_⟩) (by assumption) ?_
      rotate_left
      · go_simp
        try with_reducible rfl
      (try simp only [List.getElem_toArray, List.getElem_cons_zero, List.getElem_cons_succ, Act.put, List.setIfInBounds_toArray, List.set_cons_zero, List.set_cons_succ])
    | refine wpAnyH_take (i := 5) (v := undef) rfl (by kernel_rfl) (by kernel_rfl) (by kernel_rfl) (fun _ _ _ h => h) (Or.inr ⟨by kernel_rfl, rfl⟩) (by assumption) ?_
      (try simp only [List.getElem_toArray, List.getElem_cons_zero, List.getElem_cons_succ, Act.put, List.setIfInBounds_toArray, List.set_cons_zero, List.set_cons_succ])
  all_goals
    refine wpAnyH_take (i := 6) (v := ?_) rfl (by kernel_rfl) (by kernel_rfl) (by kernel_rfl) (fun _ _ _ h => h) (Or.inl ⟨by kernel_rfl, fun W hW => ?_⟩) (by assumption) ?_
    rotate_left
    · go_simp
      try with_reducible rfl
    (try simp only [List.getElem_toArray, List.getElem_cons_zero, List.getElem_cons_succ, Act.put, List.setIfInBounds_toArray, List.set_cons_zero, List.set_cons_succ])
  all_goals
    refine wpAnyH_take (i := 7) (v := ?_) rfl (by kernel_rfl) (by kernel_rfl) (by kernel_rfl) (fun _ _ _ h => h) (Or.inl ⟨by kernel_rfl, fun W hW => ?_⟩) (by assumption) ?_
    rotate_left
    · go_simp
      try with_reducible rfl
    (try simp only [List.getElem_toArray, List.getElem_cons_zero, List.getElem_cons_succ, Act.put, List.setIfInBounds_toArray, List.set_cons_zero, List.set_cons_succ])
  all_goals first
    | have hm := (MK : Mark false false _ _)
      clear hm
      refine wpAnyH_take (i := 8) (v := ?_) rfl (by kernel_rfl) (by kernel_rfl) (by kernel_rfl) (fun _ _ _ h => h) (Or.inl ⟨by kernel_rfl, fun W hW => ?_⟩) (by assumption) ?_
      rotate_left
      · go_simp
        try with_reducible rfl
      (try simp only [List.getElem_toArray, List.getElem_cons_zero, List.getElem_cons_succ, Act.put, List.setIfInBounds_toArray, List.set_cons_zero, List.set_cons_succ])
    | refine wpAnyH_take (i := 8) (v := undef) rfl (by kernel_rfl) (by kernel_rfl) (by kernel_rfl) (fun _ _ _ h => h) (Or.inr ⟨by kernel_rfl, rfl⟩) (by assumption) ?_
      (try simp only [List.getElem_toArray, List.getElem_cons_zero, List.getElem_cons_succ, Act.put, List.setIfInBounds_toArray, List.set_cons_zero, List.set_cons_succ])
  all_goals
    refine wpAnyH_take (i := 9) (v := ?_) rfl (by kernel_rfl) (by kernel_rfl) (by kernel_rfl) (fun _ _ _ h => h) (Or.inl ⟨by kernel_rfl, fun W hW => ?_⟩) (by assumption) ?_
    rotate_left
    · go_simp
      try with_reducible rfl
    (try simp only [List.getElem_toArray, List.getElem_cons_zero, List.getElem_cons_succ, Act.put, List.setIfInBounds_toArray, List.set_cons_zero, List.set_cons_succ])
  all_goals
    refine wpAnyH_take (i := 10) (v := ?_) rfl (by kernel_rfl) (by kernel_rfl) (by kernel_rfl) (fun _ _ _ h => h) (Or.inl ⟨by kernel_rfl, fun W hW => ?_⟩) (by assumption) ?_
    rotate_left
    · go_simp
      try with_reducible rfl
    (try simp only [List.getElem_toArray, List.getElem_cons_zero, List.getElem_cons_succ, Act.put, List.setIfInBounds_toArray, List.set_cons_zero, List.set_cons_succ])
  all_goals first
    | have hm := (MK : Mark false false false _)
      clear hm
      refine wpAnyH_take (i := 11) (v := ?_) rfl (by kernel_rfl) (by kernel_rfl) (by kernel_rfl) (fun _ _ _ h => h) (Or.inl ⟨by kernel_rfl, fun W hW => ?_⟩) (by assumption) ?_
      rotate_left
      · go_simp
        try with_reducible rfl
      (try simp only [List.getElem_toArray, List.getElem_cons_zero, List.getElem_cons_succ, Act.put, List.setIfInBounds_toArray, List.set_cons_zero, List.set_cons_succ])
    | refine wpAnyH_take (i := 11) (v := undef) rfl (by kernel_rfl) (by kernel_rfl) (by kernel_rfl) (fun _ _ _ h => h) (Or.inr ⟨by kernel_rfl, rfl⟩) (by assumption) ?_
      (try simp only [List.getElem_toArray, List.getElem_cons_zero, List.getElem_cons_succ, Act.put, List.setIfInBounds_toArray, List.set_cons_zero, List.set_cons_succ])
  all_goals
    refine wpAnyH_take (i := 12) (v := ?_) rfl (by kernel_rfl) (by kernel_rfl) (by kernel_rfl) (fun _ _ _ h => h) (Or.inl ⟨by kernel_rfl, fun W hW => ?_⟩) (by assumption) ?_
    rotate_left
    · go_simp
      try with_reducible rfl
    (try simp only [List.getElem_toArray, List.getElem_cons_zero, List.getElem_cons_succ, Act.put, List.setIfInBounds_toArray, List.set_cons_zero, List.set_cons_succ])
  all_goals
    refine wpAnyH_take (i := 13) (v := ?_) rfl (by kernel_rfl) (by kernel_rfl) (by kernel_rfl) (fun _ _ _ h => h) (Or.inl ⟨by kernel_rfl, fun W hW => ?_⟩) (by assumption) ?_
    rotate_left
    · go_simp
      try with_reducible rfl
    (try simp only [List.getElem_toArray, List.getElem_cons_zero, List.getElem_cons_succ, Act.put, List.setIfInBounds_toArray, List.set_cons_zero, List.set_cons_succ])
  all_goals
    refine wpAnyH_take (i := 14) (v := ?_) rfl (by kernel_rfl) (by kernel_rfl) (by kernel_rfl) (fun _ _ _ h => h) (Or.inl ⟨by kernel_rfl, fun W hW => ?_⟩) (by assumption) ?_
    rotate_left
    · go_simp
      try with_reducible rfl
    (try simp only [List.getElem_toArray, List.getElem_cons_zero, List.getElem_cons_succ, Act.put, List.setIfInBounds_toArray, List.set_cons_zero, List.set_cons_succ])
  all_goals
    refine wpAnyH_take (i := 15) (v := ?_) rfl (by kernel_rfl) (by kernel_rfl) (by kernel_rfl) (fun _ _ _ h => h) (Or.inl ⟨by kernel_rfl, fun W hW => ?_⟩) (by assumption) ?_
    rotate_left
    · go_simp
      try with_reducible rfl
    (try simp only [List.getElem_toArray, List.getElem_cons_zero, List.getElem_cons_succ, Act.put, List.setIfInBounds_toArray, List.set_cons_zero, List.set_cons_succ])
  all_goals
    refine wpAnyH_take (i := 16) (v := ?_) rfl (by kernel_rfl) (by kernel_rfl) (by kernel_rfl) (fun _ _ _ h => h) (Or.inl ⟨by kernel_rfl, fun W hW => ?_⟩) (by assumption) ?_
    rotate_left
    · go_simp
      try with_reducible rfl
    (try simp only [List.getElem_toArray, List.getElem_cons_zero, List.getElem_cons_succ, Act.put, List.setIfInBounds_toArray, List.set_cons_zero, List.set_cons_succ])
  all_goals
    refine wpAnyH_take (i := 17) (v := ?_) rfl (by kernel_rfl) (by kernel_rfl) (by kernel_rfl) (fun _ _ _ h => h) (Or.inl ⟨by kernel_rfl, fun W hW => ?_⟩) (by assumption) ?_
    rotate_left
    · go_simp
      try with_reducible rfl
    (try simp only [List.getElem_toArray, List.getElem_cons_zero, List.getElem_cons_succ, Act.put, List.setIfInBounds_toArray, List.set_cons_zero, List.set_cons_succ])
  all_goals
    refine wpAnyH_take (i := 18) (v := ?_) rfl (by kernel_rfl) (by kernel_rfl) (by kernel_rfl) (fun _ _ _ h => h) (Or.inl ⟨by kernel_rfl, fun W hW => ?_⟩) (by assumption) ?_
    rotate_left
    · go_simp
      try with_reducible rfl
    (try simp only [List.getElem_toArray, List.getElem_cons_zero, List.getElem_cons_succ, Act.put, List.setIfInBounds_toArray, List.set_cons_zero, List.set_cons_succ])
  all_goals
    refine wpAnyH_take (i := 19) (v := ?_) rfl (by kernel_rfl) (by kernel_rfl) (by kernel_rfl) (fun _ _ _ h => h) (Or.inl ⟨by kernel_rfl, fun W hW => ?_⟩) (by assumption) ?_
    rotate_left
    · go_simp
      try with_reducible rfl
    (try simp only [List.getElem_toArray, List.getElem_cons_zero, List.getElem_cons_succ, Act.put, List.setIfInBounds_toArray, List.set_cons_zero, List.set_cons_succ])
  all_goals
    refine wpAnyH_take (i := 20) (v := ?_) rfl (by kernel_rfl) (by kernel_rfl) (by kernel_rfl) (fun _ _ _ h => h) (Or.inl ⟨by kernel_rfl, fun W hW => ?_⟩) (by assumption) ?_
    rotate_left
    · obtain ⟨c44, c42, c40⟩ := PcAt.of_heap hW.hq
      obtain ⟨d44, d42, d40⟩ := HAT.out _ hW.hx
      go_simp
      try with_reducible rfl
    (try simp only [List.getElem_toArray, List.getElem_cons_zero, List.getElem_cons_succ, Act.put, List.setIfInBounds_toArray, List.set_cons_zero, List.set_cons_succ])
  all_goals
    refine wpAnyH_take (i := 21) (v := ?_) rfl (by kernel_rfl) (by kernel_rfl) (by kernel_rfl) (fun _ _ _ h => h) (Or.inl ⟨by kernel_rfl, fun W hW => ?_⟩) (by assumption) ?_
    rotate_left
    · go_simp
      try with_reducible rfl
    (try simp only [List.getElem_toArray, List.getElem_cons_zero, List.getElem_cons_succ, Act.put, List.setIfInBounds_toArray, List.set_cons_zero, List.set_cons_succ])
  all_goals
    refine wpAnyH_take (i := 22) (v := ?_) rfl (by kernel_rfl) (by kernel_rfl) (by kernel_rfl) (fun _ _ _ h => h) (Or.inl ⟨by kernel_rfl, fun W hW => ?_⟩) (by assumption) ?_
    rotate_left
    · obtain ⟨c44, c42, c40⟩ := PcAt.of_heap hW.hq
      obtain ⟨d44, d42, d40⟩ := HAT.out _ hW.hx
      go_simp
      try with_reducible rfl
    (try simp only [List.getElem_toArray, List.getElem_cons_zero, List.getElem_cons_succ, Act.put, List.setIfInBounds_toArray, List.set_cons_zero, List.set_cons_succ])
  all_goals
    refine wpAnyH_take (i := 23) (v := ?_) rfl (by kernel_rfl) (by kernel_rfl) (by kernel_rfl) (fun _ _ _ h => h) (Or.inl ⟨by kernel_rfl, fun W hW => ?_⟩) (by assumption) ?_
    rotate_left
    · go_simp
      try with_reducible rfl
    (try simp only [List.getElem_toArray, List.getElem_cons_zero, List.getElem_cons_succ, Act.put, List.setIfInBounds_toArray, List.set_cons_zero, List.set_cons_succ])
  all_goals
    refine wpAnyH_take (i := 24) (v := ?_) rfl (by kernel_rfl) (by kernel_rfl) (by kernel_rfl) (fun _ _ _ h => h) (Or.inl ⟨by kernel_rfl, fun W hW => ?_⟩) (by assumption) ?_
    rotate_left
    · go_simp
      try with_reducible rfl
    (try simp only [List.getElem_toArray, List.getElem_cons_zero, List.getElem_cons_succ, Act.put, List.setIfInBounds_toArray, List.set_cons_zero, List.set_cons_succ])
  all_goals
    refine wpAnyH_take (i := 25) (v := ?_) rfl (by kernel_rfl) (by kernel_rfl) (by kernel_rfl) (fun _ _ _ h => h) (Or.inl ⟨by kernel_rfl, fun W hW => ?_⟩) (by assumption) ?_
    rotate_left
    · go_simp
      try with_reducible rfl
    (try simp only [List.getElem_toArray, List.getElem_cons_zero, List.getElem_cons_succ, Act.put, List.setIfInBounds_toArray, List.set_cons_zero, List.set_cons_succ])
  all_goals
    refine wpAnyH_take (i := 26) (v := ?_) rfl (by kernel_rfl) (by kernel_rfl) (by kernel_rfl) (fun _ _ _ h => h) (Or.inl ⟨by kernel_rfl, fun W hW => ?_⟩) (by assumption) ?_
    rotate_left
    · go_simp
      try with_reducible rfl
    (try simp only [List.getElem_toArray, List.getElem_cons_zero, List.getElem_cons_succ, Act.put, List.setIfInBounds_toArray, List.set_cons_zero, List.set_cons_succ])
  all_goals
    refine wpAnyH_take (i := 27) (v := ?_) rfl (by kernel_rfl) (by kernel_rfl) (by kernel_rfl) (fun _ _ _ h => h) (Or.inl ⟨by kernel_rfl, fun W hW => ?_⟩) (by assumption) ?_
    rotate_left
    · obtain ⟨c44, c42, c40⟩ := PcAt.of_heap hW.hq
      obtain ⟨d44, d42, d40⟩ := HAT.out _ hW.hx
      go_simp
      try with_reducible rfl
    (try simp only [List.getElem_toArray, List.getElem_cons_zero, List.getElem_cons_succ, Act.put, List.setIfInBounds_toArray, List.set_cons_zero, List.set_cons_succ])
  all_goals
    refine wpAnyH_take (i := 28) (v := ?_) rfl (by kernel_rfl) (by kernel_rfl) (by kernel_rfl) (fun _ _ _ h => h) (Or.inl ⟨by kernel_rfl, fun W hW => ?_⟩) (by assumption) ?_
    rotate_left
    · go_simp
      try with_reducible rfl
    (try simp only [List.getElem_toArray, List.getElem_cons_zero, List.getElem_cons_succ, Act.put, List.setIfInBounds_toArray, List.set_cons_zero, List.set_cons_succ])
  all_goals
    refine wpAnyH_take (i := 29) (v := ?_) rfl (by kernel_rfl) (by kernel_rfl) (by kernel_rfl) (fun _ _ _ h => h) (Or.inl ⟨by kernel_rfl, fun W hW => ?_⟩) (by assumption) ?_
    rotate_left
    · obtain ⟨c44, c42, c40⟩ := PcAt.of_heap hW.hq
      obtain ⟨d44, d42, d40⟩ := HAT.out _ hW.hx
      go_simp
      try with_reducible rfl
    (try simp only [List.getElem_toArray, List.getElem_cons_zero, List.getElem_cons_succ, Act.put, List.setIfInBounds_toArray, List.set_cons_zero, List.set_cons_succ])
  all_goals
    refine wpAnyH_take (i := 30) (v := ?_) rfl (by kernel_rfl) (by kernel_rfl) (by kernel_rfl) (fun _ _ _ h => h) (Or.inl ⟨by kernel_rfl, fun W hW => ?_⟩) (by assumption) ?_
    rotate_left
    · go_simp
      try with_reducible rfl
    (try simp only [List.getElem_toArray, List.getElem_cons_zero, List.getElem_cons_succ, Act.put, List.setIfInBounds_toArray, List.set_cons_zero, List.set_cons_succ])
  all_goals
    refine wpAnyH_take (i := 31) (v := ?_) rfl (by kernel_rfl) (by kernel_rfl) (by kernel_rfl) (fun _ _ _ h => h) (Or.inl ⟨by kernel_rfl, fun W hW => ?_⟩) (by assumption) ?_
    rotate_left
    · go_simp
      try with_reducible rfl
    (try simp only [List.getElem_toArray, List.getElem_cons_zero, List.getElem_cons_succ, Act.put, List.setIfInBounds_toArray, List.set_cons_zero, List.set_cons_succ])
  all_goals
    refine wpAnyH_take (i := 32) (v := ?_) rfl (by kernel_rfl) (by kernel_rfl) (by kernel_rfl) (fun _ _ _ h => h) (Or.inl ⟨by kernel_rfl, fun W hW => ?_⟩) (by assumption) ?_
    rotate_left
    · go_simp
      try with_reducible rfl
    (try simp only [List.getElem_toArray, List.getElem_cons_zero, List.getElem_cons_succ, Act.put, List.setIfInBounds_toArray, List.set_cons_zero, List.set_cons_succ])
  all_goals
    refine wpAnyH_take (i := 33) (v := ?_) rfl (by kernel_rfl) (by kernel_rfl) (by kernel_rfl) (fun _ _ _ h => h) (Or.inl ⟨by kernel_rfl, fun W hW => ?_⟩) (by assumption) ?_
    rotate_left
    · go_simp
      try with_reducible rfl
    (try simp only [List.getElem_toArray, List.getElem_cons_zero, List.getElem_cons_succ, Act.put, List.setIfInBounds_toArray, List.set_cons_zero, List.set_cons_succ])
  all_goals
    refine wpAnyH_take (i := 34) (v := ?_) rfl (by kernel_rfl) (by kernel_rfl) (by kernel_rfl) (fun _ _ _ h => h) (Or.inl ⟨by kernel_rfl, fun W hW => ?_⟩) (by assumption) ?_
    rotate_left
    · obtain ⟨c44, c42, c40⟩ := PcAt.of_heap hW.hq
      obtain ⟨d44, d42, d40⟩ := HAT.out _ hW.hx
      go_simp
      try with_reducible rfl
    (try simp only [List.getElem_toArray, List.getElem_cons_zero, List.getElem_cons_succ, Act.put, List.setIfInBounds_toArray, List.set_cons_zero, List.set_cons_succ])
  all_goals
    refine wpAnyH_take (i := 35) (v := ?_) rfl (by kernel_rfl) (by kernel_rfl) (by kernel_rfl) (fun _ _ _ h => h) (Or.inl ⟨by kernel_rfl, fun W hW => ?_⟩) (by assumption) ?_
    rotate_left
    · go_simp
      try with_reducible rfl
    (try simp only [List.getElem_toArray, List.getElem_cons_zero, List.getElem_cons_succ, Act.put, List.setIfInBounds_toArray, List.set_cons_zero, List.set_cons_succ])
  all_goals
    refine wpAnyH_take (i := 36) (v := ?_) rfl (by kernel_rfl) (by kernel_rfl) (by kernel_rfl) (fun _ _ _ h => h) (Or.inl ⟨by kernel_rfl, fun W hW => ?_⟩) (by assumption) ?_
    rotate_left
    · obtain ⟨c44, c42, c40⟩ := PcAt.of_heap hW.hq
      obtain ⟨d44, d42, d40⟩ := HAT.out _ hW.hx
      go_simp
      try with_reducible rfl
    (try simp only [List.getElem_toArray, List.getElem_cons_zero, List.getElem_cons_succ, Act.put, List.setIfInBounds_toArray, List.set_cons_zero, List.set_cons_succ])
  all_goals
    refine wpAnyH_take (i := 37) (v := ?_) rfl (by kernel_rfl) (by kernel_rfl) (by kernel_rfl) (fun _ _ _ h => h) (Or.inl ⟨by kernel_rfl, fun W hW => ?_⟩) (by assumption) ?_
    rotate_left
    · go_simp
      try with_reducible rfl
    (try simp only [List.getElem_toArray, List.getElem_cons_zero, List.getElem_cons_succ, Act.put, List.setIfInBounds_toArray, List.set_cons_zero, List.set_cons_succ])
  all_goals
    refine wpAnyH_take (i := 38) (v := ?_) rfl (by kernel_rfl) (by kernel_rfl) (by kernel_rfl) (fun _ _ _ h => h) (Or.inl ⟨by kernel_rfl, fun W hW => ?_⟩) (by assumption) ?_
    rotate_left
    · go_simp
      try with_reducible rfl
    (try simp only [List.getElem_toArray, List.getElem_cons_zero, List.getElem_cons_succ, Act.put, List.setIfInBounds_toArray, List.set_cons_zero, List.set_cons_succ])
  all_goals
    refine wpAnyH_take (i := 39) (v := ?_) rfl (by kernel_rfl) (by kernel_rfl) (by kernel_rfl) (fun _ _ _ h => h) (Or.inl ⟨by kernel_rfl, fun W hW => ?_⟩) (by assumption) ?_
    rotate_left
    · go_simp
      try with_reducible rfl
    (try simp only [List.getElem_toArray, List.getElem_cons_zero, List.getElem_cons_succ, Act.put, List.setIfInBounds_toArray, List.set_cons_zero, List.set_cons_succ])
  all_goals
    refine wpAnyH_take (i := 40) (v := ?_) rfl (by kernel_rfl) (by kernel_rfl) (by kernel_rfl) (fun _ _ _ h => h) (Or.inl ⟨by kernel_rfl, fun W hW => ?_⟩) (by assumption) ?_
    rotate_left
    · go_simp
      try with_reducible rfl
    (try simp only [List.getElem_toArray, List.getElem_cons_zero, List.getElem_cons_succ, Act.put, List.setIfInBounds_toArray, List.set_cons_zero, List.set_cons_succ])
  all_goals
    refine wpAnyH_take (i := 41) (v := ?_) rfl (by kernel_rfl) (by kernel_rfl) (by kernel_rfl) (fun _ _ _ h => h) (Or.inl ⟨by kernel_rfl, fun W hW => ?_⟩) (by assumption) ?_
    rotate_left
    · refine yield_mid 27 (.tmp 105) ?_ kx 0 ?_ x.u.cells (q_url hW.hx) Tryz.underlying27 rfl (by kernel_rfl)
      · rfl
      · rfl
    (try simp only [List.getElem_toArray, List.getElem_cons_zero, List.getElem_cons_succ, Act.put, List.setIfInBounds_toArray, List.set_cons_zero, List.set_cons_succ])
  all_goals
    refine wpAnyH_take (i := 43) (v := ?_) rfl (by kernel_rfl) (by kernel_rfl) (by kernel_rfl) (fun _ _ _ h => h) (Or.inl ⟨by kernel_rfl, fun W hW => ?_⟩) (by assumption) ?_
    rotate_left
    · go_simp
      try with_reducible rfl
    (try simp only [List.getElem_toArray, List.getElem_cons_zero, List.getElem_cons_succ, Act.put, List.setIfInBounds_toArray, List.set_cons_zero, List.set_cons_succ])
  all_goals
    refine wpAnyH_take (i := 44) (v := ?_) rfl (by kernel_rfl) (by kernel_rfl) (by kernel_rfl) (fun _ _ _ h => h) (Or.inl ⟨by kernel_rfl, fun W hW => ?_⟩) (by assumption) ?_
    rotate_left
    · refine yield_mid 27 (.tmp 108) ?_ w.heap.size 0 ?_ q.u.cells (q_url hW.hq) Tryz.underlying27 rfl (by kernel_rfl)
      · rfl
      · rfl
    (try simp only [List.getElem_toArray, List.getElem_cons_zero, List.getElem_cons_succ, Act.put, List.setIfInBounds_toArray, List.set_cons_zero, List.set_cons_succ])
  all_goals
    refine wpAnyH_ready (rs := [42]) (by kernel_rfl) (by simp) ?_
    refine AllReadyH.cons rfl (fun K hK => ?_) AllReadyH.nil
    go_simp
    refine (QX.out _).mono ?_
    rintro e U42 ⟨rfl, hb⟩
    replace hSn := hSn.below hb
    clear hb
    refine hK.out _ _ hSn (fun _ => ?_)
    clear hK K
    (try simp only [List.getElem_toArray, List.getElem_cons_zero, List.getElem_cons_succ, Act.put, List.setIfInBounds_toArray, List.set_cons_zero, List.set_cons_succ])
  all_goals
    refine wpAnyH_ready (rs := [45]) (by kernel_rfl) (by simp) ?_
    refine AllReadyH.cons rfl (fun K hK => ?_) AllReadyH.nil
    go_simp
    refine (QQ.out _).mono ?_
    rintro e U45 ⟨rfl, hb⟩
    replace hSn := hSn.below hb
    clear hb
    refine hK.out _ _ hSn (fun _ => ?_)
    clear hK K
    (try simp only [List.getElem_toArray, List.getElem_cons_zero, List.getElem_cons_succ, Act.put, List.setIfInBounds_toArray, List.set_cons_zero, List.set_cons_succ])
  all_goals
    refine wpAnyH_take (i := 46) (v := ?_) rfl (by kernel_rfl) (by kernel_rfl) (by kernel_rfl) (fun _ _ _ h => h) (Or.inl ⟨by kernel_rfl, fun W hW => ?_⟩) (by assumption) ?_
    rotate_left
    · go_simp
      try with_reducible rfl
    (try simp only [List.getElem_toArray, List.getElem_cons_zero, List.getElem_cons_succ, Act.put, List.setIfInBounds_toArray, List.set_cons_zero, List.set_cons_succ])
  all_goals
    refine wpAnyH_take (i := 47) (v := ?_) rfl (by kernel_rfl) (by kernel_rfl) (by kernel_rfl) (fun _ _ _ h => h) (Or.inl ⟨by kernel_rfl, fun W hW => ?_⟩) (by assumption) ?_
    rotate_left
    · go_simp
      try with_reducible rfl
    (try simp only [List.getElem_toArray, List.getElem_cons_zero, List.getElem_cons_succ, Act.put, List.setIfInBounds_toArray, List.set_cons_zero, List.set_cons_succ])
  all_goals
    refine wpAnyH_take (i := 48) (v := ?_) rfl (by kernel_rfl) (by kernel_rfl) (by kernel_rfl) (fun _ _ _ h => h) (Or.inl ⟨by kernel_rfl, fun W hW => ?_⟩) (by assumption) ?_
    rotate_left
    · go_simp
      try with_reducible rfl
    (try simp only [List.getElem_toArray, List.getElem_cons_zero, List.getElem_cons_succ, Act.put, List.setIfInBounds_toArray, List.set_cons_zero, List.set_cons_succ])
  all_goals
    refine wpAnyH_done (by kernel_rfl) ?_ _
    refine NoPanic.normal ?_
    go_wp2
    go_ret
    exact ⟨rfl, hSn.be⟩
end Go.Proofs.YtppbkblnjlbnfaaGreatDoor
/-! The row of MethodPlain. -/
namespace Go.Proofs.YtppbkblnjlbnfaaGreatDoor
open Go.ChangeShapes Go.WideShapes Go.ChangeAt Go.RowKit
open Go.WideMaps Go.WideElems
open Go.ChangeMaps (open_string shut_string)
theorem methodPlain_reads (os : Os) {H : Type} (enc : TypeId × Value → H) : ∃ x, DataW.whole enc Tryz.prog ((laidWorld os).forCall (fun _ _ => 0) ⟨#[], #[.agg zreq, .int .i64 0], []⟩).memory Tryz.f8.params.toList Rows.methodPlainSpec.vars false (#[.agg zreq, .int .i64 0] : Array Value).toList 8 = some x :=
  Option.isSome_iff_exists.1 (by kernel_rfl)
set_option maxRecDepth 100000 in
theorem methodPlain_lifted (os : Os) (started : os.Started) (H : Type) (enc : TypeId × Value → H) (F : Stop.Interp) :
    ReturnsInHanded {} Tryz.checked os 8 .any ((OpenSpec.ofChange Rows.methodPlainSpec).preRow enc Tryz.prog Tryz.f8 Rows.methodPlainRow.domain false Rows.methodPlainRow.laid) (((OpenSpec.ofChange Rows.methodPlainSpec).at F).post enc Tryz.prog Tryz.f8 false true false false) := by
  obtain ⟨x, hx⟩ := methodPlain_reads os enc
  refine returnsInHanded_of_row (C := Tryz.checked) (s := OpenSpec.ofChange Rows.methodPlainSpec) own started (by kernel_rfl) Tryz.func8
    (witness_row_atRef (enc := enc) (C := Tryz.checked) false (laidWorld os) #[.agg zreq, .int .i64 0] rfl (by kernel_rfl) (by kernel_rfl) (by kernel_rfl)
      (OpenSpec.preRow_of_cond 8 hx rfl (fun k hk => by cases hk) (by kernel_rfl) (laid_met3 os _))) ?_
  intro W base args ds gs before hval0 hW _ _ _ hL hsh _
  have hval : ∀ (j : Nat) t v, Tryz.f8.params[j]? = some t → args[j]? = some v → Value.okWide Tryz.prog W .any base t v := hval0
  have hW' := hW
  obtain ⟨p, q, hA0, hV, rfl, hfz, hnd⟩ := hW
  have hA : DataW.TrodAll enc Tryz.prog W 0 (fun _ => true) true Tryz.f8.params.toList args.toList ds p := hA0
  rw [Tryz.params8] at hA hval
  obtain ⟨v0, v1, d0, d1, p0, p1, rfl, rfl, rfl, h0, h1⟩ := trodAll_two hA
  obtain ⟨rfl, rfl⟩ := trodVars_none hV
  simp only [List.append_nil] at hfz hnd hW'
  have hlt : ∀ x ∈ p0 ++ p1, x.block < W.heap.size := fun x hx => hW'.lt x hx
  have h0k := h0
  obtain ⟨q0, rfl, hr0, hf0⟩ := open_req (hval 0 32 v0 rfl rfl) h0
  have h1k := h1
  obtain ⟨n1, e1, _, _, w1⟩ := open_int Tryz.underlying3 (hval 1 3 v1 rfl rfl) h1
  subst e1
  refine (MethodPlainL_c q0 n1 W hr0 hf0 (gl_of hsh) (tabs_laid3 hL) (bd_laid hL)).mono fun e W' ⟨he, hb⟩ => ?_
  subst he
  refine ⟨_, rfl, _, _, _, [], p0 ++ p1, [], hW', ?_, ?_, ?_, hb.frame _, fun h => by cases h⟩
  · exact trodAll_mk1 (shut_bool Tryz.underlying4 _)
  · exact trodAll_mk2 (Below.trod laidOut (by kernel_rfl) (of_decide_eq_true (by kernel_rfl)) h0k hb (fun x hx => hlt x (by simp [hx]))) (Below.trod laidOut (by kernel_rfl) (of_decide_eq_true (by kernel_rfl)) h1k hb (fun x hx => hlt x (by simp [hx])))
  · rfl
theorem methodPlain_k0 : Rows.methodPlainRow.wf (OpenSpec.ofChange (OpenSpec.ofChange Rows.methodPlainSpec).bare) = true := by kernel_rfl
theorem methodPlain_k3 : Tryz.f8.params.all (PP.readableRec ·) = true := by kernel_rfl
theorem methodPlain_k4 : namedTie PP Rows.methodPlainRow.named (OpenSpec.ofChange Rows.methodPlainSpec).bare.vars = true := by kernel_rfl
theorem methodPlain_k5 : (Rows.methodPlainRow.stops == []) = true := by kernel_rfl
theorem methodPlain_k7 : (Rows.methodPlainRow.knobs == []) = true := by kernel_rfl
theorem methodPlain_k9 : (Rows.methodPlainRow.inPlace == PP.inPlace 8) = true := by kernel_rfl
theorem methodPlain_k10 : (Rows.methodPlainRow.unfollowed == PP.unfollowed 8) = true := by kernel_rfl
theorem methodPlain_k11 : (Rows.methodPlainRow.recurses == PP.recurses 8) = true := by kernel_rfl
theorem methodPlain_k12 : (Rows.methodPlainRow.named == PP.varsNamed 8) = true := by kernel_rfl
theorem methodPlain_k13 : (Rows.methodPlainRow.maps == (Tryz.f8.params.toList ++ (OpenSpec.ofChange Rows.methodPlainSpec).bare.plain.varTypes PP).any (PP.mapsRec ·)) = true := by kernel_rfl
theorem methodPlain_k14 : (Rows.methodPlainRow.ifaces == (Tryz.f8.params.toList ++ (OpenSpec.ofChange Rows.methodPlainSpec).bare.plain.varTypes PP).any (PP.ifacesRec ·)) = true := by kernel_rfl
theorem methodPlain_k15 : (Rows.methodPlainRow.mapsOut == PP.mapsAmong Tryz.f8.resultTypes.toList) = true := by kernel_rfl
theorem methodPlain_k16 : (Rows.methodPlainRow.loops == (Tryz.f8.params.toList ++ (OpenSpec.ofChange Rows.methodPlainSpec).bare.plain.varTypes PP).any (PP.loopsFrom ·)) = true := by kernel_rfl
theorem methodPlain_k17 : (Rows.methodPlainRow.wideKeys == (Tryz.f8.params.toList ++ (OpenSpec.ofChange Rows.methodPlainSpec).bare.plain.varTypes PP ++ Tryz.f8.resultTypes.toList).any (PP.wideKeysFrom ·)) = true := by kernel_rfl
theorem methodPlain_k18 : (OpenSpec.ofChange Rows.methodPlainSpec).bare.vars.all (PP.varReadable ·) = true := by kernel_rfl
theorem methodPlain_k19 : Tryz.f8.resultTypes.all (fun t => PP.readableRec t && decide (t < PP.types.size)) = true := by kernel_rfl
theorem methodPlain_k20 : (Rows.methodPlainRow.ifacesOut == Tryz.f8.resultTypes.toList.any (PP.ifacesRec ·)) = true := by kernel_rfl
theorem methodPlain_k21 : (Rows.methodPlainRow.loopsOut == Tryz.f8.resultTypes.toList.any (PP.loopsFrom ·)) = true := by kernel_rfl
theorem methodPlain_k23 : Rows.methodPlainRow.shortTexts.isNone = true := by kernel_rfl
theorem methodPlain_k28 : (Rows.methodPlainRow.kinds == (if Rows.methodPlainRow.domain.isEmpty then [] else Tryz.f8.params.toList.map fun t => match PP.underlying t with | some (.int k) => some k | _ => none)) = true := by kernel_rfl
theorem methodPlain_k29 : (Rows.methodPlainRow.pinned == Rows.methodPlainRow.pinnedBy) = true := by kernel_rfl
theorem methodPlain_k30 : (Rows.methodPlainRow.veiled == (Tryz.f8.params.toList ++ (OpenSpec.ofChange Rows.methodPlainSpec).bare.plain.varTypes PP ++ Tryz.f8.resultTypes.toList).any (PP.veiledRec ·)) = true := by kernel_rfl
theorem methodPlain_k31 : Rows.methodPlainRow.veiledFits PP Tryz.f8.params.toList (Tryz.f8.params.toList ++ (OpenSpec.ofChange Rows.methodPlainSpec).bare.plain.varTypes PP ++ Tryz.f8.resultTypes.toList) = true := by kernel_rfl
set_option maxRecDepth 100000 in
theorem methodPlain_closed : joinedFacts PP 8 Tryz.f8 (OpenSpec.ofChange Rows.methodPlainSpec).bare Rows.methodPlainRow = true := and2 (and2 (and2 (and2 (and2 (and2 (and2 (and2 (and2 (and2 (and2 (and2 (and2 (and2 (and2 (and2 (and2 (and2 (and2 (and2 (and2 (and2 (and2 (and2 (and2 (and2 (and2 (and2 (and2 (and2 (and2 (methodPlain_k0) j_laidOut) j_rowed) methodPlain_k3) methodPlain_k4) methodPlain_k5) j_stops) methodPlain_k7) j_knobs) methodPlain_k9) methodPlain_k10) methodPlain_k11) methodPlain_k12) methodPlain_k13) methodPlain_k14) methodPlain_k15) methodPlain_k16) methodPlain_k17) methodPlain_k18) methodPlain_k19) methodPlain_k20) methodPlain_k21) j_plain) methodPlain_k23) j_heard) j_enter) j_lift) j_make) methodPlain_k28) methodPlain_k29) methodPlain_k30) methodPlain_k31
theorem methodPlain_named : Tryz.pinned.checked.prog.funcNamed Rows.methodPlainRow.func = some 8 := by kernel_rfl
theorem methodPlain_text : Rows.methodPlainRow.wfByText (OpenSpec.ofChange Rows.methodPlainSpec) = true := by kernel_rfl
theorem methodPlain_goes : false = Rows.methodPlainRow.goesBy Tryz.pinned.checked.prog := by kernel_rfl
theorem methodPlain_said : Rows.MethodPlainSaid :=
  OpenClaim.holds_of_cond 8 Tryz.f8 rfl rfl rfl rfl rfl rfl rfl ⟨rfl, rfl, rfl, rfl, rfl⟩ rfl rfl rfl rfl rfl methodPlain_named Tryz.func8 methodPlain_closed
    (of_decide_eq_true (by kernel_rfl)) (by unfold Func.isWrapper; first | (rw [if_pos (by decide +kernel)]; kernel_rfl) | (rw [if_neg (by decide +kernel)]; exact ⟨rfl, rfl⟩))
    (fun os started H enc _ F => by rw [OpenClaim.pre_eq_preRow]; exact methodPlain_lifted os started H enc F)
theorem methodPlain_plain (f : FuncId) (fn : Func) (hf : Tryz.pinned.checked.prog.funcNamed "postmark/postmarklaw20.MethodPlain" = some f) (hfn : Tryz.pinned.checked.prog.funcs[f]? = some fn) :
    true = Tryz.pinned.checked.prog.looks [] ∧ ∀ (j : Nat) t, fn.params[j]? = some t → Tryz.pinned.checked.prog.wantsStandIn t = false := by
  obtain rfl : f = 8 := Option.some.inj ((show Tryz.prog.funcNamed "postmark/postmarklaw20.MethodPlain" = some 8 by kernel_rfl).symm.trans hf) |>.symm
  obtain rfl : fn = Tryz.f8 := (Option.some.inj (Tryz.func8.symm.trans hfn)).symm
  refine ⟨by kernel_rfl, fun j t ht => ?_⟩
  rw [Tryz.params8] at ht
  have hm := Array.mem_of_getElem? ht
  simp only [Array.mem_def, List.mem_cons, List.not_mem_nil, or_false] at hm
  rcases hm with rfl | rfl
  · exact (show Tryz.prog.wantsStandIn 32 = false by kernel_rfl)
  · exact (show Tryz.prog.wantsStandIn 3 = false by kernel_rfl)
theorem methodPlain_holds : Rows.MethodPlainCardSaid :=
  Claim7.holds_tied_plain_at .later [] _ _ _ _ methodPlain_said (fun _ h => by cases h) methodPlain_text (fun _ h => by cases h) methodPlain_row_tie rfl ⟨rfl, rfl⟩ j_main rfl methodPlain_plain methodPlain_goes
#print axioms methodPlain_holds
end Go.Proofs.YtppbkblnjlbnfaaGreatDoor
