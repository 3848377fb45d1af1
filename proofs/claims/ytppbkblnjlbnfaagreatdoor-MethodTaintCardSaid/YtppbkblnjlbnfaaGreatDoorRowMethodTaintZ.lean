/-
MethodTaint: whatever comes in, the law's call returns true, and the arguments read behind the call as they did before; no condition on them. The row lists the two tables of unicode/utf8 (first, acceptRanges); the card ties them.
-/
import Derived.Test.YtppbkblnjlbnfaaGreatDoorTz
import Derived.Test.YtppbkblnjlbnfaaGreatDoorMr
set_option linter.unusedVariables false
set_option linter.unusedSimpArgs false
/-! The three tables that the rows of method list. -/
namespace Go.Proofs.YtppbkblnjlbnfaaGreatDoor
open Go.ChangeShapes Go.WideShapes Go.ChangeAt Go.RowKit Go.Lib Go.Shelf
def laidThree : List (String × DataW Unit) := [("unicode/utf8.acceptRanges", Rows.laid_unicode_utf8_acceptRanges), ("postmark/method.bodies", Rows.laid_postmark_method_bodies), ("unicode/utf8.first", Rows.laid_unicode_utf8_first)]
theorem tabs_laid3 {W : World} (hL : laidMetH Tryz.prog laidThree W) : Lib.Utf8Tabs 2 3 W := by
  have h := hL
  unfold laidThree at h
  rw [accept_eq, first_eq] at h
  exact utf8Tabs_of_readsT (ρ := tabRen) ⟨by kernel_rfl, by kernel_rfl, by kernel_rfl, by kernel_rfl⟩ ⟨by kernel_rfl, by kernel_rfl, by kernel_rfl, by kernel_rfl, by kernel_rfl, by kernel_rfl, by kernel_rfl⟩ (Lib.laidMet.reads h (.tail _ (.tail _ (.head _)))) (Lib.laidMet.reads h (.head _))
set_option maxRecDepth 100000 in
theorem bd_laid {W : World} (hL : laidMetH Tryz.prog laidThree W) : Bd W := by
  obtain ⟨g, t, cs, fuel, p, hg, hty, hvar, hd⟩ := Lib.laidMet.reads (n := "postmark/method.bodies") (d := Rows.laid_postmark_method_bodies) hL (.tail _ (.head _))
  obtain rfl : 0 = g := Option.some.inj ((show Tryz.prog.globalNamed "postmark/method.bodies" = some 0 by kernel_rfl).symm.trans hg)
  obtain rfl : 73 = t := Option.some.inj ((show (Tryz.prog.globals[0]?).map (·.type) = some 73 by kernel_rfl).symm.trans hty)
  have hc1 : Tryz.prog.cellsOf 9 = 1 := by kernel_rfl
  have key : ∀ i (hi : i < 4), W.cell? ⟨0, i, none⟩ = some (.string (mkS (PM.bodies[i]'hi))) := fun i hi => by
    obtain ⟨fuel', d, q, hdi, he⟩ := array_elem Tryz.underlying73 hd i hi
    rw [hc1] at he
    obtain ⟨s, hs, hx⟩ := DataW.trod_string Tryz.underlying9 he
    rw [World.var?_cell hg hvar i, ← Array.getElem?_toList]
    have h0 := congrArg (·[0]?) hs
    simp only [List.getElem?_take, List.getElem?_drop, Nat.mul_one, Nat.add_zero] at h0
    rw [if_pos (by decide)] at h0
    rw [h0]
    obtain ⟨l, rfl⟩ := mkS_surj s
    have hd2 := (Prod.mk.inj hx.1).1
    rw [mkS_data] at hd2
    subst hd2
    have : i = 0 ∨ i = 1 ∨ i = 2 ∨ i = 3 := by omega
    rcases this with rfl | rfl | rfl | rfl <;> (injection hdi with hdi; injection hdi with hdi; injection hdi with hdi; subst hdi; rfl)
  exact ⟨cell_lt (key 0 (by decide)), key⟩
theorem laid_met3 (os : Os) (args : Array Value) : laidMet Tryz.prog laidThree ((laidWorld os).forCall (fun _ _ => 0) ⟨#[], args, []⟩).memory := by
  unfold laidThree
  rw [accept_eq, first_eq]
  exact (LaidIn.of_run (l := [("unicode/utf8.acceptRanges", Lib.acceptData), ("postmark/method.bodies", Rows.laid_postmark_method_bodies), ("unicode/utf8.first", Lib.firstData)]) [3, 0, 2] 8 (by kernel_rfl) (by kernel_rfl) (by kernel_rfl) (by kernel_rfl)).met
end Go.Proofs.YtppbkblnjlbnfaaGreatDoor
/-! The walk of MethodTaint. -/
namespace Go.Proofs.YtppbkblnjlbnfaaGreatDoor
open Go.RowKit
theorem qfew20_ok {q : QV} {w : World} (hr : RdW w q.u.a q.u.pn q.u.xs) (hf : RdFW w q.ha q.hn q.hs) (h : qfew20 q = true) : QIn q w ∧ q.hn ≤ 1000 ∧ ∀ f ∈ q.hs, f.1.length ≤ 1000 ∧ f.2.length ≤ 1000 := by
  unfold qfew20 at h
  rw [Bool.and_eq_true] at h
  obtain ⟨h1, h2⟩ := few13_ok h.2 hf
  exact ⟨⟨(qfew_ok hr h.1).1, hf⟩, by omega, h2⟩
def TcAt (W : World) (b : Nat) (mo re : Int) (rf : List UInt8) (ta cr : Bool) : Prop := W.cell? ⟨b, 38, none⟩ = some (.int .i64 mo) ∧ W.cell? ⟨b, 39, none⟩ = some (.int .i64 re) ∧ W.cell? ⟨b, 41, none⟩ = some (.string (mkS rf)) ∧ W.cell? ⟨b, 42, none⟩ = some (.bool ta) ∧ W.cell? ⟨b, 43, none⟩ = some (.bool cr)
theorem TcAt.of_heap {W : World} {b : Nat} {q : QV} (h : W.heap[b]? = some (.cells q.cells 32 (0, 0))) : TcAt W b q.mo q.re q.rf q.ta q.cr := ⟨by rw [Lib.cell_of_heap h]; rfl, by rw [Lib.cell_of_heap h]; rfl, by rw [Lib.cell_of_heap h]; rfl, by rw [Lib.cell_of_heap h]; rfl, by rw [Lib.cell_of_heap h]; rfl⟩
structure Mk (a b c d : Bool) : Prop where
/-- The request, the address and what went on, each in its box. -/
structure QXU (gq gu gx : Nat) (q : QV) (u : UV) (x : QV) (w W : World) : Prop where
  hq : W.heap[gq]? = some (.cells q.cells 32 (0, 0))
  hu : W.heap[gu]? = some (.cells u.cells 27 (0, 0))
  hx : W.heap[gx]? = some (.cells x.cells 32 (0, 0))
  be : Below w.heap.size w W
theorem QXU.below {gq gu gx : Nat} {q : QV} {u : UV} {x : QV} {w W W' : World} (h : QXU gq gu gx q u x w W) (hb : Below W.heap.size W W') : QXU gq gu gx q u x w W' := ⟨heap_b hb h.hq, heap_b hb h.hu, heap_b hb h.hx, b_then h.be hb⟩
set_option maxRecDepth 100000 in
set_option maxHeartbeats 32000000 in
theorem MethodTaintL_c (q : QV) (u : UV) (w : World) (hr : RdW w q.u.a q.u.pn q.u.xs) (hf : RdFW w q.ha q.hn q.hs) (hu : RdW w u.a u.pn u.xs) (hg : Gl w) (hT : Lib.Utf8Tabs 2 3 w) (hbd : Bd w) : Calls Tryz.prog 5 #[.agg q.cells, .agg u.cells] w fun e w' => e = .returned (.bool true) ∧ Below w.heap.size w w' := by
  have HG := Lib.hid hg
  have HTB := Lib.hid hT
  have HBD := Lib.hid hbd
  have RRq := Lib.hid hr
  have RFq := Lib.hid hf
  have RRu := Lib.hid hu
  clear hg hT hbd hr hf hu
  have HB : Hid (Below w.heap.size w ((w.alloc (.cells q.cells 32)).alloc (.cells u.cells 27))) := Lib.hid (b_alloc (b_alloc (Below.refl _ _) _) _)
  have Hq : Hid (((w.alloc (.cells q.cells 32)).alloc (.cells u.cells 27)).heap[w.heap.size]? = some (.cells q.cells 32 (0, 0))) := Lib.hid (heap_b (b_alloc (Below.refl _ _) _) (by have h := Go.heap_alloc_new w (.cells q.cells 32); simpa using h))
  have Hu : Hid (((w.alloc (.cells q.cells 32)).alloc (.cells u.cells 27)).heap[w.heap.size + 1]? = some (.cells u.cells 27 (0, 0))) := Lib.hid ((by have h := Go.heap_alloc_new (w.alloc (.cells q.cells 32)) (.cells u.cells 27); simpa using h))
  go_enter Tryz.func5, Tryz.ntmps5
  go_upto_region 1 with fail
  generalize (w.alloc (.cells q.cells 32)).alloc (.cells u.cells 27) = V0 at HB Hq Hu ⊢
  generalize hbu : w.heap.size + 1 = bu at Hu ⊢
  have hlw_bu : w.heap.size ≤ bu := by omega
  have hne_u_q : w.heap.size < bu := by omega
  clear hbu
  go_wp2_with fail
  refine (awake20_c _ (HG.out.below HB.out) (tabs_below HTB.out HB.out) (HBD.out.below HB.out)).mono ?_
  rintro e V1 ⟨rfl, hb⟩
  replace HB := Lib.hid (b_then HB.out hb)
  replace Hu := Lib.hid (obj_b hb Hu.out)
  replace Hq := Lib.hid (obj_b hb Hq.out)
  clear hb
  go_wp2_with (first | go_skip | (refine wpList_load_g 32 _ rfl (by kernel_rfl) w.heap.size rfl Hq.out Tryz.underlying32 rfl (by kernel_rfl) ?_))
  refine (Few20_c q _ (RRq.out.below HB.out) (RFq.out.below HB.out)).mono ?_
  rintro e V2 ⟨rfl, hb⟩
  replace HB := Lib.hid (b_then HB.out hb)
  replace Hu := Lib.hid (obj_b hb Hu.out)
  replace Hq := Lib.hid (obj_b hb Hq.out)
  clear hb
  go_wp2_with (first | go_skip | (refine wpList_load_g 27 _ rfl (by kernel_rfl) bu rfl Hu.out Tryz.underlying27 rfl (by kernel_rfl) ?_))
  refine (Few_c u _ (RRu.out.below HB.out)).mono ?_
  rintro e V3 ⟨rfl, hb⟩
  replace HB := Lib.hid (b_then HB.out hb)
  replace Hu := Lib.hid (obj_b hb Hu.out)
  replace Hq := Lib.hid (obj_b hb Hq.out)
  clear hb
  cases hfq : qfew20 q
  · go_wp2
    go_ret
    exact ⟨rfl, HB.out⟩
  have QOq := Lib.hid (qfew20_ok (RRq.out.below HB.out) (RFq.out.below HB.out) hfq)
  have HFQ := Lib.hid hfq
  clear hfq
  have Iq := Lib.hid QOq.out.1
  cases hfu : PM.few u.pm
  · go_wp2
    go_ret
    exact ⟨rfl, HB.out⟩
  have OKu := Lib.hid (few_ok (RRu.out.below HB.out) hfu)
  have HFU := Lib.hid hfu
  clear hfu
  have Iu := Lib.hid OKu.out
  go_wp2_with (first | go_skip | (refine wpList_load_g 27 _ rfl (by kernel_rfl) bu rfl Hu.out Tryz.underlying27 rfl (by kernel_rfl) ?_) | (refine wpList_load_g 32 _ rfl (by kernel_rfl) w.heap.size rfl Hq.out Tryz.underlying32 rfl (by kernel_rfl) ?_))
  refine (Away_c q u _ Iq.out (fun f hf => Nat.le_trans (QOq.out.2.2 f hf).1 (by decide)) (Nat.le_trans QOq.out.2.1 (by decide)) Iu.out (HG.out.below HB.out)).mono ?_
  rintro e V4 ⟨⟨x, rfl, hvp, hvi, hvn, -⟩, hb⟩
  have Px := Lib.hid hvp
  have Ix := Lib.hid hvi
  have Nx := Lib.hid hvn
  clear hvp hvi hvn
  replace HB := Lib.hid (b_then HB.out hb)
  replace Hu := Lib.hid (obj_b hb Hu.out)
  replace Hq := Lib.hid (obj_b hb Hq.out)
  replace Iq := Lib.hid (Iq.out.below hb)
  replace Iu := Lib.hid (Iu.out.below hb)
  clear hb
  have HN := Lib.hid (Go.heap_alloc_new V4 (.cells #[.string ⟨#[]⟩, .string ⟨#[]⟩, .string ⟨#[]⟩, .int .i64 0, .string ⟨#[]⟩, .int .i64 0, .int .i64 0, .int .i64 0, .int .i64 0, .int .i64 0, .int .i64 0, .int .i64 0, .int .i64 0, .int .i64 0, .int .i64 0, .slice none 0 0, .string ⟨#[]⟩, .string ⟨#[]⟩, .string ⟨#[]⟩, .bool false, .bool false, .string ⟨#[]⟩, .slice none 0 0, .bool false, .bool false, .string ⟨#[]⟩, .int .i64 0, .string ⟨#[]⟩, .int .i64 0, .int .i64 0, .int .i64 0, .int .i64 0, .int .i64 0, .int .i64 0, .int .i64 0, .int .i64 0, .int .i64 0, .int .i64 0, .int .i64 0, .int .i64 0, .int .i64 0, .string ⟨#[]⟩, .bool false, .bool false, .int .i64 0] 32))
  go_upto_region 7 with (first | (refine wpList_store_row rfl 32 _ _ rfl V4.heap.size x.cells rfl rfl 32 _ HN.out (by kernel_rfl) rfl (qagg_one x) ?_))
  obtain ⟨V5, hV⟩ : ∃ V5, V5 = (V4.alloc (.cells #[.string ⟨#[]⟩, .string ⟨#[]⟩, .string ⟨#[]⟩, .int .i64 0, .string ⟨#[]⟩, .int .i64 0, .int .i64 0, .int .i64 0, .int .i64 0, .int .i64 0, .int .i64 0, .int .i64 0, .int .i64 0, .int .i64 0, .int .i64 0, .slice none 0 0, .string ⟨#[]⟩, .string ⟨#[]⟩, .string ⟨#[]⟩, .bool false, .bool false, .string ⟨#[]⟩, .slice none 0 0, .bool false, .bool false, .string ⟨#[]⟩, .int .i64 0, .string ⟨#[]⟩, .int .i64 0, .int .i64 0, .int .i64 0, .int .i64 0, .int .i64 0, .int .i64 0, .int .i64 0, .int .i64 0, .int .i64 0, .int .i64 0, .int .i64 0, .int .i64 0, .int .i64 0, .string ⟨#[]⟩, .bool false, .bool false, .int .i64 0] 32)).setRow V4.heap.size x.cells := ⟨_, rfl⟩
  rw [← hV]
  have Hx : Hid (V5.heap[V4.heap.size]? = some (.cells x.cells 32 (0, 0))) := Lib.hid (by rw [hV]; exact heap_setRow HN.out _)
  have hb : Below V4.heap.size V4 V5 := by rw [hV]; exact below_setRow (b_alloc (Below.refl _ _) _) (Nat.le_refl _) _
  clear hV HN
  replace HB := Lib.hid (b_then HB.out hb)
  replace Hu := Lib.hid (obj_b hb Hu.out)
  replace Hq := Lib.hid (obj_b hb Hq.out)
  replace Iq := Lib.hid (Iq.out.below hb)
  replace Iu := Lib.hid (Iu.out.below hb)
  replace Ix := Lib.hid (Ix.out.below hb)
  clear hb
  generalize V4.heap.size = kx at Hx ⊢
  (try simp only [Act.put])
  obtain ⟨t1, t2, t3, t4, t5, t6, t7, t8⟩ := PM.method_taint q.pm u.pm
  rw [← Px.out] at t1 t2 t3 t4 t5 t6 t7 t8
  have t1 : q.ta = true → x.ta = true := t1
  have t2 : q.cr = true → x.cr = true := t2
  have t3 : x.cr = PM.crossed q.pm := t3
  have t4 : x.ta = true → q.ta = false → PM.both q.u.pm u.pm = false := t4
  have t6 : x.mo = q.mo := t6
  have t7 : x.re = q.re := t7
  have t8 : x.rf = q.rf := t8
  have t5 : PM.originEq x.o.pm q.o.pm = true := (PM.originEq_iff _ _).2 t5
  have ho : ∀ W, (Op.equalIn 10000 30 (.agg x.o.cells) (.agg q.o.cells)).run Tryz.prog W = .ok true W := fun W => by rw [eq_origin x.o q.o W, t5]
  have qc : ∀ W, Below w.heap.size w W → Calls Tryz.prog 28 #[.agg q.cells] W fun e w' => e = .returned (.bool (PM.crossed q.pm)) ∧ Below W.heap.size W w' := fun W hb => Crossed_c q W (qfew20_ok (RRq.out.below hb) (RFq.out.below hb) HFQ.out).1.ok (HG.out.below hb)
  have qb : ∀ W, Below w.heap.size w W → Calls Tryz.prog 26 #[.agg q.u.cells, .agg u.cells] W fun e w' => e = .returned (.bool (PM.both q.u.pm u.pm)) ∧ Below W.heap.size W w' := fun W hb => Both_c q.u u W (qfew20_ok (RRq.out.below hb) (RFq.out.below hb) HFQ.out).1.ok.u (few_ok (RRu.out.below hb) HFU.out) (HG.out.below hb)
  have hat : ∀ W, W.heap[kx]? = some (.cells x.cells 32 (0, 0)) → TcAt W kx q.mo q.re q.rf x.ta (PM.crossed q.pm) := fun W h => by have h' := TcAt.of_heap h; rw [t6, t7, t8, t3] at h'; exact h'
  rw [t3] at t2
  clear t3 t5 t6 t7 t8
  have hqt : ∀ W, W.heap[w.heap.size]? = some (.cells q.cells 32 (0, 0)) → TcAt W w.heap.size q.mo q.re q.rf q.ta q.cr := fun W h => TcAt.of_heap h
  generalize PM.crossed q.pm = C at hat t2 qc
  generalize PM.both q.u.pm u.pm = B at t4 qb
  generalize x.ta = Tx at hat t1 t4
  generalize q.ta = Tq at hqt t1 t4
  generalize q.cr = Cq at hqt t2
  have HAT := Lib.hid hat
  have HQT := Lib.hid hqt
  have QC := Lib.hid qc
  have QB := Lib.hid qb
  have T1 := Lib.hid t1
  have T2 := Lib.hid t2
  have T4 := Lib.hid t4
  clear hat hqt qc qb t1 t2 t4
  simp only [List.append_eq, List.cons_append, List.nil_append]
  refine wp_region_noPanic ?_
  refine wp_region_held_drew (S := fun W' => QXU w.heap.size bu kx q u x w W') (by kernel_rfl) (QXU.below ⟨Hq.out, Hu.out, Hx.out, HB.out⟩ (b_drew (Below.refl _ _))) (fun hS0 => ?_)
  have MK : Mk Tq Tx Cq C := ⟨⟩
  cases Tq <;> cases Tx <;> cases Cq <;> cases C
  all_goals try (have h := T1.out rfl; cases h; done)
  all_goals try (have h := T2.out rfl; cases h; done)
  all_goals try (obtain rfl : B = false := T4.out rfl rfl)
  all_goals
    refine wpAnyH_take (i := 0) (v := ?_) rfl (by kernel_rfl) (by kernel_rfl) (by kernel_rfl) (fun _ _ _ h => h) (Or.inl ⟨by kernel_rfl, fun W hW => ?_⟩) (by assumption) ?_
    rotate_left
    · go_simp
      try with_reducible rfl
    (try simp only [List.getElem_toArray, List.getElem_cons_zero, List.getElem_cons_succ, Act.put, List.setIfInBounds_toArray, List.set_cons_zero, List.set_cons_succ])
  all_goals
    refine wpAnyH_take (i := 1) (v := ?_) rfl (by kernel_rfl) (by kernel_rfl) (by kernel_rfl) (fun _ _ _ h => h) (Or.inl ⟨by kernel_rfl, fun W hW => ?_⟩) (by assumption) ?_
    rotate_left
    · obtain ⟨c38, c39, c41, c42, c43⟩ := HQT.out _ hW.hq
      obtain ⟨d38, d39, d41, d42, d43⟩ := HAT.out _ hW.hx
      go_simp
      try with_reducible rfl
    (try simp only [List.getElem_toArray, List.getElem_cons_zero, List.getElem_cons_succ, Act.put, List.setIfInBounds_toArray, List.set_cons_zero, List.set_cons_succ])
  all_goals
    refine wpAnyH_take (i := 2) (v := ?_) rfl (by kernel_rfl) (by kernel_rfl) (by kernel_rfl) (fun _ _ _ h => h) (Or.inl ⟨by kernel_rfl, fun W hW => ?_⟩) (by assumption) ?_
    rotate_left
    · go_simp
      try with_reducible rfl
    (try simp only [List.getElem_toArray, List.getElem_cons_zero, List.getElem_cons_succ, Act.put, List.setIfInBounds_toArray, List.set_cons_zero, List.set_cons_succ])
  all_goals
    refine wpAnyH_take (i := 3) (v := ?_) rfl (by kernel_rfl) (by kernel_rfl) (by kernel_rfl) (fun _ _ _ h => h) (Or.inl ⟨by kernel_rfl, fun W hW => ?_⟩) (by assumption) ?_
    rotate_left
    · go_simp
      try with_reducible rfl
    (try simp only [List.getElem_toArray, List.getElem_cons_zero, List.getElem_cons_succ, Act.put, List.setIfInBounds_toArray, List.set_cons_zero, List.set_cons_succ])
  all_goals first
    | have hm := (MK : Mk true _ _ _)
      clear hm
      refine wpAnyH_take (i := 4) (v := ?_) rfl (by kernel_rfl) (by kernel_rfl) (by kernel_rfl) (fun _ _ _ h => h) (Or.inl ⟨by kernel_rfl, fun W hW => ?_⟩) (by assumption) ?_
      rotate_left
      · go_simp
        try with_reducible rfl
      (try simp only [List.getElem_toArray, List.getElem_cons_zero, List.getElem_cons_succ, Act.put, List.setIfInBounds_toArray, List.set_cons_zero, List.set_cons_succ])
    | refine wpAnyH_take (i := 4) (v := undef) rfl (by kernel_rfl) (by kernel_rfl) (by kernel_rfl) (fun _ _ _ h => h) (Or.inr ⟨by kernel_rfl, rfl⟩) (by assumption) ?_
      (try simp only [List.getElem_toArray, List.getElem_cons_zero, List.getElem_cons_succ, Act.put, List.setIfInBounds_toArray, List.set_cons_zero, List.set_cons_succ])
  all_goals first
    | have hm := (MK : Mk true _ _ _)
      clear hm
      refine wpAnyH_take (i := 5) (v := ?_) rfl (by kernel_rfl) (by kernel_rfl) (by kernel_rfl) (fun _ _ _ h => h) (Or.inl ⟨by kernel_rfl, fun W hW => ?_⟩) (by assumption) ?_
      rotate_left
      · obtain ⟨c38, c39, c41, c42, c43⟩ := HQT.out _ hW.hq
        obtain ⟨d38, d39, d41, d42, d43⟩ := HAT.out _ hW.hx
        go_simp
        try with_reducible rfl
      (try simp only [List.getElem_toArray, List.getElem_cons_zero, List.getElem_cons_succ, Act.put, List.setIfInBounds_toArray, List.set_cons_zero, List.set_cons_succ])
    | refine wpAnyH_take (i := 5) (v := undef) rfl (by kernel_rfl) (by kernel_rfl) (by kernel_rfl) (fun _ _ _ h => h) (Or.inr ⟨by kernel_rfl, rfl⟩) (by assumption) ?_
      (try simp only [List.getElem_toArray, List.getElem_cons_zero, List.getElem_cons_succ, Act.put, List.setIfInBounds_toArray, List.set_cons_zero, List.set_cons_succ])
  all_goals
    refine wpAnyH_take (i := 6) (v := ?_) rfl (by kernel_rfl) (by kernel_rfl) (by kernel_rfl) (fun _ _ _ h => h) (Or.inl ⟨by kernel_rfl, fun W hW => ?_⟩) (by assumption) ?_
    rotate_left
    · go_simp
      try with_reducible rfl
    (try simp only [List.getElem_toArray, List.getElem_cons_zero, List.getElem_cons_succ, Act.put, List.setIfInBounds_toArray, List.set_cons_zero, List.set_cons_succ])
  all_goals
    refine wpAnyH_take (i := 7) (v := ?_) rfl (by kernel_rfl) (by kernel_rfl) (by kernel_rfl) (fun _ _ _ h => h) (Or.inl ⟨by kernel_rfl, fun W hW => ?_⟩) (by assumption) ?_
    rotate_left
    · go_simp
      try with_reducible rfl
    (try simp only [List.getElem_toArray, List.getElem_cons_zero, List.getElem_cons_succ, Act.put, List.setIfInBounds_toArray, List.set_cons_zero, List.set_cons_succ])
  all_goals
    refine wpAnyH_take (i := 8) (v := ?_) rfl (by kernel_rfl) (by kernel_rfl) (by kernel_rfl) (fun _ _ _ h => h) (Or.inl ⟨by kernel_rfl, fun W hW => ?_⟩) (by assumption) ?_
    rotate_left
    · go_simp
      try with_reducible rfl
    (try simp only [List.getElem_toArray, List.getElem_cons_zero, List.getElem_cons_succ, Act.put, List.setIfInBounds_toArray, List.set_cons_zero, List.set_cons_succ])
  all_goals
    refine wpAnyH_take (i := 9) (v := ?_) rfl (by kernel_rfl) (by kernel_rfl) (by kernel_rfl) (fun _ _ _ h => h) (Or.inl ⟨by kernel_rfl, fun W hW => ?_⟩) (by assumption) ?_
    rotate_left
    · obtain ⟨c38, c39, c41, c42, c43⟩ := HQT.out _ hW.hq
      obtain ⟨d38, d39, d41, d42, d43⟩ := HAT.out _ hW.hx
      go_simp
      try with_reducible rfl
    (try simp only [List.getElem_toArray, List.getElem_cons_zero, List.getElem_cons_succ, Act.put, List.setIfInBounds_toArray, List.set_cons_zero, List.set_cons_succ])
  all_goals
    refine wpAnyH_take (i := 10) (v := ?_) rfl (by kernel_rfl) (by kernel_rfl) (by kernel_rfl) (fun _ _ _ h => h) (Or.inl ⟨by kernel_rfl, fun W hW => ?_⟩) (by assumption) ?_
    rotate_left
    · go_simp
      try with_reducible rfl
    (try simp only [List.getElem_toArray, List.getElem_cons_zero, List.getElem_cons_succ, Act.put, List.setIfInBounds_toArray, List.set_cons_zero, List.set_cons_succ])
  all_goals
    refine wpAnyH_take (i := 11) (v := ?_) rfl (by kernel_rfl) (by kernel_rfl) (by kernel_rfl) (fun _ _ _ h => h) (Or.inl ⟨by kernel_rfl, fun W hW => ?_⟩) (by assumption) ?_
    rotate_left
    · go_simp
      try with_reducible rfl
    (try simp only [List.getElem_toArray, List.getElem_cons_zero, List.getElem_cons_succ, Act.put, List.setIfInBounds_toArray, List.set_cons_zero, List.set_cons_succ])
  all_goals first
    | have hm := (MK : Mk _ _ true _)
      clear hm
      refine wpAnyH_take (i := 12) (v := ?_) rfl (by kernel_rfl) (by kernel_rfl) (by kernel_rfl) (fun _ _ _ h => h) (Or.inl ⟨by kernel_rfl, fun W hW => ?_⟩) (by assumption) ?_
      rotate_left
      · go_simp
        try with_reducible rfl
      (try simp only [List.getElem_toArray, List.getElem_cons_zero, List.getElem_cons_succ, Act.put, List.setIfInBounds_toArray, List.set_cons_zero, List.set_cons_succ])
    | refine wpAnyH_take (i := 12) (v := undef) rfl (by kernel_rfl) (by kernel_rfl) (by kernel_rfl) (fun _ _ _ h => h) (Or.inr ⟨by kernel_rfl, rfl⟩) (by assumption) ?_
      (try simp only [List.getElem_toArray, List.getElem_cons_zero, List.getElem_cons_succ, Act.put, List.setIfInBounds_toArray, List.set_cons_zero, List.set_cons_succ])
  all_goals first
    | have hm := (MK : Mk _ _ true _)
      clear hm
      refine wpAnyH_take (i := 13) (v := ?_) rfl (by kernel_rfl) (by kernel_rfl) (by kernel_rfl) (fun _ _ _ h => h) (Or.inl ⟨by kernel_rfl, fun W hW => ?_⟩) (by assumption) ?_
      rotate_left
      · obtain ⟨c38, c39, c41, c42, c43⟩ := HQT.out _ hW.hq
        obtain ⟨d38, d39, d41, d42, d43⟩ := HAT.out _ hW.hx
        go_simp
        try with_reducible rfl
      (try simp only [List.getElem_toArray, List.getElem_cons_zero, List.getElem_cons_succ, Act.put, List.setIfInBounds_toArray, List.set_cons_zero, List.set_cons_succ])
    | refine wpAnyH_take (i := 13) (v := undef) rfl (by kernel_rfl) (by kernel_rfl) (by kernel_rfl) (fun _ _ _ h => h) (Or.inr ⟨by kernel_rfl, rfl⟩) (by assumption) ?_
      (try simp only [List.getElem_toArray, List.getElem_cons_zero, List.getElem_cons_succ, Act.put, List.setIfInBounds_toArray, List.set_cons_zero, List.set_cons_succ])
  all_goals
    refine wpAnyH_take (i := 14) (v := ?_) rfl (by kernel_rfl) (by kernel_rfl) (by kernel_rfl) (fun _ _ _ h => h) (Or.inl ⟨by kernel_rfl, fun W hW => ?_⟩) (by assumption) ?_
    rotate_left
    · go_simp
      try with_reducible rfl
    (try simp only [List.getElem_toArray, List.getElem_cons_zero, List.getElem_cons_succ, Act.put, List.setIfInBounds_toArray, List.set_cons_zero, List.set_cons_succ])
  all_goals
    refine wpAnyH_take (i := 15) (v := ?_) rfl (by kernel_rfl) (by kernel_rfl) (by kernel_rfl) (fun _ _ _ h => h) (Or.inl ⟨by kernel_rfl, fun W hW => ?_⟩) (by assumption) ?_
    rotate_left
    · go_simp
      try with_reducible rfl
    (try simp only [List.getElem_toArray, List.getElem_cons_zero, List.getElem_cons_succ, Act.put, List.setIfInBounds_toArray, List.set_cons_zero, List.set_cons_succ])
  all_goals
    refine wpAnyH_take (i := 16) (v := ?_) rfl (by kernel_rfl) (by kernel_rfl) (by kernel_rfl) (fun _ _ _ h => h) (Or.inl ⟨by kernel_rfl, fun W hW => ?_⟩) (by assumption) ?_
    rotate_left
    · go_simp
      try with_reducible rfl
    (try simp only [List.getElem_toArray, List.getElem_cons_zero, List.getElem_cons_succ, Act.put, List.setIfInBounds_toArray, List.set_cons_zero, List.set_cons_succ])
  all_goals
    refine wpAnyH_take (i := 17) (v := ?_) rfl (by kernel_rfl) (by kernel_rfl) (by kernel_rfl) (fun _ _ _ h => h) (Or.inl ⟨by kernel_rfl, fun W hW => ?_⟩) (by assumption) ?_
    rotate_left
    · go_simp
      try with_reducible rfl
    (try simp only [List.getElem_toArray, List.getElem_cons_zero, List.getElem_cons_succ, Act.put, List.setIfInBounds_toArray, List.set_cons_zero, List.set_cons_succ])
  all_goals
    refine wpAnyH_take (i := 18) (v := ?_) rfl (by kernel_rfl) (by kernel_rfl) (by kernel_rfl) (fun _ _ _ h => h) (Or.inl ⟨by kernel_rfl, fun W hW => ?_⟩) (by assumption) ?_
    rotate_left
    · obtain ⟨c38, c39, c41, c42, c43⟩ := HQT.out _ hW.hq
      obtain ⟨d38, d39, d41, d42, d43⟩ := HAT.out _ hW.hx
      go_simp
      try with_reducible rfl
    (try simp only [List.getElem_toArray, List.getElem_cons_zero, List.getElem_cons_succ, Act.put, List.setIfInBounds_toArray, List.set_cons_zero, List.set_cons_succ])
  all_goals
    refine wpAnyH_take (i := 19) (v := ?_) rfl (by kernel_rfl) (by kernel_rfl) (by kernel_rfl) (fun _ _ _ h => h) (Or.inl ⟨by kernel_rfl, fun W hW => ?_⟩) (by assumption) ?_
    rotate_left
    · refine yield_row 32 (.tmp 2) ?_ w.heap.size ?_ hW.hq Tryz.underlying32 rfl (by kernel_rfl)
      · rfl
      · rfl
    (try simp only [List.getElem_toArray, List.getElem_cons_zero, List.getElem_cons_succ, Act.put, List.setIfInBounds_toArray, List.set_cons_zero, List.set_cons_succ])
  all_goals
    refine wpAnyH_ready (rs := [20]) (by kernel_rfl) (by simp) ?_
    refine AllReadyH.cons rfl (fun K hK => ?_) AllReadyH.nil
    go_simp
    refine (QC.out _ hS0.be).mono ?_
    rintro e U20 ⟨rfl, hb⟩
    have hSn := hS0.below hb
    clear hb hS0
    refine hK.out _ _ hSn (fun _ => ?_)
    clear hK K
    (try simp only [List.getElem_toArray, List.getElem_cons_zero, List.getElem_cons_succ, Act.put, List.setIfInBounds_toArray, List.set_cons_zero, List.set_cons_succ])
  all_goals
    refine wpAnyH_take (i := 21) (v := ?_) rfl (by kernel_rfl) (by kernel_rfl) (by kernel_rfl) (fun _ _ _ h => h) (Or.inl ⟨by kernel_rfl, fun W hW => ?_⟩) (by assumption) ?_
    rotate_left
    · go_simp
      try with_reducible rfl
    (try simp only [List.getElem_toArray, List.getElem_cons_zero, List.getElem_cons_succ, Act.put, List.setIfInBounds_toArray, List.set_cons_zero, List.set_cons_succ])
  all_goals
    refine wpAnyH_take (i := 22) (v := ?_) rfl (by kernel_rfl) (by kernel_rfl) (by kernel_rfl) (fun _ _ _ h => h) (Or.inl ⟨by kernel_rfl, fun W hW => ?_⟩) (by assumption) ?_
    rotate_left
    · go_simp
      try with_reducible rfl
    (try simp only [List.getElem_toArray, List.getElem_cons_zero, List.getElem_cons_succ, Act.put, List.setIfInBounds_toArray, List.set_cons_zero, List.set_cons_succ])
  all_goals
    refine wpAnyH_take (i := 23) (v := ?_) rfl (by kernel_rfl) (by kernel_rfl) (by kernel_rfl) (fun _ _ _ h => h) (Or.inl ⟨by kernel_rfl, fun W hW => ?_⟩) (by assumption) ?_
    rotate_left
    · go_simp
      try with_reducible rfl
    (try simp only [List.getElem_toArray, List.getElem_cons_zero, List.getElem_cons_succ, Act.put, List.setIfInBounds_toArray, List.set_cons_zero, List.set_cons_succ])
  all_goals
    refine wpAnyH_take (i := 24) (v := ?_) rfl (by kernel_rfl) (by kernel_rfl) (by kernel_rfl) (fun _ _ _ h => h) (Or.inl ⟨by kernel_rfl, fun W hW => ?_⟩) (by assumption) ?_
    rotate_left
    · go_simp
      try with_reducible rfl
    (try simp only [List.getElem_toArray, List.getElem_cons_zero, List.getElem_cons_succ, Act.put, List.setIfInBounds_toArray, List.set_cons_zero, List.set_cons_succ])
  all_goals
    refine wpAnyH_take (i := 25) (v := ?_) rfl (by kernel_rfl) (by kernel_rfl) (by kernel_rfl) (fun _ _ _ h => h) (Or.inl ⟨by kernel_rfl, fun W hW => ?_⟩) (by assumption) ?_
    rotate_left
    · obtain ⟨c38, c39, c41, c42, c43⟩ := HQT.out _ hW.hq
      obtain ⟨d38, d39, d41, d42, d43⟩ := HAT.out _ hW.hx
      go_simp
      try with_reducible rfl
    (try simp only [List.getElem_toArray, List.getElem_cons_zero, List.getElem_cons_succ, Act.put, List.setIfInBounds_toArray, List.set_cons_zero, List.set_cons_succ])
  all_goals
    refine wpAnyH_take (i := 26) (v := ?_) rfl (by kernel_rfl) (by kernel_rfl) (by kernel_rfl) (fun _ _ _ h => h) (Or.inl ⟨by kernel_rfl, fun W hW => ?_⟩) (by assumption) ?_
    rotate_left
    · go_simp
      try with_reducible rfl
    (try simp only [List.getElem_toArray, List.getElem_cons_zero, List.getElem_cons_succ, Act.put, List.setIfInBounds_toArray, List.set_cons_zero, List.set_cons_succ])
  all_goals
    refine wpAnyH_take (i := 27) (v := ?_) rfl (by kernel_rfl) (by kernel_rfl) (by kernel_rfl) (fun _ _ _ h => h) (Or.inl ⟨by kernel_rfl, fun W hW => ?_⟩) (by assumption) ?_
    rotate_left
    · go_simp
      try with_reducible rfl
    (try simp only [List.getElem_toArray, List.getElem_cons_zero, List.getElem_cons_succ, Act.put, List.setIfInBounds_toArray, List.set_cons_zero, List.set_cons_succ])
  all_goals first
    | have hm := (MK : Mk _ true _ _)
      clear hm
      refine wpAnyH_take (i := 28) (v := ?_) rfl (by kernel_rfl) (by kernel_rfl) (by kernel_rfl) (fun _ _ _ h => h) (Or.inl ⟨by kernel_rfl, fun W hW => ?_⟩) (by assumption) ?_
      rotate_left
      · go_simp
        try with_reducible rfl
      (try simp only [List.getElem_toArray, List.getElem_cons_zero, List.getElem_cons_succ, Act.put, List.setIfInBounds_toArray, List.set_cons_zero, List.set_cons_succ])
    | refine wpAnyH_take (i := 28) (v := undef) rfl (by kernel_rfl) (by kernel_rfl) (by kernel_rfl) (fun _ _ _ h => h) (Or.inr ⟨by kernel_rfl, rfl⟩) (by assumption) ?_
      (try simp only [List.getElem_toArray, List.getElem_cons_zero, List.getElem_cons_succ, Act.put, List.setIfInBounds_toArray, List.set_cons_zero, List.set_cons_succ])
  all_goals first
    | have hm := (MK : Mk _ true _ _)
      clear hm
      refine wpAnyH_take (i := 29) (v := ?_) rfl (by kernel_rfl) (by kernel_rfl) (by kernel_rfl) (fun _ _ _ h => h) (Or.inl ⟨by kernel_rfl, fun W hW => ?_⟩) (by assumption) ?_
      rotate_left
      · obtain ⟨c38, c39, c41, c42, c43⟩ := HQT.out _ hW.hq
        obtain ⟨d38, d39, d41, d42, d43⟩ := HAT.out _ hW.hx
        go_simp
        try with_reducible rfl
      (try simp only [List.getElem_toArray, List.getElem_cons_zero, List.getElem_cons_succ, Act.put, List.setIfInBounds_toArray, List.set_cons_zero, List.set_cons_succ])
    | refine wpAnyH_take (i := 29) (v := undef) rfl (by kernel_rfl) (by kernel_rfl) (by kernel_rfl) (fun _ _ _ h => h) (Or.inr ⟨by kernel_rfl, rfl⟩) (by assumption) ?_
      (try simp only [List.getElem_toArray, List.getElem_cons_zero, List.getElem_cons_succ, Act.put, List.setIfInBounds_toArray, List.set_cons_zero, List.set_cons_succ])
  all_goals
    refine wpAnyH_take (i := 30) (v := ?_) rfl (by kernel_rfl) (by kernel_rfl) (by kernel_rfl) (fun _ _ _ h => h) (Or.inl ⟨by kernel_rfl, fun W hW => ?_⟩) (by assumption) ?_
    rotate_left
    · go_simp
      try with_reducible rfl
    (try simp only [List.getElem_toArray, List.getElem_cons_zero, List.getElem_cons_succ, Act.put, List.setIfInBounds_toArray, List.set_cons_zero, List.set_cons_succ])
  all_goals
    refine wpAnyH_take (i := 31) (v := ?_) rfl (by kernel_rfl) (by kernel_rfl) (by kernel_rfl) (fun _ _ _ h => h) (Or.inl ⟨by kernel_rfl, fun W hW => ?_⟩) (by assumption) ?_
    rotate_left
    · go_simp
      try with_reducible rfl
    (try simp only [List.getElem_toArray, List.getElem_cons_zero, List.getElem_cons_succ, Act.put, List.setIfInBounds_toArray, List.set_cons_zero, List.set_cons_succ])
  all_goals first
    | have hm := (MK : Mk false true _ _)
      clear hm
      refine wpAnyH_take (i := 32) (v := ?_) rfl (by kernel_rfl) (by kernel_rfl) (by kernel_rfl) (fun _ _ _ h => h) (Or.inl ⟨by kernel_rfl, fun W hW => ?_⟩) (by assumption) ?_
      rotate_left
      · go_simp
        try with_reducible rfl
      (try simp only [List.getElem_toArray, List.getElem_cons_zero, List.getElem_cons_succ, Act.put, List.setIfInBounds_toArray, List.set_cons_zero, List.set_cons_succ])
    | refine wpAnyH_take (i := 32) (v := undef) rfl (by kernel_rfl) (by kernel_rfl) (by kernel_rfl) (fun _ _ _ h => h) (Or.inr ⟨by kernel_rfl, rfl⟩) (by assumption) ?_
      (try simp only [List.getElem_toArray, List.getElem_cons_zero, List.getElem_cons_succ, Act.put, List.setIfInBounds_toArray, List.set_cons_zero, List.set_cons_succ])
  all_goals first
    | have hm := (MK : Mk false true _ _)
      clear hm
      refine wpAnyH_take (i := 33) (v := ?_) rfl (by kernel_rfl) (by kernel_rfl) (by kernel_rfl) (fun _ _ _ h => h) (Or.inl ⟨by kernel_rfl, fun W hW => ?_⟩) (by assumption) ?_
      rotate_left
      · refine yield_mid 27 (.tmp 60) ?_ w.heap.size 0 ?_ q.u.cells (q_url hW.hq) Tryz.underlying27 rfl (by kernel_rfl)
        · rfl
        · rfl
      (try simp only [List.getElem_toArray, List.getElem_cons_zero, List.getElem_cons_succ, Act.put, List.setIfInBounds_toArray, List.set_cons_zero, List.set_cons_succ])
    | refine wpAnyH_take (i := 33) (v := undef) rfl (by kernel_rfl) (by kernel_rfl) (by kernel_rfl) (fun _ _ _ h => h) (Or.inr ⟨by kernel_rfl, rfl⟩) (by assumption) ?_
      (try simp only [List.getElem_toArray, List.getElem_cons_zero, List.getElem_cons_succ, Act.put, List.setIfInBounds_toArray, List.set_cons_zero, List.set_cons_succ])
  all_goals first
    | have hm := (MK : Mk false true _ _)
      clear hm
      refine wpAnyH_take (i := 34) (v := ?_) rfl (by kernel_rfl) (by kernel_rfl) (by kernel_rfl) (fun _ _ _ h => h) (Or.inl ⟨by kernel_rfl, fun W hW => ?_⟩) (by assumption) ?_
      rotate_left
      · refine yield_row 27 (.tmp 3) ?_ bu ?_ hW.hu Tryz.underlying27 rfl (by kernel_rfl)
        · rfl
        · rfl
      (try simp only [List.getElem_toArray, List.getElem_cons_zero, List.getElem_cons_succ, Act.put, List.setIfInBounds_toArray, List.set_cons_zero, List.set_cons_succ])
    | refine wpAnyH_take (i := 34) (v := undef) rfl (by kernel_rfl) (by kernel_rfl) (by kernel_rfl) (fun _ _ _ h => h) (Or.inr ⟨by kernel_rfl, rfl⟩) (by assumption) ?_
      (try simp only [List.getElem_toArray, List.getElem_cons_zero, List.getElem_cons_succ, Act.put, List.setIfInBounds_toArray, List.set_cons_zero, List.set_cons_succ])
  all_goals first
    | have hm := (MK : Mk false true _ _)
      clear hm
      refine wpAnyH_ready (rs := [35]) (by kernel_rfl) (by simp) ?_
      refine AllReadyH.cons rfl (fun K hK => ?_) AllReadyH.nil
      go_simp
      refine (QB.out _ hSn.be).mono ?_
      rintro e U35 ⟨rfl, hb⟩
      replace hSn := hSn.below hb
      clear hb
      refine hK.out _ _ hSn (fun _ => ?_)
      clear hK K
      (try simp only [List.getElem_toArray, List.getElem_cons_zero, List.getElem_cons_succ, Act.put, List.setIfInBounds_toArray, List.set_cons_zero, List.set_cons_succ])
    | refine wpAnyH_take (i := 35) (v := undef) rfl (by kernel_rfl) (by kernel_rfl) (by kernel_rfl) (fun _ _ _ h => h) (Or.inr ⟨by kernel_rfl, rfl⟩) (by assumption) ?_
      (try simp only [List.getElem_toArray, List.getElem_cons_zero, List.getElem_cons_succ, Act.put, List.setIfInBounds_toArray, List.set_cons_zero, List.set_cons_succ])
  all_goals first
    | have hm := (MK : Mk false true _ _)
      clear hm
      refine wpAnyH_take (i := 36) (v := ?_) rfl (by kernel_rfl) (by kernel_rfl) (by kernel_rfl) (fun _ _ _ h => h) (Or.inl ⟨by kernel_rfl, fun W hW => ?_⟩) (by assumption) ?_
      rotate_left
      · go_simp
        try with_reducible rfl
      (try simp only [List.getElem_toArray, List.getElem_cons_zero, List.getElem_cons_succ, Act.put, List.setIfInBounds_toArray, List.set_cons_zero, List.set_cons_succ])
    | refine wpAnyH_take (i := 36) (v := undef) rfl (by kernel_rfl) (by kernel_rfl) (by kernel_rfl) (fun _ _ _ h => h) (Or.inr ⟨by kernel_rfl, rfl⟩) (by assumption) ?_
      (try simp only [List.getElem_toArray, List.getElem_cons_zero, List.getElem_cons_succ, Act.put, List.setIfInBounds_toArray, List.set_cons_zero, List.set_cons_succ])
  all_goals
    refine wpAnyH_take (i := 37) (v := ?_) rfl (by kernel_rfl) (by kernel_rfl) (by kernel_rfl) (fun _ _ _ h => h) (Or.inl ⟨by kernel_rfl, fun W hW => ?_⟩) (by assumption) ?_
    rotate_left
    · go_simp
      try with_reducible rfl
    (try simp only [List.getElem_toArray, List.getElem_cons_zero, List.getElem_cons_succ, Act.put, List.setIfInBounds_toArray, List.set_cons_zero, List.set_cons_succ])
  all_goals
    refine wpAnyH_take (i := 38) (v := ?_) rfl (by kernel_rfl) (by kernel_rfl) (by kernel_rfl) (fun _ _ _ h => h) (Or.inl ⟨by kernel_rfl, fun W hW => ?_⟩) (by assumption) ?_
    rotate_left
    · go_simp
      try with_reducible rfl
    (try simp only [List.getElem_toArray, List.getElem_cons_zero, List.getElem_cons_succ, Act.put, List.setIfInBounds_toArray, List.set_cons_zero, List.set_cons_succ])
  all_goals
    refine wpAnyH_take (i := 39) (v := ?_) rfl (by kernel_rfl) (by kernel_rfl) (by kernel_rfl) (fun _ _ _ h => h) (Or.inl ⟨by kernel_rfl, fun W hW => ?_⟩) (by assumption) ?_
    rotate_left
    · go_simp
      try with_reducible rfl
    (try simp only [List.getElem_toArray, List.getElem_cons_zero, List.getElem_cons_succ, Act.put, List.setIfInBounds_toArray, List.set_cons_zero, List.set_cons_succ])
  all_goals
    refine wpAnyH_take (i := 40) (v := ?_) rfl (by kernel_rfl) (by kernel_rfl) (by kernel_rfl) (fun _ _ _ h => h) (Or.inl ⟨by kernel_rfl, fun W hW => ?_⟩) (by assumption) ?_
    rotate_left
    · go_simp
      try with_reducible rfl
    (try simp only [List.getElem_toArray, List.getElem_cons_zero, List.getElem_cons_succ, Act.put, List.setIfInBounds_toArray, List.set_cons_zero, List.set_cons_succ])
  all_goals
    refine wpAnyH_take (i := 41) (v := ?_) rfl (by kernel_rfl) (by kernel_rfl) (by kernel_rfl) (fun _ _ _ h => h) (Or.inl ⟨by kernel_rfl, fun W hW => ?_⟩) (by assumption) ?_
    rotate_left
    · refine yield_mid 30 (.tmp 68) ?_ kx 24 ?_ x.o.cells (q_org hW.hx) Tryz.underlying30 rfl (by kernel_rfl)
      · rfl
      · rfl
    (try simp only [List.getElem_toArray, List.getElem_cons_zero, List.getElem_cons_succ, Act.put, List.setIfInBounds_toArray, List.set_cons_zero, List.set_cons_succ])
  all_goals
    refine wpAnyH_take (i := 42) (v := ?_) rfl (by kernel_rfl) (by kernel_rfl) (by kernel_rfl) (fun _ _ _ h => h) (Or.inl ⟨by kernel_rfl, fun W hW => ?_⟩) (by assumption) ?_
    rotate_left
    · go_simp
      try with_reducible rfl
    (try simp only [List.getElem_toArray, List.getElem_cons_zero, List.getElem_cons_succ, Act.put, List.setIfInBounds_toArray, List.set_cons_zero, List.set_cons_succ])
  all_goals
    refine wpAnyH_take (i := 43) (v := ?_) rfl (by kernel_rfl) (by kernel_rfl) (by kernel_rfl) (fun _ _ _ h => h) (Or.inl ⟨by kernel_rfl, fun W hW => ?_⟩) (by assumption) ?_
    rotate_left
    · refine yield_mid 30 (.tmp 70) ?_ w.heap.size 24 ?_ q.o.cells (q_org hW.hq) Tryz.underlying30 rfl (by kernel_rfl)
      · rfl
      · rfl
    (try simp only [List.getElem_toArray, List.getElem_cons_zero, List.getElem_cons_succ, Act.put, List.setIfInBounds_toArray, List.set_cons_zero, List.set_cons_succ])
  all_goals
    refine wpAnyH_take (i := 44) (v := ?_) rfl (by kernel_rfl) (by kernel_rfl) (by kernel_rfl) (fun _ _ _ h => h) (Or.inl ⟨by kernel_rfl, fun W hW => ?_⟩) (by assumption) ?_
    rotate_left
    · go_simp
      try with_reducible rfl
    (try simp only [List.getElem_toArray, List.getElem_cons_zero, List.getElem_cons_succ, Act.put, List.setIfInBounds_toArray, List.set_cons_zero, List.set_cons_succ])
  all_goals
    refine wpAnyH_take (i := 45) (v := ?_) rfl (by kernel_rfl) (by kernel_rfl) (by kernel_rfl) (fun _ _ _ h => h) (Or.inl ⟨by kernel_rfl, fun W hW => ?_⟩) (by assumption) ?_
    rotate_left
    · go_simp
      try with_reducible rfl
    (try simp only [List.getElem_toArray, List.getElem_cons_zero, List.getElem_cons_succ, Act.put, List.setIfInBounds_toArray, List.set_cons_zero, List.set_cons_succ])
  all_goals
    refine wpAnyH_take (i := 46) (v := ?_) rfl (by kernel_rfl) (by kernel_rfl) (by kernel_rfl) (fun _ _ _ h => h) (Or.inl ⟨by kernel_rfl, fun W hW => ?_⟩) (by assumption) ?_
    rotate_left
    · go_simp
      try with_reducible rfl
    (try simp only [List.getElem_toArray, List.getElem_cons_zero, List.getElem_cons_succ, Act.put, List.setIfInBounds_toArray, List.set_cons_zero, List.set_cons_succ])
  all_goals
    refine wpAnyH_take (i := 47) (v := ?_) rfl (by kernel_rfl) (by kernel_rfl) (by kernel_rfl) (fun _ _ _ h => h) (Or.inl ⟨by kernel_rfl, fun W hW => ?_⟩) (by assumption) ?_
    rotate_left
    · go_simp
      try with_reducible rfl
    (try simp only [List.getElem_toArray, List.getElem_cons_zero, List.getElem_cons_succ, Act.put, List.setIfInBounds_toArray, List.set_cons_zero, List.set_cons_succ])
  all_goals
    refine wpAnyH_take (i := 48) (v := ?_) rfl (by kernel_rfl) (by kernel_rfl) (by kernel_rfl) (fun _ _ _ h => h) (Or.inl ⟨by kernel_rfl, fun W hW => ?_⟩) (by assumption) ?_
    rotate_left
    · obtain ⟨c38, c39, c41, c42, c43⟩ := HQT.out _ hW.hq
      obtain ⟨d38, d39, d41, d42, d43⟩ := HAT.out _ hW.hx
      go_simp
      try with_reducible rfl
    (try simp only [List.getElem_toArray, List.getElem_cons_zero, List.getElem_cons_succ, Act.put, List.setIfInBounds_toArray, List.set_cons_zero, List.set_cons_succ])
  all_goals
    refine wpAnyH_take (i := 49) (v := ?_) rfl (by kernel_rfl) (by kernel_rfl) (by kernel_rfl) (fun _ _ _ h => h) (Or.inl ⟨by kernel_rfl, fun W hW => ?_⟩) (by assumption) ?_
    rotate_left
    · go_simp
      try with_reducible rfl
    (try simp only [List.getElem_toArray, List.getElem_cons_zero, List.getElem_cons_succ, Act.put, List.setIfInBounds_toArray, List.set_cons_zero, List.set_cons_succ])
  all_goals
    refine wpAnyH_take (i := 50) (v := ?_) rfl (by kernel_rfl) (by kernel_rfl) (by kernel_rfl) (fun _ _ _ h => h) (Or.inl ⟨by kernel_rfl, fun W hW => ?_⟩) (by assumption) ?_
    rotate_left
    · obtain ⟨c38, c39, c41, c42, c43⟩ := HQT.out _ hW.hq
      obtain ⟨d38, d39, d41, d42, d43⟩ := HAT.out _ hW.hx
      go_simp
      try with_reducible rfl
    (try simp only [List.getElem_toArray, List.getElem_cons_zero, List.getElem_cons_succ, Act.put, List.setIfInBounds_toArray, List.set_cons_zero, List.set_cons_succ])
  all_goals
    refine wpAnyH_take (i := 51) (v := ?_) rfl (by kernel_rfl) (by kernel_rfl) (by kernel_rfl) (fun _ _ _ h => h) (Or.inl ⟨by kernel_rfl, fun W hW => ?_⟩) (by assumption) ?_
    rotate_left
    · go_simp
      try with_reducible rfl
    (try simp only [List.getElem_toArray, List.getElem_cons_zero, List.getElem_cons_succ, Act.put, List.setIfInBounds_toArray, List.set_cons_zero, List.set_cons_succ])
  all_goals
    refine wpAnyH_take (i := 52) (v := ?_) rfl (by kernel_rfl) (by kernel_rfl) (by kernel_rfl) (fun _ _ _ h => h) (Or.inl ⟨by kernel_rfl, fun W hW => ?_⟩) (by assumption) ?_
    rotate_left
    · go_simp
      try with_reducible rfl
    (try simp only [List.getElem_toArray, List.getElem_cons_zero, List.getElem_cons_succ, Act.put, List.setIfInBounds_toArray, List.set_cons_zero, List.set_cons_succ])
  all_goals
    refine wpAnyH_take (i := 53) (v := ?_) rfl (by kernel_rfl) (by kernel_rfl) (by kernel_rfl) (fun _ _ _ h => h) (Or.inl ⟨by kernel_rfl, fun W hW => ?_⟩) (by assumption) ?_
    rotate_left
    · go_simp
      try with_reducible rfl
    (try simp only [List.getElem_toArray, List.getElem_cons_zero, List.getElem_cons_succ, Act.put, List.setIfInBounds_toArray, List.set_cons_zero, List.set_cons_succ])
  all_goals
    refine wpAnyH_take (i := 54) (v := ?_) rfl (by kernel_rfl) (by kernel_rfl) (by kernel_rfl) (fun _ _ _ h => h) (Or.inl ⟨by kernel_rfl, fun W hW => ?_⟩) (by assumption) ?_
    rotate_left
    · go_simp
      try with_reducible rfl
    (try simp only [List.getElem_toArray, List.getElem_cons_zero, List.getElem_cons_succ, Act.put, List.setIfInBounds_toArray, List.set_cons_zero, List.set_cons_succ])
  all_goals
    refine wpAnyH_take (i := 55) (v := ?_) rfl (by kernel_rfl) (by kernel_rfl) (by kernel_rfl) (fun _ _ _ h => h) (Or.inl ⟨by kernel_rfl, fun W hW => ?_⟩) (by assumption) ?_
    rotate_left
    · obtain ⟨c38, c39, c41, c42, c43⟩ := HQT.out _ hW.hq
      obtain ⟨d38, d39, d41, d42, d43⟩ := HAT.out _ hW.hx
      go_simp
      try with_reducible rfl
    (try simp only [List.getElem_toArray, List.getElem_cons_zero, List.getElem_cons_succ, Act.put, List.setIfInBounds_toArray, List.set_cons_zero, List.set_cons_succ])
  all_goals
    refine wpAnyH_take (i := 56) (v := ?_) rfl (by kernel_rfl) (by kernel_rfl) (by kernel_rfl) (fun _ _ _ h => h) (Or.inl ⟨by kernel_rfl, fun W hW => ?_⟩) (by assumption) ?_
    rotate_left
    · go_simp
      try with_reducible rfl
    (try simp only [List.getElem_toArray, List.getElem_cons_zero, List.getElem_cons_succ, Act.put, List.setIfInBounds_toArray, List.set_cons_zero, List.set_cons_succ])
  all_goals
    refine wpAnyH_take (i := 57) (v := ?_) rfl (by kernel_rfl) (by kernel_rfl) (by kernel_rfl) (fun _ _ _ h => h) (Or.inl ⟨by kernel_rfl, fun W hW => ?_⟩) (by assumption) ?_
    rotate_left
    · obtain ⟨c38, c39, c41, c42, c43⟩ := HQT.out _ hW.hq
      obtain ⟨d38, d39, d41, d42, d43⟩ := HAT.out _ hW.hx
      go_simp
      try with_reducible rfl
    (try simp only [List.getElem_toArray, List.getElem_cons_zero, List.getElem_cons_succ, Act.put, List.setIfInBounds_toArray, List.set_cons_zero, List.set_cons_succ])
  all_goals
    refine wpAnyH_take (i := 58) (v := ?_) rfl (by kernel_rfl) (by kernel_rfl) (by kernel_rfl) (fun _ _ _ h => h) (Or.inl ⟨by kernel_rfl, fun W hW => ?_⟩) (by assumption) ?_
    rotate_left
    · go_simp
      try with_reducible rfl
    (try simp only [List.getElem_toArray, List.getElem_cons_zero, List.getElem_cons_succ, Act.put, List.setIfInBounds_toArray, List.set_cons_zero, List.set_cons_succ])
  all_goals
    refine wpAnyH_take (i := 59) (v := ?_) rfl (by kernel_rfl) (by kernel_rfl) (by kernel_rfl) (fun _ _ _ h => h) (Or.inl ⟨by kernel_rfl, fun W hW => ?_⟩) (by assumption) ?_
    rotate_left
    · go_simp
      try with_reducible rfl
    (try simp only [List.getElem_toArray, List.getElem_cons_zero, List.getElem_cons_succ, Act.put, List.setIfInBounds_toArray, List.set_cons_zero, List.set_cons_succ])
  all_goals
    refine wpAnyH_take (i := 60) (v := ?_) rfl (by kernel_rfl) (by kernel_rfl) (by kernel_rfl) (fun _ _ _ h => h) (Or.inl ⟨by kernel_rfl, fun W hW => ?_⟩) (by assumption) ?_
    rotate_left
    · go_simp
      try with_reducible rfl
    (try simp only [List.getElem_toArray, List.getElem_cons_zero, List.getElem_cons_succ, Act.put, List.setIfInBounds_toArray, List.set_cons_zero, List.set_cons_succ])
  all_goals
    refine wpAnyH_take (i := 61) (v := ?_) rfl (by kernel_rfl) (by kernel_rfl) (by kernel_rfl) (fun _ _ _ h => h) (Or.inl ⟨by kernel_rfl, fun W hW => ?_⟩) (by assumption) ?_
    rotate_left
    · go_simp
      try with_reducible rfl
    (try simp only [List.getElem_toArray, List.getElem_cons_zero, List.getElem_cons_succ, Act.put, List.setIfInBounds_toArray, List.set_cons_zero, List.set_cons_succ])
  all_goals
    refine wpAnyH_take (i := 62) (v := ?_) rfl (by kernel_rfl) (by kernel_rfl) (by kernel_rfl) (fun _ _ _ h => h) (Or.inl ⟨by kernel_rfl, fun W hW => ?_⟩) (by assumption) ?_
    rotate_left
    · obtain ⟨c38, c39, c41, c42, c43⟩ := HQT.out _ hW.hq
      obtain ⟨d38, d39, d41, d42, d43⟩ := HAT.out _ hW.hx
      go_simp
      try with_reducible rfl
    (try simp only [List.getElem_toArray, List.getElem_cons_zero, List.getElem_cons_succ, Act.put, List.setIfInBounds_toArray, List.set_cons_zero, List.set_cons_succ])
  all_goals
    refine wpAnyH_take (i := 63) (v := ?_) rfl (by kernel_rfl) (by kernel_rfl) (by kernel_rfl) (fun _ _ _ h => h) (Or.inl ⟨by kernel_rfl, fun W hW => ?_⟩) (by assumption) ?_
    rotate_left
    · go_simp
      try with_reducible rfl
    (try simp only [List.getElem_toArray, List.getElem_cons_zero, List.getElem_cons_succ, Act.put, List.setIfInBounds_toArray, List.set_cons_zero, List.set_cons_succ])
  all_goals
    refine wpAnyH_take (i := 64) (v := ?_) rfl (by kernel_rfl) (by kernel_rfl) (by kernel_rfl) (fun _ _ _ h => h) (Or.inl ⟨by kernel_rfl, fun W hW => ?_⟩) (by assumption) ?_
    rotate_left
    · obtain ⟨c38, c39, c41, c42, c43⟩ := HQT.out _ hW.hq
      obtain ⟨d38, d39, d41, d42, d43⟩ := HAT.out _ hW.hx
      go_simp
      try with_reducible rfl
    (try simp only [List.getElem_toArray, List.getElem_cons_zero, List.getElem_cons_succ, Act.put, List.setIfInBounds_toArray, List.set_cons_zero, List.set_cons_succ])
  all_goals
    refine wpAnyH_take (i := 65) (v := ?_) rfl (by kernel_rfl) (by kernel_rfl) (by kernel_rfl) (fun _ _ _ h => h) (Or.inl ⟨by kernel_rfl, fun W hW => ?_⟩) (by assumption) ?_
    rotate_left
    · go_simp
      try with_reducible rfl
    (try simp only [List.getElem_toArray, List.getElem_cons_zero, List.getElem_cons_succ, Act.put, List.setIfInBounds_toArray, List.set_cons_zero, List.set_cons_succ])
  all_goals
    refine wpAnyH_take (i := 66) (v := ?_) rfl (by kernel_rfl) (by kernel_rfl) (by kernel_rfl) (fun _ _ _ h => h) (Or.inl ⟨by kernel_rfl, fun W hW => ?_⟩) (by assumption) ?_
    rotate_left
    · go_simp
      try with_reducible rfl
    (try simp only [List.getElem_toArray, List.getElem_cons_zero, List.getElem_cons_succ, Act.put, List.setIfInBounds_toArray, List.set_cons_zero, List.set_cons_succ])
  all_goals
    refine wpAnyH_take (i := 67) (v := ?_) rfl (by kernel_rfl) (by kernel_rfl) (by kernel_rfl) (fun _ _ _ h => h) (Or.inl ⟨by kernel_rfl, fun W hW => ?_⟩) (by assumption) ?_
    rotate_left
    · go_simp
      try with_reducible rfl
    (try simp only [List.getElem_toArray, List.getElem_cons_zero, List.getElem_cons_succ, Act.put, List.setIfInBounds_toArray, List.set_cons_zero, List.set_cons_succ])
  all_goals
    refine wpAnyH_done (by kernel_rfl) ?_ _
    refine NoPanic.normal ?_
    go_wp2
    go_ret
    exact ⟨rfl, hSn.be⟩
end Go.Proofs.YtppbkblnjlbnfaaGreatDoor
/-! The row of MethodTaint. -/
namespace Go.Proofs.YtppbkblnjlbnfaaGreatDoor
open Go.ChangeShapes Go.WideShapes Go.ChangeAt Go.RowKit
open Go.WideMaps Go.WideElems
open Go.ChangeMaps (open_string shut_string)
theorem methodTaint_reads (os : Os) {H : Type} (enc : TypeId × Value → H) : ∃ x, DataW.whole enc Tryz.prog ((laidWorld os).forCall (fun _ _ => 0) ⟨#[], #[.agg zreq, .agg #[.string ⟨#[]⟩, .string ⟨#[]⟩, .string ⟨#[]⟩, .int .i64 0, .string ⟨#[]⟩, .int .i64 0, .int .i64 0, .int .i64 0, .int .i64 0, .int .i64 0, .int .i64 0, .int .i64 0, .int .i64 0, .int .i64 0, .int .i64 0, .slice none 0 0, .string ⟨#[]⟩, .string ⟨#[]⟩, .string ⟨#[]⟩, .bool false, .bool false]], []⟩).memory Tryz.f5.params.toList Rows.methodTaintSpec.vars false (#[.agg zreq, .agg #[.string ⟨#[]⟩, .string ⟨#[]⟩, .string ⟨#[]⟩, .int .i64 0, .string ⟨#[]⟩, .int .i64 0, .int .i64 0, .int .i64 0, .int .i64 0, .int .i64 0, .int .i64 0, .int .i64 0, .int .i64 0, .int .i64 0, .int .i64 0, .slice none 0 0, .string ⟨#[]⟩, .string ⟨#[]⟩, .string ⟨#[]⟩, .bool false, .bool false]] : Array Value).toList 8 = some x :=
  Option.isSome_iff_exists.1 (by kernel_rfl)
set_option maxRecDepth 100000 in
theorem methodTaint_lifted (os : Os) (started : os.Started) (H : Type) (enc : TypeId × Value → H) (F : Stop.Interp) :
    ReturnsInHanded {} Tryz.checked os 5 .any ((OpenSpec.ofChange Rows.methodTaintSpec).preRow enc Tryz.prog Tryz.f5 Rows.methodTaintRow.domain false Rows.methodTaintRow.laid) (((OpenSpec.ofChange Rows.methodTaintSpec).at F).post enc Tryz.prog Tryz.f5 false true false false) := by
  obtain ⟨x, hx⟩ := methodTaint_reads os enc
  refine returnsInHanded_of_row (C := Tryz.checked) (s := OpenSpec.ofChange Rows.methodTaintSpec) own started (by kernel_rfl) Tryz.func5
    (witness_row_atRef (enc := enc) (C := Tryz.checked) false (laidWorld os) #[.agg zreq, .agg #[.string ⟨#[]⟩, .string ⟨#[]⟩, .string ⟨#[]⟩, .int .i64 0, .string ⟨#[]⟩, .int .i64 0, .int .i64 0, .int .i64 0, .int .i64 0, .int .i64 0, .int .i64 0, .int .i64 0, .int .i64 0, .int .i64 0, .int .i64 0, .slice none 0 0, .string ⟨#[]⟩, .string ⟨#[]⟩, .string ⟨#[]⟩, .bool false, .bool false]] rfl (by kernel_rfl) (by kernel_rfl) (by kernel_rfl)
      (OpenSpec.preRow_of_cond 8 hx rfl (fun k hk => by cases hk) (by kernel_rfl) (laid_met3 os _))) ?_
  intro W base args ds gs before hval0 hW _ _ _ hL hsh _
  have hval : ∀ (j : Nat) t v, Tryz.f5.params[j]? = some t → args[j]? = some v → Value.okWide Tryz.prog W .any base t v := hval0
  have hW' := hW
  obtain ⟨p, q, hA0, hV, rfl, hfz, hnd⟩ := hW
  have hA : DataW.TrodAll enc Tryz.prog W 0 (fun _ => true) true Tryz.f5.params.toList args.toList ds p := hA0
  rw [Tryz.params5] at hA hval
  obtain ⟨v0, v1, d0, d1, p0, p1, rfl, rfl, rfl, h0, h1⟩ := trodAll_two hA
  obtain ⟨rfl, rfl⟩ := trodVars_none hV
  simp only [List.append_nil] at hfz hnd hW'
  have hlt : ∀ x ∈ p0 ++ p1, x.block < W.heap.size := fun x hx => hW'.lt x hx
  have h0k := h0
  obtain ⟨q0, rfl, hr0, hf0⟩ := open_req (hval 0 32 v0 rfl rfl) h0
  have h1k := h1
  obtain ⟨u1, rfl, hr1⟩ := open_url (hval 1 27 v1 rfl rfl) h1
  refine (MethodTaintL_c q0 u1 W hr0 hf0 hr1 (gl_of hsh) (tabs_laid3 hL) (bd_laid hL)).mono fun e W' ⟨he, hb⟩ => ?_
  subst he
  refine ⟨_, rfl, _, _, _, [], p0 ++ p1, [], hW', ?_, ?_, ?_, hb.frame _, fun h => by cases h⟩
  · exact trodAll_mk1 (shut_bool Tryz.underlying4 _)
  · exact trodAll_mk2 (Below.trod laidOut (by kernel_rfl) (of_decide_eq_true (by kernel_rfl)) h0k hb (fun x hx => hlt x (by simp [hx]))) (Below.trod laidOut (by kernel_rfl) (of_decide_eq_true (by kernel_rfl)) h1k hb (fun x hx => hlt x (by simp [hx])))
  · rfl
theorem methodTaint_k0 : Rows.methodTaintRow.wf (OpenSpec.ofChange (OpenSpec.ofChange Rows.methodTaintSpec).bare) = true := by kernel_rfl
theorem methodTaint_k3 : Tryz.f5.params.all (PP.readableRec ·) = true := by kernel_rfl
theorem methodTaint_k4 : namedTie PP Rows.methodTaintRow.named (OpenSpec.ofChange Rows.methodTaintSpec).bare.vars = true := by kernel_rfl
theorem methodTaint_k5 : (Rows.methodTaintRow.stops == []) = true := by kernel_rfl
theorem methodTaint_k7 : (Rows.methodTaintRow.knobs == []) = true := by kernel_rfl
theorem methodTaint_k9 : (Rows.methodTaintRow.inPlace == PP.inPlace 5) = true := by kernel_rfl
theorem methodTaint_k10 : (Rows.methodTaintRow.unfollowed == PP.unfollowed 5) = true := by kernel_rfl
theorem methodTaint_k11 : (Rows.methodTaintRow.recurses == PP.recurses 5) = true := by kernel_rfl
theorem methodTaint_k12 : (Rows.methodTaintRow.named == PP.varsNamed 5) = true := by kernel_rfl
theorem methodTaint_k13 : (Rows.methodTaintRow.maps == (Tryz.f5.params.toList ++ (OpenSpec.ofChange Rows.methodTaintSpec).bare.plain.varTypes PP).any (PP.mapsRec ·)) = true := by kernel_rfl
theorem methodTaint_k14 : (Rows.methodTaintRow.ifaces == (Tryz.f5.params.toList ++ (OpenSpec.ofChange Rows.methodTaintSpec).bare.plain.varTypes PP).any (PP.ifacesRec ·)) = true := by kernel_rfl
theorem methodTaint_k15 : (Rows.methodTaintRow.mapsOut == PP.mapsAmong Tryz.f5.resultTypes.toList) = true := by kernel_rfl
theorem methodTaint_k16 : (Rows.methodTaintRow.loops == (Tryz.f5.params.toList ++ (OpenSpec.ofChange Rows.methodTaintSpec).bare.plain.varTypes PP).any (PP.loopsFrom ·)) = true := by kernel_rfl
theorem methodTaint_k17 : (Rows.methodTaintRow.wideKeys == (Tryz.f5.params.toList ++ (OpenSpec.ofChange Rows.methodTaintSpec).bare.plain.varTypes PP ++ Tryz.f5.resultTypes.toList).any (PP.wideKeysFrom ·)) = true := by kernel_rfl
theorem methodTaint_k18 : (OpenSpec.ofChange Rows.methodTaintSpec).bare.vars.all (PP.varReadable ·) = true := by kernel_rfl
theorem methodTaint_k19 : Tryz.f5.resultTypes.all (fun t => PP.readableRec t && decide (t < PP.types.size)) = true := by kernel_rfl
theorem methodTaint_k20 : (Rows.methodTaintRow.ifacesOut == Tryz.f5.resultTypes.toList.any (PP.ifacesRec ·)) = true := by kernel_rfl
theorem methodTaint_k21 : (Rows.methodTaintRow.loopsOut == Tryz.f5.resultTypes.toList.any (PP.loopsFrom ·)) = true := by kernel_rfl
theorem methodTaint_k23 : Rows.methodTaintRow.shortTexts.isNone = true := by kernel_rfl
theorem methodTaint_k28 : (Rows.methodTaintRow.kinds == (if Rows.methodTaintRow.domain.isEmpty then [] else Tryz.f5.params.toList.map fun t => match PP.underlying t with | some (.int k) => some k | _ => none)) = true := by kernel_rfl
theorem methodTaint_k29 : (Rows.methodTaintRow.pinned == Rows.methodTaintRow.pinnedBy) = true := by kernel_rfl
theorem methodTaint_k30 : (Rows.methodTaintRow.veiled == (Tryz.f5.params.toList ++ (OpenSpec.ofChange Rows.methodTaintSpec).bare.plain.varTypes PP ++ Tryz.f5.resultTypes.toList).any (PP.veiledRec ·)) = true := by kernel_rfl
theorem methodTaint_k31 : Rows.methodTaintRow.veiledFits PP Tryz.f5.params.toList (Tryz.f5.params.toList ++ (OpenSpec.ofChange Rows.methodTaintSpec).bare.plain.varTypes PP ++ Tryz.f5.resultTypes.toList) = true := by kernel_rfl
set_option maxRecDepth 100000 in
theorem methodTaint_closed : joinedFacts PP 5 Tryz.f5 (OpenSpec.ofChange Rows.methodTaintSpec).bare Rows.methodTaintRow = true := and2 (and2 (and2 (and2 (and2 (and2 (and2 (and2 (and2 (and2 (and2 (and2 (and2 (and2 (and2 (and2 (and2 (and2 (and2 (and2 (and2 (and2 (and2 (and2 (and2 (and2 (and2 (and2 (and2 (and2 (and2 (methodTaint_k0) j_laidOut) j_rowed) methodTaint_k3) methodTaint_k4) methodTaint_k5) j_stops) methodTaint_k7) j_knobs) methodTaint_k9) methodTaint_k10) methodTaint_k11) methodTaint_k12) methodTaint_k13) methodTaint_k14) methodTaint_k15) methodTaint_k16) methodTaint_k17) methodTaint_k18) methodTaint_k19) methodTaint_k20) methodTaint_k21) j_plain) methodTaint_k23) j_heard) j_enter) j_lift) j_make) methodTaint_k28) methodTaint_k29) methodTaint_k30) methodTaint_k31
theorem methodTaint_named : Tryz.pinned.checked.prog.funcNamed Rows.methodTaintRow.func = some 5 := by kernel_rfl
theorem methodTaint_text : Rows.methodTaintRow.wfByText (OpenSpec.ofChange Rows.methodTaintSpec) = true := by kernel_rfl
theorem methodTaint_goes : false = Rows.methodTaintRow.goesBy Tryz.pinned.checked.prog := by kernel_rfl
theorem methodTaint_said : Rows.MethodTaintSaid :=
  OpenClaim.holds_of_cond 5 Tryz.f5 rfl rfl rfl rfl rfl rfl rfl ⟨rfl, rfl, rfl, rfl, rfl⟩ rfl rfl rfl rfl rfl methodTaint_named Tryz.func5 methodTaint_closed
    (of_decide_eq_true (by kernel_rfl)) (by unfold Func.isWrapper; first | (rw [if_pos (by decide +kernel)]; kernel_rfl) | (rw [if_neg (by decide +kernel)]; exact ⟨rfl, rfl⟩))
    (fun os started H enc _ F => by rw [OpenClaim.pre_eq_preRow]; exact methodTaint_lifted os started H enc F)
theorem methodTaint_plain (f : FuncId) (fn : Func) (hf : Tryz.pinned.checked.prog.funcNamed "postmark/postmarklaw20.MethodTaint" = some f) (hfn : Tryz.pinned.checked.prog.funcs[f]? = some fn) :
    true = Tryz.pinned.checked.prog.looks [] ∧ ∀ (j : Nat) t, fn.params[j]? = some t → Tryz.pinned.checked.prog.wantsStandIn t = false := by
  obtain rfl : f = 5 := Option.some.inj ((show Tryz.prog.funcNamed "postmark/postmarklaw20.MethodTaint" = some 5 by kernel_rfl).symm.trans hf) |>.symm
  obtain rfl : fn = Tryz.f5 := (Option.some.inj (Tryz.func5.symm.trans hfn)).symm
  refine ⟨by kernel_rfl, fun j t ht => ?_⟩
  rw [Tryz.params5] at ht
  have hm := Array.mem_of_getElem? ht
  simp only [Array.mem_def, List.mem_cons, List.not_mem_nil, or_false] at hm
  rcases hm with rfl | rfl
  · exact (show Tryz.prog.wantsStandIn 32 = false by kernel_rfl)
  · exact (show Tryz.prog.wantsStandIn 27 = false by kernel_rfl)
theorem methodTaint_holds : Rows.MethodTaintCardSaid :=
  Claim7.holds_tied_plain_at .later [] _ _ _ _ methodTaint_said (fun _ h => by cases h) methodTaint_text (fun _ h => by cases h) methodTaint_row_tie rfl ⟨rfl, rfl⟩ j_main rfl methodTaint_plain methodTaint_goes
#print axioms methodTaint_holds
end Go.Proofs.YtppbkblnjlbnfaaGreatDoor
