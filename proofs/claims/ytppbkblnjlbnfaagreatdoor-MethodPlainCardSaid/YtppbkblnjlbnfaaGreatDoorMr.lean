import Derived.Test.YtppbkblnjlbnfaaGreatDoorMq
set_option linter.unusedVariables false
set_option linter.unusedSimpArgs false
/-! Contracts: package method. -/
namespace Go.Proofs.YtppbkblnjlbnfaaGreatDoor
open Go.RowKit
/-- copy of fields into a row of just as many. -/
theorem run_copy_F (g n c c2 B : Nat) (a : Option Addr) (l : List (List UInt8 × List UInt8)) (cur : Array Value) (W : World) (h : RdFW W a n l) (hg : W.heap[g]? = some (.cells cur 50 (0, 0))) (hs : cur.size = n * 2) (hB : B ≤ g) :
    ∃ W', (∀ ty : TypeId, (Builtin.copy_ #[28, 28] ty #[.slice (some ⟨g, 0, none⟩) n c2, .slice a n c]).run Tryz.prog W = .ok (goInt n) W') ∧ W'.heap[g]? = some (.cells (flds l).toArray 50 (0, 0)) ∧ Below B W W' ∧ Ko g W W' := by
  obtain ⟨i0, hi, hz0, hz1, hz2⟩ := info_parts infoField
  have hlen := h.len
  subst hlen
  rcases h.at_ with rfl | ⟨b, o, rfl, hlt, hc⟩
  · have hcur : cur = #[] := Array.eq_empty_of_size_eq_zero (by simpa using hs)
    subst hcur
    refine ⟨W, fun ty => ?_, hg, Below.refl _ _, Ko.refl _ _⟩
    cases a <;> simp [Builtin.copy_, run_underlying Tryz.underlying28, sizeOf, typeInfo, hi, Builtin.lenOf, Builtin.firstCells, loadCells, loadCellsFrom, storeCells, goInt]
  · have hl := run_loadCells_list (P := Tryz.prog) W ⟨b, o, none⟩ (flds l) (RdFW.news (n := l.length) hc)
    have hst := run_storeCells_at Tryz.prog g 0 50 (flds l) 0 cur W hg (by simp [flds_len, hs]) (flds_one l)
    have hd : cur.toList.drop (0 + (flds l).length) = [] := List.drop_of_length_le (by simp [flds_len, hs])
    refine ⟨W.setRow g (flds l).toArray, fun ty => ?_, heap_setRow hg _, below_setRow (Below.refl _ _) hB _, ⟨by simp [World.setRow], fun k o hk ho => by rw [heap_setRow_other (fun e => hk e.symm)]; exact ho⟩⟩
    rw [flds_len] at hl hd hst
    simp only [Nat.zero_add, List.take_zero, List.nil_append, Nat.add_zero] at hst hd
    rw [hd, List.append_nil] at hst
    simp [Builtin.copy_, run_underlying Tryz.underlying28, Builtin.lenOf, Builtin.firstCells, sizeOf, typeInfo, hi, hz1, hl, hst]
theorem RdFW.frame {w W : World} {a : Option Addr} {n : Nat} {l : List (List UInt8 × List UInt8)} (h : RdFW w a n l) (hsz : w.heap.size ≤ W.heap.size) (hk : ∀ g o, a = some ⟨g, o, none⟩ → l ≠ [] → W.heap[g]? = w.heap[g]?) : RdFW W a n l :=
  ⟨h.len, by
    rcases h.at_ with e | ⟨b, o, e, hlt, hc⟩
    · exact .inl e
    · rcases Classical.em (l = []) with e0 | e0
      · exact .inl e0
      · exact .inr ⟨b, o, e, Nat.lt_of_lt_of_le hlt hsz, fun j hj => ⟨(World.cell?_of_block (a := ⟨b, o + j * 2, none⟩) (hk b o e e0)).trans (hc j hj).1, (World.cell?_of_block (a := ⟨b, o + (j * 2 + 1), none⟩) (hk b o e e0)).trans (hc j hj).2⟩⟩⟩
theorem RdFW.set {w : World} {a : Option Addr} {n : Nat} {l : List (List UInt8 × List UInt8)} (h : RdFW w a n l) {b : Nat} (hf : ∀ g o, a = some ⟨g, o, none⟩ → l ≠ [] → g ≠ b) (k : Nat) (v : Value) : RdFW (w.setCell ⟨b, k, none⟩ v) a n l :=
  h.frame (by simp [World.setCell]) fun g o e hx => heap_set_other rfl _ _ _ (hf g o e hx).symm
theorem RdFW.row {w : World} {a : Option Addr} {n : Nat} {l : List (List UInt8 × List UInt8)} (h : RdFW w a n l) {b : Nat} (hf : ∀ g o, a = some ⟨g, o, none⟩ → l ≠ [] → g ≠ b) (cs : Array Value) : RdFW (w.setRow b cs) a n l :=
  h.frame (by simp [World.setRow]) fun g o e hx => heap_setRow_other (hf g o e hx).symm _
theorem RdS.set {w : World} {a : Option Addr} {n : Nat} {l : List (List UInt8)} (h : RdS w a n l) {b : Nat} (hf : ∀ g o, a = some ⟨g, o, none⟩ → l ≠ [] → g ≠ b) (k : Nat) (v : Value) : RdS (w.setCell ⟨b, k, none⟩ v) a n l :=
  h.frame (by simp [World.setCell]) fun g o e hx => heap_set_other rfl _ _ _ (hf g o e hx).symm
theorem RdS.row {w : World} {a : Option Addr} {n : Nat} {l : List (List UInt8)} (h : RdS w a n l) {b : Nat} (hf : ∀ g o, a = some ⟨g, o, none⟩ → l ≠ [] → g ≠ b) (cs : Array Value) : RdS (w.setRow b cs) a n l :=
  h.frame (by simp [World.setRow]) fun g o e hx => heap_setRow_other (hf g o e hx).symm _
/-- A request whose texts lie in the world. -/
structure QIn (v : QV) (W : World) : Prop where
  ok : v.Ok W
  rd : RdFW W v.ha v.hn v.hs
/-- Its fields and its path lie from block B on. -/
structure QFr (B : Nat) (v : QV) : Prop where
  hf : ∀ g o, v.ha = some ⟨g, o, none⟩ → B ≤ g
  pf : From B v.u.a v.u.xs
/-- They do not lie in block k. -/
structure QNo (k : Nat) (v : QV) : Prop where
  hf : ∀ g o, v.ha = some ⟨g, o, none⟩ → v.hs ≠ [] → g ≠ k
  pf : ∀ g o, v.u.a = some ⟨g, o, none⟩ → v.u.xs ≠ [] → g ≠ k
theorem QFr.no {B k : Nat} {v : QV} (h : QFr B v) (hk : k < B) : QNo k v := ⟨fun g o e _ => by have := h.hf g o e; omega, fun g o e hx => by have := h.pf g o e hx; omega⟩
theorem QIn.below {v : QV} {W W' : World} (h : QIn v W) (hb : Below W.heap.size W W') : QIn v W' := ⟨h.ok.below hb, h.rd.below hb⟩
theorem QIn.row {v : QV} {W : World} {k : Nat} (h : QIn v W) (hn : QNo k v) (cs : Array Value) : QIn v (W.setRow k cs) :=
  ⟨⟨⟨h.ok.u.sc, h.ok.u.us, h.ok.u.pa, h.ok.u.n, h.ok.u.op, h.ok.u.qu, h.ok.u.fr, h.ok.u.xn, h.ok.u.xl, h.ok.u.rd.row hn.pf _⟩, h.ok.o, h.ok.me⟩, h.rd.row hn.hf _⟩
theorem QIn.set {v : QV} {W : World} {k : Nat} (h : QIn v W) (hn : QNo k v) (j : Nat) (x : Value) : QIn v (W.setCell ⟨k, j, none⟩ x) :=
  ⟨⟨⟨h.ok.u.sc, h.ok.u.us, h.ok.u.pa, h.ok.u.n, h.ok.u.op, h.ok.u.qu, h.ok.u.fr, h.ok.u.xn, h.ok.u.xl, h.ok.u.rd.set hn.pf _ _⟩, h.ok.o, h.ok.me⟩, h.rd.set hn.hf _ _⟩
/-- A block that is not there yet. -/
theorem QIn.no {v : QV} {W : World} {k : Nat} (h : QIn v W) (hk : W.heap.size ≤ k) : QNo k v := ⟨fun g o e hx => by
    obtain ⟨b, o', e', hl, _⟩ := h.rd.at_.resolve_left hx
    rw [e] at e'; cases e'; omega, fun g o e hx => by
    obtain ⟨b', o', e', hl, _⟩ := h.ok.u.rd.at_.resolve_left hx
    rw [e] at e'; cases e'; omega⟩
def ownV (q : QV) (a : Option Addr) (m c : Nat) (l : List (List UInt8 × List UInt8)) (pa : Option Addr) (pc : Nat) : QV := { q with ha := a, hn := m, hc := c, hs := l, u := { q.u with a := pa, pc := pc } }
theorem ownV_pm (q : QV) (a : Option Addr) (m c : Nat) (names : List (List UInt8)) (pa : Option Addr) (pc : Nat) : (ownV q a m c (PM.dropN q.hs names) pa pc).pm = PM.own q.pm names := rfl
set_option maxRecDepth 100000 in
set_option maxHeartbeats 4000000 in
theorem own_q_c (q : QV) (an : Option Addr) (nn cn : Nat) (names : List (List UInt8)) (w : World) (hq : q.Ok w) (hh : RdFW w q.ha q.hn q.hs) (hl : ∀ f ∈ q.hs, f.1.length ≤ 1000000) (hn : q.hn ≤ 1000000) (hr : RdS w an nn names) (hs : ∀ s ∈ names, s.length ≤ 1000000) :
    Calls Tryz.prog 47 #[.agg q.cells, .slice an nn cn] w fun e w' => (∃ v : QV, e = .returned (.agg v.cells) ∧ v.pm = PM.own q.pm names ∧ QIn v w' ∧ v.hn ≤ q.hn ∧ QFr w.heap.size v) ∧ Below w.heap.size w w' := by
  obtain ⟨i0, hi, hz0, hz1, hz2⟩ := info_parts infoField
  have OQ := Lib.hid hq
  have HH := Lib.hid hh
  have HL := Lib.hid hl
  have HNM := Lib.hid hr
  have HSM := Lib.hid hs
  clear hq hh hl hr hs
  have hmk : ∀ W : World, (Instr.makeSlice 28 (.int .i64 (q.hn : Int)) (.int .i64 (q.hn : Int))).run Tryz.prog W = .ok (.slice (some ⟨W.heap.size, 0, none⟩) q.hn q.hn) (W.alloc (.cells (madeCells (Value.agg #[.string ⟨#[]⟩, .string ⟨#[]⟩]).cells (q.hn * 2)) 50)) := fun W => by
    have h := run_make (P := Tryz.prog) W 28 50 i0 _ Tryz.underlying28 hi hz0 .i64 .i64 q.hn q.hn (by omega) (Int.le_refl _) (by rw [hz2]; omega) (by omega)
    rw [hz1] at h
    simpa using h
  have HB : Hid (Below w.heap.size w ((w.alloc (.cells q.cells 32)).alloc (.cells #[.string ⟨#[]⟩, .string ⟨#[]⟩, .string ⟨#[]⟩, .int .i64 0, .string ⟨#[]⟩, .int .i64 0, .int .i64 0, .int .i64 0, .int .i64 0, .int .i64 0, .int .i64 0, .int .i64 0, .int .i64 0, .int .i64 0, .int .i64 0, .slice none 0 0, .string ⟨#[]⟩, .string ⟨#[]⟩, .string ⟨#[]⟩, .bool false, .bool false, .string ⟨#[]⟩, .slice none 0 0, .bool false, .bool false, .string ⟨#[]⟩, .int .i64 0, .string ⟨#[]⟩, .int .i64 0, .int .i64 0, .int .i64 0, .int .i64 0, .int .i64 0, .int .i64 0, .int .i64 0, .int .i64 0, .int .i64 0, .int .i64 0, .int .i64 0, .int .i64 0, .int .i64 0, .string ⟨#[]⟩, .bool false, .bool false, .int .i64 0] 32))) := Lib.hid (b_alloc (b_alloc (Below.refl _ _) _) _)
  have Hq : Hid (((w.alloc (.cells q.cells 32)).alloc (.cells #[.string ⟨#[]⟩, .string ⟨#[]⟩, .string ⟨#[]⟩, .int .i64 0, .string ⟨#[]⟩, .int .i64 0, .int .i64 0, .int .i64 0, .int .i64 0, .int .i64 0, .int .i64 0, .int .i64 0, .int .i64 0, .int .i64 0, .int .i64 0, .slice none 0 0, .string ⟨#[]⟩, .string ⟨#[]⟩, .string ⟨#[]⟩, .bool false, .bool false, .string ⟨#[]⟩, .slice none 0 0, .bool false, .bool false, .string ⟨#[]⟩, .int .i64 0, .string ⟨#[]⟩, .int .i64 0, .int .i64 0, .int .i64 0, .int .i64 0, .int .i64 0, .int .i64 0, .int .i64 0, .int .i64 0, .int .i64 0, .int .i64 0, .int .i64 0, .int .i64 0, .int .i64 0, .string ⟨#[]⟩, .bool false, .bool false, .int .i64 0] 32)).heap[w.heap.size]? = some (.cells q.cells 32 (0, 0))) := Lib.hid (heap_b (b_alloc (Below.refl _ _) _) (by have h := Go.heap_alloc_new w (.cells q.cells 32); simpa using h))
  have Hz : Hid (((w.alloc (.cells q.cells 32)).alloc (.cells #[.string ⟨#[]⟩, .string ⟨#[]⟩, .string ⟨#[]⟩, .int .i64 0, .string ⟨#[]⟩, .int .i64 0, .int .i64 0, .int .i64 0, .int .i64 0, .int .i64 0, .int .i64 0, .int .i64 0, .int .i64 0, .int .i64 0, .int .i64 0, .slice none 0 0, .string ⟨#[]⟩, .string ⟨#[]⟩, .string ⟨#[]⟩, .bool false, .bool false, .string ⟨#[]⟩, .slice none 0 0, .bool false, .bool false, .string ⟨#[]⟩, .int .i64 0, .string ⟨#[]⟩, .int .i64 0, .int .i64 0, .int .i64 0, .int .i64 0, .int .i64 0, .int .i64 0, .int .i64 0, .int .i64 0, .int .i64 0, .int .i64 0, .int .i64 0, .int .i64 0, .int .i64 0, .string ⟨#[]⟩, .bool false, .bool false, .int .i64 0] 32)).heap[w.heap.size + 1]? = some (.cells #[.string ⟨#[]⟩, .string ⟨#[]⟩, .string ⟨#[]⟩, .int .i64 0, .string ⟨#[]⟩, .int .i64 0, .int .i64 0, .int .i64 0, .int .i64 0, .int .i64 0, .int .i64 0, .int .i64 0, .int .i64 0, .int .i64 0, .int .i64 0, .slice none 0 0, .string ⟨#[]⟩, .string ⟨#[]⟩, .string ⟨#[]⟩, .bool false, .bool false, .string ⟨#[]⟩, .slice none 0 0, .bool false, .bool false, .string ⟨#[]⟩, .int .i64 0, .string ⟨#[]⟩, .int .i64 0, .int .i64 0, .int .i64 0, .int .i64 0, .int .i64 0, .int .i64 0, .int .i64 0, .int .i64 0, .int .i64 0, .int .i64 0, .int .i64 0, .int .i64 0, .int .i64 0, .string ⟨#[]⟩, .bool false, .bool false, .int .i64 0] 32 (0, 0))) := Lib.hid ((by have h := Go.heap_alloc_new (w.alloc (.cells q.cells 32)) (.cells #[.string ⟨#[]⟩, .string ⟨#[]⟩, .string ⟨#[]⟩, .int .i64 0, .string ⟨#[]⟩, .int .i64 0, .int .i64 0, .int .i64 0, .int .i64 0, .int .i64 0, .int .i64 0, .int .i64 0, .int .i64 0, .int .i64 0, .int .i64 0, .slice none 0 0, .string ⟨#[]⟩, .string ⟨#[]⟩, .string ⟨#[]⟩, .bool false, .bool false, .string ⟨#[]⟩, .slice none 0 0, .bool false, .bool false, .string ⟨#[]⟩, .int .i64 0, .string ⟨#[]⟩, .int .i64 0, .int .i64 0, .int .i64 0, .int .i64 0, .int .i64 0, .int .i64 0, .int .i64 0, .int .i64 0, .int .i64 0, .int .i64 0, .int .i64 0, .int .i64 0, .int .i64 0, .string ⟨#[]⟩, .bool false, .bool false, .int .i64 0] 32); simpa using h))
  go_enter Tryz.func47, Tryz.ntmps47
  go_upto_region 1 with fail
  generalize (w.alloc (.cells q.cells 32)).alloc (.cells #[.string ⟨#[]⟩, .string ⟨#[]⟩, .string ⟨#[]⟩, .int .i64 0, .string ⟨#[]⟩, .int .i64 0, .int .i64 0, .int .i64 0, .int .i64 0, .int .i64 0, .int .i64 0, .int .i64 0, .int .i64 0, .int .i64 0, .int .i64 0, .slice none 0 0, .string ⟨#[]⟩, .string ⟨#[]⟩, .string ⟨#[]⟩, .bool false, .bool false, .string ⟨#[]⟩, .slice none 0 0, .bool false, .bool false, .string ⟨#[]⟩, .int .i64 0, .string ⟨#[]⟩, .int .i64 0, .int .i64 0, .int .i64 0, .int .i64 0, .int .i64 0, .int .i64 0, .int .i64 0, .int .i64 0, .int .i64 0, .int .i64 0, .int .i64 0, .int .i64 0, .int .i64 0, .string ⟨#[]⟩, .bool false, .bool false, .int .i64 0] 32) = V0 at HB Hq Hz ⊢
  generalize hbz : w.heap.size + 1 = bz at Hz ⊢
  have hlw_bz : w.heap.size ≤ bz := by omega
  have hne_z_q : w.heap.size < bz := by omega
  clear hbz
  replace Hz : Hid (V0.heap[bz]? = some (.cells zreq 32 (0, 0))) := Lib.hid Hz.out
  have c22 : V0.cell? ⟨w.heap.size, 22, none⟩ = some (.slice q.ha q.hn q.hc) := by rw [Lib.cell_of_heap Hq.out]; rfl
  go_upto_region 2 with fail
  clear c22
  have hN : (V0.alloc (Obj.cells (madeCells #[Value.string { data := #[] }, Value.string { data := #[] }] (q.hn * 2)) 50)).heap[V0.heap.size]? = some (.cells (madeCells #[Value.string { data := #[] }, Value.string { data := #[] }] (q.hn * 2)) 50 (0, 0)) := Go.heap_alloc_new _ _
  have hb : Below V0.heap.size V0 (V0.alloc (Obj.cells (madeCells #[Value.string { data := #[] }, Value.string { data := #[] }] (q.hn * 2)) 50)) := b_alloc (Below.refl _ _) _
  have hlt_q : w.heap.size < V0.heap.size := h_lt Hq.out
  have hlt_z : bz < V0.heap.size := h_lt Hz.out
  replace HB := Lib.hid (b_then HB.out hb)
  replace Hz := Lib.hid (obj_b hb Hz.out)
  replace Hq := Lib.hid (obj_b hb Hq.out)
  have HM := Lib.hid hN
  generalize V0.alloc (Obj.cells (madeCells #[Value.string { data := #[] }, Value.string { data := #[] }] (q.hn * 2)) 50) = V1 at HB Hq Hz HM hb ⊢
  have hszl : V0.heap.size ≤ V1.heap.size := hb.size
  clear hN hb hmk
  generalize V0.heap.size = bl at HM hlt_q hlt_z hszl ⊢
  have c22 : V1.cell? ⟨w.heap.size, 22, none⟩ = some (.slice q.ha q.hn q.hc) := by rw [Lib.cell_of_heap Hq.out]; rfl
  obtain ⟨V2, hcp, hcell, hb2, hko⟩ := run_copy_F bl q.hn q.hc q.hn bl q.ha q.hs _ V1 (HH.out.below HB.out) HM.out (by rw [show madeCells #[Value.string { data := #[] }, Value.string { data := #[] }] (q.hn * 2) = (Array.range (q.hn * 2)).map _ from rfl]; simp) (Nat.le_refl _)
  have hwl : w.heap.size ≤ bl := by omega
  replace HB := Lib.hid (HB.out.trans (hb2.mono hwl))
  replace Hq := Lib.hid (hko.2 _ _ (by omega) Hq.out)
  replace Hz := Lib.hid (hko.2 _ _ (by omega) Hz.out)
  have hfl := row_rd (tail := []) (by rw [List.append_nil]; exact hcell)
  rw [HH.out.len] at hfl
  have HF := Lib.hid hfl
  clear hb2 hko hcell hfl HM
  have hgo : goInt (q.hn : Int) = .int .i64 q.hn := rfl
  go_wp2_with fail
  clear hcp c22 hgo
  refine (Drop_c (some ⟨bl, 0, none⟩) q.hn q.hn q.hs an nn cn names _ HF.out hn HL.out (HNM.out.below HB.out) HSM.out).mono ?_
  rintro e V3 ⟨⟨a, m, c, rfl, hm, hmc, hrd, hfr⟩, hb⟩
  have hw2 : w.heap.size < V2.heap.size := h_lt Hq.out
  have hz2' : bz < V2.heap.size := h_lt Hz.out
  have HRD := Lib.hid hrd
  have HFR : Hid (∀ g o, a = some ⟨g, o, none⟩ → g ≠ w.heap.size ∧ g ≠ bz) := Lib.hid fun g o e => by have := hfr g o e; omega
  have HFW : Hid (∀ g o, a = some ⟨g, o, none⟩ → w.heap.size ≤ g) := Lib.hid fun g o e => by have := hfr g o e; omega
  have HM := Lib.hid hm
  clear hrd hfr hm HF hw2 hz2'
  replace HB := Lib.hid (b_then HB.out hb)
  replace Hq := Lib.hid (obj_b hb Hq.out)
  replace Hz := Lib.hid (obj_b hb Hz.out)
  clear hb
  have d22 : ∃ v0, V3.cell? ⟨w.heap.size, 22, none⟩ = some v0 := ⟨_, by rw [Lib.cell_of_heap Hq.out]; rfl⟩
  have f22 : V3.frozen? ⟨w.heap.size, 22, none⟩ = false := Lib.frozen_of_heap Hq.out 22
  obtain ⟨v0, d22⟩ := d22
  go_upto_region 4 with fail
  clear d22 f22
  obtain ⟨V4, hV⟩ : ∃ V4, V4 = V3.setCell ⟨w.heap.size, 22, none⟩ (.slice a m c) := ⟨_, rfl⟩
  rw [← hV]
  replace Hq : Hid (V4.heap[w.heap.size]? = some (.cells ({ q with ha := a, hn := m, hc := c }).cells 32 (0, 0))) := Lib.hid (by rw [hV]; exact setCell_heap Hq.out 22 _)
  replace Hz := Lib.hid (show V4.heap[bz]? = some (.cells zreq 32 (0, 0)) from by rw [hV]; exact heap_set_other Hz.out _ _ _ (by omega))
  replace HB := Lib.hid (show Below w.heap.size w V4 from by rw [hV]; exact b_set HB.out _ (Nat.le_refl _) _)
  replace HRD := Lib.hid (show RdFW V4 a m (PM.dropN q.hs names) from by rw [hV]; exact HRD.out.set (fun g o e _ => (HFR.out g o e).1) _ _)
  clear hV
  have c15 : V4.cell? ⟨w.heap.size, 15, none⟩ = some (.slice q.u.a q.u.pn q.u.pc) := by rw [Lib.cell_of_heap Hq.out]; rfl
  go_wp2_with fail
  refine (Clone_c q.u.a q.u.pn q.u.pc q.u.xs _ (OQ.out.u.rd.below HB.out)).mono ?_
  rintro e V5 ⟨pa, pc, rfl, hps, hpf, hb⟩
  clear c15
  have hw2 : w.heap.size < V4.heap.size := h_lt Hq.out
  have hz2' : bz < V4.heap.size := h_lt Hz.out
  have HPS := Lib.hid hps
  have HPF : Hid (∀ g o, pa = some ⟨g, o, none⟩ → q.u.xs ≠ [] → g ≠ w.heap.size ∧ g ≠ bz) := Lib.hid fun g o e hx => by have := hpf g o e hx; omega
  have HPW : Hid (∀ g o, pa = some ⟨g, o, none⟩ → q.u.xs ≠ [] → w.heap.size ≤ g) := Lib.hid fun g o e hx => by have := hpf g o e hx; omega
  replace HRD := Lib.hid (HRD.out.below hb)
  clear hps hpf hw2 hz2'
  replace HB := Lib.hid (b_then HB.out hb)
  replace Hq := Lib.hid (obj_b hb Hq.out)
  replace Hz := Lib.hid (obj_b hb Hz.out)
  clear hb
  have d15 : ∃ v0, V5.cell? ⟨w.heap.size, 15, none⟩ = some v0 := ⟨_, by rw [Lib.cell_of_heap Hq.out]; rfl⟩
  have f15 : V5.frozen? ⟨w.heap.size, 15, none⟩ = false := Lib.frozen_of_heap Hq.out 15
  obtain ⟨v0, d15⟩ := d15
  go_upto_region 5 with fail
  clear d15 f15
  obtain ⟨V6, hV⟩ : ∃ V6, V6 = V5.setCell ⟨w.heap.size, 15, none⟩ (.slice pa q.u.pn pc) := ⟨_, rfl⟩
  rw [← hV]
  replace Hq : Hid (V6.heap[w.heap.size]? = some (.cells (ownV q a m c (PM.dropN q.hs names) pa pc).cells 32 (0, 0))) := Lib.hid (by rw [hV]; exact setCell_heap Hq.out 15 _)
  replace Hz := Lib.hid (show V6.heap[bz]? = some (.cells zreq 32 (0, 0)) from by rw [hV]; exact heap_set_other Hz.out _ _ _ (by omega))
  replace HB := Lib.hid (show Below w.heap.size w V6 from by rw [hV]; exact b_set HB.out _ (Nat.le_refl _) _)
  replace HRD := Lib.hid (show RdFW V6 a m (PM.dropN q.hs names) from by rw [hV]; exact HRD.out.set (fun g o e _ => (HFR.out g o e).1) _ _)
  replace HPS := Lib.hid (show RdS V6 pa q.u.pn q.u.xs from by rw [hV]; exact HPS.out.set (fun g o e hx => (HPF.out g o e hx).1) _ _)
  clear hV
  go_wp2_with (first | go_skip | (refine wpList_load_g 32 _ rfl (by kernel_rfl) w.heap.size rfl Hq.out Tryz.underlying32 rfl (by kernel_rfl) ?_) | (refine wpList_store_row rfl 32 _ _ rfl bz (ownV q a m c (PM.dropN q.hs names) pa pc).cells rfl rfl 32 _ Hz.out (by kernel_rfl) rfl (qagg_one _) ?_))
  refine bodyPost_ret (results_cell_row (fr := (0, 0)) rfl _ _ bz 32 (ownV q a m c (PM.dropN q.hs names) pa pc).cells _ rfl (heap_setRow Hz.out _) Tryz.underlying32 rfl (by kernel_rfl)) rfl ?_
  exact ⟨⟨ownV q a m c (PM.dropN q.hs names) pa pc, rfl, ownV_pm q a m c names pa pc, ⟨⟨⟨OQ.out.u.sc, OQ.out.u.us, OQ.out.u.pa, OQ.out.u.n, OQ.out.u.op, OQ.out.u.qu, OQ.out.u.fr, OQ.out.u.xn, OQ.out.u.xl, HPS.out.row (fun g o e hx => (HPF.out g o e hx).2) _⟩, OQ.out.o, OQ.out.me⟩, HRD.out.row (fun g o e _ => (HFR.out g o e).2) _⟩, HM.out, ⟨fun g o e => (HFW.out g o e), fun g o e hx => (HPW.out g o e hx)⟩⟩, below_setRow HB.out hlw_bz _⟩
set_option maxHeartbeats 2000000 in
theorem Rewrites_c (st : Int) (m : List UInt8) (w : World) : Calls Tryz.prog 18 #[.int .i64 st, .string (mkS m)] w fun e w' => e = .returned (.bool (PM.rewrites st m)) ∧ w' = w := by
  have hr : PM.rewrites st m = if st = 301 ∨ st = 302 then decide (m = PM.POST) else if st = 303 then !decide (m = PM.GET) && !decide (m = PM.HEAD) else false := rfl
  have e1 : (m == [80, 79, 83, 84]) = decide (m = PM.POST) := by rw [Bool.eq_iff_iff, beq_iff_eq, decide_eq_true_iff]; exact Iff.rfl
  have e2 : (m == [71, 69, 84]) = decide (m = PM.GET) := by rw [Bool.eq_iff_iff, beq_iff_eq, decide_eq_true_iff]; exact Iff.rfl
  have e3 : (m == [72, 69, 65, 68]) = decide (m = PM.HEAD) := by rw [Bool.eq_iff_iff, beq_iff_eq, decide_eq_true_iff]; exact Iff.rfl
  obtain ⟨b1, h1⟩ : ∃ b, decide (m = PM.POST) = b := ⟨_, rfl⟩
  obtain ⟨b2, h2⟩ : ∃ b, decide (m = PM.GET) = b := ⟨_, rfl⟩
  obtain ⟨b3, h3⟩ : ∃ b, decide (m = PM.HEAD) = b := ⟨_, rfl⟩
  rw [h1] at e1
  rw [h2] at e2
  rw [h3] at e3
  rw [h1, h2, h3] at hr
  have HR := Lib.hid hr
  have f1 : (m != [80, 79, 83, 84]) = !b1 := by rw [bne, e1]
  have f2 : (m != [71, 69, 84]) = !b2 := by rw [bne, e2]
  have f3 : (m != [72, 69, 65, 68]) = !b3 := by rw [bne, e3]
  clear hr h1 h2 h3
  by_cases s1 : st = 301
  · subst s1
    go_enter Tryz.func18, Tryz.ntmps18
    go_wp2
    go_ret
    exact ⟨by rw [HR.out]; rfl, rfl⟩
  by_cases s2 : st = 302
  · subst s2
    go_enter Tryz.func18, Tryz.ntmps18
    go_wp2
    go_ret
    exact ⟨by rw [HR.out]; rfl, rfl⟩
  by_cases s3 : st = 303
  · subst s3
    cases b2
    all_goals
      go_enter Tryz.func18, Tryz.ntmps18
      go_wp2
      go_ret
      exact ⟨by rw [HR.out]; rfl, rfl⟩
  · have g1 : (st == 301) = false := beq_eq_false_iff_ne.2 s1
    have g2 : (st == 302) = false := beq_eq_false_iff_ne.2 s2
    have g3 : (st == 303) = false := beq_eq_false_iff_ne.2 s3
    rw [if_neg (by omega), if_neg s3] at HR
    clear s1 s2 s3
    go_enter Tryz.func18, Tryz.ntmps18
    go_wp2
    go_ret
    exact ⟨by rw [HR.out]; rfl, rfl⟩
/-- The names of fields that tell of a body lie in their table. -/
def Bd (w : World) : Prop := 0 < w.heap.size ∧ ∀ j (h : j < PM.bodies.length), w.cell? ⟨0, j, none⟩ = some (.string (mkS (PM.bodies[j]'h)))
theorem Bd.below {w W : World} (h : Bd w) (hb : Below w.heap.size w W) : Bd W := ⟨Nat.lt_of_lt_of_le h.1 hb.size, fun j hj => cell_b hb (h.2 j hj)⟩
theorem Bd.rd {w : World} (h : Bd w) : RdS w (some ⟨0, 0, none⟩) 4 PM.bodies := ⟨rfl, by decide, .inr ⟨_, 0, rfl, h.1, fun j hj => by rw [Nat.zero_add]; exact h.2 j hj⟩⟩
theorem bodies_len : ∀ s ∈ PM.bodies, s.length ≤ 1000000 := by decide
theorem none_rd (w : World) : RdS w none 0 [] := ⟨rfl, by decide, .inl rfl⟩
set_option maxRecDepth 100000 in
set_option maxHeartbeats 8000000 in
theorem Change_c (q : QV) (st : Int) (w : World) (hq : QIn q w) (hl : ∀ f ∈ q.hs, f.1.length ≤ 1000000) (hn : q.hn ≤ 1000000) (hbd : Bd w) :
    Calls Tryz.prog 17 #[.agg q.cells, .int .i64 st] w fun e w' => (∃ v : QV, e = .returned (.agg v.cells) ∧ v.pm = PM.change q.pm st ∧ QIn v w' ∧ v.hn ≤ q.hn ∧ QFr w.heap.size v) ∧ Below w.heap.size w w' := by
  have QI := Lib.hid hq
  have HL := Lib.hid hl
  have HBD := Lib.hid hbd
  have hc : PM.change q.pm st = if PM.rewrites st q.me then { PM.own q.pm PM.bodies with method := PM.GET, body := false } else PM.own q.pm [] := rfl
  have HC := Lib.hid hc
  clear hq hl hbd hc
  have HB : Hid (Below w.heap.size w ((w.alloc (.cells q.cells 32)).alloc (.cells #[.string ⟨#[]⟩, .string ⟨#[]⟩, .string ⟨#[]⟩, .int .i64 0, .string ⟨#[]⟩, .int .i64 0, .int .i64 0, .int .i64 0, .int .i64 0, .int .i64 0, .int .i64 0, .int .i64 0, .int .i64 0, .int .i64 0, .int .i64 0, .slice none 0 0, .string ⟨#[]⟩, .string ⟨#[]⟩, .string ⟨#[]⟩, .bool false, .bool false, .string ⟨#[]⟩, .slice none 0 0, .bool false, .bool false, .string ⟨#[]⟩, .int .i64 0, .string ⟨#[]⟩, .int .i64 0, .int .i64 0, .int .i64 0, .int .i64 0, .int .i64 0, .int .i64 0, .int .i64 0, .int .i64 0, .int .i64 0, .int .i64 0, .int .i64 0, .int .i64 0, .int .i64 0, .string ⟨#[]⟩, .bool false, .bool false, .int .i64 0] 32))) := Lib.hid (b_alloc (b_alloc (Below.refl _ _) _) _)
  have Hq : Hid (((w.alloc (.cells q.cells 32)).alloc (.cells #[.string ⟨#[]⟩, .string ⟨#[]⟩, .string ⟨#[]⟩, .int .i64 0, .string ⟨#[]⟩, .int .i64 0, .int .i64 0, .int .i64 0, .int .i64 0, .int .i64 0, .int .i64 0, .int .i64 0, .int .i64 0, .int .i64 0, .int .i64 0, .slice none 0 0, .string ⟨#[]⟩, .string ⟨#[]⟩, .string ⟨#[]⟩, .bool false, .bool false, .string ⟨#[]⟩, .slice none 0 0, .bool false, .bool false, .string ⟨#[]⟩, .int .i64 0, .string ⟨#[]⟩, .int .i64 0, .int .i64 0, .int .i64 0, .int .i64 0, .int .i64 0, .int .i64 0, .int .i64 0, .int .i64 0, .int .i64 0, .int .i64 0, .int .i64 0, .int .i64 0, .int .i64 0, .string ⟨#[]⟩, .bool false, .bool false, .int .i64 0] 32)).heap[w.heap.size]? = some (.cells q.cells 32 (0, 0))) := Lib.hid (heap_b (b_alloc (Below.refl _ _) _) (by have h := Go.heap_alloc_new w (.cells q.cells 32); simpa using h))
  have Hz : Hid (((w.alloc (.cells q.cells 32)).alloc (.cells #[.string ⟨#[]⟩, .string ⟨#[]⟩, .string ⟨#[]⟩, .int .i64 0, .string ⟨#[]⟩, .int .i64 0, .int .i64 0, .int .i64 0, .int .i64 0, .int .i64 0, .int .i64 0, .int .i64 0, .int .i64 0, .int .i64 0, .int .i64 0, .slice none 0 0, .string ⟨#[]⟩, .string ⟨#[]⟩, .string ⟨#[]⟩, .bool false, .bool false, .string ⟨#[]⟩, .slice none 0 0, .bool false, .bool false, .string ⟨#[]⟩, .int .i64 0, .string ⟨#[]⟩, .int .i64 0, .int .i64 0, .int .i64 0, .int .i64 0, .int .i64 0, .int .i64 0, .int .i64 0, .int .i64 0, .int .i64 0, .int .i64 0, .int .i64 0, .int .i64 0, .int .i64 0, .string ⟨#[]⟩, .bool false, .bool false, .int .i64 0] 32)).heap[w.heap.size + 1]? = some (.cells #[.string ⟨#[]⟩, .string ⟨#[]⟩, .string ⟨#[]⟩, .int .i64 0, .string ⟨#[]⟩, .int .i64 0, .int .i64 0, .int .i64 0, .int .i64 0, .int .i64 0, .int .i64 0, .int .i64 0, .int .i64 0, .int .i64 0, .int .i64 0, .slice none 0 0, .string ⟨#[]⟩, .string ⟨#[]⟩, .string ⟨#[]⟩, .bool false, .bool false, .string ⟨#[]⟩, .slice none 0 0, .bool false, .bool false, .string ⟨#[]⟩, .int .i64 0, .string ⟨#[]⟩, .int .i64 0, .int .i64 0, .int .i64 0, .int .i64 0, .int .i64 0, .int .i64 0, .int .i64 0, .int .i64 0, .int .i64 0, .int .i64 0, .int .i64 0, .int .i64 0, .int .i64 0, .string ⟨#[]⟩, .bool false, .bool false, .int .i64 0] 32 (0, 0))) := Lib.hid ((by have h := Go.heap_alloc_new (w.alloc (.cells q.cells 32)) (.cells #[.string ⟨#[]⟩, .string ⟨#[]⟩, .string ⟨#[]⟩, .int .i64 0, .string ⟨#[]⟩, .int .i64 0, .int .i64 0, .int .i64 0, .int .i64 0, .int .i64 0, .int .i64 0, .int .i64 0, .int .i64 0, .int .i64 0, .int .i64 0, .slice none 0 0, .string ⟨#[]⟩, .string ⟨#[]⟩, .string ⟨#[]⟩, .bool false, .bool false, .string ⟨#[]⟩, .slice none 0 0, .bool false, .bool false, .string ⟨#[]⟩, .int .i64 0, .string ⟨#[]⟩, .int .i64 0, .int .i64 0, .int .i64 0, .int .i64 0, .int .i64 0, .int .i64 0, .int .i64 0, .int .i64 0, .int .i64 0, .int .i64 0, .int .i64 0, .int .i64 0, .int .i64 0, .string ⟨#[]⟩, .bool false, .bool false, .int .i64 0] 32); simpa using h))
  go_enter Tryz.func17, Tryz.ntmps17
  go_upto_region 1 with fail
  generalize (w.alloc (.cells q.cells 32)).alloc (.cells #[.string ⟨#[]⟩, .string ⟨#[]⟩, .string ⟨#[]⟩, .int .i64 0, .string ⟨#[]⟩, .int .i64 0, .int .i64 0, .int .i64 0, .int .i64 0, .int .i64 0, .int .i64 0, .int .i64 0, .int .i64 0, .int .i64 0, .int .i64 0, .slice none 0 0, .string ⟨#[]⟩, .string ⟨#[]⟩, .string ⟨#[]⟩, .bool false, .bool false, .string ⟨#[]⟩, .slice none 0 0, .bool false, .bool false, .string ⟨#[]⟩, .int .i64 0, .string ⟨#[]⟩, .int .i64 0, .int .i64 0, .int .i64 0, .int .i64 0, .int .i64 0, .int .i64 0, .int .i64 0, .int .i64 0, .int .i64 0, .int .i64 0, .int .i64 0, .int .i64 0, .int .i64 0, .string ⟨#[]⟩, .bool false, .bool false, .int .i64 0] 32) = V0 at HB Hq Hz ⊢
  generalize hbz : w.heap.size + 1 = bz at Hz ⊢
  have hlw_bz : w.heap.size ≤ bz := by omega
  have hne_z_q : w.heap.size < bz := by omega
  clear hbz
  replace Hz : Hid (V0.heap[bz]? = some (.cells zreq 32 (0, 0))) := Lib.hid Hz.out
  obtain ⟨b, hb⟩ : ∃ b, PM.rewrites st q.me = b := ⟨_, rfl⟩
  rw [hb] at HC
  have HBB := Lib.hid hb
  clear hb
  have c21 : V0.cell? ⟨w.heap.size, 21, none⟩ = some (.string (mkS q.me)) := by rw [Lib.cell_of_heap Hq.out]; rfl
  go_wp2_with fail
  refine (Rewrites_c st q.me _).mono ?_
  rw [HBB.out]
  rintro e V1 ⟨rfl, rfl⟩
  clear c21
  cases b
  · skip
    go_wp2_with (first | go_skip | (refine wpList_load_g 32 _ rfl (by kernel_rfl) w.heap.size rfl Hq.out Tryz.underlying32 rfl (by kernel_rfl) ?_))
    refine (own_q_c q none 0 0 [] _ (QI.out.ok.below HB.out) (QI.out.rd.below HB.out) HL.out hn (none_rd _) (fun s hs => by cases hs)).mono ?_
    rintro e V2 ⟨⟨v, rfl, hvp, hvi, hvn, hvf⟩, hb⟩
    have hz2' : bz < V1.heap.size := h_lt Hz.out
    have hno := hvf.no hz2'
    have HVI := Lib.hid hvi
    have HVP := Lib.hid hvp
    have HNO := Lib.hid hno
    have HVF : Hid (QFr w.heap.size v) := Lib.hid ⟨fun g o e => Nat.le_trans HB.out.size (hvf.hf g o e), fun g o e hx => Nat.le_trans HB.out.size (hvf.pf g o e hx)⟩
    have HVN := Lib.hid hvn
    replace HB := Lib.hid (b_then HB.out hb)
    replace Hz := Lib.hid (obj_b hb Hz.out)
    clear hvi hvp hno hvf hvn hb Hq
    go_wp2_with (first | go_skip | (refine wpList_store_row rfl 32 _ _ rfl bz v.cells rfl rfl 32 _ Hz.out (by kernel_rfl) rfl (qagg_one _) ?_))
    refine bodyPost_ret (results_cell_row (fr := (0, 0)) rfl _ _ bz 32 v.cells _ rfl (heap_setRow Hz.out _) Tryz.underlying32 rfl (by kernel_rfl)) rfl ?_
    exact ⟨⟨v, rfl, by rw [HVP.out, HC.out]; rfl, HVI.out.row HNO.out _, HVN.out, HVF.out⟩, below_setRow HB.out hlw_bz _⟩
  · skip
    go_wp2_with fail
    go_cut [5] (fun pt wr => ∃ (kx : Nat) (v : QV) (W9 : World), W9 = wr ∧ pt = .pointer (some ⟨kx, 0, none⟩) ∧ Hid (v.pm = PM.own q.pm PM.bodies) ∧ Hid (QIn v wr) ∧ Hid (v.hn ≤ q.hn ∧ QFr w.heap.size v ∧ QNo bz v ∧ QNo kx v) ∧ Hid (wr.heap[kx]? = some (.cells v.cells 32 (0, 0))) ∧ Hid (wr.heap[bz]? = some (.cells zreq 32 (0, 0))) ∧ Hid (Below w.heap.size w wr) ∧ bz < kx)
    case first =>
      have hz2' : bz < V1.heap.size := h_lt Hz.out
      have SZ : Hid (V1.heap.size ≤ V1.drew.heap.size) := Lib.hid (Nat.le_refl _)
      refine wp_region_noPanic ?_
      refine wp_region_held_drew (S := fun W' => W'.heap[w.heap.size]? = some (.cells q.cells 32 (0, 0)) ∧ W'.heap[bz]? = some (.cells zreq 32 (0, 0)) ∧ Below w.heap.size w W') (by kernel_rfl) ⟨Hq.out, Hz.out, b_drew HB.out⟩ (fun hS0 => ?_)
      have hS := hS0
      clear hS0
      refine wpAnyH_take (i := 0) (v := ?_) rfl (by kernel_rfl) (by kernel_rfl) (by kernel_rfl) (fun _ _ _ h => h) (Or.inl ⟨by kernel_rfl, fun W hW => ?_⟩) (by assumption) ?_
      rotate_left
      · refine yield_row 32 (.tmp 2) ?_ w.heap.size ?_ hW.1 Tryz.underlying32 rfl (by kernel_rfl)
        · rfl
        · rfl
      (try simp only [List.getElem_toArray, List.getElem_cons_zero, List.getElem_cons_succ, Act.put, List.setIfInBounds_toArray, List.set_cons_zero, List.set_cons_succ])
      refine wpAnyH_take (i := 1) (v := ?_) rfl (by kernel_rfl) (by kernel_rfl) (by kernel_rfl) (fun _ _ _ h => h) (Or.inl ⟨by kernel_rfl, fun W hW => ?_⟩) (by assumption) ?_
      rotate_left
      · go_simp
        try with_reducible rfl
      (try simp only [List.getElem_toArray, List.getElem_cons_zero, List.getElem_cons_succ, Act.put, List.setIfInBounds_toArray, List.set_cons_zero, List.set_cons_succ])
      refine wpAnyH_ready (rs := [2, 3]) (by kernel_rfl) (by simp) ?_
      refine AllReadyH.cons rfl (fun K hK => ?_) (AllReadyH.cons rfl (fun K hK => ?_) AllReadyH.nil)
      · go_simp
        refine (own_q_c q (some ⟨0, 0, none⟩) 4 4 PM.bodies _ (QI.out.ok.below hS.2.2) (QI.out.rd.below hS.2.2) HL.out hn (HBD.out.below hS.2.2).rd bodies_len).mono ?_
        rintro e U1 ⟨⟨v, rfl, hvp, hvi, hvn, hvf⟩, hb⟩
        have HNZ : Hid (QNo bz v) := Lib.hid (hvf.no (Nat.lt_of_lt_of_le hz2' SZ.out))
        have HVP := Lib.hid hvp
        have HVF : Hid (QFr w.heap.size v) := Lib.hid ⟨fun g o e => Nat.le_trans hS.2.2.size (hvf.hf g o e), fun g o e hx => Nat.le_trans hS.2.2.size (hvf.pf g o e hx)⟩
        have HVN := Lib.hid hvn
        replace hS : U1.heap[w.heap.size]? = some (.cells q.cells 32 (0, 0)) ∧ U1.heap[bz]? = some (.cells zreq 32 (0, 0)) ∧ Below w.heap.size w U1 := ⟨heap_b hb hS.1, heap_b hb hS.2.1, b_then hS.2.2 hb⟩
        replace SZ : Hid (V1.heap.size ≤ U1.heap.size) := Lib.hid (Nat.le_trans SZ.out hb.size)
        have HVI := Lib.hid hvi
        clear hvi hvp hvf hvn hb
        refine hK.out _ _ hS (fun _ => ?_)
        clear hK K
        (try simp only [List.getElem_toArray, List.getElem_cons_zero, List.getElem_cons_succ, Act.put, List.setIfInBounds_toArray, List.set_cons_zero, List.set_cons_succ])
        have HVK : Hid (∀ k, U1.heap.size ≤ k → QNo k v) := Lib.hid (fun k hk => HVI.out.no hk)
        refine wpAnyH_ready (rs := [3]) (by kernel_rfl) (by simp) ?_
        refine AllReadyH.cons rfl (fun K hK => ?_) AllReadyH.nil
        go_simp
        have hN : (U1.alloc (.cells #[.string ⟨#[]⟩, .string ⟨#[]⟩, .string ⟨#[]⟩, .int .i64 0, .string ⟨#[]⟩, .int .i64 0, .int .i64 0, .int .i64 0, .int .i64 0, .int .i64 0, .int .i64 0, .int .i64 0, .int .i64 0, .int .i64 0, .int .i64 0, .slice none 0 0, .string ⟨#[]⟩, .string ⟨#[]⟩, .string ⟨#[]⟩, .bool false, .bool false, .string ⟨#[]⟩, .slice none 0 0, .bool false, .bool false, .string ⟨#[]⟩, .int .i64 0, .string ⟨#[]⟩, .int .i64 0, .int .i64 0, .int .i64 0, .int .i64 0, .int .i64 0, .int .i64 0, .int .i64 0, .int .i64 0, .int .i64 0, .int .i64 0, .int .i64 0, .int .i64 0, .int .i64 0, .string ⟨#[]⟩, .bool false, .bool false, .int .i64 0] 32)).heap[U1.heap.size]? = some (.cells #[.string ⟨#[]⟩, .string ⟨#[]⟩, .string ⟨#[]⟩, .int .i64 0, .string ⟨#[]⟩, .int .i64 0, .int .i64 0, .int .i64 0, .int .i64 0, .int .i64 0, .int .i64 0, .int .i64 0, .int .i64 0, .int .i64 0, .int .i64 0, .slice none 0 0, .string ⟨#[]⟩, .string ⟨#[]⟩, .string ⟨#[]⟩, .bool false, .bool false, .string ⟨#[]⟩, .slice none 0 0, .bool false, .bool false, .string ⟨#[]⟩, .int .i64 0, .string ⟨#[]⟩, .int .i64 0, .int .i64 0, .int .i64 0, .int .i64 0, .int .i64 0, .int .i64 0, .int .i64 0, .int .i64 0, .int .i64 0, .int .i64 0, .int .i64 0, .int .i64 0, .int .i64 0, .string ⟨#[]⟩, .bool false, .bool false, .int .i64 0] 32 (0, 0)) := Go.heap_alloc_new U1 _
        have hb : Below U1.heap.size U1 (U1.alloc (.cells #[.string ⟨#[]⟩, .string ⟨#[]⟩, .string ⟨#[]⟩, .int .i64 0, .string ⟨#[]⟩, .int .i64 0, .int .i64 0, .int .i64 0, .int .i64 0, .int .i64 0, .int .i64 0, .int .i64 0, .int .i64 0, .int .i64 0, .int .i64 0, .slice none 0 0, .string ⟨#[]⟩, .string ⟨#[]⟩, .string ⟨#[]⟩, .bool false, .bool false, .string ⟨#[]⟩, .slice none 0 0, .bool false, .bool false, .string ⟨#[]⟩, .int .i64 0, .string ⟨#[]⟩, .int .i64 0, .int .i64 0, .int .i64 0, .int .i64 0, .int .i64 0, .int .i64 0, .int .i64 0, .int .i64 0, .int .i64 0, .int .i64 0, .int .i64 0, .int .i64 0, .int .i64 0, .string ⟨#[]⟩, .bool false, .bool false, .int .i64 0] 32)) := b_alloc (Below.refl _ _) _
        have HKZ : Hid (bz < U1.heap.size) := Lib.hid (Nat.lt_of_lt_of_le hz2' SZ.out)
        have HKW : Hid (w.heap.size ≤ U1.heap.size) := Lib.hid hS.2.2.size
        have HNK : Hid (QNo (U1.heap.size) v) := Lib.hid (HVK.out _ (Nat.le_refl _))
        replace hS : (U1.alloc (.cells #[.string ⟨#[]⟩, .string ⟨#[]⟩, .string ⟨#[]⟩, .int .i64 0, .string ⟨#[]⟩, .int .i64 0, .int .i64 0, .int .i64 0, .int .i64 0, .int .i64 0, .int .i64 0, .int .i64 0, .int .i64 0, .int .i64 0, .int .i64 0, .slice none 0 0, .string ⟨#[]⟩, .string ⟨#[]⟩, .string ⟨#[]⟩, .bool false, .bool false, .string ⟨#[]⟩, .slice none 0 0, .bool false, .bool false, .string ⟨#[]⟩, .int .i64 0, .string ⟨#[]⟩, .int .i64 0, .int .i64 0, .int .i64 0, .int .i64 0, .int .i64 0, .int .i64 0, .int .i64 0, .int .i64 0, .int .i64 0, .int .i64 0, .int .i64 0, .int .i64 0, .int .i64 0, .string ⟨#[]⟩, .bool false, .bool false, .int .i64 0] 32)).heap[w.heap.size]? = some (.cells q.cells 32 (0, 0)) ∧ (U1.alloc (.cells #[.string ⟨#[]⟩, .string ⟨#[]⟩, .string ⟨#[]⟩, .int .i64 0, .string ⟨#[]⟩, .int .i64 0, .int .i64 0, .int .i64 0, .int .i64 0, .int .i64 0, .int .i64 0, .int .i64 0, .int .i64 0, .int .i64 0, .int .i64 0, .slice none 0 0, .string ⟨#[]⟩, .string ⟨#[]⟩, .string ⟨#[]⟩, .bool false, .bool false, .string ⟨#[]⟩, .slice none 0 0, .bool false, .bool false, .string ⟨#[]⟩, .int .i64 0, .string ⟨#[]⟩, .int .i64 0, .int .i64 0, .int .i64 0, .int .i64 0, .int .i64 0, .int .i64 0, .int .i64 0, .int .i64 0, .int .i64 0, .int .i64 0, .int .i64 0, .int .i64 0, .int .i64 0, .string ⟨#[]⟩, .bool false, .bool false, .int .i64 0] 32)).heap[bz]? = some (.cells zreq 32 (0, 0)) ∧ Below w.heap.size w (U1.alloc (.cells #[.string ⟨#[]⟩, .string ⟨#[]⟩, .string ⟨#[]⟩, .int .i64 0, .string ⟨#[]⟩, .int .i64 0, .int .i64 0, .int .i64 0, .int .i64 0, .int .i64 0, .int .i64 0, .int .i64 0, .int .i64 0, .int .i64 0, .int .i64 0, .slice none 0 0, .string ⟨#[]⟩, .string ⟨#[]⟩, .string ⟨#[]⟩, .bool false, .bool false, .string ⟨#[]⟩, .slice none 0 0, .bool false, .bool false, .string ⟨#[]⟩, .int .i64 0, .string ⟨#[]⟩, .int .i64 0, .int .i64 0, .int .i64 0, .int .i64 0, .int .i64 0, .int .i64 0, .int .i64 0, .int .i64 0, .int .i64 0, .int .i64 0, .int .i64 0, .int .i64 0, .int .i64 0, .string ⟨#[]⟩, .bool false, .bool false, .int .i64 0] 32)) := ⟨heap_b hb hS.1, heap_b hb hS.2.1, b_then hS.2.2 hb⟩
        replace SZ : Hid (V1.heap.size ≤ (U1.alloc (.cells #[.string ⟨#[]⟩, .string ⟨#[]⟩, .string ⟨#[]⟩, .int .i64 0, .string ⟨#[]⟩, .int .i64 0, .int .i64 0, .int .i64 0, .int .i64 0, .int .i64 0, .int .i64 0, .int .i64 0, .int .i64 0, .int .i64 0, .int .i64 0, .slice none 0 0, .string ⟨#[]⟩, .string ⟨#[]⟩, .string ⟨#[]⟩, .bool false, .bool false, .string ⟨#[]⟩, .slice none 0 0, .bool false, .bool false, .string ⟨#[]⟩, .int .i64 0, .string ⟨#[]⟩, .int .i64 0, .int .i64 0, .int .i64 0, .int .i64 0, .int .i64 0, .int .i64 0, .int .i64 0, .int .i64 0, .int .i64 0, .int .i64 0, .int .i64 0, .int .i64 0, .int .i64 0, .string ⟨#[]⟩, .bool false, .bool false, .int .i64 0] 32)).heap.size) := Lib.hid (Nat.le_trans SZ.out hb.size)
        replace HVI := Lib.hid (HVI.out.below hb)
        have HN := Lib.hid hN
        clear hb hN
        refine hK.out _ _ hS (fun _ => ?_)
        clear hK K
        (try simp only [List.getElem_toArray, List.getElem_cons_zero, List.getElem_cons_succ, Act.put, List.setIfInBounds_toArray, List.set_cons_zero, List.set_cons_succ])
        generalize (U1.alloc (.cells #[.string ⟨#[]⟩, .string ⟨#[]⟩, .string ⟨#[]⟩, .int .i64 0, .string ⟨#[]⟩, .int .i64 0, .int .i64 0, .int .i64 0, .int .i64 0, .int .i64 0, .int .i64 0, .int .i64 0, .int .i64 0, .int .i64 0, .int .i64 0, .slice none 0 0, .string ⟨#[]⟩, .string ⟨#[]⟩, .string ⟨#[]⟩, .bool false, .bool false, .string ⟨#[]⟩, .slice none 0 0, .bool false, .bool false, .string ⟨#[]⟩, .int .i64 0, .string ⟨#[]⟩, .int .i64 0, .int .i64 0, .int .i64 0, .int .i64 0, .int .i64 0, .int .i64 0, .int .i64 0, .int .i64 0, .int .i64 0, .int .i64 0, .int .i64 0, .int .i64 0, .int .i64 0, .string ⟨#[]⟩, .bool false, .bool false, .int .i64 0] 32)) = U2 at hS SZ HN HVI ⊢
        refine wpAnyH_ready (rs := [4]) (by kernel_rfl) (by simp) ?_
        refine AllReadyH.cons rfl (fun K hK => ?_) AllReadyH.nil
        try rw [if_pos (by rfl)]
        refine wp_store_row 32 _ _ rfl (U1.heap.size) v.cells rfl rfl 32 _ HN.out (by kernel_rfl) rfl (qagg_one v) ?_
        have hkz := HKZ.out
        have hS8 : (U2.setRow (U1.heap.size) v.cells).heap[w.heap.size]? = some (.cells q.cells 32 (0, 0)) ∧ (U2.setRow (U1.heap.size) v.cells).heap[bz]? = some (.cells zreq 32 (0, 0)) ∧ Below w.heap.size w (U2.setRow (U1.heap.size) v.cells) := ⟨(heap_setRow_other (by omega) _).trans hS.1, (heap_setRow_other (by omega) _).trans hS.2.1, below_setRow hS.2.2 HKW.out _⟩
        refine hK.out _ _ hS8 (fun _ => ?_)
        clear hK K
        (try simp only [List.getElem_toArray, List.getElem_cons_zero, List.getElem_cons_succ, Act.put, List.setIfInBounds_toArray, List.set_cons_zero, List.set_cons_succ])
        refine wpAnyH_done (by kernel_rfl) ?_ _
        refine NoPanic.normal ?_
        go_wp2
        go_meet
        exact ⟨_, v, _, rfl, rfl, HVP, Lib.hid (HVI.out.row HNK.out _), Lib.hid ⟨HVN.out, HVF.out, HNZ.out, HNK.out⟩, Lib.hid (heap_setRow HN.out _), Lib.hid hS8.2.1, Lib.hid hS8.2.2, HKZ.out⟩
      · go_simp
        have hN : (V1.alloc (.cells #[.string ⟨#[]⟩, .string ⟨#[]⟩, .string ⟨#[]⟩, .int .i64 0, .string ⟨#[]⟩, .int .i64 0, .int .i64 0, .int .i64 0, .int .i64 0, .int .i64 0, .int .i64 0, .int .i64 0, .int .i64 0, .int .i64 0, .int .i64 0, .slice none 0 0, .string ⟨#[]⟩, .string ⟨#[]⟩, .string ⟨#[]⟩, .bool false, .bool false, .string ⟨#[]⟩, .slice none 0 0, .bool false, .bool false, .string ⟨#[]⟩, .int .i64 0, .string ⟨#[]⟩, .int .i64 0, .int .i64 0, .int .i64 0, .int .i64 0, .int .i64 0, .int .i64 0, .int .i64 0, .int .i64 0, .int .i64 0, .int .i64 0, .int .i64 0, .int .i64 0, .int .i64 0, .string ⟨#[]⟩, .bool false, .bool false, .int .i64 0] 32)).drew.heap[V1.heap.size]? = some (.cells #[.string ⟨#[]⟩, .string ⟨#[]⟩, .string ⟨#[]⟩, .int .i64 0, .string ⟨#[]⟩, .int .i64 0, .int .i64 0, .int .i64 0, .int .i64 0, .int .i64 0, .int .i64 0, .int .i64 0, .int .i64 0, .int .i64 0, .int .i64 0, .slice none 0 0, .string ⟨#[]⟩, .string ⟨#[]⟩, .string ⟨#[]⟩, .bool false, .bool false, .string ⟨#[]⟩, .slice none 0 0, .bool false, .bool false, .string ⟨#[]⟩, .int .i64 0, .string ⟨#[]⟩, .int .i64 0, .int .i64 0, .int .i64 0, .int .i64 0, .int .i64 0, .int .i64 0, .int .i64 0, .int .i64 0, .int .i64 0, .int .i64 0, .int .i64 0, .int .i64 0, .int .i64 0, .string ⟨#[]⟩, .bool false, .bool false, .int .i64 0] 32 (0, 0)) := Go.heap_alloc_new V1 _
        have hb : Below V1.drew.heap.size V1.drew (V1.alloc (.cells #[.string ⟨#[]⟩, .string ⟨#[]⟩, .string ⟨#[]⟩, .int .i64 0, .string ⟨#[]⟩, .int .i64 0, .int .i64 0, .int .i64 0, .int .i64 0, .int .i64 0, .int .i64 0, .int .i64 0, .int .i64 0, .int .i64 0, .int .i64 0, .slice none 0 0, .string ⟨#[]⟩, .string ⟨#[]⟩, .string ⟨#[]⟩, .bool false, .bool false, .string ⟨#[]⟩, .slice none 0 0, .bool false, .bool false, .string ⟨#[]⟩, .int .i64 0, .string ⟨#[]⟩, .int .i64 0, .int .i64 0, .int .i64 0, .int .i64 0, .int .i64 0, .int .i64 0, .int .i64 0, .int .i64 0, .int .i64 0, .int .i64 0, .int .i64 0, .int .i64 0, .int .i64 0, .string ⟨#[]⟩, .bool false, .bool false, .int .i64 0] 32)).drew := b_alloc (Below.refl _ _) _
        have HKZ : Hid (bz < V1.heap.size) := Lib.hid (Nat.lt_of_lt_of_le hz2' SZ.out)
        have HKW : Hid (w.heap.size ≤ V1.heap.size) := Lib.hid hS.2.2.size
        replace hS : (V1.alloc (.cells #[.string ⟨#[]⟩, .string ⟨#[]⟩, .string ⟨#[]⟩, .int .i64 0, .string ⟨#[]⟩, .int .i64 0, .int .i64 0, .int .i64 0, .int .i64 0, .int .i64 0, .int .i64 0, .int .i64 0, .int .i64 0, .int .i64 0, .int .i64 0, .slice none 0 0, .string ⟨#[]⟩, .string ⟨#[]⟩, .string ⟨#[]⟩, .bool false, .bool false, .string ⟨#[]⟩, .slice none 0 0, .bool false, .bool false, .string ⟨#[]⟩, .int .i64 0, .string ⟨#[]⟩, .int .i64 0, .int .i64 0, .int .i64 0, .int .i64 0, .int .i64 0, .int .i64 0, .int .i64 0, .int .i64 0, .int .i64 0, .int .i64 0, .int .i64 0, .int .i64 0, .int .i64 0, .string ⟨#[]⟩, .bool false, .bool false, .int .i64 0] 32)).drew.heap[w.heap.size]? = some (.cells q.cells 32 (0, 0)) ∧ (V1.alloc (.cells #[.string ⟨#[]⟩, .string ⟨#[]⟩, .string ⟨#[]⟩, .int .i64 0, .string ⟨#[]⟩, .int .i64 0, .int .i64 0, .int .i64 0, .int .i64 0, .int .i64 0, .int .i64 0, .int .i64 0, .int .i64 0, .int .i64 0, .int .i64 0, .slice none 0 0, .string ⟨#[]⟩, .string ⟨#[]⟩, .string ⟨#[]⟩, .bool false, .bool false, .string ⟨#[]⟩, .slice none 0 0, .bool false, .bool false, .string ⟨#[]⟩, .int .i64 0, .string ⟨#[]⟩, .int .i64 0, .int .i64 0, .int .i64 0, .int .i64 0, .int .i64 0, .int .i64 0, .int .i64 0, .int .i64 0, .int .i64 0, .int .i64 0, .int .i64 0, .int .i64 0, .int .i64 0, .string ⟨#[]⟩, .bool false, .bool false, .int .i64 0] 32)).drew.heap[bz]? = some (.cells zreq 32 (0, 0)) ∧ Below w.heap.size w (V1.alloc (.cells #[.string ⟨#[]⟩, .string ⟨#[]⟩, .string ⟨#[]⟩, .int .i64 0, .string ⟨#[]⟩, .int .i64 0, .int .i64 0, .int .i64 0, .int .i64 0, .int .i64 0, .int .i64 0, .int .i64 0, .int .i64 0, .int .i64 0, .int .i64 0, .slice none 0 0, .string ⟨#[]⟩, .string ⟨#[]⟩, .string ⟨#[]⟩, .bool false, .bool false, .string ⟨#[]⟩, .slice none 0 0, .bool false, .bool false, .string ⟨#[]⟩, .int .i64 0, .string ⟨#[]⟩, .int .i64 0, .int .i64 0, .int .i64 0, .int .i64 0, .int .i64 0, .int .i64 0, .int .i64 0, .int .i64 0, .int .i64 0, .int .i64 0, .int .i64 0, .int .i64 0, .int .i64 0, .string ⟨#[]⟩, .bool false, .bool false, .int .i64 0] 32)).drew := ⟨heap_b hb hS.1, heap_b hb hS.2.1, b_then hS.2.2 hb⟩
        replace SZ : Hid (V1.heap.size ≤ (V1.alloc (.cells #[.string ⟨#[]⟩, .string ⟨#[]⟩, .string ⟨#[]⟩, .int .i64 0, .string ⟨#[]⟩, .int .i64 0, .int .i64 0, .int .i64 0, .int .i64 0, .int .i64 0, .int .i64 0, .int .i64 0, .int .i64 0, .int .i64 0, .int .i64 0, .slice none 0 0, .string ⟨#[]⟩, .string ⟨#[]⟩, .string ⟨#[]⟩, .bool false, .bool false, .string ⟨#[]⟩, .slice none 0 0, .bool false, .bool false, .string ⟨#[]⟩, .int .i64 0, .string ⟨#[]⟩, .int .i64 0, .int .i64 0, .int .i64 0, .int .i64 0, .int .i64 0, .int .i64 0, .int .i64 0, .int .i64 0, .int .i64 0, .int .i64 0, .int .i64 0, .int .i64 0, .int .i64 0, .string ⟨#[]⟩, .bool false, .bool false, .int .i64 0] 32)).drew.heap.size) := Lib.hid (Nat.le_trans SZ.out hb.size)
        have HN := Lib.hid hN
        clear hb hN
        refine hK.out _ _ hS (fun _ => ?_)
        clear hK K
        (try simp only [List.getElem_toArray, List.getElem_cons_zero, List.getElem_cons_succ, Act.put, List.setIfInBounds_toArray, List.set_cons_zero, List.set_cons_succ])
        generalize (V1.alloc (.cells #[.string ⟨#[]⟩, .string ⟨#[]⟩, .string ⟨#[]⟩, .int .i64 0, .string ⟨#[]⟩, .int .i64 0, .int .i64 0, .int .i64 0, .int .i64 0, .int .i64 0, .int .i64 0, .int .i64 0, .int .i64 0, .int .i64 0, .int .i64 0, .slice none 0 0, .string ⟨#[]⟩, .string ⟨#[]⟩, .string ⟨#[]⟩, .bool false, .bool false, .string ⟨#[]⟩, .slice none 0 0, .bool false, .bool false, .string ⟨#[]⟩, .int .i64 0, .string ⟨#[]⟩, .int .i64 0, .int .i64 0, .int .i64 0, .int .i64 0, .int .i64 0, .int .i64 0, .int .i64 0, .int .i64 0, .int .i64 0, .int .i64 0, .int .i64 0, .int .i64 0, .int .i64 0, .string ⟨#[]⟩, .bool false, .bool false, .int .i64 0] 32)).drew = U1 at hS SZ HN ⊢
        refine wpAnyH_ready (rs := [2]) (by kernel_rfl) (by simp) ?_
        refine AllReadyH.cons rfl (fun K hK => ?_) AllReadyH.nil
        go_simp
        have hlt8 := h_lt HN.out
        refine (own_q_c q (some ⟨0, 0, none⟩) 4 4 PM.bodies _ (QI.out.ok.below hS.2.2) (QI.out.rd.below hS.2.2) HL.out hn (HBD.out.below hS.2.2).rd bodies_len).mono ?_
        rintro e U2 ⟨⟨v, rfl, hvp, hvi, hvn, hvf⟩, hb⟩
        have HNZ : Hid (QNo bz v) := Lib.hid (hvf.no (Nat.lt_of_lt_of_le hz2' SZ.out))
        have HVP := Lib.hid hvp
        have HVF : Hid (QFr w.heap.size v) := Lib.hid ⟨fun g o e => Nat.le_trans hS.2.2.size (hvf.hf g o e), fun g o e hx => Nat.le_trans hS.2.2.size (hvf.pf g o e hx)⟩
        have HVN := Lib.hid hvn
        have HNK : Hid (QNo (V1.heap.size) v) := Lib.hid (hvf.no hlt8)
        clear hlt8
        replace hS : U2.heap[w.heap.size]? = some (.cells q.cells 32 (0, 0)) ∧ U2.heap[bz]? = some (.cells zreq 32 (0, 0)) ∧ Below w.heap.size w U2 := ⟨heap_b hb hS.1, heap_b hb hS.2.1, b_then hS.2.2 hb⟩
        replace SZ : Hid (V1.heap.size ≤ U2.heap.size) := Lib.hid (Nat.le_trans SZ.out hb.size)
        replace HN := Lib.hid (obj_b hb HN.out)
        have HVI := Lib.hid hvi
        clear hvi hvp hvf hvn hb
        refine hK.out _ _ hS (fun _ => ?_)
        clear hK K
        (try simp only [List.getElem_toArray, List.getElem_cons_zero, List.getElem_cons_succ, Act.put, List.setIfInBounds_toArray, List.set_cons_zero, List.set_cons_succ])
        refine wpAnyH_ready (rs := [4]) (by kernel_rfl) (by simp) ?_
        refine AllReadyH.cons rfl (fun K hK => ?_) AllReadyH.nil
        try rw [if_pos (by rfl)]
        refine wp_store_row 32 _ _ rfl (V1.heap.size) v.cells rfl rfl 32 _ HN.out (by kernel_rfl) rfl (qagg_one v) ?_
        have hkz := HKZ.out
        have hS8 : (U2.setRow (V1.heap.size) v.cells).heap[w.heap.size]? = some (.cells q.cells 32 (0, 0)) ∧ (U2.setRow (V1.heap.size) v.cells).heap[bz]? = some (.cells zreq 32 (0, 0)) ∧ Below w.heap.size w (U2.setRow (V1.heap.size) v.cells) := ⟨(heap_setRow_other (by omega) _).trans hS.1, (heap_setRow_other (by omega) _).trans hS.2.1, below_setRow hS.2.2 HKW.out _⟩
        refine hK.out _ _ hS8 (fun _ => ?_)
        clear hK K
        (try simp only [List.getElem_toArray, List.getElem_cons_zero, List.getElem_cons_succ, Act.put, List.setIfInBounds_toArray, List.set_cons_zero, List.set_cons_succ])
        refine wpAnyH_done (by kernel_rfl) ?_ _
        refine NoPanic.normal ?_
        go_wp2
        go_meet
        exact ⟨_, v, _, rfl, rfl, HVP, Lib.hid (HVI.out.row HNK.out _), Lib.hid ⟨HVN.out, HVF.out, HNZ.out, HNK.out⟩, Lib.hid (heap_setRow HN.out _), Lib.hid hS8.2.1, Lib.hid hS8.2.2, HKZ.out⟩
    case rest =>
      obtain ⟨kx, v, V2, rfl, rfl, HVP, HVI, HVQ, Hx, Hz, HB, hkz⟩ := hcut
      have hwk : w.heap.size ≤ kx := by omega
      have d21 : ∃ v0, V2.cell? ⟨kx, 21, none⟩ = some v0 := ⟨_, by rw [Lib.cell_of_heap Hx.out]; rfl⟩
      have d23 : ∃ v0, V2.cell? ⟨kx, 23, none⟩ = some v0 := ⟨_, by rw [Lib.cell_of_heap Hx.out]; rfl⟩
      have f21 : ∀ o, V2.frozen? ⟨kx, o, none⟩ = false := fun o => Lib.frozen_of_heap Hx.out o
      obtain ⟨v0, d21⟩ := d21
      obtain ⟨v1, d23⟩ := d23
      go_upto_region 5 with fail
      clear d21 d23 f21
      obtain ⟨V3, hV⟩ : ∃ V3, V3 = (V2.setCell ⟨kx, 21, none⟩ (.string ⟨#[71, 69, 84]⟩)).setCell ⟨kx, 23, none⟩ (.bool false) := ⟨_, rfl⟩
      rw [← hV]
      replace Hx : Hid (V3.heap[kx]? = some (.cells ({ v with me := PM.GET, bo := false } : QV).cells 32 (0, 0))) := Lib.hid (by rw [hV]; exact setCell_heap (setCell_heap Hx.out 21 _) 23 _)
      replace Hz : Hid (V3.heap[bz]? = some (.cells zreq 32 (0, 0))) := Lib.hid (by rw [hV]; exact heap_set_other (heap_set_other Hz.out _ _ _ (by omega)) _ _ _ (by omega))
      replace HB : Hid (Below w.heap.size w V3) := Lib.hid (by rw [hV]; exact b_set (b_set HB.out _ hwk _) _ hwk _)
      replace HVI : Hid (QIn { v with me := PM.GET, bo := false } V3) := Lib.hid (by rw [hV]; exact ⟨⟨((HVI.out.set HVQ.out.2.2.2 _ _).set HVQ.out.2.2.2 _ _).ok.u, HVI.out.ok.o, show PM.GET.length ≤ 1000000 by decide⟩, ((HVI.out.set HVQ.out.2.2.2 _ _).set HVQ.out.2.2.2 _ _).rd⟩)
      clear hV
      go_wp2_with (first | go_skip | (refine wpList_load_g 32 _ rfl (by kernel_rfl) kx rfl Hx.out Tryz.underlying32 rfl (by kernel_rfl) ?_) | (refine wpList_store_row rfl 32 _ _ rfl bz ({ v with me := PM.GET, bo := false } : QV).cells rfl rfl 32 _ Hz.out (by kernel_rfl) rfl (qagg_one _) ?_))
      refine bodyPost_ret (results_cell_row (fr := (0, 0)) rfl _ _ bz 32 ({ v with me := PM.GET, bo := false } : QV).cells _ rfl (heap_setRow Hz.out _) Tryz.underlying32 rfl (by kernel_rfl)) rfl ?_
      exact ⟨⟨{ v with me := PM.GET, bo := false }, rfl, by rw [HC.out, ← HVP.out]; rfl, HVI.out.row ⟨HVQ.out.2.2.1.hf, HVQ.out.2.2.1.pf⟩ _, HVQ.out.1, ⟨HVQ.out.2.1.hf, HVQ.out.2.1.pf⟩⟩, below_setRow HB.out hlw_bz _⟩
end Go.Proofs.YtppbkblnjlbnfaaGreatDoor
/-! Contract: method.Away. -/
namespace Go.Proofs.YtppbkblnjlbnfaaGreatDoor
open Go.RowKit
theorem wrap_i64 (n : Int) : wrap64 n = PM.i64 n := by unfold wrap64 PM.i64; omega
def awayV (v : QV) (next : UV) (pa : Option Addr) (pc : Nat) (t c : Bool) (n : Int) : QV := { v with u := { next with a := pa, pc := pc }, ta := t, cr := c, co := n }
theorem awayV_pm {q v : QV} {next : UV} {pa : Option Addr} {pc : Nat} {names : List (List UInt8)} (h : v.pm = PM.own q.pm names) (hb : (if PM.both q.u.pm next.pm then [] else [PM.auth]) = names) : (awayV v next pa pc (PM.taintOf q.ta q.o.pm q.u.pm next.pm) (PM.crossed q.pm) (wrap64 (v.co + 1))).pm = PM.away q.pm next.pm := by
  rw [wrap_i64]
  show ({ v.pm with tainted := PM.taintOf q.ta q.o.pm q.u.pm next.pm, cross := PM.crossed q.pm, url := next.pm, count := PM.i64 (v.pm.count + 1) } : PM.Req) = PM.away q.pm next.pm
  rw [h]
  unfold PM.away
  subst hb
  have e : (if PM.both q.pm.url next.pm then PM.own q.pm [] else PM.own q.pm [PM.auth]) = PM.own q.pm (if PM.both q.u.pm next.pm then [] else [PM.auth]) := by
    show (if PM.both q.u.pm next.pm then PM.own q.pm [] else PM.own q.pm [PM.auth]) = _
    split <;> rfl
  rw [e]
  rfl
theorem one_name (W : World) (b : Nat) (s : List UInt8) (h : W.heap[b]? = some (.cells #[.string (mkS s)] 9 (0, 0))) : RdS W (some ⟨b, 0, none⟩) 1 [s] := ⟨rfl, by decide, .inr ⟨b, 0, rfl, h_lt h, fun j hj => by
  obtain rfl : j = 0 := by simp at hj; omega
  rw [Lib.cell_of_heap h]; rfl⟩⟩
set_option maxRecDepth 100000 in
set_option maxHeartbeats 16000000 in
theorem Away_c (q : QV) (next : UV) (w : World) (hq : QIn q w) (hl : ∀ f ∈ q.hs, f.1.length ≤ 1000000) (hn : q.hn ≤ 1000000) (hnx : next.Ok w) (hg : Gl w) :
    Calls Tryz.prog 22 #[.agg q.cells, .agg next.cells] w fun e w' => (∃ v : QV, e = .returned (.agg v.cells) ∧ v.pm = PM.away q.pm next.pm ∧ QIn v w' ∧ v.hn ≤ q.hn ∧ QFr w.heap.size v) ∧ Below w.heap.size w w' := by
  have QI := Lib.hid hq
  have HL := Lib.hid hl
  have ON := Lib.hid hnx
  have HG := Lib.hid hg
  clear hq hl hnx hg
  have HB : Hid (Below w.heap.size w (((w.alloc (.cells q.cells 32)).alloc (.cells next.cells 27)).alloc (.cells #[.string ⟨#[]⟩, .string ⟨#[]⟩, .string ⟨#[]⟩, .int .i64 0, .string ⟨#[]⟩, .int .i64 0, .int .i64 0, .int .i64 0, .int .i64 0, .int .i64 0, .int .i64 0, .int .i64 0, .int .i64 0, .int .i64 0, .int .i64 0, .slice none 0 0, .string ⟨#[]⟩, .string ⟨#[]⟩, .string ⟨#[]⟩, .bool false, .bool false, .string ⟨#[]⟩, .slice none 0 0, .bool false, .bool false, .string ⟨#[]⟩, .int .i64 0, .string ⟨#[]⟩, .int .i64 0, .int .i64 0, .int .i64 0, .int .i64 0, .int .i64 0, .int .i64 0, .int .i64 0, .int .i64 0, .int .i64 0, .int .i64 0, .int .i64 0, .int .i64 0, .int .i64 0, .string ⟨#[]⟩, .bool false, .bool false, .int .i64 0] 32))) := Lib.hid (b_alloc (b_alloc (b_alloc (Below.refl _ _) _) _) _)
  have Hq : Hid ((((w.alloc (.cells q.cells 32)).alloc (.cells next.cells 27)).alloc (.cells #[.string ⟨#[]⟩, .string ⟨#[]⟩, .string ⟨#[]⟩, .int .i64 0, .string ⟨#[]⟩, .int .i64 0, .int .i64 0, .int .i64 0, .int .i64 0, .int .i64 0, .int .i64 0, .int .i64 0, .int .i64 0, .int .i64 0, .int .i64 0, .slice none 0 0, .string ⟨#[]⟩, .string ⟨#[]⟩, .string ⟨#[]⟩, .bool false, .bool false, .string ⟨#[]⟩, .slice none 0 0, .bool false, .bool false, .string ⟨#[]⟩, .int .i64 0, .string ⟨#[]⟩, .int .i64 0, .int .i64 0, .int .i64 0, .int .i64 0, .int .i64 0, .int .i64 0, .int .i64 0, .int .i64 0, .int .i64 0, .int .i64 0, .int .i64 0, .int .i64 0, .int .i64 0, .string ⟨#[]⟩, .bool false, .bool false, .int .i64 0] 32)).heap[w.heap.size]? = some (.cells q.cells 32 (0, 0))) := Lib.hid (heap_b (b_alloc (b_alloc (Below.refl _ _) _) _) (by have h := Go.heap_alloc_new w (.cells q.cells 32); simpa using h))
  have Hn : Hid ((((w.alloc (.cells q.cells 32)).alloc (.cells next.cells 27)).alloc (.cells #[.string ⟨#[]⟩, .string ⟨#[]⟩, .string ⟨#[]⟩, .int .i64 0, .string ⟨#[]⟩, .int .i64 0, .int .i64 0, .int .i64 0, .int .i64 0, .int .i64 0, .int .i64 0, .int .i64 0, .int .i64 0, .int .i64 0, .int .i64 0, .slice none 0 0, .string ⟨#[]⟩, .string ⟨#[]⟩, .string ⟨#[]⟩, .bool false, .bool false, .string ⟨#[]⟩, .slice none 0 0, .bool false, .bool false, .string ⟨#[]⟩, .int .i64 0, .string ⟨#[]⟩, .int .i64 0, .int .i64 0, .int .i64 0, .int .i64 0, .int .i64 0, .int .i64 0, .int .i64 0, .int .i64 0, .int .i64 0, .int .i64 0, .int .i64 0, .int .i64 0, .int .i64 0, .string ⟨#[]⟩, .bool false, .bool false, .int .i64 0] 32)).heap[w.heap.size + 1]? = some (.cells next.cells 27 (0, 0))) := Lib.hid (heap_b (b_alloc (Below.refl _ _) _) (by have h := Go.heap_alloc_new (w.alloc (.cells q.cells 32)) (.cells next.cells 27); simpa using h))
  have Hz : Hid ((((w.alloc (.cells q.cells 32)).alloc (.cells next.cells 27)).alloc (.cells #[.string ⟨#[]⟩, .string ⟨#[]⟩, .string ⟨#[]⟩, .int .i64 0, .string ⟨#[]⟩, .int .i64 0, .int .i64 0, .int .i64 0, .int .i64 0, .int .i64 0, .int .i64 0, .int .i64 0, .int .i64 0, .int .i64 0, .int .i64 0, .slice none 0 0, .string ⟨#[]⟩, .string ⟨#[]⟩, .string ⟨#[]⟩, .bool false, .bool false, .string ⟨#[]⟩, .slice none 0 0, .bool false, .bool false, .string ⟨#[]⟩, .int .i64 0, .string ⟨#[]⟩, .int .i64 0, .int .i64 0, .int .i64 0, .int .i64 0, .int .i64 0, .int .i64 0, .int .i64 0, .int .i64 0, .int .i64 0, .int .i64 0, .int .i64 0, .int .i64 0, .int .i64 0, .string ⟨#[]⟩, .bool false, .bool false, .int .i64 0] 32)).heap[w.heap.size + 1 + 1]? = some (.cells #[.string ⟨#[]⟩, .string ⟨#[]⟩, .string ⟨#[]⟩, .int .i64 0, .string ⟨#[]⟩, .int .i64 0, .int .i64 0, .int .i64 0, .int .i64 0, .int .i64 0, .int .i64 0, .int .i64 0, .int .i64 0, .int .i64 0, .int .i64 0, .slice none 0 0, .string ⟨#[]⟩, .string ⟨#[]⟩, .string ⟨#[]⟩, .bool false, .bool false, .string ⟨#[]⟩, .slice none 0 0, .bool false, .bool false, .string ⟨#[]⟩, .int .i64 0, .string ⟨#[]⟩, .int .i64 0, .int .i64 0, .int .i64 0, .int .i64 0, .int .i64 0, .int .i64 0, .int .i64 0, .int .i64 0, .int .i64 0, .int .i64 0, .int .i64 0, .int .i64 0, .int .i64 0, .string ⟨#[]⟩, .bool false, .bool false, .int .i64 0] 32 (0, 0))) := Lib.hid ((by have h := Go.heap_alloc_new ((w.alloc (.cells q.cells 32)).alloc (.cells next.cells 27)) (.cells #[.string ⟨#[]⟩, .string ⟨#[]⟩, .string ⟨#[]⟩, .int .i64 0, .string ⟨#[]⟩, .int .i64 0, .int .i64 0, .int .i64 0, .int .i64 0, .int .i64 0, .int .i64 0, .int .i64 0, .int .i64 0, .int .i64 0, .int .i64 0, .slice none 0 0, .string ⟨#[]⟩, .string ⟨#[]⟩, .string ⟨#[]⟩, .bool false, .bool false, .string ⟨#[]⟩, .slice none 0 0, .bool false, .bool false, .string ⟨#[]⟩, .int .i64 0, .string ⟨#[]⟩, .int .i64 0, .int .i64 0, .int .i64 0, .int .i64 0, .int .i64 0, .int .i64 0, .int .i64 0, .int .i64 0, .int .i64 0, .int .i64 0, .int .i64 0, .int .i64 0, .int .i64 0, .string ⟨#[]⟩, .bool false, .bool false, .int .i64 0] 32); simpa using h))
  go_enter Tryz.func22, Tryz.ntmps22
  go_upto_region 1 with fail
  generalize ((w.alloc (.cells q.cells 32)).alloc (.cells next.cells 27)).alloc (.cells #[.string ⟨#[]⟩, .string ⟨#[]⟩, .string ⟨#[]⟩, .int .i64 0, .string ⟨#[]⟩, .int .i64 0, .int .i64 0, .int .i64 0, .int .i64 0, .int .i64 0, .int .i64 0, .int .i64 0, .int .i64 0, .int .i64 0, .int .i64 0, .slice none 0 0, .string ⟨#[]⟩, .string ⟨#[]⟩, .string ⟨#[]⟩, .bool false, .bool false, .string ⟨#[]⟩, .slice none 0 0, .bool false, .bool false, .string ⟨#[]⟩, .int .i64 0, .string ⟨#[]⟩, .int .i64 0, .int .i64 0, .int .i64 0, .int .i64 0, .int .i64 0, .int .i64 0, .int .i64 0, .int .i64 0, .int .i64 0, .int .i64 0, .int .i64 0, .int .i64 0, .int .i64 0, .string ⟨#[]⟩, .bool false, .bool false, .int .i64 0] 32) = V0 at HB Hq Hn Hz ⊢
  generalize hbz : w.heap.size + 1 + 1 = bz at Hz ⊢
  have hlw_bz : w.heap.size ≤ bz := by omega
  generalize hbn : w.heap.size + 1 = bn at Hn ⊢
  have hlw_bn : w.heap.size ≤ bn := by omega
  have hne_n_q : w.heap.size < bn := by omega
  have hne_z_q : w.heap.size < bz := by omega
  have hne_z_n : bn < bz := by omega
  clear hbz hbn
  replace Hz : Hid (V0.heap[bz]? = some (.cells zreq 32 (0, 0))) := Lib.hid Hz.out
  go_wp2_with (first | go_skip | (refine wpList_load_g 32 _ rfl (by kernel_rfl) w.heap.size rfl Hq.out Tryz.underlying32 rfl (by kernel_rfl) ?_) | (refine wpList_load_g 27 _ rfl (by kernel_rfl) bn rfl Hn.out Tryz.underlying27 rfl (by kernel_rfl) ?_))
  refine (own_q_c q none 0 0 [] _ (QI.out.ok.below HB.out) (QI.out.rd.below HB.out) HL.out hn (none_rd _) (fun s hs => by cases hs)).mono ?_
  rintro e V1 ⟨⟨v, rfl, hvp, hvi, hvn, hvf⟩, hb⟩
  have HVP := Lib.hid hvp
  have HVI := Lib.hid hvi
  have HVN := Lib.hid hvn
  have HVF : Hid (QFr w.heap.size v) := Lib.hid ⟨fun g o e => Nat.le_trans HB.out.size (hvf.hf g o e), fun g o e hx => Nat.le_trans HB.out.size (hvf.pf g o e hx)⟩
  have HNZ : Hid (QNo bz v) := Lib.hid (hvf.no (h_lt Hz.out))
  replace HB := Lib.hid (b_then HB.out hb)
  replace Hq := Lib.hid (obj_b hb Hq.out)
  replace Hn := Lib.hid (obj_b hb Hn.out)
  replace Hz := Lib.hid (obj_b hb Hz.out)
  clear hvp hvi hvn hvf hb
  have HN := Lib.hid (Go.heap_alloc_new V1 (.cells #[.string ⟨#[]⟩, .string ⟨#[]⟩, .string ⟨#[]⟩, .int .i64 0, .string ⟨#[]⟩, .int .i64 0, .int .i64 0, .int .i64 0, .int .i64 0, .int .i64 0, .int .i64 0, .int .i64 0, .int .i64 0, .int .i64 0, .int .i64 0, .slice none 0 0, .string ⟨#[]⟩, .string ⟨#[]⟩, .string ⟨#[]⟩, .bool false, .bool false, .string ⟨#[]⟩, .slice none 0 0, .bool false, .bool false, .string ⟨#[]⟩, .int .i64 0, .string ⟨#[]⟩, .int .i64 0, .int .i64 0, .int .i64 0, .int .i64 0, .int .i64 0, .int .i64 0, .int .i64 0, .int .i64 0, .int .i64 0, .int .i64 0, .int .i64 0, .int .i64 0, .int .i64 0, .string ⟨#[]⟩, .bool false, .bool false, .int .i64 0] 32))
  go_upto_region 2 with (first | (refine wpList_store_row rfl 32 _ _ rfl V1.heap.size v.cells rfl rfl 32 _ HN.out (by kernel_rfl) rfl (qagg_one v) ?_))
  obtain ⟨V2, hV⟩ : ∃ V2, V2 = (V1.alloc (.cells #[.string ⟨#[]⟩, .string ⟨#[]⟩, .string ⟨#[]⟩, .int .i64 0, .string ⟨#[]⟩, .int .i64 0, .int .i64 0, .int .i64 0, .int .i64 0, .int .i64 0, .int .i64 0, .int .i64 0, .int .i64 0, .int .i64 0, .int .i64 0, .slice none 0 0, .string ⟨#[]⟩, .string ⟨#[]⟩, .string ⟨#[]⟩, .bool false, .bool false, .string ⟨#[]⟩, .slice none 0 0, .bool false, .bool false, .string ⟨#[]⟩, .int .i64 0, .string ⟨#[]⟩, .int .i64 0, .int .i64 0, .int .i64 0, .int .i64 0, .int .i64 0, .int .i64 0, .int .i64 0, .int .i64 0, .int .i64 0, .int .i64 0, .int .i64 0, .int .i64 0, .int .i64 0, .string ⟨#[]⟩, .bool false, .bool false, .int .i64 0] 32)).setRow V1.heap.size v.cells := ⟨_, rfl⟩
  rw [← hV]
  have hN : V2.heap[V1.heap.size]? = some (.cells v.cells 32 (0, 0)) := by rw [hV]; exact heap_setRow HN.out _
  have hb : Below V1.heap.size V1 V2 := by rw [hV]; exact below_setRow (b_alloc (Below.refl _ _) _) (Nat.le_refl _) _
  have hkq : w.heap.size < V1.heap.size := h_lt Hq.out
  have hkn : bn < V1.heap.size := h_lt Hn.out
  have hkz : bz < V1.heap.size := h_lt Hz.out
  have HNK : Hid (QNo V1.heap.size v) := Lib.hid (HVI.out.no (Nat.le_refl _))
  have Hx := Lib.hid hN
  replace HB := Lib.hid (b_then HB.out hb)
  replace Hq := Lib.hid (obj_b hb Hq.out)
  replace Hn := Lib.hid (obj_b hb Hn.out)
  replace Hz := Lib.hid (obj_b hb Hz.out)
  replace HVI := Lib.hid (HVI.out.below hb)
  have hxsz : Hid (V1.heap.size < V2.heap.size) := Lib.hid (h_lt Hx.out)
  clear hV HN hN hb
  generalize V1.heap.size = kx at Hx HNK hkq hkn hkz hxsz ⊢
  (try simp only [Act.put])
  obtain ⟨b, hb0⟩ : ∃ b, PM.both q.u.pm next.pm = b := ⟨_, rfl⟩
  have HBT := Lib.hid hb0
  clear hb0
  go_wp2_with (first | go_skip | (refine wpList_load_g 32 _ rfl (by kernel_rfl) w.heap.size rfl Hq.out Tryz.underlying32 rfl (by kernel_rfl) ?_) | (refine wpList_load_g 27 _ rfl (by kernel_rfl) bn rfl Hn.out Tryz.underlying27 rfl (by kernel_rfl) ?_) | (refine wpList_load_mg 27 _ rfl (by kernel_rfl) w.heap.size 0 rfl q.u.cells (q_url Hq.out) Tryz.underlying27 rfl (by kernel_rfl) ?_))
  refine (Both_c q.u next _ (QI.out.ok.u.below HB.out) (ON.out.below HB.out) (HG.out.below HB.out)).mono ?_
  rw [HBT.out]
  rintro e V3 ⟨rfl, hb⟩
  replace HB := Lib.hid (b_then HB.out hb)
  replace Hq := Lib.hid (obj_b hb Hq.out)
  replace Hn := Lib.hid (obj_b hb Hn.out)
  replace Hz := Lib.hid (obj_b hb Hz.out)
  replace Hx := Lib.hid (obj_b hb Hx.out)
  replace HVI := Lib.hid (HVI.out.below hb)
  replace hxsz := Lib.hid (Nat.lt_of_lt_of_le hxsz.out hb.size)
  clear hb
  cases b
  rotate_left
  · skip
    have HRD := Lib.hid HVI.out.rd
    obtain ⟨T, hT⟩ : ∃ T, PM.taintOf q.ta q.o.pm q.u.pm next.pm = T := ⟨_, rfl⟩
    have HT := Lib.hid hT
    obtain ⟨C, hC⟩ : ∃ C, PM.crossed q.pm = C := ⟨_, rfl⟩
    have HC := Lib.hid hC
    clear hT hC
    have c42 : V3.cell? ⟨w.heap.size, 42, none⟩ = some (.bool q.ta) := by rw [Lib.cell_of_heap Hq.out]; rfl
    go_wp2_with (first | go_skip | (refine wpList_load_g 32 _ rfl (by kernel_rfl) w.heap.size rfl Hq.out Tryz.underlying32 rfl (by kernel_rfl) ?_) | (refine wpList_load_g 27 _ rfl (by kernel_rfl) bn rfl Hn.out Tryz.underlying27 rfl (by kernel_rfl) ?_) | (refine wpList_load_mg 27 _ rfl (by kernel_rfl) w.heap.size 0 rfl q.u.cells (q_url Hq.out) Tryz.underlying27 rfl (by kernel_rfl) ?_) | (refine wpList_load_mg 30 _ rfl (by kernel_rfl) w.heap.size 24 rfl q.o.cells (q_org Hq.out) Tryz.underlying30 rfl (by kernel_rfl) ?_))
    refine (Taint_c q.ta q.o q.u next _ QI.out.ok.o (QI.out.ok.u.below HB.out) (ON.out.below HB.out) (HG.out.below HB.out)).mono ?_
    rw [HT.out]
    rintro e V4 ⟨rfl, hb⟩
    clear c42
    replace HB := Lib.hid (b_then HB.out hb)
    replace Hq := Lib.hid (obj_b hb Hq.out)
    replace Hn := Lib.hid (obj_b hb Hn.out)
    replace Hz := Lib.hid (obj_b hb Hz.out)
    replace Hx := Lib.hid (obj_b hb Hx.out)
    replace HRD := Lib.hid (HRD.out.below hb)
    clear hb
    have dd : ∃ v0, V4.cell? ⟨kx, 42, none⟩ = some v0 := ⟨_, by rw [Lib.cell_of_heap Hx.out]; rfl⟩
    have ff : V4.frozen? ⟨kx, 42, none⟩ = false := Lib.frozen_of_heap Hx.out 42
    obtain ⟨v0, dd⟩ := dd
    go_upto_region 5 with fail
    clear dd ff
    obtain ⟨V5, hV⟩ : ∃ V5, V5 = V4.setCell ⟨kx, 42, none⟩ (.bool T) := ⟨_, rfl⟩
    rw [← hV]
    replace Hx : Hid (V5.heap[kx]? = some (.cells ({ v with ta := T } : QV).cells 32 (0, 0))) := Lib.hid (by rw [hV]; exact setCell_heap Hx.out 42 (.bool T))
    replace Hq := Lib.hid (show V5.heap[w.heap.size]? = some (.cells q.cells 32 (0, 0)) from by rw [hV]; exact heap_set_other Hq.out _ _ _ (by omega))
    replace Hn := Lib.hid (show V5.heap[bn]? = some (.cells next.cells 27 (0, 0)) from by rw [hV]; exact heap_set_other Hn.out _ _ _ (by omega))
    replace Hz := Lib.hid (show V5.heap[bz]? = some (.cells zreq 32 (0, 0)) from by rw [hV]; exact heap_set_other Hz.out _ _ _ (by omega))
    replace HB : Hid (Below w.heap.size w V5) := Lib.hid (by rw [hV]; exact b_set HB.out _ (Nat.le_of_lt hkq) _)
    replace HRD : Hid (RdFW V5 v.ha v.hn v.hs) := Lib.hid (by rw [hV]; exact HRD.out.set HNK.out.hf _ _)
    clear hV
    go_wp2_with (first | go_skip | (refine wpList_load_g 32 _ rfl (by kernel_rfl) w.heap.size rfl Hq.out Tryz.underlying32 rfl (by kernel_rfl) ?_) | (refine wpList_load_g 27 _ rfl (by kernel_rfl) bn rfl Hn.out Tryz.underlying27 rfl (by kernel_rfl) ?_))
    refine (Crossed_c q _ (QI.out.ok.below HB.out) (HG.out.below HB.out)).mono ?_
    rw [HC.out]
    rintro e V6 ⟨rfl, hb⟩
    replace HB := Lib.hid (b_then HB.out hb)
    replace Hq := Lib.hid (obj_b hb Hq.out)
    replace Hn := Lib.hid (obj_b hb Hn.out)
    replace Hz := Lib.hid (obj_b hb Hz.out)
    replace Hx := Lib.hid (obj_b hb Hx.out)
    replace HRD := Lib.hid (HRD.out.below hb)
    clear hb
    have dd : ∃ v0, V6.cell? ⟨kx, 43, none⟩ = some v0 := ⟨_, by rw [Lib.cell_of_heap Hx.out]; rfl⟩
    have ff : V6.frozen? ⟨kx, 43, none⟩ = false := Lib.frozen_of_heap Hx.out 43
    obtain ⟨v0, dd⟩ := dd
    go_upto_region 6 with fail
    clear dd ff
    obtain ⟨V7, hV⟩ : ∃ V7, V7 = V6.setCell ⟨kx, 43, none⟩ (.bool C) := ⟨_, rfl⟩
    rw [← hV]
    replace Hx : Hid (V7.heap[kx]? = some (.cells ({ v with ta := T, cr := C } : QV).cells 32 (0, 0))) := Lib.hid (by rw [hV]; exact setCell_heap Hx.out 43 (.bool C))
    replace Hq := Lib.hid (show V7.heap[w.heap.size]? = some (.cells q.cells 32 (0, 0)) from by rw [hV]; exact heap_set_other Hq.out _ _ _ (by omega))
    replace Hn := Lib.hid (show V7.heap[bn]? = some (.cells next.cells 27 (0, 0)) from by rw [hV]; exact heap_set_other Hn.out _ _ _ (by omega))
    replace Hz := Lib.hid (show V7.heap[bz]? = some (.cells zreq 32 (0, 0)) from by rw [hV]; exact heap_set_other Hz.out _ _ _ (by omega))
    replace HB : Hid (Below w.heap.size w V7) := Lib.hid (by rw [hV]; exact b_set HB.out _ (Nat.le_of_lt hkq) _)
    replace HRD : Hid (RdFW V7 v.ha v.hn v.hs) := Lib.hid (by rw [hV]; exact HRD.out.set HNK.out.hf _ _)
    clear hV
    have hsz : 45 = (({ v with ta := T, cr := C } : QV).cells).size := rfl
    have hth : V7.there kx 0 21 := fun j hj => ⟨by
      have hsj : 0 + j < (({ v with ta := T, cr := C } : QV).cells).size := by omega
      rw [Lib.cell_of_heap Hx.out, Array.getElem?_eq_getElem hsj]
      rfl, Lib.frozen_of_heap Hx.out _⟩
    clear hsz
    have HTH := Lib.hid hth
    clear hth
    go_upto_region 7 with (first | (refine wpList_load_g 27 _ rfl (by kernel_rfl) bn rfl Hn.out Tryz.underlying27 rfl (by kernel_rfl) ?_) | (refine wpList_store_mid rfl 27 _ _ rfl kx 0 next.cells rfl rfl HTH.out (by kernel_rfl) (agg_one next) ?_))
    clear HTH
    obtain ⟨V8, hV⟩ : ∃ V8, V8 = V7.setCells kx 0 next.cells.toList := ⟨_, rfl⟩
    rw [← hV]
    have hxx : V8.heap[kx]? = some (.cells ({ v with u := next, ta := T, cr := C } : QV).cells 32 (0, 0)) := by
      rw [hV]
      exact setCells_heap next.cells.toList 0 V7 (({ v with ta := T, cr := C } : QV).cells).toList Hx.out (show 21 ≤ 45 by decide)
    replace Hq := Lib.hid (show V8.heap[w.heap.size]? = some (.cells q.cells 32 (0, 0)) from by rw [hV]; exact (setCells_other _ _ _ _ (by omega)).trans Hq.out)
    replace Hn := Lib.hid (show V8.heap[bn]? = some (.cells next.cells 27 (0, 0)) from by rw [hV]; exact (setCells_other _ _ _ _ (by omega)).trans Hn.out)
    replace Hz := Lib.hid (show V8.heap[bz]? = some (.cells zreq 32 (0, 0)) from by rw [hV]; exact (setCells_other _ _ _ _ (by omega)).trans Hz.out)
    replace HB : Hid (Below w.heap.size w V8) := Lib.hid (by rw [hV]; exact setCells_below (Nat.le_of_lt hkq) _ _ _ HB.out)
    replace HRD : Hid (RdFW V8 v.ha v.hn v.hs) := Lib.hid (HRD.out.frame (by rw [hV, setCells_size]; exact Nat.le_refl _) (fun g o e hx => by rw [hV]; exact setCells_other _ _ _ _ (HNK.out.hf g o e hx)))
    replace Hx := Lib.hid hxx
    clear hxx hV
    (try simp only [Act.put])
    have c15 : V8.cell? ⟨bn, 15, none⟩ = some (.slice next.a next.pn next.pc) := by rw [Lib.cell_of_heap Hn.out]; rfl
    go_wp2_with fail
    refine (Clone_c next.a next.pn next.pc next.xs _ (ON.out.rd.below HB.out)).mono ?_
    rintro e V9 ⟨pa, pc, rfl, hps, hpf, hb⟩
    clear c15
    have hzz : bz < V8.heap.size := h_lt Hz.out
    have hxx : kx < V8.heap.size := h_lt Hx.out
    have hww := HB.out.size
    have HPS := Lib.hid hps
    have HPF : Hid (∀ g o, pa = some ⟨g, o, none⟩ → next.xs ≠ [] → g ≠ kx ∧ g ≠ bz ∧ w.heap.size ≤ g) := Lib.hid fun g o e hx => by have := hpf g o e hx; omega
    clear hps hpf hzz hxx hww
    replace HB := Lib.hid (b_then HB.out hb)
    replace Hq := Lib.hid (obj_b hb Hq.out)
    replace Hn := Lib.hid (obj_b hb Hn.out)
    replace Hz := Lib.hid (obj_b hb Hz.out)
    replace Hx := Lib.hid (obj_b hb Hx.out)
    replace HRD := Lib.hid (HRD.out.below hb)
    clear hb
    have dd : ∃ v0, V9.cell? ⟨kx, 15, none⟩ = some v0 := ⟨_, by rw [Lib.cell_of_heap Hx.out]; rfl⟩
    have ff : V9.frozen? ⟨kx, 15, none⟩ = false := Lib.frozen_of_heap Hx.out 15
    obtain ⟨v0, dd⟩ := dd
    go_upto_region 8 with fail
    clear dd ff
    have HPS2 : Hid (RdS (V9.setCell ⟨kx, 15, none⟩ (.slice pa next.pn pc)) pa next.pn next.xs) := Lib.hid (HPS.out.set (fun g o e hx => (HPF.out g o e hx).1) _ _)
    obtain ⟨V10, hV⟩ : ∃ V10, V10 = V9.setCell ⟨kx, 15, none⟩ (.slice pa next.pn pc) := ⟨_, rfl⟩
    rw [← hV]
    replace Hx : Hid (V10.heap[kx]? = some (.cells ({ v with u := { next with a := pa, pc := pc }, ta := T, cr := C } : QV).cells 32 (0, 0))) := Lib.hid (by rw [hV]; exact setCell_heap Hx.out 15 (.slice pa next.pn pc))
    replace Hq := Lib.hid (show V10.heap[w.heap.size]? = some (.cells q.cells 32 (0, 0)) from by rw [hV]; exact heap_set_other Hq.out _ _ _ (by omega))
    replace Hn := Lib.hid (show V10.heap[bn]? = some (.cells next.cells 27 (0, 0)) from by rw [hV]; exact heap_set_other Hn.out _ _ _ (by omega))
    replace Hz := Lib.hid (show V10.heap[bz]? = some (.cells zreq 32 (0, 0)) from by rw [hV]; exact heap_set_other Hz.out _ _ _ (by omega))
    replace HB : Hid (Below w.heap.size w V10) := Lib.hid (by rw [hV]; exact b_set HB.out _ (Nat.le_of_lt hkq) _)
    replace HRD : Hid (RdFW V10 v.ha v.hn v.hs) := Lib.hid (by rw [hV]; exact HRD.out.set HNK.out.hf _ _)
    rw [← hV] at HPS2
    clear hV
    clear HPS
    have c44 : V10.cell? ⟨kx, 44, none⟩ = some (.int .i64 v.co) := by rw [Lib.cell_of_heap Hx.out]; rfl
    have f44 : V10.frozen? ⟨kx, 44, none⟩ = false := Lib.frozen_of_heap Hx.out 44
    go_upto_region 9 with fail
    clear c44 f44
    have HPS3 : Hid (RdS (V10.setCell ⟨kx, 44, none⟩ (.int .i64 (wrap64 (v.co + 1)))) pa next.pn next.xs) := Lib.hid (HPS2.out.set (fun g o e hx => (HPF.out g o e hx).1) _ _)
    obtain ⟨V11, hV⟩ : ∃ V11, V11 = V10.setCell ⟨kx, 44, none⟩ (.int .i64 (wrap64 (v.co + 1))) := ⟨_, rfl⟩
    rw [← hV]
    replace Hx : Hid (V11.heap[kx]? = some (.cells (awayV v next pa pc T C (wrap64 (v.co + 1)) : QV).cells 32 (0, 0))) := Lib.hid (by rw [hV]; exact setCell_heap Hx.out 44 (.int .i64 (wrap64 (v.co + 1))))
    replace Hq := Lib.hid (show V11.heap[w.heap.size]? = some (.cells q.cells 32 (0, 0)) from by rw [hV]; exact heap_set_other Hq.out _ _ _ (by omega))
    replace Hn := Lib.hid (show V11.heap[bn]? = some (.cells next.cells 27 (0, 0)) from by rw [hV]; exact heap_set_other Hn.out _ _ _ (by omega))
    replace Hz := Lib.hid (show V11.heap[bz]? = some (.cells zreq 32 (0, 0)) from by rw [hV]; exact heap_set_other Hz.out _ _ _ (by omega))
    replace HB : Hid (Below w.heap.size w V11) := Lib.hid (by rw [hV]; exact b_set HB.out _ (Nat.le_of_lt hkq) _)
    replace HRD : Hid (RdFW V11 v.ha v.hn v.hs) := Lib.hid (by rw [hV]; exact HRD.out.set HNK.out.hf _ _)
    rw [← hV] at HPS3
    clear hV
    clear HPS2
    go_wp2_with (first | go_skip | (refine wpList_load_g 32 _ rfl (by kernel_rfl) kx rfl Hx.out Tryz.underlying32 rfl (by kernel_rfl) ?_) | (refine wpList_store_row rfl 32 _ _ rfl bz (awayV v next pa pc T C (wrap64 (v.co + 1))).cells rfl rfl 32 _ Hz.out (by kernel_rfl) rfl (qagg_one _) ?_))
    refine bodyPost_ret (results_cell_row (fr := (0, 0)) rfl _ _ bz 32 (awayV v next pa pc T C (wrap64 (v.co + 1))).cells _ rfl (heap_setRow Hz.out _) Tryz.underlying32 rfl (by kernel_rfl)) rfl ?_
    exact ⟨⟨(awayV v next pa pc T C (wrap64 (v.co + 1))), rfl, by rw [← HT.out, ← HC.out]; exact awayV_pm HVP.out (by rw [HBT.out]; rfl), ⟨⟨⟨ON.out.sc, ON.out.us, ON.out.pa, ON.out.n, ON.out.op, ON.out.qu, ON.out.fr, ON.out.xn, ON.out.xl, HPS3.out.row (fun g o e hx => (HPF.out g o e hx).2.1) _⟩, HVI.out.ok.o, HVI.out.ok.me⟩, HRD.out.row HNZ.out.hf _⟩, HVN.out, ⟨HVF.out.hf, fun g o e hx => (HPF.out g o e hx).2.2⟩⟩, below_setRow HB.out hlw_bz _⟩
  · skip
    go_wp2_with (first | go_skip | (refine wpList_load_g 32 _ rfl (by kernel_rfl) w.heap.size rfl Hq.out Tryz.underlying32 rfl (by kernel_rfl) ?_) | (refine wpList_load_g 32 _ rfl (by kernel_rfl) w.heap.size rfl (obj_b (b_alloc (Below.refl _ _) _) Hq.out) Tryz.underlying32 rfl (by kernel_rfl) ?_) | (refine wpList_load_g 27 _ rfl (by kernel_rfl) bn rfl Hn.out Tryz.underlying27 rfl (by kernel_rfl) ?_) | (refine wpList_load_g 27 _ rfl (by kernel_rfl) bn rfl (obj_b (b_alloc (Below.refl _ _) _) Hn.out) Tryz.underlying27 rfl (by kernel_rfl) ?_))
    have hba := b_alloc (Below.refl V3.heap.size V3) (.cells #[.string ⟨#[65, 117, 116, 104, 111, 114, 105, 122, 97, 116, 105, 111, 110]⟩] 9)
    refine (own_q_c q (some ⟨V3.heap.size, 0, none⟩) 1 1 [PM.auth] _ (QI.out.ok.below (b_then HB.out hba)) (QI.out.rd.below (b_then HB.out hba)) HL.out hn (one_name _ _ PM.auth (Go.heap_alloc_new _ _)) (fun s hs => by simp at hs; subst hs; decide)).mono ?_
    clear HVP HVN HVF HNZ HNK HVI
    rintro e V30 ⟨⟨v2, rfl, hvp, hvi, hvn, hvf⟩, hb0⟩
    have hb : Below V3.heap.size V3 V30 := b_then hba hb0
    have hww : w.heap.size ≤ (V3.alloc (.cells #[.string ⟨#[65, 117, 116, 104, 111, 114, 105, 122, 97, 116, 105, 111, 110]⟩] 9)).heap.size := Nat.le_trans HB.out.size hba.size
    have hzz : bz < (V3.alloc (.cells #[.string ⟨#[65, 117, 116, 104, 111, 114, 105, 122, 97, 116, 105, 111, 110]⟩] 9)).heap.size := Nat.lt_of_lt_of_le (h_lt Hz.out) hba.size
    have hxx : kx < (V3.alloc (.cells #[.string ⟨#[65, 117, 116, 104, 111, 114, 105, 122, 97, 116, 105, 111, 110]⟩] 9)).heap.size := Nat.lt_of_lt_of_le (h_lt Hx.out) hba.size
    have HVP := Lib.hid hvp
    have HVN := Lib.hid hvn
    have HVF : Hid (QFr w.heap.size v2) := Lib.hid ⟨fun g o e => Nat.le_trans hww (hvf.hf g o e), fun g o e hx => Nat.le_trans hww (hvf.pf g o e hx)⟩
    have HNZ : Hid (QNo bz v2) := Lib.hid (hvf.no hzz)
    have HNK : Hid (QNo kx v2) := Lib.hid (hvf.no hxx)
    have HVI := Lib.hid hvi
    clear hvp hvi hvn hvf hb0 hww hzz hxx hba
    replace HB := Lib.hid (b_then HB.out hb)
    replace Hq := Lib.hid (obj_b hb Hq.out)
    replace Hn := Lib.hid (obj_b hb Hn.out)
    replace Hz := Lib.hid (obj_b hb Hz.out)
    replace Hx := Lib.hid (obj_b hb Hx.out)
    clear hb
    go_upto_region 4 with (first | (refine wpList_store_row rfl 32 _ _ rfl kx v2.cells rfl rfl 32 _ Hx.out (by kernel_rfl) rfl (qagg_one v2) ?_))
    obtain ⟨V31, hV⟩ : ∃ V31, V31 = V30.setRow kx v2.cells := ⟨_, rfl⟩
    rw [← hV]
    replace Hx : Hid (V31.heap[kx]? = some (.cells v2.cells 32 (0, 0))) := Lib.hid (by rw [hV]; exact heap_setRow Hx.out _)
    replace Hq := Lib.hid (show V31.heap[w.heap.size]? = some (.cells q.cells 32 (0, 0)) from by rw [hV]; exact (heap_setRow_other (by omega) _).trans Hq.out)
    replace Hn := Lib.hid (show V31.heap[bn]? = some (.cells next.cells 27 (0, 0)) from by rw [hV]; exact (heap_setRow_other (by omega) _).trans Hn.out)
    replace Hz := Lib.hid (show V31.heap[bz]? = some (.cells zreq 32 (0, 0)) from by rw [hV]; exact (heap_setRow_other (by omega) _).trans Hz.out)
    replace HB : Hid (Below w.heap.size w V31) := Lib.hid (by rw [hV]; exact below_setRow HB.out (Nat.le_of_lt hkq) _)
    replace HVI : Hid (QIn v2 V31) := Lib.hid (by rw [hV]; exact HVI.out.row HNK.out _)
    clear hV
    revert v
    intro vA
    obtain ⟨v, hv⟩ : ∃ v, v = v2 := ⟨_, rfl⟩
    subst hv
    obtain ⟨V3, hV3⟩ : ∃ V, V = V31 := ⟨_, rfl⟩
    subst hV3
    (try simp only [Act.put])
    have HRD := Lib.hid HVI.out.rd
    obtain ⟨T, hT⟩ : ∃ T, PM.taintOf q.ta q.o.pm q.u.pm next.pm = T := ⟨_, rfl⟩
    have HT := Lib.hid hT
    obtain ⟨C, hC⟩ : ∃ C, PM.crossed q.pm = C := ⟨_, rfl⟩
    have HC := Lib.hid hC
    clear hT hC
    have c42 : V3.cell? ⟨w.heap.size, 42, none⟩ = some (.bool q.ta) := by rw [Lib.cell_of_heap Hq.out]; rfl
    go_wp2_with (first | go_skip | (refine wpList_load_g 32 _ rfl (by kernel_rfl) w.heap.size rfl Hq.out Tryz.underlying32 rfl (by kernel_rfl) ?_) | (refine wpList_load_g 27 _ rfl (by kernel_rfl) bn rfl Hn.out Tryz.underlying27 rfl (by kernel_rfl) ?_) | (refine wpList_load_mg 27 _ rfl (by kernel_rfl) w.heap.size 0 rfl q.u.cells (q_url Hq.out) Tryz.underlying27 rfl (by kernel_rfl) ?_) | (refine wpList_load_mg 30 _ rfl (by kernel_rfl) w.heap.size 24 rfl q.o.cells (q_org Hq.out) Tryz.underlying30 rfl (by kernel_rfl) ?_))
    refine (Taint_c q.ta q.o q.u next _ QI.out.ok.o (QI.out.ok.u.below HB.out) (ON.out.below HB.out) (HG.out.below HB.out)).mono ?_
    rw [HT.out]
    rintro e V4 ⟨rfl, hb⟩
    clear c42
    replace HB := Lib.hid (b_then HB.out hb)
    replace Hq := Lib.hid (obj_b hb Hq.out)
    replace Hn := Lib.hid (obj_b hb Hn.out)
    replace Hz := Lib.hid (obj_b hb Hz.out)
    replace Hx := Lib.hid (obj_b hb Hx.out)
    replace HRD := Lib.hid (HRD.out.below hb)
    clear hb
    have dd : ∃ v0, V4.cell? ⟨kx, 42, none⟩ = some v0 := ⟨_, by rw [Lib.cell_of_heap Hx.out]; rfl⟩
    have ff : V4.frozen? ⟨kx, 42, none⟩ = false := Lib.frozen_of_heap Hx.out 42
    obtain ⟨v0, dd⟩ := dd
    go_upto_region 5 with fail
    clear dd ff
    obtain ⟨V5, hV⟩ : ∃ V5, V5 = V4.setCell ⟨kx, 42, none⟩ (.bool T) := ⟨_, rfl⟩
    rw [← hV]
    replace Hx : Hid (V5.heap[kx]? = some (.cells ({ v with ta := T } : QV).cells 32 (0, 0))) := Lib.hid (by rw [hV]; exact setCell_heap Hx.out 42 (.bool T))
    replace Hq := Lib.hid (show V5.heap[w.heap.size]? = some (.cells q.cells 32 (0, 0)) from by rw [hV]; exact heap_set_other Hq.out _ _ _ (by omega))
    replace Hn := Lib.hid (show V5.heap[bn]? = some (.cells next.cells 27 (0, 0)) from by rw [hV]; exact heap_set_other Hn.out _ _ _ (by omega))
    replace Hz := Lib.hid (show V5.heap[bz]? = some (.cells zreq 32 (0, 0)) from by rw [hV]; exact heap_set_other Hz.out _ _ _ (by omega))
    replace HB : Hid (Below w.heap.size w V5) := Lib.hid (by rw [hV]; exact b_set HB.out _ (Nat.le_of_lt hkq) _)
    replace HRD : Hid (RdFW V5 v.ha v.hn v.hs) := Lib.hid (by rw [hV]; exact HRD.out.set HNK.out.hf _ _)
    clear hV
    go_wp2_with (first | go_skip | (refine wpList_load_g 32 _ rfl (by kernel_rfl) w.heap.size rfl Hq.out Tryz.underlying32 rfl (by kernel_rfl) ?_) | (refine wpList_load_g 27 _ rfl (by kernel_rfl) bn rfl Hn.out Tryz.underlying27 rfl (by kernel_rfl) ?_))
    refine (Crossed_c q _ (QI.out.ok.below HB.out) (HG.out.below HB.out)).mono ?_
    rw [HC.out]
    rintro e V6 ⟨rfl, hb⟩
    replace HB := Lib.hid (b_then HB.out hb)
    replace Hq := Lib.hid (obj_b hb Hq.out)
    replace Hn := Lib.hid (obj_b hb Hn.out)
    replace Hz := Lib.hid (obj_b hb Hz.out)
    replace Hx := Lib.hid (obj_b hb Hx.out)
    replace HRD := Lib.hid (HRD.out.below hb)
    clear hb
    have dd : ∃ v0, V6.cell? ⟨kx, 43, none⟩ = some v0 := ⟨_, by rw [Lib.cell_of_heap Hx.out]; rfl⟩
    have ff : V6.frozen? ⟨kx, 43, none⟩ = false := Lib.frozen_of_heap Hx.out 43
    obtain ⟨v0, dd⟩ := dd
    go_upto_region 6 with fail
    clear dd ff
    obtain ⟨V7, hV⟩ : ∃ V7, V7 = V6.setCell ⟨kx, 43, none⟩ (.bool C) := ⟨_, rfl⟩
    rw [← hV]
    replace Hx : Hid (V7.heap[kx]? = some (.cells ({ v with ta := T, cr := C } : QV).cells 32 (0, 0))) := Lib.hid (by rw [hV]; exact setCell_heap Hx.out 43 (.bool C))
    replace Hq := Lib.hid (show V7.heap[w.heap.size]? = some (.cells q.cells 32 (0, 0)) from by rw [hV]; exact heap_set_other Hq.out _ _ _ (by omega))
    replace Hn := Lib.hid (show V7.heap[bn]? = some (.cells next.cells 27 (0, 0)) from by rw [hV]; exact heap_set_other Hn.out _ _ _ (by omega))
    replace Hz := Lib.hid (show V7.heap[bz]? = some (.cells zreq 32 (0, 0)) from by rw [hV]; exact heap_set_other Hz.out _ _ _ (by omega))
    replace HB : Hid (Below w.heap.size w V7) := Lib.hid (by rw [hV]; exact b_set HB.out _ (Nat.le_of_lt hkq) _)
    replace HRD : Hid (RdFW V7 v.ha v.hn v.hs) := Lib.hid (by rw [hV]; exact HRD.out.set HNK.out.hf _ _)
    clear hV
    have hsz : 45 = (({ v with ta := T, cr := C } : QV).cells).size := rfl
    have hth : V7.there kx 0 21 := fun j hj => ⟨by
      have hsj : 0 + j < (({ v with ta := T, cr := C } : QV).cells).size := by omega
      rw [Lib.cell_of_heap Hx.out, Array.getElem?_eq_getElem hsj]
      rfl, Lib.frozen_of_heap Hx.out _⟩
    clear hsz
    have HTH := Lib.hid hth
    clear hth
    go_upto_region 7 with (first | (refine wpList_load_g 27 _ rfl (by kernel_rfl) bn rfl Hn.out Tryz.underlying27 rfl (by kernel_rfl) ?_) | (refine wpList_store_mid rfl 27 _ _ rfl kx 0 next.cells rfl rfl HTH.out (by kernel_rfl) (agg_one next) ?_))
    clear HTH
    obtain ⟨V8, hV⟩ : ∃ V8, V8 = V7.setCells kx 0 next.cells.toList := ⟨_, rfl⟩
    rw [← hV]
    have hxx : V8.heap[kx]? = some (.cells ({ v with u := next, ta := T, cr := C } : QV).cells 32 (0, 0)) := by
      rw [hV]
      exact setCells_heap next.cells.toList 0 V7 (({ v with ta := T, cr := C } : QV).cells).toList Hx.out (show 21 ≤ 45 by decide)
    replace Hq := Lib.hid (show V8.heap[w.heap.size]? = some (.cells q.cells 32 (0, 0)) from by rw [hV]; exact (setCells_other _ _ _ _ (by omega)).trans Hq.out)
    replace Hn := Lib.hid (show V8.heap[bn]? = some (.cells next.cells 27 (0, 0)) from by rw [hV]; exact (setCells_other _ _ _ _ (by omega)).trans Hn.out)
    replace Hz := Lib.hid (show V8.heap[bz]? = some (.cells zreq 32 (0, 0)) from by rw [hV]; exact (setCells_other _ _ _ _ (by omega)).trans Hz.out)
    replace HB : Hid (Below w.heap.size w V8) := Lib.hid (by rw [hV]; exact setCells_below (Nat.le_of_lt hkq) _ _ _ HB.out)
    replace HRD : Hid (RdFW V8 v.ha v.hn v.hs) := Lib.hid (HRD.out.frame (by rw [hV, setCells_size]; exact Nat.le_refl _) (fun g o e hx => by rw [hV]; exact setCells_other _ _ _ _ (HNK.out.hf g o e hx)))
    replace Hx := Lib.hid hxx
    clear hxx hV
    (try simp only [Act.put])
    have c15 : V8.cell? ⟨bn, 15, none⟩ = some (.slice next.a next.pn next.pc) := by rw [Lib.cell_of_heap Hn.out]; rfl
    go_wp2_with fail
    refine (Clone_c next.a next.pn next.pc next.xs _ (ON.out.rd.below HB.out)).mono ?_
    rintro e V9 ⟨pa, pc, rfl, hps, hpf, hb⟩
    clear c15
    have hzz : bz < V8.heap.size := h_lt Hz.out
    have hxx : kx < V8.heap.size := h_lt Hx.out
    have hww := HB.out.size
    have HPS := Lib.hid hps
    have HPF : Hid (∀ g o, pa = some ⟨g, o, none⟩ → next.xs ≠ [] → g ≠ kx ∧ g ≠ bz ∧ w.heap.size ≤ g) := Lib.hid fun g o e hx => by have := hpf g o e hx; omega
    clear hps hpf hzz hxx hww
    replace HB := Lib.hid (b_then HB.out hb)
    replace Hq := Lib.hid (obj_b hb Hq.out)
    replace Hn := Lib.hid (obj_b hb Hn.out)
    replace Hz := Lib.hid (obj_b hb Hz.out)
    replace Hx := Lib.hid (obj_b hb Hx.out)
    replace HRD := Lib.hid (HRD.out.below hb)
    clear hb
    have dd : ∃ v0, V9.cell? ⟨kx, 15, none⟩ = some v0 := ⟨_, by rw [Lib.cell_of_heap Hx.out]; rfl⟩
    have ff : V9.frozen? ⟨kx, 15, none⟩ = false := Lib.frozen_of_heap Hx.out 15
    obtain ⟨v0, dd⟩ := dd
    go_upto_region 8 with fail
    clear dd ff
    have HPS2 : Hid (RdS (V9.setCell ⟨kx, 15, none⟩ (.slice pa next.pn pc)) pa next.pn next.xs) := Lib.hid (HPS.out.set (fun g o e hx => (HPF.out g o e hx).1) _ _)
    obtain ⟨V10, hV⟩ : ∃ V10, V10 = V9.setCell ⟨kx, 15, none⟩ (.slice pa next.pn pc) := ⟨_, rfl⟩
    rw [← hV]
    replace Hx : Hid (V10.heap[kx]? = some (.cells ({ v with u := { next with a := pa, pc := pc }, ta := T, cr := C } : QV).cells 32 (0, 0))) := Lib.hid (by rw [hV]; exact setCell_heap Hx.out 15 (.slice pa next.pn pc))
    replace Hq := Lib.hid (show V10.heap[w.heap.size]? = some (.cells q.cells 32 (0, 0)) from by rw [hV]; exact heap_set_other Hq.out _ _ _ (by omega))
    replace Hn := Lib.hid (show V10.heap[bn]? = some (.cells next.cells 27 (0, 0)) from by rw [hV]; exact heap_set_other Hn.out _ _ _ (by omega))
    replace Hz := Lib.hid (show V10.heap[bz]? = some (.cells zreq 32 (0, 0)) from by rw [hV]; exact heap_set_other Hz.out _ _ _ (by omega))
    replace HB : Hid (Below w.heap.size w V10) := Lib.hid (by rw [hV]; exact b_set HB.out _ (Nat.le_of_lt hkq) _)
    replace HRD : Hid (RdFW V10 v.ha v.hn v.hs) := Lib.hid (by rw [hV]; exact HRD.out.set HNK.out.hf _ _)
    rw [← hV] at HPS2
    clear hV
    clear HPS
    have c44 : V10.cell? ⟨kx, 44, none⟩ = some (.int .i64 v.co) := by rw [Lib.cell_of_heap Hx.out]; rfl
    have f44 : V10.frozen? ⟨kx, 44, none⟩ = false := Lib.frozen_of_heap Hx.out 44
    go_upto_region 9 with fail
    clear c44 f44
    have HPS3 : Hid (RdS (V10.setCell ⟨kx, 44, none⟩ (.int .i64 (wrap64 (v.co + 1)))) pa next.pn next.xs) := Lib.hid (HPS2.out.set (fun g o e hx => (HPF.out g o e hx).1) _ _)
    obtain ⟨V11, hV⟩ : ∃ V11, V11 = V10.setCell ⟨kx, 44, none⟩ (.int .i64 (wrap64 (v.co + 1))) := ⟨_, rfl⟩
    rw [← hV]
    replace Hx : Hid (V11.heap[kx]? = some (.cells (awayV v next pa pc T C (wrap64 (v.co + 1)) : QV).cells 32 (0, 0))) := Lib.hid (by rw [hV]; exact setCell_heap Hx.out 44 (.int .i64 (wrap64 (v.co + 1))))
    replace Hq := Lib.hid (show V11.heap[w.heap.size]? = some (.cells q.cells 32 (0, 0)) from by rw [hV]; exact heap_set_other Hq.out _ _ _ (by omega))
    replace Hn := Lib.hid (show V11.heap[bn]? = some (.cells next.cells 27 (0, 0)) from by rw [hV]; exact heap_set_other Hn.out _ _ _ (by omega))
    replace Hz := Lib.hid (show V11.heap[bz]? = some (.cells zreq 32 (0, 0)) from by rw [hV]; exact heap_set_other Hz.out _ _ _ (by omega))
    replace HB : Hid (Below w.heap.size w V11) := Lib.hid (by rw [hV]; exact b_set HB.out _ (Nat.le_of_lt hkq) _)
    replace HRD : Hid (RdFW V11 v.ha v.hn v.hs) := Lib.hid (by rw [hV]; exact HRD.out.set HNK.out.hf _ _)
    rw [← hV] at HPS3
    clear hV
    clear HPS2
    go_wp2_with (first | go_skip | (refine wpList_load_g 32 _ rfl (by kernel_rfl) kx rfl Hx.out Tryz.underlying32 rfl (by kernel_rfl) ?_) | (refine wpList_store_row rfl 32 _ _ rfl bz (awayV v next pa pc T C (wrap64 (v.co + 1))).cells rfl rfl 32 _ Hz.out (by kernel_rfl) rfl (qagg_one _) ?_))
    refine bodyPost_ret (results_cell_row (fr := (0, 0)) rfl _ _ bz 32 (awayV v next pa pc T C (wrap64 (v.co + 1))).cells _ rfl (heap_setRow Hz.out _) Tryz.underlying32 rfl (by kernel_rfl)) rfl ?_
    exact ⟨⟨(awayV v next pa pc T C (wrap64 (v.co + 1))), rfl, by rw [← HT.out, ← HC.out]; exact awayV_pm HVP.out (by rw [HBT.out]; rfl), ⟨⟨⟨ON.out.sc, ON.out.us, ON.out.pa, ON.out.n, ON.out.op, ON.out.qu, ON.out.fr, ON.out.xn, ON.out.xl, HPS3.out.row (fun g o e hx => (HPF.out g o e hx).2.1) _⟩, HVI.out.ok.o, HVI.out.ok.me⟩, HRD.out.row HNZ.out.hf _⟩, HVN.out, ⟨HVF.out.hf, fun g o e hx => (HPF.out g o e hx).2.2⟩⟩, below_setRow HB.out hlw_bz _⟩
end Go.Proofs.YtppbkblnjlbnfaaGreatDoor
/-! Contracts: method.Named. -/
namespace Go.Proofs.YtppbkblnjlbnfaaGreatDoor
open Go.RowKit
def QcAt (W : World) (b : Nat) (q : QV) : Prop := W.cell? ⟨b, 21, none⟩ = some (.string (mkS q.me)) ∧ W.cell? ⟨b, 22, none⟩ = some (.slice q.ha q.hn q.hc) ∧ W.cell? ⟨b, 23, none⟩ = some (.bool q.bo) ∧ W.cell? ⟨b, 38, none⟩ = some (.int .i64 q.mo) ∧ W.cell? ⟨b, 39, none⟩ = some (.int .i64 q.re) ∧ W.cell? ⟨b, 40, none⟩ = some (.int .i64 q.po) ∧ W.cell? ⟨b, 41, none⟩ = some (.string (mkS q.rf)) ∧ W.cell? ⟨b, 42, none⟩ = some (.bool q.ta) ∧ W.cell? ⟨b, 43, none⟩ = some (.bool q.cr) ∧ W.cell? ⟨b, 44, none⟩ = some (.int .i64 q.co)
theorem QcAt.of_heap {W : World} {b : Nat} {q : QV} (h : W.heap[b]? = some (.cells q.cells 32 (0, 0))) : QcAt W b q := ⟨by rw [Lib.cell_of_heap h]; rfl, by rw [Lib.cell_of_heap h]; rfl, by rw [Lib.cell_of_heap h]; rfl, by rw [Lib.cell_of_heap h]; rfl, by rw [Lib.cell_of_heap h]; rfl, by rw [Lib.cell_of_heap h]; rfl, by rw [Lib.cell_of_heap h]; rfl, by rw [Lib.cell_of_heap h]; rfl, by rw [Lib.cell_of_heap h]; rfl, by rw [Lib.cell_of_heap h]; rfl⟩
theorem named_eq (p q : QV) : PM.named p.pm q.pm = (PM.urlSame p.u.pm q.u.pm && (decide (p.hs = q.hs) && ((p.me == q.me) && ((p.bo == q.bo) && (PM.originEq p.o.pm q.o.pm && ((p.mo == q.mo) && ((p.re == q.re) && ((p.po == q.po) && ((p.rf == q.rf) && ((p.ta == q.ta) && ((p.cr == q.cr) && (p.co == q.co)))))))))))) := by
  have bb : ∀ a b : Bool, (a == b) = decide (a = b) := by decide
  have bi : ∀ a b : Int, (a == b) = decide (a = b) := fun a b => by rw [Bool.eq_iff_iff]; simp
  simp only [beq_list, bb, bi]
  rfl
set_option maxRecDepth 100000 in
set_option maxHeartbeats 16000000 in
theorem Named_c (p q : QV) (w : World) (hp : QIn p w) (hq : QIn q w) (h1 : p.hn ≤ 1000000) (h2 : q.hn ≤ 1000000) : Calls Tryz.prog 19 #[.agg p.cells, .agg q.cells] w fun e w' => e = .returned (.bool (PM.named p.pm q.pm)) ∧ Below w.heap.size w w' := by
  have PI := Lib.hid hp
  have QI := Lib.hid hq
  clear hp hq
  have HB : Hid (Below w.heap.size w ((w.alloc (.cells p.cells 32)).alloc (.cells q.cells 32))) := Lib.hid (b_alloc (b_alloc (Below.refl _ _) _) _)
  have Hp : Hid (((w.alloc (.cells p.cells 32)).alloc (.cells q.cells 32)).heap[w.heap.size]? = some (.cells p.cells 32 (0, 0))) := Lib.hid (heap_b (b_alloc (Below.refl _ _) _) (by have h := Go.heap_alloc_new w (.cells p.cells 32); simpa using h))
  have Hq : Hid (((w.alloc (.cells p.cells 32)).alloc (.cells q.cells 32)).heap[w.heap.size + 1]? = some (.cells q.cells 32 (0, 0))) := Lib.hid ((by have h := Go.heap_alloc_new (w.alloc (.cells p.cells 32)) (.cells q.cells 32); simpa using h))
  go_enter Tryz.func19, Tryz.ntmps19
  go_upto_region 1 with fail
  generalize (w.alloc (.cells p.cells 32)).alloc (.cells q.cells 32) = V0 at HB Hp Hq ⊢
  generalize hbq : w.heap.size + 1 = bq at Hq ⊢
  have hlw_bq : w.heap.size ≤ bq := by omega
  have hne_q_p : w.heap.size < bq := by omega
  clear hbq
  obtain ⟨c21, c22, c23, c38, c39, c40, c41, c42, c43, c44⟩ := QcAt.of_heap Hp.out
  obtain ⟨d21, d22, d23, d38, d39, d40, d41, d42, d43, d44⟩ := QcAt.of_heap Hq.out
  have he := named_eq p q
  have qc : ∀ W, Below w.heap.size w W → Calls Tryz.prog 27 #[.agg p.u.cells, .agg q.u.cells] W fun e w' => e = .returned (.bool (PM.urlSame p.u.pm q.u.pm)) ∧ Below W.heap.size W w' := fun W hb => UrlSame_c p.u q.u W (PI.out.ok.u.below hb) (QI.out.ok.u.below hb)
  have qh : ∀ W, Below w.heap.size w W → Calls Tryz.prog 24 #[.slice p.ha p.hn p.hc, .slice q.ha q.hn q.hc] W fun e w' => e = .returned (.bool (decide (p.hs = q.hs))) ∧ Below W.heap.size W w' := fun W hb => Same13_c p.ha q.ha p.hn p.hc q.hn q.hc p.hs q.hs W (PI.out.rd.below hb) (QI.out.rd.below hb) h1 h2
  have ho := fun W => eq_origin p.o q.o W
  generalize PM.urlSame p.u.pm q.u.pm = B1 at qc he
  generalize decide (p.hs = q.hs) = B2 at qh he
  generalize PM.originEq p.o.pm q.o.pm = B5 at ho he
  generalize e3 : (p.me == q.me) = B3 at he
  generalize e4 : (p.bo == q.bo) = B4 at he
  generalize e6 : (p.mo == q.mo) = B6 at he
  generalize e7 : (p.re == q.re) = B7 at he
  generalize e8 : (p.po == q.po) = B8 at he
  generalize e9 : (p.rf == q.rf) = B9 at he
  generalize e10 : (p.ta == q.ta) = B10 at he
  generalize e11 : (p.cr == q.cr) = B11 at he
  generalize e12 : (p.co == q.co) = B12 at he
  have HE := Lib.hid he
  have QC := Lib.hid qc
  have QH := Lib.hid qh
  clear he qc qh
  refine wp_region_lit ?_
  simp only [List.append_eq, List.cons_append, List.nil_append]
  go_wp2_with (first | go_skip | (go_at_call 27; refine (QC.out _ HB.out).mono ?_; rintro e V1 ⟨rfl, hb1⟩; replace HB := Lib.hid (b_then HB.out hb1); replace Hp := Lib.hid (obj_b hb1 Hp.out); replace Hq := Lib.hid (obj_b hb1 Hq.out); clear hb1; obtain ⟨c21, c22, c23, c38, c39, c40, c41, c42, c43, c44⟩ := QcAt.of_heap Hp.out; obtain ⟨d21, d22, d23, d38, d39, d40, d41, d42, d43, d44⟩ := QcAt.of_heap Hq.out) | (go_at_call 24; refine (QH.out _ HB.out).mono ?_; rintro e V1 ⟨rfl, hb1⟩; replace HB := Lib.hid (b_then HB.out hb1); replace Hp := Lib.hid (obj_b hb1 Hp.out); replace Hq := Lib.hid (obj_b hb1 Hq.out); clear hb1; obtain ⟨c21, c22, c23, c38, c39, c40, c41, c42, c43, c44⟩ := QcAt.of_heap Hp.out; obtain ⟨d21, d22, d23, d38, d39, d40, d41, d42, d43, d44⟩ := QcAt.of_heap Hq.out) | (refine wpList_load_mg 27 _ rfl (by kernel_rfl) w.heap.size 0 rfl p.u.cells (q_url Hp.out) Tryz.underlying27 rfl (by kernel_rfl) ?_) | (refine wpList_load_mg 27 _ rfl (by kernel_rfl) bq 0 rfl q.u.cells (q_url Hq.out) Tryz.underlying27 rfl (by kernel_rfl) ?_) | (refine wpList_load_mg 30 _ rfl (by kernel_rfl) w.heap.size 24 rfl p.o.cells (q_org Hp.out) Tryz.underlying30 rfl (by kernel_rfl) ?_) | (refine wpList_load_mg 30 _ rfl (by kernel_rfl) bq 24 rfl q.o.cells (q_org Hq.out) Tryz.underlying30 rfl (by kernel_rfl) ?_))
  all_goals go_ret
  all_goals exact ⟨ret_bool (by rw [HE.out]; simp [*]), HB.out⟩
end Go.Proofs.YtppbkblnjlbnfaaGreatDoor
/-! Contracts: method.Plain, postmarklaw20.Few. -/
namespace Go.Proofs.YtppbkblnjlbnfaaGreatDoor
open Go.RowKit
theorem Bd.arr {w : World} (h : Bd w) : w.rangeAt 0 0 (#[.string (mkS PM.cEnc), .string (mkS PM.cLang), .string (mkS PM.cLoc), .string (mkS PM.cType)] : Array Value).toList := by
  intro j v hj
  have hl : j < 4 := (List.getElem?_eq_some_iff.1 hj).1
  rw [Nat.zero_add, h.2 j hl]
  have : j = 0 ∨ j = 1 ∨ j = 2 ∨ j = 3 := by omega
  rcases this with rfl | rfl | rfl | rfl <;> exact hj
theorem plain_take (l : PM.Fs) (k : Nat) (h : k < 4) : ((PM.bodies.take (k + 1)).any fun s => PM.hasN l s) = (((PM.bodies.take k).any fun s => PM.hasN l s) || PM.hasN l (PM.bodies[k]'h)) := by
  rw [List.take_succ_eq_append_getElem (show k < PM.bodies.length from h), List.any_append, List.any_cons, List.any_nil, Bool.or_false]
  rfl
theorem idx_b0 (w : World) : (Instr.index 73 (.agg #[.string (mkS PM.cEnc), .string (mkS PM.cLang), .string (mkS PM.cLoc), .string (mkS PM.cType)]) (.int .i64 0)).run Tryz.prog w = .ok (.string (mkS PM.cEnc)) w := by kernel_rfl
theorem idx_b1 (w : World) : (Instr.index 73 (.agg #[.string (mkS PM.cEnc), .string (mkS PM.cLang), .string (mkS PM.cLoc), .string (mkS PM.cType)]) (.int .i64 1)).run Tryz.prog w = .ok (.string (mkS PM.cLang)) w := by kernel_rfl
theorem idx_b2 (w : World) : (Instr.index 73 (.agg #[.string (mkS PM.cEnc), .string (mkS PM.cLang), .string (mkS PM.cLoc), .string (mkS PM.cType)]) (.int .i64 2)).run Tryz.prog w = .ok (.string (mkS PM.cLoc)) w := by kernel_rfl
theorem idx_b3 (w : World) : (Instr.index 73 (.agg #[.string (mkS PM.cEnc), .string (mkS PM.cLang), .string (mkS PM.cLoc), .string (mkS PM.cType)]) (.int .i64 3)).run Tryz.prog w = .ok (.string (mkS PM.cType)) w := by kernel_rfl
theorem idx_bodies (k : Nat) (h : k < 4) (w : World) : (Instr.index 73 (.agg #[.string (mkS PM.cEnc), .string (mkS PM.cLang), .string (mkS PM.cLoc), .string (mkS PM.cType)]) (.int .i64 k)).run Tryz.prog w = .ok (.string (mkS (PM.bodies[k]'h))) w := by
  have : k = 0 ∨ k = 1 ∨ k = 2 ∨ k = 3 := by omega
  rcases this with rfl | rfl | rfl | rfl
  · exact idx_b0 w
  · exact idx_b1 w
  · exact idx_b2 w
  · exact idx_b3 w
set_option maxRecDepth 100000 in
set_option maxHeartbeats 8000000 in
theorem PlainH_c (a : Option Addr) (n c : Nat) (l : PM.Fs) (w : World) (h : RdFW w a n l) (hn : n ≤ 10000) (hl : ∀ f ∈ l, f.1.length ≤ 1000000 ∧ f.2.length ≤ 1000000) (hbd : Bd w) :
    Calls Tryz.prog 20 #[.slice a n c] w fun e w' => e = .returned (.bool (PM.plainH l)) ∧ Below w.heap.size w w' := by
  have HR := Lib.hid h
  have HL := Lib.hid hl
  have HBD := Lib.hid hbd
  have hp : PM.plainH l = !(PM.bodies.any fun s => PM.hasN l s) := rfl
  have HP := Lib.hid hp
  have HA := Lib.hid hbd.arr
  clear h hl hbd hp
  go_enter Tryz.func20, Tryz.ntmps20
  go_wp2_with (first | go_skip | (refine wpList_load_mg 73 _ rfl (by kernel_rfl) 0 0 rfl #[.string (mkS PM.cEnc), .string (mkS PM.cLang), .string (mkS PM.cLoc), .string (mkS PM.cType)] HA.out Tryz.underlying73 rfl (by kernel_rfl) ?_))
  go_loopw [8] (fun i wr => ∃ k : Nat, i = .int .i64 k ∧ k ≤ 4 ∧ Hid (((PM.bodies.take k).any fun s => PM.hasN l s) = false) ∧ Hid (Below w.heap.size w wr)) (fun i _ => 4 - (intOf i).toNat)
  case atStart => exact ⟨0, rfl, by omega, Lib.hid rfl, Lib.hid (Below.refl _ _)⟩
  case round =>
    obtain ⟨k, rfl, hk, HN, HB⟩ := hrel
    by_cases hlt : k < 4
    · have hlt' : (k : Int) < 4 := by omega
      have hix := idx_bodies k hlt
      have hst := plain_take l k hlt
      rw [HN.out, Bool.false_or] at hst
      have hbl := bodies_len _ (List.getElem_mem (show k < PM.bodies.length from hlt))
      have hfin : PM.hasN l (PM.bodies[k]'hlt) = true → PM.plainH l = false := fun e => by
        rw [HP.out, Bool.not_eq_false', List.any_eq_true]
        exact ⟨_, List.getElem_mem (show k < PM.bodies.length from hlt), e⟩
      generalize PM.bodies[k]'hlt = nm at hix hst hbl hfin
      have HST := Lib.hid hst
      have HF := Lib.hid hfin
      have HBL := Lib.hid hbl
      clear hst hfin hbl
      go_wp2_with fail
      refine (Get_c a n c l nm _ (HR.out.below HB.out) hn HBL.out HL.out).mono ?_
      rintro e w1 ⟨⟨j, rfl⟩, hb⟩
      replace HB := Lib.hid (b_then HB.out hb)
      clear hb hix
      obtain ⟨t, ht⟩ : ∃ t, PM.hasN l nm = t := ⟨_, rfl⟩
      rw [ht] at HST HF ⊢
      clear ht
      cases t
      · go_wp2
        go_roundw
        case rel => exact ⟨k + 1, congrArg (Value.int .i64) (by omega), by omega, HST, HB⟩
        case measure => simp only [intOf]; omega
      · go_wp2
        go_ret
        exact ⟨ret_bool (HF.out trivial).symm, HB.out⟩
    · have hk4 : k = 4 := by omega
      subst hk4
      go_wp2
      go_ret
      exact ⟨ret_bool (by rw [HP.out, show PM.bodies = PM.bodies.take 4 from rfl, HN.out]; rfl), HB.out⟩
set_option maxRecDepth 100000 in
set_option maxHeartbeats 8000000 in
def qfew20 (q : QV) : Bool := qfew q && PM.few13 q.hs
theorem Few20_c (q : QV) (w : World) (hr : RdW w q.u.a q.u.pn q.u.xs) (hf : RdFW w q.ha q.hn q.hs) : Calls Tryz.prog 16 #[.agg q.cells] w fun e w' => e = .returned (.bool (qfew20 q)) ∧ Below w.heap.size w w' := by
  have RR := Lib.hid hr
  have RF := Lib.hid hf
  have hq : qfew20 q = (qfew q && PM.few13 q.hs) := rfl
  have HQ := Lib.hid hq
  clear hr hf hq
  have HB : Hid (Below w.heap.size w (w.alloc (.cells q.cells 32))) := Lib.hid (b_alloc (Below.refl _ _) _)
  have Hq : Hid ((w.alloc (.cells q.cells 32)).heap[w.heap.size]? = some (.cells q.cells 32 (0, 0))) := Lib.hid ((by have h := Go.heap_alloc_new w (.cells q.cells 32); simpa using h))
  go_enter Tryz.func16, Tryz.ntmps16
  go_upto_region 1 with fail
  generalize w.alloc (.cells q.cells 32) = V0 at HB Hq ⊢
  obtain ⟨b1, h1⟩ : ∃ b, qfew q = b := ⟨_, rfl⟩
  obtain ⟨b2, h2⟩ : ∃ b, PM.few13 q.hs = b := ⟨_, rfl⟩
  rw [h1, h2] at HQ
  have H1 := Lib.hid h1
  have H2 := Lib.hid h2
  clear h1 h2
  go_wp2_with (first | go_skip | (refine wpList_load_g 32 _ rfl (by kernel_rfl) w.heap.size rfl Hq.out Tryz.underlying32 rfl (by kernel_rfl) ?_))
  refine (FewReq_c q _ (RR.out.below HB.out)).mono ?_
  rw [H1.out]
  rintro e V1 ⟨rfl, hb⟩
  replace HB := Lib.hid (b_then HB.out hb)
  replace Hq := Lib.hid (obj_b hb Hq.out)
  clear hb
  have c22 : V1.cell? ⟨w.heap.size, 22, none⟩ = some (.slice q.ha q.hn q.hc) := by rw [Lib.cell_of_heap Hq.out]; rfl
  go_wp2_with fail
  refine (Few13_c q.ha q.hn q.hc q.hs _ (RF.out.below HB.out)).mono ?_
  rw [H2.out]
  rintro e V2 ⟨rfl, rfl⟩
  clear c22
  cases b1
  all_goals go_wp2
  all_goals go_ret
  all_goals exact ⟨ret_bool (by rw [HQ.out]; rfl), HB.out⟩
end Go.Proofs.YtppbkblnjlbnfaaGreatDoor
/-! Contract: postmarklaw20.awake. -/
namespace Go.Proofs.YtppbkblnjlbnfaaGreatDoor
open Go.RowKit
def h20 : PM.Fs := [([99, 111, 110, 116, 101, 110, 116, 45, 116, 121, 112, 101], [120]), ([65, 117, 116, 104, 111, 114, 105, 122, 97, 116, 105, 111, 110], [121])]
def q20 (a : Option Addr) : QV := ⟨uz, PM.POST, a, 2, 2, h20, true, ⟨false, [], 0, [], 0, 0, 0, 0, 0, 0, 0, 0, 0, 0⟩, 0, 0, 0, [], false, false, 0⟩
def k20 : PM.Req := (q20 none).pm
def k20u : PM.Url := ⟨[104, 116, 116, 112], [], [], ⟨1, [97, 46, 111, 114, 103], 0, [0, 0, 0, 0, 0, 0, 0, 0]⟩, -1, [[]], [], [], [], false, false⟩
theorem k20_parse : PM.urlParse [104, 116, 116, 112, 58, 47, 47, 97, 46, 111, 114, 103] = some k20u := by kernel_rfl
theorem k20_ca : PM.change k20 302 = { k20 with method := PM.GET, heads := [([65, 117, 116, 104, 111, 114, 105, 122, 97, 116, 105, 111, 110], [121])], body := false } := by kernel_rfl
theorem k20_cb : PM.change k20 307 = k20 := by kernel_rfl
theorem k20_away : (PM.away k20 k20u).heads = [([99, 111, 110, 116, 101, 110, 116, 45, 116, 121, 112, 101], [120])] ∧ (PM.away k20 k20u).count = 1 := ⟨by kernel_rfl, by kernel_rfl⟩
theorem k20_p1 : PM.plainH [([65, 117, 116, 104, 111, 114, 105, 122, 97, 116, 105, 111, 110], [121])] = true := by kernel_rfl
theorem k20_p2 : PM.plainH h20 = false := by kernel_rfl
theorem k20_n1 : PM.named k20 k20 = true := by kernel_rfl
theorem k20_n2 : PM.named { k20 with method := PM.GET, heads := [([65, 117, 116, 104, 111, 114, 105, 122, 97, 116, 105, 111, 110], [121])], body := false } k20 = false := by kernel_rfl
theorem k20_r : PM.rewrites 303 [80, 85, 84] = true := by kernel_rfl
theorem h20_len : ∀ f ∈ h20, f.1.length ≤ 1000000 ∧ f.2.length ≤ 1000000 := by decide
theorem h20_one : ∀ f ∈ ([([65, 117, 116, 104, 111, 114, 105, 122, 97, 116, 105, 111, 110], [121])] : PM.Fs), f.1.length ≤ 1000000 ∧ f.2.length ≤ 1000000 := by decide
@[go_sem] theorem bd_req20 (a : Option Addr) (w : World) : (Instr.build 32 #[(1, .string ⟨#[80, 79, 83, 84]⟩), (3, .bool true), (2, .slice a 2 2)]).run Tryz.prog w = .ok (.agg (q20 a).cells) w := run_build w 32 _ _ (by kernel_rfl)
theorem q20_in {W : World} {b : Nat} (h : W.heap[b]? = some (.cells #[.string ⟨#[99, 111, 110, 116, 101, 110, 116, 45, 116, 121, 112, 101]⟩, .string ⟨#[120]⟩, .string ⟨#[65, 117, 116, 104, 111, 114, 105, 122, 97, 116, 105, 111, 110]⟩, .string ⟨#[121]⟩] 50 (0, 0))) : QIn (q20 (some ⟨b, 0, none⟩)) W :=
  ⟨⟨zero_ok W, ⟨Nat.zero_le _, Nat.zero_le _⟩, show PM.POST.length ≤ 1000000 by decide⟩, ⟨rfl, .inr ⟨b, 0, rfl, h_lt h, fun j hj => by
    have : j = 0 ∨ j = 1 := by have : j < 2 := hj; omega
    rcases this with rfl | rfl <;> exact ⟨by rw [Lib.cell_of_heap h]; rfl, by rw [Lib.cell_of_heap h]; rfl⟩⟩⟩⟩
set_option maxRecDepth 100000 in
set_option maxHeartbeats 8000000 in
theorem awake20_c (w : World) (hg : Gl w) (hT : Lib.Utf8Tabs 2 3 w) (hbd : Bd w) : Calls Tryz.prog 15 #[] w fun e w' => e = .returned (.bool true) ∧ Below w.heap.size w w' := by
  have HG := Lib.hid hg
  have HTB := Lib.hid hT
  have HBD := Lib.hid hbd
  have HP1 : Hid (∀ W, Gl W → Lib.Utf8Tabs 2 3 W → Calls Tryz.prog 45 #[.string ⟨#[104, 116, 116, 112, 58, 47, 47, 97, 46, 111, 114, 103]⟩] W fun e w' => (∃ v : UV, e = .returned (.tuple #[.agg v.cells, .bool true]) ∧ v.pm = k20u ∧ v.Ok w') ∧ Below W.heap.size W w') := Lib.hid fun W => known_c [104, 116, 116, 112, 58, 47, 47, 97, 46, 111, 114, 103] k20u (by decide) k20_parse (by decide) W
  clear hg hT hbd
  have HN : Hid (((w.alloc (.cells #[.string ⟨#[99, 111, 110, 116, 101, 110, 116, 45, 116, 121, 112, 101]⟩, .string ⟨#[120]⟩, .string ⟨#[65, 117, 116, 104, 111, 114, 105, 122, 97, 116, 105, 111, 110]⟩, .string ⟨#[121]⟩] 50)).alloc (.cells #[.string ⟨#[]⟩, .string ⟨#[]⟩, .string ⟨#[]⟩, .int .i64 0, .string ⟨#[]⟩, .int .i64 0, .int .i64 0, .int .i64 0, .int .i64 0, .int .i64 0, .int .i64 0, .int .i64 0, .int .i64 0, .int .i64 0, .int .i64 0, .slice none 0 0, .string ⟨#[]⟩, .string ⟨#[]⟩, .string ⟨#[]⟩, .bool false, .bool false, .string ⟨#[]⟩, .slice none 0 0, .bool false, .bool false, .string ⟨#[]⟩, .int .i64 0, .string ⟨#[]⟩, .int .i64 0, .int .i64 0, .int .i64 0, .int .i64 0, .int .i64 0, .int .i64 0, .int .i64 0, .int .i64 0, .int .i64 0, .int .i64 0, .int .i64 0, .int .i64 0, .int .i64 0, .string ⟨#[]⟩, .bool false, .bool false, .int .i64 0] 32)).heap[w.heap.size + 1]? = some (.cells #[.string ⟨#[]⟩, .string ⟨#[]⟩, .string ⟨#[]⟩, .int .i64 0, .string ⟨#[]⟩, .int .i64 0, .int .i64 0, .int .i64 0, .int .i64 0, .int .i64 0, .int .i64 0, .int .i64 0, .int .i64 0, .int .i64 0, .int .i64 0, .slice none 0 0, .string ⟨#[]⟩, .string ⟨#[]⟩, .string ⟨#[]⟩, .bool false, .bool false, .string ⟨#[]⟩, .slice none 0 0, .bool false, .bool false, .string ⟨#[]⟩, .int .i64 0, .string ⟨#[]⟩, .int .i64 0, .int .i64 0, .int .i64 0, .int .i64 0, .int .i64 0, .int .i64 0, .int .i64 0, .int .i64 0, .int .i64 0, .int .i64 0, .int .i64 0, .int .i64 0, .int .i64 0, .string ⟨#[]⟩, .bool false, .bool false, .int .i64 0] 32 (0, 0))) := Lib.hid (by have h := Go.heap_alloc_new (w.alloc (.cells #[.string ⟨#[99, 111, 110, 116, 101, 110, 116, 45, 116, 121, 112, 101]⟩, .string ⟨#[120]⟩, .string ⟨#[65, 117, 116, 104, 111, 114, 105, 122, 97, 116, 105, 111, 110]⟩, .string ⟨#[121]⟩] 50)) (.cells #[.string ⟨#[]⟩, .string ⟨#[]⟩, .string ⟨#[]⟩, .int .i64 0, .string ⟨#[]⟩, .int .i64 0, .int .i64 0, .int .i64 0, .int .i64 0, .int .i64 0, .int .i64 0, .int .i64 0, .int .i64 0, .int .i64 0, .int .i64 0, .slice none 0 0, .string ⟨#[]⟩, .string ⟨#[]⟩, .string ⟨#[]⟩, .bool false, .bool false, .string ⟨#[]⟩, .slice none 0 0, .bool false, .bool false, .string ⟨#[]⟩, .int .i64 0, .string ⟨#[]⟩, .int .i64 0, .int .i64 0, .int .i64 0, .int .i64 0, .int .i64 0, .int .i64 0, .int .i64 0, .int .i64 0, .int .i64 0, .int .i64 0, .int .i64 0, .int .i64 0, .int .i64 0, .string ⟨#[]⟩, .bool false, .bool false, .int .i64 0] 32); simpa using h)
  have HF0 : Hid (((w.alloc (.cells #[.string ⟨#[99, 111, 110, 116, 101, 110, 116, 45, 116, 121, 112, 101]⟩, .string ⟨#[120]⟩, .string ⟨#[65, 117, 116, 104, 111, 114, 105, 122, 97, 116, 105, 111, 110]⟩, .string ⟨#[121]⟩] 50)).alloc (.cells #[.string ⟨#[]⟩, .string ⟨#[]⟩, .string ⟨#[]⟩, .int .i64 0, .string ⟨#[]⟩, .int .i64 0, .int .i64 0, .int .i64 0, .int .i64 0, .int .i64 0, .int .i64 0, .int .i64 0, .int .i64 0, .int .i64 0, .int .i64 0, .slice none 0 0, .string ⟨#[]⟩, .string ⟨#[]⟩, .string ⟨#[]⟩, .bool false, .bool false, .string ⟨#[]⟩, .slice none 0 0, .bool false, .bool false, .string ⟨#[]⟩, .int .i64 0, .string ⟨#[]⟩, .int .i64 0, .int .i64 0, .int .i64 0, .int .i64 0, .int .i64 0, .int .i64 0, .int .i64 0, .int .i64 0, .int .i64 0, .int .i64 0, .int .i64 0, .int .i64 0, .int .i64 0, .string ⟨#[]⟩, .bool false, .bool false, .int .i64 0] 32)).heap[w.heap.size]? = some (.cells #[.string ⟨#[99, 111, 110, 116, 101, 110, 116, 45, 116, 121, 112, 101]⟩, .string ⟨#[120]⟩, .string ⟨#[65, 117, 116, 104, 111, 114, 105, 122, 97, 116, 105, 111, 110]⟩, .string ⟨#[121]⟩] 50 (0, 0))) := Lib.hid (heap_b (b_alloc (Below.refl _ _) _) (Go.heap_alloc_new w (.cells #[.string ⟨#[99, 111, 110, 116, 101, 110, 116, 45, 116, 121, 112, 101]⟩, .string ⟨#[120]⟩, .string ⟨#[65, 117, 116, 104, 111, 114, 105, 122, 97, 116, 105, 111, 110]⟩, .string ⟨#[121]⟩] 50)))
  go_enter Tryz.func15, Tryz.ntmps15
  go_upto_region 2 with (first | (refine wpList_store_row rfl 32 _ _ rfl (w.heap.size + 1) (q20 (some ⟨w.heap.size, 0, none⟩)).cells rfl rfl 32 _ HN.out (by kernel_rfl) rfl (qagg_one _) ?_))
  obtain ⟨V1, hV⟩ : ∃ V1, V1 = ((w.alloc (.cells #[.string ⟨#[99, 111, 110, 116, 101, 110, 116, 45, 116, 121, 112, 101]⟩, .string ⟨#[120]⟩, .string ⟨#[65, 117, 116, 104, 111, 114, 105, 122, 97, 116, 105, 111, 110]⟩, .string ⟨#[121]⟩] 50)).alloc (.cells #[.string ⟨#[]⟩, .string ⟨#[]⟩, .string ⟨#[]⟩, .int .i64 0, .string ⟨#[]⟩, .int .i64 0, .int .i64 0, .int .i64 0, .int .i64 0, .int .i64 0, .int .i64 0, .int .i64 0, .int .i64 0, .int .i64 0, .int .i64 0, .slice none 0 0, .string ⟨#[]⟩, .string ⟨#[]⟩, .string ⟨#[]⟩, .bool false, .bool false, .string ⟨#[]⟩, .slice none 0 0, .bool false, .bool false, .string ⟨#[]⟩, .int .i64 0, .string ⟨#[]⟩, .int .i64 0, .int .i64 0, .int .i64 0, .int .i64 0, .int .i64 0, .int .i64 0, .int .i64 0, .int .i64 0, .int .i64 0, .int .i64 0, .int .i64 0, .int .i64 0, .int .i64 0, .string ⟨#[]⟩, .bool false, .bool false, .int .i64 0] 32)).setRow (w.heap.size + 1) (q20 (some ⟨w.heap.size, 0, none⟩)).cells := ⟨_, rfl⟩
  rw [← hV]
  have Hq : Hid (V1.heap[w.heap.size + 1]? = some (.cells (q20 (some ⟨w.heap.size, 0, none⟩)).cells 32 (0, 0))) := Lib.hid (by rw [hV]; exact heap_setRow HN.out _)
  have QI : Hid (QIn (q20 (some ⟨w.heap.size, 0, none⟩)) V1) := Lib.hid (q20_in (by rw [hV]; exact (heap_setRow_other (by omega) _).trans HF0.out))
  have HB : Hid (Below w.heap.size w V1) := Lib.hid (by rw [hV]; exact below_setRow (b_alloc (b_alloc (Below.refl _ _) _) _) (by omega) _)
  clear hV HN HF0
  (try simp only [Act.put])
  generalize (some (⟨w.heap.size, 0, none⟩ : Addr)) = a0 at Hq QI ⊢
  generalize w.heap.size + 1 = bq at Hq ⊢
  go_wp2_with (first | go_skip | (refine wpList_load_g 32 _ rfl (by kernel_rfl) bq rfl Hq.out Tryz.underlying32 rfl (by kernel_rfl) ?_))
  refine (Change_c (q20 a0) 302 _ QI.out (fun f hf => (h20_len f hf).1) (by decide : 2 ≤ 1000000) (HBD.out.below HB.out)).mono ?_
  rintro e V2 ⟨⟨va, rfl, hvp, hvi, hvn, -⟩, hb⟩
  have Pva := Lib.hid hvp
  have Iva := Lib.hid hvi
  clear hvp hvi hvn
  replace HB := Lib.hid (b_then HB.out hb)
  replace Hq := Lib.hid (obj_b hb Hq.out)
  replace QI := Lib.hid (QI.out.below hb)
  clear hb
  have HN := Lib.hid (Go.heap_alloc_new V2 (.cells #[.string ⟨#[]⟩, .string ⟨#[]⟩, .string ⟨#[]⟩, .int .i64 0, .string ⟨#[]⟩, .int .i64 0, .int .i64 0, .int .i64 0, .int .i64 0, .int .i64 0, .int .i64 0, .int .i64 0, .int .i64 0, .int .i64 0, .int .i64 0, .slice none 0 0, .string ⟨#[]⟩, .string ⟨#[]⟩, .string ⟨#[]⟩, .bool false, .bool false, .string ⟨#[]⟩, .slice none 0 0, .bool false, .bool false, .string ⟨#[]⟩, .int .i64 0, .string ⟨#[]⟩, .int .i64 0, .int .i64 0, .int .i64 0, .int .i64 0, .int .i64 0, .int .i64 0, .int .i64 0, .int .i64 0, .int .i64 0, .int .i64 0, .int .i64 0, .int .i64 0, .int .i64 0, .string ⟨#[]⟩, .bool false, .bool false, .int .i64 0] 32))
  go_upto_region 3 with (first | (refine wpList_store_row rfl 32 _ _ rfl V2.heap.size va.cells rfl rfl 32 _ HN.out (by kernel_rfl) rfl (qagg_one va) ?_))
  obtain ⟨V3, hV⟩ : ∃ V3, V3 = (V2.alloc (.cells #[.string ⟨#[]⟩, .string ⟨#[]⟩, .string ⟨#[]⟩, .int .i64 0, .string ⟨#[]⟩, .int .i64 0, .int .i64 0, .int .i64 0, .int .i64 0, .int .i64 0, .int .i64 0, .int .i64 0, .int .i64 0, .int .i64 0, .int .i64 0, .slice none 0 0, .string ⟨#[]⟩, .string ⟨#[]⟩, .string ⟨#[]⟩, .bool false, .bool false, .string ⟨#[]⟩, .slice none 0 0, .bool false, .bool false, .string ⟨#[]⟩, .int .i64 0, .string ⟨#[]⟩, .int .i64 0, .int .i64 0, .int .i64 0, .int .i64 0, .int .i64 0, .int .i64 0, .int .i64 0, .int .i64 0, .int .i64 0, .int .i64 0, .int .i64 0, .int .i64 0, .int .i64 0, .string ⟨#[]⟩, .bool false, .bool false, .int .i64 0] 32)).setRow V2.heap.size va.cells := ⟨_, rfl⟩
  rw [← hV]
  have Hva : Hid (V3.heap[V2.heap.size]? = some (.cells va.cells 32 (0, 0))) := Lib.hid (by rw [hV]; exact heap_setRow HN.out _)
  have hb : Below V2.heap.size V2 V3 := by rw [hV]; exact below_setRow (b_alloc (Below.refl _ _) _) (Nat.le_refl _) _
  clear hV HN
  replace HB := Lib.hid (b_then HB.out hb)
  replace Hq := Lib.hid (obj_b hb Hq.out)
  replace QI := Lib.hid (QI.out.below hb)
  replace Iva := Lib.hid (Iva.out.below hb)
  clear hb
  generalize V2.heap.size = ka at Hva ⊢
  (try simp only [Act.put])
  go_wp2_with (first | go_skip | (refine wpList_load_g 32 _ rfl (by kernel_rfl) bq rfl Hq.out Tryz.underlying32 rfl (by kernel_rfl) ?_) | (refine wpList_load_g 32 _ rfl (by kernel_rfl) ka rfl Hva.out Tryz.underlying32 rfl (by kernel_rfl) ?_))
  refine (Change_c (q20 a0) 307 _ QI.out (fun f hf => (h20_len f hf).1) (by decide : 2 ≤ 1000000) (HBD.out.below HB.out)).mono ?_
  rintro e V4 ⟨⟨vb, rfl, hvp, hvi, hvn, -⟩, hb⟩
  have Pvb := Lib.hid hvp
  have Ivb := Lib.hid hvi
  clear hvp hvi hvn
  replace HB := Lib.hid (b_then HB.out hb)
  replace Hq := Lib.hid (obj_b hb Hq.out)
  replace Hva := Lib.hid (obj_b hb Hva.out)
  replace QI := Lib.hid (QI.out.below hb)
  replace Iva := Lib.hid (Iva.out.below hb)
  clear hb
  have HN := Lib.hid (Go.heap_alloc_new V4 (.cells #[.string ⟨#[]⟩, .string ⟨#[]⟩, .string ⟨#[]⟩, .int .i64 0, .string ⟨#[]⟩, .int .i64 0, .int .i64 0, .int .i64 0, .int .i64 0, .int .i64 0, .int .i64 0, .int .i64 0, .int .i64 0, .int .i64 0, .int .i64 0, .slice none 0 0, .string ⟨#[]⟩, .string ⟨#[]⟩, .string ⟨#[]⟩, .bool false, .bool false, .string ⟨#[]⟩, .slice none 0 0, .bool false, .bool false, .string ⟨#[]⟩, .int .i64 0, .string ⟨#[]⟩, .int .i64 0, .int .i64 0, .int .i64 0, .int .i64 0, .int .i64 0, .int .i64 0, .int .i64 0, .int .i64 0, .int .i64 0, .int .i64 0, .int .i64 0, .int .i64 0, .int .i64 0, .string ⟨#[]⟩, .bool false, .bool false, .int .i64 0] 32))
  go_upto_region 4 with (first | (refine wpList_store_row rfl 32 _ _ rfl V4.heap.size vb.cells rfl rfl 32 _ HN.out (by kernel_rfl) rfl (qagg_one vb) ?_))
  obtain ⟨V5, hV⟩ : ∃ V5, V5 = (V4.alloc (.cells #[.string ⟨#[]⟩, .string ⟨#[]⟩, .string ⟨#[]⟩, .int .i64 0, .string ⟨#[]⟩, .int .i64 0, .int .i64 0, .int .i64 0, .int .i64 0, .int .i64 0, .int .i64 0, .int .i64 0, .int .i64 0, .int .i64 0, .int .i64 0, .slice none 0 0, .string ⟨#[]⟩, .string ⟨#[]⟩, .string ⟨#[]⟩, .bool false, .bool false, .string ⟨#[]⟩, .slice none 0 0, .bool false, .bool false, .string ⟨#[]⟩, .int .i64 0, .string ⟨#[]⟩, .int .i64 0, .int .i64 0, .int .i64 0, .int .i64 0, .int .i64 0, .int .i64 0, .int .i64 0, .int .i64 0, .int .i64 0, .int .i64 0, .int .i64 0, .int .i64 0, .int .i64 0, .string ⟨#[]⟩, .bool false, .bool false, .int .i64 0] 32)).setRow V4.heap.size vb.cells := ⟨_, rfl⟩
  rw [← hV]
  have Hvb : Hid (V5.heap[V4.heap.size]? = some (.cells vb.cells 32 (0, 0))) := Lib.hid (by rw [hV]; exact heap_setRow HN.out _)
  have hb : Below V4.heap.size V4 V5 := by rw [hV]; exact below_setRow (b_alloc (Below.refl _ _) _) (Nat.le_refl _) _
  clear hV HN
  replace HB := Lib.hid (b_then HB.out hb)
  replace Hq := Lib.hid (obj_b hb Hq.out)
  replace Hva := Lib.hid (obj_b hb Hva.out)
  replace QI := Lib.hid (QI.out.below hb)
  replace Iva := Lib.hid (Iva.out.below hb)
  replace Ivb := Lib.hid (Ivb.out.below hb)
  clear hb
  generalize V4.heap.size = kb at Hvb ⊢
  (try simp only [Act.put])
  go_wp2_with fail
  refine (HP1.out _ (HG.out.below HB.out) (tabs_below HTB.out HB.out)).mono ?_
  rintro e V6 ⟨⟨u, rfl, hup, huo⟩, hb⟩
  have Pu := Lib.hid hup
  have Ou := Lib.hid huo
  clear hup huo
  replace HB := Lib.hid (b_then HB.out hb)
  replace Hq := Lib.hid (obj_b hb Hq.out)
  replace Hva := Lib.hid (obj_b hb Hva.out)
  replace Hvb := Lib.hid (obj_b hb Hvb.out)
  replace QI := Lib.hid (QI.out.below hb)
  replace Iva := Lib.hid (Iva.out.below hb)
  replace Ivb := Lib.hid (Ivb.out.below hb)
  clear hb
  have HN := Lib.hid (Go.heap_alloc_new V6 (.cells zurl 27))
  unfold zurl at HN 
  go_upto_region 5 with (first | (refine wpList_store_row rfl 27 _ _ rfl V6.heap.size u.cells rfl rfl 27 _ HN.out (by kernel_rfl) rfl (agg_one u) ?_))
  obtain ⟨V7, hV⟩ : ∃ V7, V7 = (V6.alloc (.cells #[.string ⟨#[]⟩, .string ⟨#[]⟩, .string ⟨#[]⟩, .int .i64 0, .string ⟨#[]⟩, .int .i64 0, .int .i64 0, .int .i64 0, .int .i64 0, .int .i64 0, .int .i64 0, .int .i64 0, .int .i64 0, .int .i64 0, .int .i64 0, .slice none 0 0, .string ⟨#[]⟩, .string ⟨#[]⟩, .string ⟨#[]⟩, .bool false, .bool false] 27)).setRow V6.heap.size u.cells := ⟨_, rfl⟩
  have hN : V7.heap[V6.heap.size]? = some (.cells u.cells 27 (0, 0)) := by rw [hV]; exact heap_setRow HN.out _
  have hb : Below V6.heap.size V6 V7 := by rw [hV]; exact below_setRow (b_alloc (Below.refl _ _) _) (Nat.le_refl _) _
  rw [← hV]
  clear hV HN 
  have Hu := Lib.hid hN
  clear hN
  have hlt_ku_Hq : bq < V6.heap.size := h_lt Hq.out
  have hlt_ku_Hva : ka < V6.heap.size := h_lt Hva.out
  have hlt_ku_Hvb : kb < V6.heap.size := h_lt Hvb.out
  have hlw_ku : w.heap.size ≤ V6.heap.size := HB.out.size
  replace HB := Lib.hid (b_then HB.out hb)
  replace Hq := Lib.hid (obj_b hb Hq.out)
  replace Hva := Lib.hid (obj_b hb Hva.out)
  replace Hvb := Lib.hid (obj_b hb Hvb.out)
  replace QI := Lib.hid (QI.out.below hb)
  replace Iva := Lib.hid (Iva.out.below hb)
  replace Ivb := Lib.hid (Ivb.out.below hb)
  replace Ou := Lib.hid (Ou.out.below hb)
  clear hb
  generalize V6.heap.size = ku at Hu hlt_ku_Hq hlt_ku_Hva hlt_ku_Hvb hlw_ku ⊢
  (try simp only [Act.put])
  go_wp2_with (first | go_skip | (refine wpList_load_g 32 _ rfl (by kernel_rfl) bq rfl Hq.out Tryz.underlying32 rfl (by kernel_rfl) ?_) | (refine wpList_load_g 32 _ rfl (by kernel_rfl) ka rfl Hva.out Tryz.underlying32 rfl (by kernel_rfl) ?_) | (refine wpList_load_g 32 _ rfl (by kernel_rfl) kb rfl Hvb.out Tryz.underlying32 rfl (by kernel_rfl) ?_) | (refine wpList_load_g 27 _ rfl (by kernel_rfl) ku rfl Hu.out Tryz.underlying27 rfl (by kernel_rfl) ?_))
  refine (Away_c (q20 a0) u _ QI.out (fun f hf => (h20_len f hf).1) (by decide : 2 ≤ 1000000) Ou.out (HG.out.below HB.out)).mono ?_
  rintro e V8 ⟨⟨vc, rfl, hvp, hvi, hvn, -⟩, hb⟩
  have Pvc := Lib.hid hvp
  have Ivc := Lib.hid hvi
  clear hvp hvi hvn
  replace HB := Lib.hid (b_then HB.out hb)
  replace Hq := Lib.hid (obj_b hb Hq.out)
  replace Hva := Lib.hid (obj_b hb Hva.out)
  replace Hvb := Lib.hid (obj_b hb Hvb.out)
  replace Hu := Lib.hid (obj_b hb Hu.out)
  replace QI := Lib.hid (QI.out.below hb)
  replace Iva := Lib.hid (Iva.out.below hb)
  replace Ivb := Lib.hid (Ivb.out.below hb)
  replace Ou := Lib.hid (Ou.out.below hb)
  clear hb
  have HN := Lib.hid (Go.heap_alloc_new V8 (.cells #[.string ⟨#[]⟩, .string ⟨#[]⟩, .string ⟨#[]⟩, .int .i64 0, .string ⟨#[]⟩, .int .i64 0, .int .i64 0, .int .i64 0, .int .i64 0, .int .i64 0, .int .i64 0, .int .i64 0, .int .i64 0, .int .i64 0, .int .i64 0, .slice none 0 0, .string ⟨#[]⟩, .string ⟨#[]⟩, .string ⟨#[]⟩, .bool false, .bool false, .string ⟨#[]⟩, .slice none 0 0, .bool false, .bool false, .string ⟨#[]⟩, .int .i64 0, .string ⟨#[]⟩, .int .i64 0, .int .i64 0, .int .i64 0, .int .i64 0, .int .i64 0, .int .i64 0, .int .i64 0, .int .i64 0, .int .i64 0, .int .i64 0, .int .i64 0, .int .i64 0, .int .i64 0, .string ⟨#[]⟩, .bool false, .bool false, .int .i64 0] 32))
  go_upto_region 6 with (first | (refine wpList_store_row rfl 32 _ _ rfl V8.heap.size vc.cells rfl rfl 32 _ HN.out (by kernel_rfl) rfl (qagg_one vc) ?_))
  obtain ⟨V9, hV⟩ : ∃ V9, V9 = (V8.alloc (.cells #[.string ⟨#[]⟩, .string ⟨#[]⟩, .string ⟨#[]⟩, .int .i64 0, .string ⟨#[]⟩, .int .i64 0, .int .i64 0, .int .i64 0, .int .i64 0, .int .i64 0, .int .i64 0, .int .i64 0, .int .i64 0, .int .i64 0, .int .i64 0, .slice none 0 0, .string ⟨#[]⟩, .string ⟨#[]⟩, .string ⟨#[]⟩, .bool false, .bool false, .string ⟨#[]⟩, .slice none 0 0, .bool false, .bool false, .string ⟨#[]⟩, .int .i64 0, .string ⟨#[]⟩, .int .i64 0, .int .i64 0, .int .i64 0, .int .i64 0, .int .i64 0, .int .i64 0, .int .i64 0, .int .i64 0, .int .i64 0, .int .i64 0, .int .i64 0, .int .i64 0, .int .i64 0, .string ⟨#[]⟩, .bool false, .bool false, .int .i64 0] 32)).setRow V8.heap.size vc.cells := ⟨_, rfl⟩
  rw [← hV]
  have Hvc : Hid (V9.heap[V8.heap.size]? = some (.cells vc.cells 32 (0, 0))) := Lib.hid (by rw [hV]; exact heap_setRow HN.out _)
  have hb : Below V8.heap.size V8 V9 := by rw [hV]; exact below_setRow (b_alloc (Below.refl _ _) _) (Nat.le_refl _) _
  clear hV HN
  replace HB := Lib.hid (b_then HB.out hb)
  replace Hq := Lib.hid (obj_b hb Hq.out)
  replace Hva := Lib.hid (obj_b hb Hva.out)
  replace Hvb := Lib.hid (obj_b hb Hvb.out)
  replace Hu := Lib.hid (obj_b hb Hu.out)
  replace QI := Lib.hid (QI.out.below hb)
  replace Iva := Lib.hid (Iva.out.below hb)
  replace Ivb := Lib.hid (Ivb.out.below hb)
  replace Ou := Lib.hid (Ou.out.below hb)
  replace Ivc := Lib.hid (Ivc.out.below hb)
  clear hb
  generalize V8.heap.size = kc at Hvc ⊢
  (try simp only [Act.put])
  have ea : va.pm = { k20 with method := PM.GET, heads := [([65, 117, 116, 104, 111, 114, 105, 122, 97, 116, 105, 111, 110], [121])], body := false } := by rw [Pva.out]; exact k20_ca
  have eb : vb.pm = k20 := by rw [Pvb.out]; exact k20_cb
  have ec : vc.pm = PM.away k20 k20u := by rw [Pvc.out, Pu.out]; rfl
  have EA := Lib.hid ea
  have EB := Lib.hid eb
  have a1 : va.me = PM.GET := congrArg PM.Req.method ea
  have a2 : va.bo = false := congrArg PM.Req.body ea
  have a3 : va.hs = [([65, 117, 116, 104, 111, 114, 105, 122, 97, 116, 105, 111, 110], [121])] := congrArg PM.Req.heads ea
  have a4 : va.hn = 1 := by rw [← Iva.out.rd.len, a3]; rfl
  have b1 : vb.me = PM.POST := congrArg PM.Req.method eb
  have b2 : vb.bo = true := congrArg PM.Req.body eb
  have c1 : vc.hn = 1 := by rw [← Ivc.out.rd.len, show vc.hs = _ from (congrArg PM.Req.heads ec).trans k20_away.1]; rfl
  have c2 : vc.co = 1 := (congrArg PM.Req.count ec).trans k20_away.2
  have A3 := Lib.hid a3
  have A4 := Lib.hid a4
  clear ea eb ec
  have k1 : V9.cell? ⟨ka, 21, none⟩ = some (.string (mkS PM.GET)) := by rw [Lib.cell_of_heap Hva.out]; exact congrArg some (show _ = _ from congrArg (fun x => Value.string (mkS x)) a1)
  have k2 : V9.cell? ⟨ka, 23, none⟩ = some (.bool false) := by rw [Lib.cell_of_heap Hva.out]; exact congrArg some (show _ = _ from congrArg Value.bool a2)
  have k3 : V9.cell? ⟨ka, 22, none⟩ = some (.slice va.ha 1 va.hc) := by rw [Lib.cell_of_heap Hva.out]; exact congrArg some (show _ = _ from congrArg (fun x => Value.slice va.ha x va.hc) a4)
  have k4 : V9.cell? ⟨kb, 21, none⟩ = some (.string (mkS PM.POST)) := by rw [Lib.cell_of_heap Hvb.out]; exact congrArg some (show _ = _ from congrArg (fun x => Value.string (mkS x)) b1)
  have k5 : V9.cell? ⟨kb, 23, none⟩ = some (.bool true) := by rw [Lib.cell_of_heap Hvb.out]; exact congrArg some (show _ = _ from congrArg Value.bool b2)
  have k6 : V9.cell? ⟨kc, 22, none⟩ = some (.slice vc.ha 1 vc.hc) := by rw [Lib.cell_of_heap Hvc.out]; exact congrArg some (show _ = _ from congrArg (fun x => Value.slice vc.ha x vc.hc) c1)
  have k7 : V9.cell? ⟨kc, 44, none⟩ = some (.int .i64 1) := by rw [Lib.cell_of_heap Hvc.out]; exact congrArg some (show _ = _ from congrArg (Value.int .i64) c2)
  clear a1 a2 a3 a4 b1 b2 c1 c2
  have hl1 : mkS PM.GET = ⟨#[71, 69, 84]⟩ := rfl
  have hl2 : mkS PM.POST = ⟨#[80, 79, 83, 84]⟩ := rfl
  rw [hl1] at k1
  rw [hl2] at k4
  clear hl1 hl2
  have hrd := Iva.out.rd
  rw [A3.out, A4.out] at hrd
  have HRDA := Lib.hid hrd
  clear hrd
  go_wp2_with fail
  refine (PlainH_c va.ha 1 va.hc [([65, 117, 116, 104, 111, 114, 105, 122, 97, 116, 105, 111, 110], [121])] _ HRDA.out (by decide) h20_one (HBD.out.below HB.out)).mono ?_
  rw [k20_p1]
  rintro e V10 ⟨rfl, hb⟩
  clear k1 k2 k3 k4 k5 k6 k7 HRDA
  replace HB := Lib.hid (b_then HB.out hb)
  replace Hq := Lib.hid (obj_b hb Hq.out)
  replace Hva := Lib.hid (obj_b hb Hva.out)
  replace Hvb := Lib.hid (obj_b hb Hvb.out)
  replace Hu := Lib.hid (obj_b hb Hu.out)
  replace Hvc := Lib.hid (obj_b hb Hvc.out)
  replace QI := Lib.hid (QI.out.below hb)
  replace Iva := Lib.hid (Iva.out.below hb)
  replace Ivb := Lib.hid (Ivb.out.below hb)
  replace Ou := Lib.hid (Ou.out.below hb)
  replace Ivc := Lib.hid (Ivc.out.below hb)
  clear hb
  have k8 : V10.cell? ⟨bq, 22, none⟩ = some (.slice a0 2 2) := by rw [Lib.cell_of_heap Hq.out]; rfl
  go_wp2_with fail
  refine (PlainH_c a0 2 2 h20 _ QI.out.rd (by decide) h20_len (HBD.out.below HB.out)).mono ?_
  rw [k20_p2]
  rintro e V11 ⟨rfl, hb⟩
  clear k8
  replace HB := Lib.hid (b_then HB.out hb)
  replace Hq := Lib.hid (obj_b hb Hq.out)
  replace Hva := Lib.hid (obj_b hb Hva.out)
  replace Hvb := Lib.hid (obj_b hb Hvb.out)
  replace Hu := Lib.hid (obj_b hb Hu.out)
  replace Hvc := Lib.hid (obj_b hb Hvc.out)
  replace QI := Lib.hid (QI.out.below hb)
  replace Iva := Lib.hid (Iva.out.below hb)
  replace Ivb := Lib.hid (Ivb.out.below hb)
  replace Ou := Lib.hid (Ou.out.below hb)
  replace Ivc := Lib.hid (Ivc.out.below hb)
  clear hb
  have hnb : vb.hn ≤ 1000000 := by rw [← Ivb.out.rd.len, show vb.hs = k20.heads from congrArg PM.Req.heads EB.out]; decide
  have hna : va.hn ≤ 1000000 := by rw [A4.out]; decide
  have HNA := Lib.hid hna
  have HNB := Lib.hid hnb
  clear hna hnb
  go_wp2_with (first | go_skip | (refine wpList_load_g 32 _ rfl (by kernel_rfl) bq rfl Hq.out Tryz.underlying32 rfl (by kernel_rfl) ?_) | (refine wpList_load_g 32 _ rfl (by kernel_rfl) ka rfl Hva.out Tryz.underlying32 rfl (by kernel_rfl) ?_) | (refine wpList_load_g 32 _ rfl (by kernel_rfl) kb rfl Hvb.out Tryz.underlying32 rfl (by kernel_rfl) ?_) | (refine wpList_load_g 27 _ rfl (by kernel_rfl) ku rfl Hu.out Tryz.underlying27 rfl (by kernel_rfl) ?_) | (refine wpList_load_g 32 _ rfl (by kernel_rfl) kc rfl Hvc.out Tryz.underlying32 rfl (by kernel_rfl) ?_))
  refine (Named_c (q20 a0) vb _ QI.out Ivb.out (by decide : 2 ≤ 1000000) HNB.out).mono ?_
  rw [EB.out, show (q20 a0).pm = k20 from rfl, k20_n1]
  rintro e V12 ⟨rfl, hb⟩
  replace HB := Lib.hid (b_then HB.out hb)
  replace Hq := Lib.hid (obj_b hb Hq.out)
  replace Hva := Lib.hid (obj_b hb Hva.out)
  replace Hvb := Lib.hid (obj_b hb Hvb.out)
  replace Hu := Lib.hid (obj_b hb Hu.out)
  replace Hvc := Lib.hid (obj_b hb Hvc.out)
  replace QI := Lib.hid (QI.out.below hb)
  replace Iva := Lib.hid (Iva.out.below hb)
  replace Ivb := Lib.hid (Ivb.out.below hb)
  replace Ou := Lib.hid (Ou.out.below hb)
  replace Ivc := Lib.hid (Ivc.out.below hb)
  clear hb
  go_wp2_with (first | go_skip | (refine wpList_load_g 32 _ rfl (by kernel_rfl) bq rfl Hq.out Tryz.underlying32 rfl (by kernel_rfl) ?_) | (refine wpList_load_g 32 _ rfl (by kernel_rfl) ka rfl Hva.out Tryz.underlying32 rfl (by kernel_rfl) ?_) | (refine wpList_load_g 32 _ rfl (by kernel_rfl) kb rfl Hvb.out Tryz.underlying32 rfl (by kernel_rfl) ?_) | (refine wpList_load_g 27 _ rfl (by kernel_rfl) ku rfl Hu.out Tryz.underlying27 rfl (by kernel_rfl) ?_) | (refine wpList_load_g 32 _ rfl (by kernel_rfl) kc rfl Hvc.out Tryz.underlying32 rfl (by kernel_rfl) ?_))
  refine (Named_c va vb _ Iva.out Ivb.out HNA.out HNB.out).mono ?_
  rw [EB.out, EA.out, k20_n2]
  rintro e V13 ⟨rfl, hb⟩
  replace HB := Lib.hid (b_then HB.out hb)
  replace Hq := Lib.hid (obj_b hb Hq.out)
  replace Hva := Lib.hid (obj_b hb Hva.out)
  replace Hvb := Lib.hid (obj_b hb Hvb.out)
  replace Hu := Lib.hid (obj_b hb Hu.out)
  replace Hvc := Lib.hid (obj_b hb Hvc.out)
  replace QI := Lib.hid (QI.out.below hb)
  replace Iva := Lib.hid (Iva.out.below hb)
  replace Ivb := Lib.hid (Ivb.out.below hb)
  replace Ou := Lib.hid (Ou.out.below hb)
  replace Ivc := Lib.hid (Ivc.out.below hb)
  clear hb
  go_wp2_with fail
  refine (show Calls Tryz.prog 18 #[.int .i64 303, .string (mkS [80, 85, 84])] _ _ from Rewrites_c 303 [80, 85, 84] _).mono ?_
  rw [k20_r]
  rintro e V90 ⟨rfl, rfl⟩
  go_wp2
  go_ret
  exact ⟨rfl, HB.out⟩
end Go.Proofs.YtppbkblnjlbnfaaGreatDoor
