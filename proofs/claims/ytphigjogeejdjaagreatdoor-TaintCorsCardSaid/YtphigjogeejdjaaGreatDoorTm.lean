import Derived.Test.YtphigjogeejdjaaGreatDoorTg
import Derived.WideMake
/-! A map that a composite literal lays; package taint: hides. -/
set_option linter.unusedVariables false
set_option linter.unusedSimpArgs false
namespace Go.Proofs.YtphigjogeejdjaaGreatDoor
open Go.RowKit
def mapSet (w : World) (r : Nat) (o : Obj) : World := { w with heap := w.heap.setIfInBounds r o }
theorem run_ins {mty et : TypeId} (w : World) (r clock : Nat) (es : Array MapEntry) (k : Int) (val : Value) (hm : Tryz.prog.underlying mty = some (.map 3 et)) (hb : w.heap[r]? = some (.map es clock)) (hf : Instr.findNow (.int .i64) (.int .i64 k) es.toList 0 = some none) :
    (Instr.mapUpdate mty (.map (some r)) (.int .i64 k) val).run Tryz.prog w = .ok () (mapSet w r (.map (es.push { key := .int .i64 k, val := val, born := clock }) (clock + 1))) := by
  have hk := Tryz.underlying3
  have hc : (Instr.checkKey false 10000 3 (.int .i64 k)).run Tryz.prog w = .ok () w := MapKept.run_checkKey (k := .int .i64 k) hk (by simp [MapKept.IsKey]) false 9999
  simp [Instr.mapUpdate, run_underlying hm, MapKept.run_getObj_map hb, hc, MapKept.run_findKey hk hf, MapKept.run_setObj_map _ hb, Result.andThen, mapSet]
theorem mapSet_at {w : World} {r : Nat} {o' : Obj} (o : Obj) (hb : w.heap[r]? = some o') : (mapSet w r o).heap[r]? = some o := (MapKept.heap_set hb).1
theorem mapSet_other {w : World} {r g : Nat} {o' : Obj} (o : Obj) (hb : w.heap[r]? = some o') (hg : g ≠ r) : (mapSet w r o).heap[g]? = w.heap[g]? := (MapKept.heap_set hb).2 g hg
theorem below_mapSet {B : Nat} {w W : World} (h : Below B w W) {r : Nat} (hr : B ≤ r) (o : Obj) : Below B w (mapSet W r o) :=
  ⟨h.os, h.tape, h.output, by simpa [mapSet] using h.size, fun k hk => by
    rw [← h.block k hk]
    simp [mapSet, Array.getElem?_setIfInBounds, show r ≠ k by omega]⟩
theorem wpList_ins {ops : Array Oper} {rest : List Oper} {o : Oper} {a : Act} {Q : Exit → Act → World → Prop} {w : World} (hg : o.guard = none) (m x v : Operand) (t : TypeId) (hop : o.op = Op.insert t m x v) {et : TypeId} (hm0 : Tryz.prog.underlying t = some (.map 3 et))
    (r : Nat) (hm : a.eval m = .map (some r)) (k : Int) (hx : a.eval x = .int .i64 k) (val : Value) (hv : a.eval v = val) (es : Array MapEntry) (clock : Nat) (hb : w.heap[r]? = some (.map es clock)) (hf : Instr.findNow (.int .i64) (.int .i64 k) es.toList 0 = some none)
    (h : wpList Tryz.prog ops Q rest (a.put o.dst undef) (mapSet w r (.map (es.push { key := .int .i64 k, val := val, born := clock }) (clock + 1)))) : wpList Tryz.prog ops Q (o :: rest) a w := by
  refine wpList_plain hg fun K' hK' => ?_
  unfold Oper.wp
  simp [execOp, hop, hm, hx, hv, run_ins w r clock es k val hm0 hb hf, Result.andThen]
  exact hK' _ _ h
theorem run_look {mty : TypeId} (w : World) (r clock : Nat) (es : Array MapEntry) (k : Int) (i : Nat) (v : Value) (hm : Tryz.prog.underlying mty = some (.map 3 33)) (hb : w.heap[r]? = some (.map es clock)) (hf : Instr.findNow (.int .i64) (.int .i64 k) es.toList 0 = some (some (i, v))) :
    (Instr.lookup mty (.map (some r)) (.int .i64 k) true).run Tryz.prog w = .ok (.tuple #[v, .bool true]) w := by
  have hk := Tryz.underlying3
  have hc : ∀ b, (Instr.checkKey b 10000 3 (.int .i64 k)).run Tryz.prog w = .ok () w := fun b => MapKept.run_checkKey (k := .int .i64 k) hk (by simp [MapKept.IsKey]) b 9999
  simp [Instr.lookup, run_underlying hm, MapKept.run_getObj_map hb, hc, MapKept.run_findKey hk hf, Result.andThen]
/-- What the map of hides holds. -/
def F1 (bq : Nat) : Value := .func (.func 89) #[] #[.pointer (some ⟨bq, 0, none⟩)]
def F2 : Value := .func (.func 90) #[] #[]
def F3 (bq : Nat) : Value := .func (.func 91) #[] #[.pointer (some ⟨bq, 0, none⟩)]
def ents (bq : Nat) : Array MapEntry := #[⟨.int .i64 1, F2, 0⟩, ⟨.int .i64 0, F1 bq, 1⟩, ⟨.int .i64 2, F1 bq, 2⟩, ⟨.int .i64 5, F1 bq, 3⟩, ⟨.int .i64 7, F1 bq, 4⟩, ⟨.int .i64 3, F3 bq, 5⟩]
set_option maxRecDepth 100000 in
set_option maxHeartbeats 4000000 in
theorem hides_c (q : QV) (w : World) : Calls Tryz.prog 52 #[.agg q.cells] w fun e w' => (e = .returned (.map (some (w.heap.size + 1))) ∧ w'.heap[w.heap.size + 1]? = some (.map (ents w.heap.size) 6) ∧ w'.heap[w.heap.size]? = some (.cells q.cells 32 (0, 0))) ∧ Below w.heap.size w w' := by
  have hmf : ∀ (fn : Fn) (first cap : Array Value) (w : World), (Instr.makeFunc fn first cap).run Tryz.prog w = .ok (.func fn first cap) w := fun _ _ _ _ => rfl
  have hmm := @run_makeMap_plain Tryz.prog
  have HQ : Hid (QAt w.heap.size q w (w.alloc (.cells q.cells 32))) := Lib.hid ⟨Go.heap_alloc_new _ _, b_alloc (Below.refl _ _) _⟩
  have HN : Hid ((w.alloc (.cells q.cells 32)).heap.size = w.heap.size + 1) := Lib.hid (by simp)
  go_enter Tryz.func52, Tryz.ntmps52
  go_upto_region 2 with fail
  generalize w.alloc (.cells q.cells 32) = V0 at HQ HN ⊢
  have H0 : Hid ((V0.alloc (.map #[] 0)).heap[V0.heap.size]? = some (.map #[] 0)) := Lib.hid (MapKept.heap_alloc V0 _).1
  have B0 : Hid (Below V0.heap.size V0 (V0.alloc (.map #[] 0))) := Lib.hid (b_alloc (Below.refl _ _) _)
  obtain ⟨M1, hM⟩ : ∃ M, M = mapSet (V0.alloc (.map #[] 0)) V0.heap.size (.map #[(⟨.int .i64 1, (.func (.func 90) #[] #[]), 0⟩ : MapEntry)] 1) := ⟨_, rfl⟩
  have r1 : (Instr.mapUpdate 68 (.map (some V0.heap.size)) (.int .i64 1) (.func (.func 90) #[] #[])).run Tryz.prog (V0.alloc (.map #[] 0)) = .ok () M1 := by rw [hM]; exact run_ins (V0.alloc (.map #[] 0)) V0.heap.size 0 (#[] : Array MapEntry) 1 _ Tryz.underlying68 H0.out rfl
  have H1 : Hid (M1.heap[V0.heap.size]? = some (.map #[(⟨.int .i64 1, (.func (.func 90) #[] #[]), 0⟩ : MapEntry)] 1)) := Lib.hid (by rw [hM]; exact mapSet_at _ H0.out)
  have B1 : Hid (Below V0.heap.size V0 M1) := Lib.hid (by rw [hM]; exact below_mapSet B0.out (Nat.le_refl _) _)
  clear hM H0 B0
  obtain ⟨M2, hM⟩ : ∃ M, M = mapSet M1 V0.heap.size (.map #[(⟨.int .i64 1, (.func (.func 90) #[] #[]), 0⟩ : MapEntry), (⟨.int .i64 0, (.func (.func 89) #[] #[.pointer (some ⟨w.heap.size, 0, none⟩)]), 1⟩ : MapEntry)] 2) := ⟨_, rfl⟩
  have r2 : (Instr.mapUpdate 68 (.map (some V0.heap.size)) (.int .i64 0) (.func (.func 89) #[] #[.pointer (some ⟨w.heap.size, 0, none⟩)])).run Tryz.prog M1 = .ok () M2 := by rw [hM]; exact run_ins M1 V0.heap.size 1 #[(⟨.int .i64 1, (.func (.func 90) #[] #[]), 0⟩ : MapEntry)] 0 _ Tryz.underlying68 H1.out rfl
  have H2 : Hid (M2.heap[V0.heap.size]? = some (.map #[(⟨.int .i64 1, (.func (.func 90) #[] #[]), 0⟩ : MapEntry), (⟨.int .i64 0, (.func (.func 89) #[] #[.pointer (some ⟨w.heap.size, 0, none⟩)]), 1⟩ : MapEntry)] 2)) := Lib.hid (by rw [hM]; exact mapSet_at _ H1.out)
  have B2 : Hid (Below V0.heap.size V0 M2) := Lib.hid (by rw [hM]; exact below_mapSet B1.out (Nat.le_refl _) _)
  clear hM H1 B1
  obtain ⟨M3, hM⟩ : ∃ M, M = mapSet M2 V0.heap.size (.map #[(⟨.int .i64 1, (.func (.func 90) #[] #[]), 0⟩ : MapEntry), (⟨.int .i64 0, (.func (.func 89) #[] #[.pointer (some ⟨w.heap.size, 0, none⟩)]), 1⟩ : MapEntry), (⟨.int .i64 2, (.func (.func 89) #[] #[.pointer (some ⟨w.heap.size, 0, none⟩)]), 2⟩ : MapEntry)] 3) := ⟨_, rfl⟩
  have r3 : (Instr.mapUpdate 68 (.map (some V0.heap.size)) (.int .i64 2) (.func (.func 89) #[] #[.pointer (some ⟨w.heap.size, 0, none⟩)])).run Tryz.prog M2 = .ok () M3 := by rw [hM]; exact run_ins M2 V0.heap.size 2 #[(⟨.int .i64 1, (.func (.func 90) #[] #[]), 0⟩ : MapEntry), (⟨.int .i64 0, (.func (.func 89) #[] #[.pointer (some ⟨w.heap.size, 0, none⟩)]), 1⟩ : MapEntry)] 2 _ Tryz.underlying68 H2.out rfl
  have H3 : Hid (M3.heap[V0.heap.size]? = some (.map #[(⟨.int .i64 1, (.func (.func 90) #[] #[]), 0⟩ : MapEntry), (⟨.int .i64 0, (.func (.func 89) #[] #[.pointer (some ⟨w.heap.size, 0, none⟩)]), 1⟩ : MapEntry), (⟨.int .i64 2, (.func (.func 89) #[] #[.pointer (some ⟨w.heap.size, 0, none⟩)]), 2⟩ : MapEntry)] 3)) := Lib.hid (by rw [hM]; exact mapSet_at _ H2.out)
  have B3 : Hid (Below V0.heap.size V0 M3) := Lib.hid (by rw [hM]; exact below_mapSet B2.out (Nat.le_refl _) _)
  clear hM H2 B2
  obtain ⟨M4, hM⟩ : ∃ M, M = mapSet M3 V0.heap.size (.map #[(⟨.int .i64 1, (.func (.func 90) #[] #[]), 0⟩ : MapEntry), (⟨.int .i64 0, (.func (.func 89) #[] #[.pointer (some ⟨w.heap.size, 0, none⟩)]), 1⟩ : MapEntry), (⟨.int .i64 2, (.func (.func 89) #[] #[.pointer (some ⟨w.heap.size, 0, none⟩)]), 2⟩ : MapEntry), (⟨.int .i64 5, (.func (.func 89) #[] #[.pointer (some ⟨w.heap.size, 0, none⟩)]), 3⟩ : MapEntry)] 4) := ⟨_, rfl⟩
  have r4 : (Instr.mapUpdate 68 (.map (some V0.heap.size)) (.int .i64 5) (.func (.func 89) #[] #[.pointer (some ⟨w.heap.size, 0, none⟩)])).run Tryz.prog M3 = .ok () M4 := by rw [hM]; exact run_ins M3 V0.heap.size 3 #[(⟨.int .i64 1, (.func (.func 90) #[] #[]), 0⟩ : MapEntry), (⟨.int .i64 0, (.func (.func 89) #[] #[.pointer (some ⟨w.heap.size, 0, none⟩)]), 1⟩ : MapEntry), (⟨.int .i64 2, (.func (.func 89) #[] #[.pointer (some ⟨w.heap.size, 0, none⟩)]), 2⟩ : MapEntry)] 5 _ Tryz.underlying68 H3.out rfl
  have H4 : Hid (M4.heap[V0.heap.size]? = some (.map #[(⟨.int .i64 1, (.func (.func 90) #[] #[]), 0⟩ : MapEntry), (⟨.int .i64 0, (.func (.func 89) #[] #[.pointer (some ⟨w.heap.size, 0, none⟩)]), 1⟩ : MapEntry), (⟨.int .i64 2, (.func (.func 89) #[] #[.pointer (some ⟨w.heap.size, 0, none⟩)]), 2⟩ : MapEntry), (⟨.int .i64 5, (.func (.func 89) #[] #[.pointer (some ⟨w.heap.size, 0, none⟩)]), 3⟩ : MapEntry)] 4)) := Lib.hid (by rw [hM]; exact mapSet_at _ H3.out)
  have B4 : Hid (Below V0.heap.size V0 M4) := Lib.hid (by rw [hM]; exact below_mapSet B3.out (Nat.le_refl _) _)
  clear hM H3 B3
  obtain ⟨M5, hM⟩ : ∃ M, M = mapSet M4 V0.heap.size (.map #[(⟨.int .i64 1, (.func (.func 90) #[] #[]), 0⟩ : MapEntry), (⟨.int .i64 0, (.func (.func 89) #[] #[.pointer (some ⟨w.heap.size, 0, none⟩)]), 1⟩ : MapEntry), (⟨.int .i64 2, (.func (.func 89) #[] #[.pointer (some ⟨w.heap.size, 0, none⟩)]), 2⟩ : MapEntry), (⟨.int .i64 5, (.func (.func 89) #[] #[.pointer (some ⟨w.heap.size, 0, none⟩)]), 3⟩ : MapEntry), (⟨.int .i64 7, (.func (.func 89) #[] #[.pointer (some ⟨w.heap.size, 0, none⟩)]), 4⟩ : MapEntry)] 5) := ⟨_, rfl⟩
  have r5 : (Instr.mapUpdate 68 (.map (some V0.heap.size)) (.int .i64 7) (.func (.func 89) #[] #[.pointer (some ⟨w.heap.size, 0, none⟩)])).run Tryz.prog M4 = .ok () M5 := by rw [hM]; exact run_ins M4 V0.heap.size 4 #[(⟨.int .i64 1, (.func (.func 90) #[] #[]), 0⟩ : MapEntry), (⟨.int .i64 0, (.func (.func 89) #[] #[.pointer (some ⟨w.heap.size, 0, none⟩)]), 1⟩ : MapEntry), (⟨.int .i64 2, (.func (.func 89) #[] #[.pointer (some ⟨w.heap.size, 0, none⟩)]), 2⟩ : MapEntry), (⟨.int .i64 5, (.func (.func 89) #[] #[.pointer (some ⟨w.heap.size, 0, none⟩)]), 3⟩ : MapEntry)] 7 _ Tryz.underlying68 H4.out rfl
  have H5 : Hid (M5.heap[V0.heap.size]? = some (.map #[(⟨.int .i64 1, (.func (.func 90) #[] #[]), 0⟩ : MapEntry), (⟨.int .i64 0, (.func (.func 89) #[] #[.pointer (some ⟨w.heap.size, 0, none⟩)]), 1⟩ : MapEntry), (⟨.int .i64 2, (.func (.func 89) #[] #[.pointer (some ⟨w.heap.size, 0, none⟩)]), 2⟩ : MapEntry), (⟨.int .i64 5, (.func (.func 89) #[] #[.pointer (some ⟨w.heap.size, 0, none⟩)]), 3⟩ : MapEntry), (⟨.int .i64 7, (.func (.func 89) #[] #[.pointer (some ⟨w.heap.size, 0, none⟩)]), 4⟩ : MapEntry)] 5)) := Lib.hid (by rw [hM]; exact mapSet_at _ H4.out)
  have B5 : Hid (Below V0.heap.size V0 M5) := Lib.hid (by rw [hM]; exact below_mapSet B4.out (Nat.le_refl _) _)
  clear hM H4 B4
  obtain ⟨M6, hM⟩ : ∃ M, M = mapSet M5 V0.heap.size (.map #[(⟨.int .i64 1, (.func (.func 90) #[] #[]), 0⟩ : MapEntry), (⟨.int .i64 0, (.func (.func 89) #[] #[.pointer (some ⟨w.heap.size, 0, none⟩)]), 1⟩ : MapEntry), (⟨.int .i64 2, (.func (.func 89) #[] #[.pointer (some ⟨w.heap.size, 0, none⟩)]), 2⟩ : MapEntry), (⟨.int .i64 5, (.func (.func 89) #[] #[.pointer (some ⟨w.heap.size, 0, none⟩)]), 3⟩ : MapEntry), (⟨.int .i64 7, (.func (.func 89) #[] #[.pointer (some ⟨w.heap.size, 0, none⟩)]), 4⟩ : MapEntry), (⟨.int .i64 3, (.func (.func 91) #[] #[.pointer (some ⟨w.heap.size, 0, none⟩)]), 5⟩ : MapEntry)] 6) := ⟨_, rfl⟩
  have r6 : (Instr.mapUpdate 68 (.map (some V0.heap.size)) (.int .i64 3) (.func (.func 91) #[] #[.pointer (some ⟨w.heap.size, 0, none⟩)])).run Tryz.prog M5 = .ok () M6 := by rw [hM]; exact run_ins M5 V0.heap.size 5 #[(⟨.int .i64 1, (.func (.func 90) #[] #[]), 0⟩ : MapEntry), (⟨.int .i64 0, (.func (.func 89) #[] #[.pointer (some ⟨w.heap.size, 0, none⟩)]), 1⟩ : MapEntry), (⟨.int .i64 2, (.func (.func 89) #[] #[.pointer (some ⟨w.heap.size, 0, none⟩)]), 2⟩ : MapEntry), (⟨.int .i64 5, (.func (.func 89) #[] #[.pointer (some ⟨w.heap.size, 0, none⟩)]), 3⟩ : MapEntry), (⟨.int .i64 7, (.func (.func 89) #[] #[.pointer (some ⟨w.heap.size, 0, none⟩)]), 4⟩ : MapEntry)] 3 _ Tryz.underlying68 H5.out rfl
  have H6 : Hid (M6.heap[V0.heap.size]? = some (.map #[(⟨.int .i64 1, (.func (.func 90) #[] #[]), 0⟩ : MapEntry), (⟨.int .i64 0, (.func (.func 89) #[] #[.pointer (some ⟨w.heap.size, 0, none⟩)]), 1⟩ : MapEntry), (⟨.int .i64 2, (.func (.func 89) #[] #[.pointer (some ⟨w.heap.size, 0, none⟩)]), 2⟩ : MapEntry), (⟨.int .i64 5, (.func (.func 89) #[] #[.pointer (some ⟨w.heap.size, 0, none⟩)]), 3⟩ : MapEntry), (⟨.int .i64 7, (.func (.func 89) #[] #[.pointer (some ⟨w.heap.size, 0, none⟩)]), 4⟩ : MapEntry), (⟨.int .i64 3, (.func (.func 91) #[] #[.pointer (some ⟨w.heap.size, 0, none⟩)]), 5⟩ : MapEntry)] 6)) := Lib.hid (by rw [hM]; exact mapSet_at _ H5.out)
  have B6 : Hid (Below V0.heap.size V0 M6) := Lib.hid (by rw [hM]; exact below_mapSet B5.out (Nat.le_refl _) _)
  clear hM H5 B5
  go_wp2
  go_ret
  have hn := HN.out
  refine ⟨⟨by rw [← hn]; rfl, by rw [← hn]; exact H6.out, heap_b B6.out HQ.out.hq⟩, b_then HQ.out.be B6.out⟩
theorem run_look_none {mty : TypeId} (w : World) (r clock : Nat) (es : Array MapEntry) (k : Int) (hm : Tryz.prog.underlying mty = some (.map 3 33)) (hb : w.heap[r]? = some (.map es clock)) (hf : Instr.findNow (.int .i64) (.int .i64 k) es.toList 0 = some none) :
    (Instr.lookup mty (.map (some r)) (.int .i64 k) true).run Tryz.prog w = .ok (.tuple #[.nilFunc, .bool false]) w := by
  have hk := Tryz.underlying3
  have hz : (zeroValue 33).run Tryz.prog w = .ok .nilFunc w := by kernel_rfl
  have hc : ∀ b, (Instr.checkKey b 10000 3 (.int .i64 k)).run Tryz.prog w = .ok () w := fun b => MapKept.run_checkKey (k := .int .i64 k) hk (by simp [MapKept.IsKey]) b 9999
  simp [Instr.lookup, run_underlying hm, MapKept.run_getObj_map hb, hc, MapKept.run_findKey hk hf, Result.andThen, hz]
theorem ents_none (bq : Nat) (p : Int) (h : p ≠ 1 ∧ p ≠ 0 ∧ p ≠ 2 ∧ p ≠ 5 ∧ p ≠ 7 ∧ p ≠ 3) : Instr.findNow (.int .i64) (.int .i64 p) (ents bq).toList 0 = some none := by
  obtain ⟨h1, h2, h3, h4, h5, h6⟩ := h
  have e1 : (p == 1) = false := by simpa using h1
  have e2 : (p == 0) = false := by simpa using h2
  have e3 : (p == 2) = false := by simpa using h3
  have e4 : (p == 5) = false := by simpa using h4
  have e5 : (p == 7) = false := by simpa using h5
  have e6 : (p == 3) = false := by simpa using h6
  simp [ents, Instr.findNow, Instr.sameNow, e1, e2, e3, e4, e5, e6]
theorem hides2_c (w : World) : Calls Tryz.prog 90 #[] w fun e w' => e = .returned (.bool true) ∧ Below w.heap.size w w' := by
  go_enter Tryz.func90, Tryz.ntmps90
  go_wp2
  go_ret
  exact ⟨rfl, Below.refl _ _⟩
set_option maxRecDepth 100000 in
set_option maxHeartbeats 4000000 in
theorem hides1_c (b : Nat) (q : QV) (w : World) (h : w.heap[b]? = some (.cells q.cells 32 (0, 0))) : Calls Tryz.prog 89 #[.pointer (some ⟨b, 0, none⟩)] w fun e w' => e = .returned (.bool (PM.down q.pm)) ∧ Below w.heap.size w w' := by
  have hd : PM.down q.pm = (!q.o.q && (decide (q.o.sc = PM.https) && !decide (q.u.sc = PM.https))) := rfl
  rw [← beq_list, ← beq_list] at hd
  have HD := Lib.hid hd
  clear hd
  have c24 : w.cell? ⟨b, 24, none⟩ = some (.bool q.o.q) := by rw [Lib.cell_of_heap h]; rfl
  have c25 : w.cell? ⟨b, 25, none⟩ = some (.string (mkS q.o.sc)) := by rw [Lib.cell_of_heap h]; rfl
  have c0 : w.cell? ⟨b, 0, none⟩ = some (.string (mkS q.u.sc)) := by rw [Lib.cell_of_heap h]; rfl
  clear h
  obtain ⟨t, ht⟩ : ∃ t, q.o.q = t := ⟨_, rfl⟩
  rw [ht] at HD c24
  clear ht
  cases h1 : (q.o.sc == [104, 116, 116, 112, 115])
  · rw [show (q.o.sc == PM.https) = false from h1] at HD
    cases t
    · go_enter Tryz.func89, Tryz.ntmps89
      go_wp2
      go_ret
      exact ⟨ret_bool (by rw [HD.out]; rfl), Below.refl _ _⟩
    · go_enter Tryz.func89, Tryz.ntmps89
      go_wp2
      go_ret
      exact ⟨ret_bool (by rw [HD.out]; rfl), Below.refl _ _⟩
  · rw [show (q.o.sc == PM.https) = true from h1] at HD
    have h2 : (q.u.sc != [104, 116, 116, 112, 115]) = !(q.u.sc == PM.https) := rfl
    cases t
    · cases h3 : (q.u.sc == PM.https)
      · rw [h3] at HD
        have h4 : (q.u.sc == [104, 116, 116, 112, 115]) = false := h3
        clear h2 h3
        go_enter Tryz.func89, Tryz.ntmps89
        go_wp2
        go_ret
        exact ⟨ret_bool (by rw [HD.out]; first | rfl | (rw [h4]; rfl)), Below.refl _ _⟩
      · rw [h3] at HD
        have h4 : (q.u.sc == [104, 116, 116, 112, 115]) = true := h3
        clear h2 h3
        go_enter Tryz.func89, Tryz.ntmps89
        go_wp2
        go_ret
        exact ⟨ret_bool (by rw [HD.out]; first | rfl | (rw [h4]; rfl)), Below.refl _ _⟩
    · go_enter Tryz.func89, Tryz.ntmps89
      go_wp2
      go_ret
      exact ⟨ret_bool (by rw [HD.out]; rfl), Below.refl _ _⟩
end Go.Proofs.YtphigjogeejdjaaGreatDoor
