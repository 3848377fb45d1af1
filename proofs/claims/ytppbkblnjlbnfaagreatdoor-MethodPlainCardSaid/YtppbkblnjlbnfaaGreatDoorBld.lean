import Derived.Test.YtppbkblnjlbnfaaGreatDoorShelf
import Derived.Test.YtppbkblnjlbnfaaGreatDoorBase
import Derived.Maps.AppendAt
/-! strings.Builder at this translation: with the frame that says which blocks a write touches. -/
namespace Go.Proofs.YtppbkblnjlbnfaaGreatDoor
open Go.RowKit
/-- A builder in block b that holds the bytes l; r: the block of its buffer. -/
def Bldr (b : Nat) (r : Option Nat) (l : List UInt8) (w : World) : Prop :=
  ∃ p v, (p = .pointer none ∨ p = .pointer (some ⟨b, 0, none⟩)) ∧ w.heap[b]? = some (.cells #[p, v] 92 (0, 0)) ∧ w.ownsRow b 5 1 v l.length (Lib.byteCells l) ∧ v.ownBlock = r ∧ r ≠ some b
/-- All but block b and the block r is as it was. -/
structure Fr (w w' : World) (b : Nat) (r : Option Nat) : Prop where
  os : w'.os = w.os
  tape : w'.tape = w.tape
  output : w'.output = w.output
  size : w.heap.size ≤ w'.heap.size
  block : ∀ k, k < w.heap.size → k ≠ b → some k ≠ r → w'.heap[k]? = w.heap[k]?
theorem Bldr.lt {b : Nat} {r : Option Nat} {l : List UInt8} {w : World} (h : Bldr b r l w) : b < w.heap.size := by
  obtain ⟨p, v, _, hb, _⟩ := h
  rcases Nat.lt_or_ge b w.heap.size with h' | h'
  · exact h'
  · simp [Array.getElem?_eq_none h'] at hb
theorem Bldr.row {b : Nat} {r : Option Nat} {l : List UInt8} {w : World} (h : Bldr b r l w) : ∀ k, r = some k → b < k ∧ k < w.heap.size := by
  obtain ⟨p, v, _, hb, ho, hr, hne⟩ := h
  intro k hk
  have := ho.lt k (hr.trans hk)
  refine ⟨?_, this.2⟩
  rcases Nat.lt_or_ge b k with h | h
  · exact h
  · exact absurd (by rw [hk, Nat.le_antisymm this.1 h]) hne
theorem Fr.refl (w : World) (b : Nat) (r : Option Nat) : Fr w w b r := ⟨rfl, rfl, rfl, Nat.le_refl _, fun _ _ _ _ => rfl⟩
theorem Fr.trans {w w1 w2 : World} {b : Nat} {r r1 : Option Nat} (h : Fr w w1 b r) (h1 : Fr w1 w2 b r1) (hr : r1 = r ∨ ∃ k, r1 = some k ∧ w.heap.size ≤ k) : Fr w w2 b r :=
  ⟨h1.os.trans h.os, h1.tape.trans h.tape, h1.output.trans h.output, Nat.le_trans h.size h1.size, fun k hk hb hne =>
    (h1.block k (Nat.lt_of_lt_of_le hk h.size) hb (by
      rcases hr with rfl | ⟨j, rfl, hj⟩
      · exact hne
      · intro e; cases e; omega)).trans (h.block k hk hb hne)⟩
theorem Fr.below {w w1 : World} {b : Nat} {r : Option Nat} (h : Fr w w1 b r) {B : Nat} (hB : B ≤ b) (hBw : B ≤ w.heap.size) (hr : ∀ k, r = some k → B ≤ k) : Below B w w1 :=
  ⟨h.os, h.tape, h.output, h.size, fun k hk => h.block k (by omega) (by omega) (fun e => by have := hr k e.symm; omega)⟩
theorem Fr.cell {w w1 : World} {b : Nat} {r : Option Nat} (h : Fr w w1 b r) {g o : Nat} {v : Value} (hg : g ≠ b) (hr : some g ≠ r) (hc : w.cell? ⟨g, o, none⟩ = some v) : w1.cell? ⟨g, o, none⟩ = some v :=
  (World.cell?_of_block (a := ⟨g, o, none⟩) (h.block g (cell_lt hc) hg hr)).trans hc
theorem Fr.of_below {w w1 : World} {b : Nat} {r : Option Nat} (h : Below w.heap.size w w1) : Fr w w1 b r := ⟨h.os, h.tape, h.output, h.size, fun k hk _ _ => h.block k hk⟩
/-- What is laid or read besides leaves a builder as it is. -/
theorem Bldr.keep {b : Nat} {r : Option Nat} {l : List UInt8} {w W : World} (h : Bldr b r l w) (hb : Below w.heap.size w W) : Bldr b r l W := by
  have hlt := h.lt
  obtain ⟨p, v, hp, hbk, ho, hr, hne⟩ := h
  exact ⟨p, v, hp, (hb.block b hlt).trans hbk, ho.kept (row := none) ⟨hb.os, hb.tape, hb.output, hb.size, fun k hk _ => hb.block k hk⟩ (by cases v.ownBlock <;> simp), hr, hne⟩
theorem Fr.under {w W W2 : World} {b : Nat} {r : Option Nat} {l : List UInt8} (h : Below w.heap.size w W) (hB : Bldr b r l W) (hb : w.heap.size ≤ b) (hF : Fr W W2 b r) : Below w.heap.size w W2 :=
  h.trans (hF.below hb h.size (fun k hk => by have := (hB.row k hk).1; omega))
theorem Bldr.new (w : World) : Bldr w.heap.size none [] (w.alloc (.cells #[.pointer none, .slice none 0 0] 92)) :=
  ⟨_, _, .inl rfl, heap_alloc_new w _, World.ownsRow_nil _ _ _ _, rfl, by simp⟩
theorem copyCheck_c (b : Nat) (p v : Value) (w : World) (hp : p = .pointer none ∨ p = .pointer (some ⟨b, 0, none⟩)) (hb : w.heap[b]? = some (.cells #[p, v] 92 (0, 0))) :
    Calls Tryz.prog 91 #[.pointer (some ⟨b, 0, none⟩)] w fun e w' => e = .returned (.tuple #[]) ∧ w'.heap[b]? = some (.cells #[.pointer (some ⟨b, 0, none⟩), v] 92 (0, 0)) ∧ w.grownBy w' (some b) := by
  rcases hp with rfl | rfl
  · refine (Any.Builder_copyCheck_fresh { Tryz.lays156 with } Tryz.Builder_Extra_156.toX72 b w (by rw [Lib.cell_of_heap hb]; rfl) (by simp [World.shape?, hb]; rfl) (by simp [World.frozen?, hb])).mono ?_
    rintro e w' ⟨rfl, rfl⟩
    refine ⟨rfl, by simp [World.setCell, Array.getElem?_modify, hb], ⟨rfl, rfl, rfl, by simp [World.setCell], fun k _ hk => Below.heap_setCell _ _ _ _ (fun e => hk (by simp [e]))⟩⟩
  · refine (Any.Builder_copyCheck_used { Tryz.lays156 with } Tryz.Builder_Extra_156.toX72 b w (by rw [Lib.cell_of_heap hb]; rfl)).mono ?_
    rintro e w' ⟨rfl, rfl⟩
    exact ⟨rfl, hb, ⟨rfl, rfl, rfl, Nat.le_refl _, fun _ _ _ => rfl⟩⟩
theorem infoByte : (Tryz.prog.info? 5).map (fun i => (i.zero, i.size, i.bytes)) = some (some (.int .u8 0), 1, 1) := by kernel_rfl
set_option maxHeartbeats 1000000 in
set_option maxRecDepth 100000 in
theorem WriteByte_c (b : Nat) (r : Option Nat) (l : List UInt8) (c : UInt8) (w : World) (h : Bldr b r l w) (hlen : l.length + 1 ≤ 140737488355328) :
    Calls Tryz.prog 170 #[.pointer (some ⟨b, 0, none⟩), .int .u8 (c.toNat : Int)] w fun e w' => e = .returned .nilIface ∧ ∃ r', Bldr b r' (l ++ [c]) w' ∧ (r' = r ∨ ∃ k, r' = some k ∧ w.heap.size ≤ k) ∧ Fr w w' b r := by
  have hlt := h.lt
  obtain ⟨p, v, hp, hbk, hown, rfl, hne⟩ := h
  obtain ⟨i0, hi, hz0, hz1, hz2⟩ := info_parts infoByte
  have hcc := copyCheck_c b p v w hp hbk
  go_enter Tryz.func170, Tryz.ntmps170
  go_wp2_with fail
  refine hcc.mono ?_
  rintro e w1 ⟨rfl, hb1, hg1⟩
  have hs1 := hg1.size
  have c0 : w1.cell? ⟨b, 0, none⟩ = some (.pointer (some ⟨b, 0, none⟩)) := by rw [Lib.cell_of_heap hb1]; rfl
  have c1 : w1.cell? ⟨b, 1, none⟩ = some v := by rw [Lib.cell_of_heap hb1]; rfl
  have hown1 : w1.ownsRow b 5 1 v l.length (Lib.byteCells l) := hown.kept hg1 (.inr hne)
  go_wp2_with (at_builtin; refine wpList_append_own_at _ rfl _ _ 90 rfl b 5 i0 (.int .u8 0) 1 1 Tryz.underlying90 hi hz0 hz1 hz2 rfl (by decide) _ _ _ rfl (hown1.alloc _) ⟨w1.heap.size, 0, none⟩ 1 1 [.int .u8 (c.toNat : Int)] rfl rfl (cell_one_new _ _ _) ?c2 ?c3 ?c4 ?c5 ?_)
  case c2 => intro u hu; simp at hu; subst hu; rfl
  case c3 => unfold maxLen; omega
  case c4 => omega
  case c5 => simp; omega
  intro v' w2 hown' hgrow _ hat
  have hb2 : w2.heap[b]? = some (.cells #[.pointer (some ⟨b, 0, none⟩), v] 92 (0, 0)) := by
    rw [hgrow.block b (by simp; omega) (fun e => hne e.symm), Lib.alloc_old w1 _ b (by omega)]
    exact hb1
  have d0 : w2.cell? ⟨b, 0, none⟩ = some (.pointer (some ⟨b, 0, none⟩)) := by rw [Lib.cell_of_heap hb2]; rfl
  have d1 : w2.cell? ⟨b, 1, none⟩ = some v := by rw [Lib.cell_of_heap hb2]; rfl
  have f1 : w2.frozen? ⟨b, 1, none⟩ = false := Lib.frozen_of_heap hb2 1
  obtain ⟨g, cap, rfl⟩ : ∃ g cap, v' = .slice (some ⟨g, 0, none⟩) (l.length + 1) cap := by
    rcases hown'.2 with ⟨_, h0⟩ | ⟨g, cap, cur, hv, _⟩
    · omega
    · exact ⟨g, cap, hv⟩
  go_wp2
  go_ret
  have hgb : g ≠ b := by
    rintro rfl
    rcases hat with h | h
    · exact hne h.symm
    · simp [Value.ownBlock] at h; omega
  refine ⟨rfl, some g, ⟨.pointer (some ⟨b, 0, none⟩), .slice (some ⟨g, 0, none⟩) (l.length + 1) cap, .inr rfl, ?_, ?_, rfl, fun e => hgb (by simpa using e)⟩, ?_, ?_⟩
  · simp [World.setCell, Array.getElem?_modify, hb2]
  · have hk := hown'.kept (w' := w2.setCell ⟨b, 1, none⟩ (.slice (some ⟨g, 0, none⟩) (l.length + 1) cap)) (row := some b) ⟨rfl, rfl, rfl, by simp [World.setCell], fun k _ hk => Below.heap_setCell _ _ _ _ (fun e => hk (by simp [e]))⟩ (.inr (fun e => hgb (by simpa [Value.ownBlock] using e)))
    simpa [Lib.byteCells] using hk
  · rcases hat with h | h
    · exact .inl h
    · simp [Value.ownBlock] at h
      exact .inr ⟨g, rfl, by omega⟩
  · refine ⟨?_, ?_, ?_, ?_, fun k hk hkb hkr => ?_⟩
    · exact (hgrow.os.trans hg1.os)
    · exact (hgrow.tape.trans hg1.tape)
    · exact (hgrow.output.trans hg1.output)
    · have := hgrow.size
      simp at this ⊢
      omega
    · rw [Below.heap_setCell _ _ _ _ (fun e => hkb (by simpa using e)), hgrow.block k (by simp; omega) hkr, Lib.alloc_old w1 _ k (by omega), hg1.block k hk (fun e => hkb (by simpa using e))]
set_option maxHeartbeats 1000000 in
set_option maxRecDepth 100000 in
theorem WriteString_c (b : Nat) (r : Option Nat) (l s : List UInt8) (w : World) (h : Bldr b r l w) (hlen : l.length + s.length ≤ 140737488355328) :
    Calls Tryz.prog 64 #[.pointer (some ⟨b, 0, none⟩), .string (mkS s)] w fun e w' => e = .returned (.tuple #[.int .i64 s.length, .nilIface]) ∧ ∃ r', Bldr b r' (l ++ s) w' ∧ Fr w w' b r := by
  have hlt := h.lt
  obtain ⟨p, v, hp, hbk, hown, rfl, hne⟩ := h
  obtain ⟨i0, hi, hz0, hz1, hz2⟩ := info_parts infoByte
  have hcc := copyCheck_c b p v w hp hbk
  have hsz := mkS_size s
  go_enter Tryz.func64, Tryz.ntmps64
  go_wp2_with fail
  refine hcc.mono ?_
  rintro e w1 ⟨rfl, hb1, hg1⟩
  have hs1 := hg1.size
  have c0 : w1.cell? ⟨b, 0, none⟩ = some (.pointer (some ⟨b, 0, none⟩)) := by rw [Lib.cell_of_heap hb1]; rfl
  have c1 : w1.cell? ⟨b, 1, none⟩ = some v := by rw [Lib.cell_of_heap hb1]; rfl
  have hown1 : w1.ownsRow b 5 1 v l.length (Lib.byteCells l) := hown.kept hg1 (.inr hne)
  go_wp2_with (at_builtin; refine Lib.wpList_append_own_string _ rfl _ _ 90 9 rfl b 5 i0 Tryz.underlying90 Tryz.underlying9 hi hz0 hz1 hz2 _ _ _ rfl hown1 (mkS s) rfl ?c3 ?c4 ?c5 ?_)
  case c3 => unfold maxLen; omega
  case c4 => omega
  case c5 => omega
  intro v' w2 hown' hgrow _
  have hb2 : w2.heap[b]? = some (.cells #[.pointer (some ⟨b, 0, none⟩), v] 92 (0, 0)) := by
    rw [hgrow.block b (by omega) (fun e => hne e.symm)]
    exact hb1
  have d0 : w2.cell? ⟨b, 0, none⟩ = some (.pointer (some ⟨b, 0, none⟩)) := by rw [Lib.cell_of_heap hb2]; rfl
  have d1 : w2.cell? ⟨b, 1, none⟩ = some v := by rw [Lib.cell_of_heap hb2]; rfl
  have f1 : w2.frozen? ⟨b, 1, none⟩ = false := Lib.frozen_of_heap hb2 1
  have hvb : v'.ownBlock ≠ some b := by
    rcases hown'.2 with ⟨rfl, _⟩ | ⟨g, cap, cur, rfl, _, hg, _⟩
    · simp [Value.ownBlock]
    · intro e
      have e' : g = b := by simpa [Value.ownBlock] using e
      rw [e', hb2] at hg
      injection hg with hg
      injection hg with _ hg _
      exact absurd hg (by decide)
  obtain ⟨ao, n', cap, hv'⟩ : ∃ ao n' cap, v' = .slice ao n' cap := by
    rcases hown'.2 with ⟨hv, _⟩ | ⟨g, cap, cur, hv, _⟩
    · exact ⟨_, _, _, hv⟩
    · exact ⟨_, _, _, hv⟩
  clear hsz
  subst hv'
  go_wp2
  go_ret2
  refine ⟨rfl, _, ⟨.pointer (some ⟨b, 0, none⟩), .slice ao n' cap, .inr rfl, ?_, ?_, rfl, hvb⟩, ?_⟩
  · simp [World.setCell, Array.getElem?_modify, hb2]
  · have hk := hown'.kept (w' := w2.setCell ⟨b, 1, none⟩ (.slice ao n' cap)) (row := some b) ⟨rfl, rfl, rfl, by simp [World.setCell], fun k _ hk => Below.heap_setCell _ _ _ _ (fun e => hk (by simp [e]))⟩ (.inr hvb)
    simpa [Lib.byteCells, Lib.strCells, mkS_data] using hk
  · refine ⟨?_, ?_, ?_, ?_, fun k hk hkb hkr => ?_⟩
    · exact (hgrow.os.trans hg1.os)
    · exact (hgrow.tape.trans hg1.tape)
    · exact (hgrow.output.trans hg1.output)
    · have := hgrow.size
      simp
      omega
    · rw [Below.heap_setCell _ _ _ _ (fun e => hkb (by simpa using e)), hgrow.block k (by omega) hkr, hg1.block k hk (fun e => hkb (by simpa using e))]
theorem Builder_String_c (b : Nat) (r : Option Nat) (l : List UInt8) (w : World) (h : Bldr b r l w) {B : Nat} (hB : B ≤ b) :
    Calls Tryz.prog 68 #[.pointer (some ⟨b, 0, none⟩)] w fun e w' => e = .returned (.string (mkS l)) ∧ Below B w w' := by
  have hlt := h.lt
  obtain ⟨p, v, hp, hbk, hown, hr, hne⟩ := h
  have hI : Lib.IsBuilder 92 5 B b (Lib.byteCells l) w := by
    have ho : w.ownsRow B 5 1 v (Lib.byteCells l).length (Lib.byteCells l) := by
      rw [Lib.byteCells_length]
      refine ⟨hown.1, ?_⟩
      rcases hown.2 with h | ⟨g, cap, cur, h1, h2, h3⟩
      · exact .inl h
      · exact .inr ⟨g, cap, cur, h1, Nat.le_trans hB h2, h3⟩
    rcases hp with rfl | rfl
    · exact .inl ⟨hB, v, hbk, ho, by rw [hr]; exact hne⟩
    · exact .inr ⟨hB, v, hbk, ho, by rw [hr]; exact hne⟩
  exact Any.Builder_String_any { Tryz.lays156 with } Tryz.Builder_Extra_156 B b l w hI (by omega)
end Go.Proofs.YtppbkblnjlbnfaaGreatDoor
