import Derived.Test.YtgegnnojobmdcaaGreatDoorBz
import Derived.Test.YtgegnnojobmdcaaGreatDoorRows
import Derived.ProofKit
import Derived.OpenShut
import Derived.HandedShaped
import Derived.Shelf.Vars
import Derived.Test.YtgegnnojobmdcaaGreatDoorCards
import Derived.Test.YtgegnnojobmdcaaGreatDoorTie
import Derived.Lib.LaidIn
import Derived.Lib.LaidU8T
import Derived.PinnedBridge
import Derived.Deep.DeepHandedRow
import Derived.Deep.DeepWitnessRowRef
import Derived.SizedLaws
set_option linter.unusedVariables false
set_option linter.unusedSimpArgs false
/-! An address as an argument: opened. -/
namespace Go.Proofs.YtgegnnojobmdcaaGreatDoor
open Go.ChangeShapes Go.WideShapes Go.ChangeAt Go.RowKit
open Go.WideMaps Go.WideElems
open Go.ChangeMaps (open_string shut_string)
theorem list21 {α : Type} {l : List α} (h : l.length = 21) : ∃ c0 c1 c2 c3 c4 c5 c6 c7 c8 c9 c10 c11 c12 c13 c14 c15 c16 c17 c18 c19 c20, l = [c0, c1, c2, c3, c4, c5, c6, c7, c8, c9, c10, c11, c12, c13, c14, c15, c16, c17, c18, c19, c20] := by
  match l, h with
  | [c0, c1, c2, c3, c4, c5, c6, c7, c8, c9, c10, c11, c12, c13, c14, c15, c16, c17, c18, c19, c20], _ => exact ⟨c0, c1, c2, c3, c4, c5, c6, c7, c8, c9, c10, c11, c12, c13, c14, c15, c16, c17, c18, c19, c20, rfl⟩
theorem list8 {α : Type} {l : List α} (h : l.length = 8) : ∃ c0 c1 c2 c3 c4 c5 c6 c7, l = [c0, c1, c2, c3, c4, c5, c6, c7] := by
  match l, h with
  | [c0, c1, c2, c3, c4, c5, c6, c7], _ => exact ⟨c0, c1, c2, c3, c4, c5, c6, c7, rfl⟩
theorem some_of_lt {α : Type} {l : List α} {i : Nat} (h : i < l.length) : ∃ y, l[i]? = some y := ⟨l[i], by simp [h]⟩
section
variable {H : Type} {enc : TypeId × Value → H} {w : World} {base : Nat} {spare : Nat → Bool} {held : Bool} {fuel : Nat} {c : Value} {x : DataW H × List MemPlace}
theorem str_cell (h : DataW.trod enc Tryz.prog w base spare held fuel 9 [c] = some x) : ∃ l, c = .string (mkS l) := by
  obtain ⟨s, hs, _⟩ := DataW.trod_string Tryz.underlying9 h
  obtain ⟨l, rfl⟩ := mkS_surj s
  exact ⟨l, by simpa using hs⟩
theorem int_cell (h : DataW.trod enc Tryz.prog w base spare held fuel 3 [c] = some x) : ∃ n, c = .int .i64 n := by
  obtain ⟨n, hs, _⟩ := DataW.trod_int Tryz.underlying3 h
  exact ⟨n, by simpa using hs⟩
theorem bool_cell (h : DataW.trod enc Tryz.prog w base spare held fuel 4 [c] = some x) : ∃ n, c = .bool n := by
  obtain ⟨n, hs, _⟩ := DataW.trod_bool Tryz.underlying4 h
  exact ⟨n, by simpa using hs⟩
theorem strs_cell (h : DataW.trod enc Tryz.prog w base spare held fuel 25 [c] = some x) : ∃ a n k xs, c = .slice a n k ∧ RdW w a n xs := by
  rcases open_strings Tryz.underlying25 Tryz.underlying9 (by kernel_rfl) h with ⟨hcs, _⟩ | ⟨a, len, cap, ss, hcs, _, hl, _, hlen, _, hcell, _⟩
  · exact ⟨none, 0, 0, [], by simpa using hcs, rfl, .inl rfl⟩
  · have hc : c = .slice (some a) len cap := by simpa using hcs
    have hle : len ≤ ss.length := by rw [hlen]; split <;> omega
    refine ⟨some a, len, cap, (ss.take len).map (·.data.toList), hc, by simp; omega, ?_⟩
    rcases Nat.eq_zero_or_pos len with h0 | h0
    · subst h0
      exact .inl (by simp)
    · right
      obtain ⟨b, o, spot⟩ := a
      have hspot : spot = none := by simpa [Addr.add] using World.cell?_spot (hcell 0 (by omega))
      subst hspot
      have hca : ∀ j, j < len → w.cell? ⟨b, o + j, none⟩ = some (.string (ss.getD j ByteArray.empty)) := fun j hj => by rw [← Go.WideShapes.add_plain]; exact hcell j (by omega)
      refine ⟨b, o, rfl, cell_lt (hca 0 h0), fun j hj => ?_⟩
      have hj' : j < len := by simp at hj; omega
      rw [hca j hj']
      congr 2
      have hj2 : j < ss.length := by omega
      simp [List.getD, hj2, mkS]
theorem six_cells {p0 p1 p2 p3 p4 p5 p6 p7 : Value} (h : DataW.trod enc Tryz.prog w base spare held fuel 22 [p0, p1, p2, p3, p4, p5, p6, p7] = some x) : ∃ n0 n1 n2 n3 n4 n5 n6 n7, p0 = .int .i64 n0 ∧ p1 = .int .i64 n1 ∧ p2 = .int .i64 n2 ∧ p3 = .int .i64 n3 ∧ p4 = .int .i64 n4 ∧ p5 = .int .i64 n5 ∧ p6 = .int .i64 n6 ∧ p7 = .int .i64 n7 := by
  obtain ⟨xs, m, _, _, _, hlen, hf⟩ := DataW.trod_array Tryz.underlying22 h
  have hc : Tryz.prog.cellsOf 3 = 1 := by kernel_rfl
  rw [hc] at hf
  have g : ∀ i, i < 8 → ∃ y, xs[i]? = some y := fun i hi => some_of_lt (by omega)
  obtain ⟨y0, e0⟩ := g 0 (by decide)
  have h0 := hf 0 (by decide)
  rw [e0] at h0
  obtain ⟨n0, r0⟩ := int_cell (c := p0) h0
  obtain ⟨y1, e1⟩ := g 1 (by decide)
  have h1 := hf 1 (by decide)
  rw [e1] at h1
  obtain ⟨n1, r1⟩ := int_cell (c := p1) h1
  obtain ⟨y2, e2⟩ := g 2 (by decide)
  have h2 := hf 2 (by decide)
  rw [e2] at h2
  obtain ⟨n2, r2⟩ := int_cell (c := p2) h2
  obtain ⟨y3, e3⟩ := g 3 (by decide)
  have h3 := hf 3 (by decide)
  rw [e3] at h3
  obtain ⟨n3, r3⟩ := int_cell (c := p3) h3
  obtain ⟨y4, e4⟩ := g 4 (by decide)
  have h4 := hf 4 (by decide)
  rw [e4] at h4
  obtain ⟨n4, r4⟩ := int_cell (c := p4) h4
  obtain ⟨y5, e5⟩ := g 5 (by decide)
  have h5 := hf 5 (by decide)
  rw [e5] at h5
  obtain ⟨n5, r5⟩ := int_cell (c := p5) h5
  obtain ⟨y6, e6⟩ := g 6 (by decide)
  have h6 := hf 6 (by decide)
  rw [e6] at h6
  obtain ⟨n6, r6⟩ := int_cell (c := p6) h6
  obtain ⟨y7, e7⟩ := g 7 (by decide)
  have h7 := hf 7 (by decide)
  rw [e7] at h7
  obtain ⟨n7, r7⟩ := int_cell (c := p7) h7
  exact ⟨n0, n1, n2, n3, n4, n5, n6, n7, r0, r1, r2, r3, r4, r5, r6, r7⟩
theorem host_cells {a0 a1 a2 a3 a4 a5 a6 a7 a8 a9 a10 : Value} (h : DataW.trod enc Tryz.prog w base spare held fuel 24 [a0, a1, a2, a3, a4, a5, a6, a7, a8, a9, a10] = some x) : ∃ k n m n0 n1 n2 n3 n4 n5 n6 n7, a0 = .int .i64 k ∧ a1 = .string (mkS n) ∧ a2 = .int .i64 m ∧ a3 = .int .i64 n0 ∧ a4 = .int .i64 n1 ∧ a5 = .int .i64 n2 ∧ a6 = .int .i64 n3 ∧ a7 = .int .i64 n4 ∧ a8 = .int .i64 n5 ∧ a9 = .int .i64 n6 ∧ a10 = .int .i64 n7 := by
  have hu := Tryz.underlying24
  obtain ⟨xs, m, _, _, _, hlen, hf⟩ := DataW.trod_struct hu h
  have hc3 : Tryz.prog.cellsOf 3 = 1 := by kernel_rfl
  have hc9 : Tryz.prog.cellsOf 9 = 1 := by kernel_rfl
  have hc22 : Tryz.prog.cellsOf 22 = 8 := by kernel_rfl
  have g : ∀ i, i < 4 → ∃ y, xs[i]? = some y := fun i hi => some_of_lt (by rw [hlen]; exact hi)
  obtain ⟨y0, e0⟩ := g 0 (by decide)
  obtain ⟨y1, e1⟩ := g 1 (by decide)
  obtain ⟨y2, e2⟩ := g 2 (by decide)
  obtain ⟨y3, e3⟩ := g 3 (by decide)
  have h0 : DataW.trod enc Tryz.prog w base spare held m 3 (([a0, a1, a2, a3, a4, a5, a6, a7, a8, a9, a10].drop 0).take (Tryz.prog.cellsOf 3)) = xs[0]? := hf 0 _ rfl
  have h1 : DataW.trod enc Tryz.prog w base spare held m 9 (([a0, a1, a2, a3, a4, a5, a6, a7, a8, a9, a10].drop 1).take (Tryz.prog.cellsOf 9)) = xs[1]? := hf 1 _ rfl
  have h2 : DataW.trod enc Tryz.prog w base spare held m 3 (([a0, a1, a2, a3, a4, a5, a6, a7, a8, a9, a10].drop 2).take (Tryz.prog.cellsOf 3)) = xs[2]? := hf 2 _ rfl
  have h3 : DataW.trod enc Tryz.prog w base spare held m 22 (([a0, a1, a2, a3, a4, a5, a6, a7, a8, a9, a10].drop 3).take (Tryz.prog.cellsOf 22)) = xs[3]? := hf 3 _ rfl
  rw [hc3, e0] at h0
  rw [hc9, e1] at h1
  rw [hc3, e2] at h2
  rw [hc22, e3] at h3
  obtain ⟨k, r0⟩ := int_cell (c := a0) h0
  obtain ⟨n, r1⟩ := str_cell (c := a1) h1
  obtain ⟨m', r2⟩ := int_cell (c := a2) h2
  obtain ⟨n0, n1, n2, n3, n4, n5, n6, n7, q0, q1, q2, q3, q4, q5, q6, q7⟩ := six_cells h3
  exact ⟨k, n, m', n0, n1, n2, n3, n4, n5, n6, n7, r0, r1, r2, q0, q1, q2, q3, q4, q5, q6, q7⟩
set_option maxRecDepth 100000 in
theorem open_url {r : Reach} {b0 : Nat} {v : Value} {d : DataW H} {p : List MemPlace} (hv : Value.okWide Tryz.prog w r b0 27 v) (h : DataW.Trod enc Tryz.prog w base spare held 27 v d p) :
    ∃ u : UV, v = .agg u.cells ∧ RdW w u.a u.pn u.xs := by
  have hu := Tryz.underlying27
  obtain ⟨cs, rfl, hsz⟩ := okWide_struct hu hv
  obtain ⟨fuel, hf0⟩ := h
  have hC : Tryz.prog.cellsOf 27 = 21 := by kernel_rfl
  obtain ⟨l⟩ := cs
  have hl : l.length = 21 := by simpa [hC] using hsz
  obtain ⟨c0, c1, c2, c3, c4, c5, c6, c7, c8, c9, c10, c11, c12, c13, c14, c15, c16, c17, c18, c19, c20, rfl⟩ := list21 hl
  obtain ⟨xs, m, _, _, _, hlen, hf⟩ := DataW.trod_struct hu hf0
  have hc3 : Tryz.prog.cellsOf 3 = 1 := by kernel_rfl
  have hc4 : Tryz.prog.cellsOf 4 = 1 := by kernel_rfl
  have hc9 : Tryz.prog.cellsOf 9 = 1 := by kernel_rfl
  have hc24 : Tryz.prog.cellsOf 24 = 11 := by kernel_rfl
  have hc25 : Tryz.prog.cellsOf 25 = 1 := by kernel_rfl
  have g : ∀ i, i < 11 → ∃ y, xs[i]? = some y := fun i hi => some_of_lt (by rw [hlen]; exact hi)
  obtain ⟨y0, e0⟩ := g 0 (by decide)
  have h0 : DataW.trod enc Tryz.prog w base spare held m 9 (([c0, c1, c2, c3, c4, c5, c6, c7, c8, c9, c10, c11, c12, c13, c14, c15, c16, c17, c18, c19, c20].drop 0).take (Tryz.prog.cellsOf 9)) = xs[0]? := hf 0 _ rfl
  rw [hc9, e0] at h0
  obtain ⟨y1, e1⟩ := g 1 (by decide)
  have h1 : DataW.trod enc Tryz.prog w base spare held m 9 (([c0, c1, c2, c3, c4, c5, c6, c7, c8, c9, c10, c11, c12, c13, c14, c15, c16, c17, c18, c19, c20].drop 1).take (Tryz.prog.cellsOf 9)) = xs[1]? := hf 1 _ rfl
  rw [hc9, e1] at h1
  obtain ⟨y2, e2⟩ := g 2 (by decide)
  have h2 : DataW.trod enc Tryz.prog w base spare held m 9 (([c0, c1, c2, c3, c4, c5, c6, c7, c8, c9, c10, c11, c12, c13, c14, c15, c16, c17, c18, c19, c20].drop 2).take (Tryz.prog.cellsOf 9)) = xs[2]? := hf 2 _ rfl
  rw [hc9, e2] at h2
  obtain ⟨y3, e3⟩ := g 3 (by decide)
  have h3 : DataW.trod enc Tryz.prog w base spare held m 24 (([c0, c1, c2, c3, c4, c5, c6, c7, c8, c9, c10, c11, c12, c13, c14, c15, c16, c17, c18, c19, c20].drop 3).take (Tryz.prog.cellsOf 24)) = xs[3]? := hf 3 _ rfl
  rw [hc24, e3] at h3
  obtain ⟨y4, e4⟩ := g 4 (by decide)
  have h4 : DataW.trod enc Tryz.prog w base spare held m 3 (([c0, c1, c2, c3, c4, c5, c6, c7, c8, c9, c10, c11, c12, c13, c14, c15, c16, c17, c18, c19, c20].drop 14).take (Tryz.prog.cellsOf 3)) = xs[4]? := hf 4 _ rfl
  rw [hc3, e4] at h4
  obtain ⟨y5, e5⟩ := g 5 (by decide)
  have h5 : DataW.trod enc Tryz.prog w base spare held m 25 (([c0, c1, c2, c3, c4, c5, c6, c7, c8, c9, c10, c11, c12, c13, c14, c15, c16, c17, c18, c19, c20].drop 15).take (Tryz.prog.cellsOf 25)) = xs[5]? := hf 5 _ rfl
  rw [hc25, e5] at h5
  obtain ⟨y6, e6⟩ := g 6 (by decide)
  have h6 : DataW.trod enc Tryz.prog w base spare held m 9 (([c0, c1, c2, c3, c4, c5, c6, c7, c8, c9, c10, c11, c12, c13, c14, c15, c16, c17, c18, c19, c20].drop 16).take (Tryz.prog.cellsOf 9)) = xs[6]? := hf 6 _ rfl
  rw [hc9, e6] at h6
  obtain ⟨y7, e7⟩ := g 7 (by decide)
  have h7 : DataW.trod enc Tryz.prog w base spare held m 9 (([c0, c1, c2, c3, c4, c5, c6, c7, c8, c9, c10, c11, c12, c13, c14, c15, c16, c17, c18, c19, c20].drop 17).take (Tryz.prog.cellsOf 9)) = xs[7]? := hf 7 _ rfl
  rw [hc9, e7] at h7
  obtain ⟨y8, e8⟩ := g 8 (by decide)
  have h8 : DataW.trod enc Tryz.prog w base spare held m 9 (([c0, c1, c2, c3, c4, c5, c6, c7, c8, c9, c10, c11, c12, c13, c14, c15, c16, c17, c18, c19, c20].drop 18).take (Tryz.prog.cellsOf 9)) = xs[8]? := hf 8 _ rfl
  rw [hc9, e8] at h8
  obtain ⟨y9, e9⟩ := g 9 (by decide)
  have h9 : DataW.trod enc Tryz.prog w base spare held m 4 (([c0, c1, c2, c3, c4, c5, c6, c7, c8, c9, c10, c11, c12, c13, c14, c15, c16, c17, c18, c19, c20].drop 19).take (Tryz.prog.cellsOf 4)) = xs[9]? := hf 9 _ rfl
  rw [hc4, e9] at h9
  obtain ⟨y10, e10⟩ := g 10 (by decide)
  have h10 : DataW.trod enc Tryz.prog w base spare held m 4 (([c0, c1, c2, c3, c4, c5, c6, c7, c8, c9, c10, c11, c12, c13, c14, c15, c16, c17, c18, c19, c20].drop 20).take (Tryz.prog.cellsOf 4)) = xs[10]? := hf 10 _ rfl
  rw [hc4, e10] at h10
  obtain ⟨sc, r0⟩ := str_cell (c := c0) h0
  obtain ⟨us, r1⟩ := str_cell (c := c1) h1
  obtain ⟨pa, r2⟩ := str_cell (c := c2) h2
  obtain ⟨k, n, m', n0, n1, n2, n3, n4, n5, n6, n7, q0, q1, q2, q3, q4, q5, q6, q7, q8, q9, q10⟩ := host_cells (a0 := c3) (a1 := c4) (a2 := c5) (a3 := c6) (a4 := c7) (a5 := c8) (a6 := c9) (a7 := c10) (a8 := c11) (a9 := c12) (a10 := c13) h3
  obtain ⟨port, r4⟩ := int_cell (c := c14) h4
  obtain ⟨a, pn, pc, ps, r5, hr⟩ := strs_cell (c := c15) h5
  obtain ⟨op, r6⟩ := str_cell (c := c16) h6
  obtain ⟨qu, r7⟩ := str_cell (c := c17) h7
  obtain ⟨fr, r8⟩ := str_cell (c := c18) h8
  obtain ⟨hq, r9⟩ := bool_cell (c := c19) h9
  obtain ⟨hf', r10⟩ := bool_cell (c := c20) h10
  refine ⟨⟨sc, us, pa, k, n, m', n0, n1, n2, n3, n4, n5, n6, n7, port, a, pn, pc, ps, op, qu, fr, hq, hf'⟩, ?_, hr⟩
  subst r0 r1 r2 q0 q1 q2 q3 q4 q5 q6 q7 q8 q9 q10 r4 r5 r6 r7 r8 r9 r10
  rfl
end
end Go.Proofs.YtgegnnojobmdcaaGreatDoor
/-! What every row of this program asks. -/
namespace Go.Proofs.YtgegnnojobmdcaaGreatDoor
open Go.RowKit
theorem own : ownKnob Tryz.prog.godebug = none := by kernel_rfl
theorem laidOut : laidOutB Tryz.prog = true := by kernel_rfl
theorem gl_of {W : World} (h : W.ShapedOpen Tryz.prog) : Gl W := Go.Proofs.cell_of_shapedOpen_int (zero := #[.int .i64 0]) (t := 3) h (of_decide_eq_true (by kernel_rfl)) (by kernel_rfl) rfl (by kernel_rfl) (by kernel_rfl) Tryz.underlying3
end Go.Proofs.YtgegnnojobmdcaaGreatDoor
/-! The two tables of unicode/utf8 that the rows list. -/
namespace Go.Proofs.YtgegnnojobmdcaaGreatDoor
open Go.ChangeShapes Go.WideShapes Go.ChangeAt Go.RowKit Go.Lib Go.Shelf
def laidTwo : List (String × DataW Unit) := [("unicode/utf8.acceptRanges", Rows.laid_unicode_utf8_acceptRanges), ("unicode/utf8.first", Rows.laid_unicode_utf8_first)]
theorem accept_eq : (Rows.laid_unicode_utf8_acceptRanges : DataW Unit) = Lib.acceptData := by kernel_rfl
theorem first_eq : Rows.laid_unicode_utf8_first = Lib.firstData := Pinned.utf8First_eq
def tabRen : Ren := ⟨fun n => n, fun | 5 => 5 | 119 => 174 | 138 => 211 | 139 => 212 | n => n, fun | 3 => 1 | 4 => 2 | n => n⟩
theorem tabs_laid {W : World} (hL : laidMetH Tryz.prog laidTwo W) : Lib.Utf8Tabs 1 2 W := by
  have h := hL
  unfold laidTwo at h
  rw [accept_eq, first_eq] at h
  exact utf8Tabs_of_readsT (ρ := tabRen) ⟨by kernel_rfl, by kernel_rfl, by kernel_rfl, by kernel_rfl⟩ ⟨by kernel_rfl, by kernel_rfl, by kernel_rfl, by kernel_rfl, by kernel_rfl, by kernel_rfl, by kernel_rfl⟩ (Lib.laidMet.reads h (.tail _ (.head _))) (Lib.laidMet.reads h (.head _))
/-- The witness: the settled world, the two tables laid. -/
noncomputable def laidWorld (os : Os) : World :=
  let w0 := World.holding Tryz.prog os ⟨#[], #[], []⟩
  let put (h : Array Obj) (g : Nat) (cs : Array Value) : Array Obj := h.modify g fun
    | .cells _ t frozen => .cells cs t frozen
    | o => o
  let h1 := put w0.heap 1 (Lib.firstTab.map fun z => Value.int .u8 z).toArray
  let h2 := put h1 2 ((List.range 16).flatMap fun i => [Value.int .u8 (Lib.accLo i), Value.int .u8 (Lib.accHi i)]).toArray
  { w0 with heap := h2 }
theorem laid_met (os : Os) (args : Array Value) : laidMet Tryz.prog laidTwo ((laidWorld os).forCall (fun _ _ => 0) ⟨#[], args, []⟩).memory := by
  unfold laidTwo
  rw [accept_eq, first_eq]
  exact (LaidIn.of_run (l := [("unicode/utf8.acceptRanges", Lib.acceptData), ("unicode/utf8.first", Lib.firstData)]) [2, 1] 8 (by kernel_rfl) (by kernel_rfl) (by kernel_rfl) (by kernel_rfl)).met
end Go.Proofs.YtgegnnojobmdcaaGreatDoor
