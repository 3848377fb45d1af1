import Derived.Test.YtppbkblnjlbnfaaGreatDoorOg
import Derived.Test.YtppbkblnjlbnfaaGreatDoorTz
import Derived.Deep.SlicePairs
set_option linter.unusedVariables false
set_option linter.unusedSimpArgs false
/-! Requests as values. -/
namespace Go.Proofs.YtppbkblnjlbnfaaGreatDoor
open Go.RowKit
/-- A slice of fields as it comes, read. -/
structure RdFW (w : World) (a : Option Addr) (n : Nat) (xs : List (List UInt8 × List UInt8)) : Prop where
  len : xs.length = n
  at_ : xs = [] ∨ ∃ b o, a = some ⟨b, o, none⟩ ∧ b < w.heap.size ∧ ∀ j (h : j < xs.length), w.cell? ⟨b, o + j * 2, none⟩ = some (.string (mkS (xs[j]'h).1)) ∧ w.cell? ⟨b, o + (j * 2 + 1), none⟩ = some (.string (mkS (xs[j]'h).2))
theorem RdFW.below {w W : World} {a : Option Addr} {n : Nat} {xs : List (List UInt8 × List UInt8)} (h : RdFW w a n xs) (hb : Below w.heap.size w W) : RdFW W a n xs :=
  ⟨h.len, by
    rcases h.at_ with e | ⟨b, o, e, hlt, hc⟩
    · exact .inl e
    · exact .inr ⟨b, o, e, Nat.lt_of_lt_of_le hlt hb.size, fun j hj => ⟨cell_b hb (hc j hj).1, cell_b hb (hc j hj).2⟩⟩⟩
/-- A request as it comes. -/
structure QV where
  u : UV
  me : List UInt8
  ha : Option Addr
  hn : Nat
  hc : Nat
  hs : List (List UInt8 × List UInt8)
  bo : Bool
  o : OV
  mo : Int
  re : Int
  po : Int
  rf : List UInt8
  ta : Bool
  cr : Bool
  co : Int
def QV.cells (q : QV) : Array Value := #[.string (mkS q.u.sc), .string (mkS q.u.us), .string (mkS q.u.pa), .int .i64 q.u.k, .string (mkS q.u.n), .int .i64 q.u.m, .int .i64 q.u.s0, .int .i64 q.u.s1, .int .i64 q.u.s2, .int .i64 q.u.s3, .int .i64 q.u.s4, .int .i64 q.u.s5, .int .i64 q.u.s6, .int .i64 q.u.s7, .int .i64 q.u.port, .slice q.u.a q.u.pn q.u.pc, .string (mkS q.u.op), .string (mkS q.u.qu), .string (mkS q.u.fr), .bool q.u.hq, .bool q.u.hf, .string (mkS q.me), .slice q.ha q.hn q.hc, .bool q.bo, .bool q.o.q, .string (mkS q.o.sc), .int .i64 q.o.k, .string (mkS q.o.n), .int .i64 q.o.m, .int .i64 q.o.s0, .int .i64 q.o.s1, .int .i64 q.o.s2, .int .i64 q.o.s3, .int .i64 q.o.s4, .int .i64 q.o.s5, .int .i64 q.o.s6, .int .i64 q.o.s7, .int .i64 q.o.port, .int .i64 q.mo, .int .i64 q.re, .int .i64 q.po, .string (mkS q.rf), .bool q.ta, .bool q.cr, .int .i64 q.co]
def QV.pm (q : QV) : PM.Req := ⟨q.u.pm, q.me, q.hs, q.bo, q.o.pm, q.mo, q.re, q.po, q.rf, q.ta, q.cr, q.co⟩
structure QV.Ok (q : QV) (w : World) : Prop where
  u : q.u.Ok w
  o : q.o.Ok
  me : q.me.length ≤ 1000000
theorem QV.Ok.below {q : QV} {w W : World} (h : q.Ok w) (hb : Below w.heap.size w W) : q.Ok W := ⟨h.u.below hb, h.o, h.me⟩
theorem qagg_one (q : QV) : q.cells.all (·.oneCell') = true := by
  unfold QV.cells
  simp [Value.oneCell']
end Go.Proofs.YtppbkblnjlbnfaaGreatDoor
/-! An origin as an argument: opened. -/
namespace Go.Proofs.YtppbkblnjlbnfaaGreatDoor
open Go.ChangeShapes Go.WideShapes Go.ChangeAt Go.RowKit
open Go.WideMaps Go.WideElems
open Go.ChangeMaps (open_string shut_string)
set_option maxRecDepth 100000 in
theorem url_cells {H : Type} {enc : TypeId × Value → H} {w : World} {base : Nat} {spare : Nat → Bool} {held : Bool} {fuel : Nat} {x : DataW H × List MemPlace} {c0 c1 c2 c3 c4 c5 c6 c7 c8 c9 c10 c11 c12 c13 c14 c15 c16 c17 c18 c19 c20 : Value} (hf0 : DataW.trod enc Tryz.prog w base spare held fuel 27 [c0, c1, c2, c3, c4, c5, c6, c7, c8, c9, c10, c11, c12, c13, c14, c15, c16, c17, c18, c19, c20] = some x) : ∃ u : UV, [c0, c1, c2, c3, c4, c5, c6, c7, c8, c9, c10, c11, c12, c13, c14, c15, c16, c17, c18, c19, c20] = u.cells.toList ∧ RdW w u.a u.pn u.xs := by
  have hu := Tryz.underlying27
  obtain ⟨xs, m, _, _, _, hlen, hf⟩ := DataW.trod_struct hu hf0
  have hc3 : Tryz.prog.cellsOf 3 = 1 := by kernel_rfl
  have hc4 : Tryz.prog.cellsOf 4 = 1 := by kernel_rfl
  have hc9 : Tryz.prog.cellsOf 9 = 1 := by kernel_rfl
  have hc24 : Tryz.prog.cellsOf 24 = 11 := by kernel_rfl
  have hc25 : Tryz.prog.cellsOf 25 = 1 := by kernel_rfl
  have g : ∀ i, i < 11 → ∃ y, xs[i]? = some y := fun i hi => some_of_lt (by rw [hlen]; exact hi)
  obtain ⟨y0, e0⟩ := g 0 (by decide)
  have h0 : DataW.trod enc Tryz.prog w base spare held m 9 (([c0, c1, c2, c3, c4, c5, c6, c7, c8, c9, c10, c11, c12, c13, c14, c15, c16, c17, c18, c19, c20].drop 0).take (Tryz.prog.cellsOf 9)) = xs[0]? := hf 0 _ rfl
  rw [hc9, e0] at h0
  obtain ⟨y1, e1⟩ := g 1 (by decide)
  have h1 : DataW.trod enc Tryz.prog w base spare held m 9 (([c0, c1, c2, c3, c4, c5, c6, c7, c8, c9, c10, c11, c12, c13, c14, c15, c16, c17, c18, c19, c20].drop 1).take (Tryz.prog.cellsOf 9)) = xs[1]? := hf 1 _ rfl
  rw [hc9, e1] at h1
  obtain ⟨y2, e2⟩ := g 2 (by decide)
  have h2 : DataW.trod enc Tryz.prog w base spare held m 9 (([c0, c1, c2, c3, c4, c5, c6, c7, c8, c9, c10, c11, c12, c13, c14, c15, c16, c17, c18, c19, c20].drop 2).take (Tryz.prog.cellsOf 9)) = xs[2]? := hf 2 _ rfl
  rw [hc9, e2] at h2
  obtain ⟨y3, e3⟩ := g 3 (by decide)
  have h3 : DataW.trod enc Tryz.prog w base spare held m 24 (([c0, c1, c2, c3, c4, c5, c6, c7, c8, c9, c10, c11, c12, c13, c14, c15, c16, c17, c18, c19, c20].drop 3).take (Tryz.prog.cellsOf 24)) = xs[3]? := hf 3 _ rfl
  rw [hc24, e3] at h3
  obtain ⟨y4, e4⟩ := g 4 (by decide)
  have h4 : DataW.trod enc Tryz.prog w base spare held m 3 (([c0, c1, c2, c3, c4, c5, c6, c7, c8, c9, c10, c11, c12, c13, c14, c15, c16, c17, c18, c19, c20].drop 14).take (Tryz.prog.cellsOf 3)) = xs[4]? := hf 4 _ rfl
  rw [hc3, e4] at h4
  obtain ⟨y5, e5⟩ := g 5 (by decide)
  have h5 : DataW.trod enc Tryz.prog w base spare held m 25 (([c0, c1, c2, c3, c4, c5, c6, c7, c8, c9, c10, c11, c12, c13, c14, c15, c16, c17, c18, c19, c20].drop 15).take (Tryz.prog.cellsOf 25)) = xs[5]? := hf 5 _ rfl
  rw [hc25, e5] at h5
  obtain ⟨y6, e6⟩ := g 6 (by decide)
  have h6 : DataW.trod enc Tryz.prog w base spare held m 9 (([c0, c1, c2, c3, c4, c5, c6, c7, c8, c9, c10, c11, c12, c13, c14, c15, c16, c17, c18, c19, c20].drop 16).take (Tryz.prog.cellsOf 9)) = xs[6]? := hf 6 _ rfl
  rw [hc9, e6] at h6
  obtain ⟨y7, e7⟩ := g 7 (by decide)
  have h7 : DataW.trod enc Tryz.prog w base spare held m 9 (([c0, c1, c2, c3, c4, c5, c6, c7, c8, c9, c10, c11, c12, c13, c14, c15, c16, c17, c18, c19, c20].drop 17).take (Tryz.prog.cellsOf 9)) = xs[7]? := hf 7 _ rfl
  rw [hc9, e7] at h7
  obtain ⟨y8, e8⟩ := g 8 (by decide)
  have h8 : DataW.trod enc Tryz.prog w base spare held m 9 (([c0, c1, c2, c3, c4, c5, c6, c7, c8, c9, c10, c11, c12, c13, c14, c15, c16, c17, c18, c19, c20].drop 18).take (Tryz.prog.cellsOf 9)) = xs[8]? := hf 8 _ rfl
  rw [hc9, e8] at h8
  obtain ⟨y9, e9⟩ := g 9 (by decide)
  have h9 : DataW.trod enc Tryz.prog w base spare held m 4 (([c0, c1, c2, c3, c4, c5, c6, c7, c8, c9, c10, c11, c12, c13, c14, c15, c16, c17, c18, c19, c20].drop 19).take (Tryz.prog.cellsOf 4)) = xs[9]? := hf 9 _ rfl
  rw [hc4, e9] at h9
  obtain ⟨y10, e10⟩ := g 10 (by decide)
  have h10 : DataW.trod enc Tryz.prog w base spare held m 4 (([c0, c1, c2, c3, c4, c5, c6, c7, c8, c9, c10, c11, c12, c13, c14, c15, c16, c17, c18, c19, c20].drop 20).take (Tryz.prog.cellsOf 4)) = xs[10]? := hf 10 _ rfl
  rw [hc4, e10] at h10
  obtain ⟨sc, r0⟩ := str_cell (c := c0) h0
  obtain ⟨us, r1⟩ := str_cell (c := c1) h1
  obtain ⟨pa, r2⟩ := str_cell (c := c2) h2
  obtain ⟨k, n, m', n0, n1, n2, n3, n4, n5, n6, n7, q0, q1, q2, q3, q4, q5, q6, q7, q8, q9, q10⟩ := host_cells (a0 := c3) (a1 := c4) (a2 := c5) (a3 := c6) (a4 := c7) (a5 := c8) (a6 := c9) (a7 := c10) (a8 := c11) (a9 := c12) (a10 := c13) h3
  obtain ⟨port, r4⟩ := int_cell (c := c14) h4
  obtain ⟨a, pn, pc, ps, r5, hr⟩ := strs_cell (c := c15) h5
  obtain ⟨op, r6⟩ := str_cell (c := c16) h6
  obtain ⟨qu, r7⟩ := str_cell (c := c17) h7
  obtain ⟨fr, r8⟩ := str_cell (c := c18) h8
  obtain ⟨hq, r9⟩ := bool_cell (c := c19) h9
  obtain ⟨hf', r10⟩ := bool_cell (c := c20) h10
  refine ⟨⟨sc, us, pa, k, n, m', n0, n1, n2, n3, n4, n5, n6, n7, port, a, pn, pc, ps, op, qu, fr, hq, hf'⟩, ?_, hr⟩
  subst r0 r1 r2 q0 q1 q2 q3 q4 q5 q6 q7 q8 q9 q10 r4 r5 r6 r7 r8 r9 r10
  rfl
set_option maxRecDepth 100000 in
theorem list14 {α : Type} {l : List α} (h : l.length = 14) : ∃ c0 c1 c2 c3 c4 c5 c6 c7 c8 c9 c10 c11 c12 c13, l = [c0, c1, c2, c3, c4, c5, c6, c7, c8, c9, c10, c11, c12, c13] := by
  match l, h with
  | [c0, c1, c2, c3, c4, c5, c6, c7, c8, c9, c10, c11, c12, c13], _ => exact ⟨c0, c1, c2, c3, c4, c5, c6, c7, c8, c9, c10, c11, c12, c13, rfl⟩
set_option maxRecDepth 100000 in
theorem origin_cells {H : Type} {enc : TypeId × Value → H} {w : World} {base : Nat} {spare : Nat → Bool} {held : Bool} {fuel : Nat} {x : DataW H × List MemPlace} {c0 c1 c2 c3 c4 c5 c6 c7 c8 c9 c10 c11 c12 c13 : Value} (h : DataW.trod enc Tryz.prog w base spare held fuel 30 [c0, c1, c2, c3, c4, c5, c6, c7, c8, c9, c10, c11, c12, c13] = some x) : ∃ o : OV, [c0, c1, c2, c3, c4, c5, c6, c7, c8, c9, c10, c11, c12, c13] = o.cells.toList := by
  obtain ⟨xs, m, _, _, _, hlen, hf⟩ := DataW.trod_struct Tryz.underlying30 h
  have hc3 : Tryz.prog.cellsOf 3 = 1 := by kernel_rfl
  have hc4 : Tryz.prog.cellsOf 4 = 1 := by kernel_rfl
  have hc9 : Tryz.prog.cellsOf 9 = 1 := by kernel_rfl
  have hc24 : Tryz.prog.cellsOf 24 = 11 := by kernel_rfl
  have g : ∀ i, i < 4 → ∃ y, xs[i]? = some y := fun i hi => some_of_lt (by rw [hlen]; exact hi)
  obtain ⟨y0, e0⟩ := g 0 (by decide)
  have h0 : DataW.trod enc Tryz.prog w base spare held m 4 (([c0, c1, c2, c3, c4, c5, c6, c7, c8, c9, c10, c11, c12, c13].drop 0).take (Tryz.prog.cellsOf 4)) = xs[0]? := hf 0 _ rfl
  rw [hc4, e0] at h0
  obtain ⟨y1, e1⟩ := g 1 (by decide)
  have h1 : DataW.trod enc Tryz.prog w base spare held m 9 (([c0, c1, c2, c3, c4, c5, c6, c7, c8, c9, c10, c11, c12, c13].drop 1).take (Tryz.prog.cellsOf 9)) = xs[1]? := hf 1 _ rfl
  rw [hc9, e1] at h1
  obtain ⟨y2, e2⟩ := g 2 (by decide)
  have h2 : DataW.trod enc Tryz.prog w base spare held m 24 (([c0, c1, c2, c3, c4, c5, c6, c7, c8, c9, c10, c11, c12, c13].drop 2).take (Tryz.prog.cellsOf 24)) = xs[2]? := hf 2 _ rfl
  rw [hc24, e2] at h2
  obtain ⟨y3, e3⟩ := g 3 (by decide)
  have h3 : DataW.trod enc Tryz.prog w base spare held m 3 (([c0, c1, c2, c3, c4, c5, c6, c7, c8, c9, c10, c11, c12, c13].drop 13).take (Tryz.prog.cellsOf 3)) = xs[3]? := hf 3 _ rfl
  rw [hc3, e3] at h3
  obtain ⟨q, r0⟩ := bool_cell (c := c0) h0
  obtain ⟨sc, r1⟩ := str_cell (c := c1) h1
  obtain ⟨k, n, m', n0, n1, n2, n3, n4, n5, n6, n7, q0, q1, q2, q3, q4, q5, q6, q7, q8, q9, q10⟩ := host_cells (a0 := c2) (a1 := c3) (a2 := c4) (a3 := c5) (a4 := c6) (a5 := c7) (a6 := c8) (a7 := c9) (a8 := c10) (a9 := c11) (a10 := c12) h2
  obtain ⟨port, r3⟩ := int_cell (c := c13) h3
  refine ⟨⟨q, sc, k, n, m', n0, n1, n2, n3, n4, n5, n6, n7, port⟩, ?_⟩
  subst r0 r1 q0 q1 q2 q3 q4 q5 q6 q7 q8 q9 q10 r3
  rfl
set_option maxRecDepth 100000 in
theorem open_origin {H : Type} {enc : TypeId × Value → H} {w : World} {base : Nat} {spare : Nat → Bool} {held : Bool} {r : Reach} {b0 : Nat} {v : Value} {d : DataW H} {p : List MemPlace} (hv : Value.okWide Tryz.prog w r b0 30 v) (h : DataW.Trod enc Tryz.prog w base spare held 30 v d p) :
    ∃ o : OV, v = .agg o.cells := by
  obtain ⟨cs, rfl, hsz⟩ := okWide_struct Tryz.underlying30 hv
  obtain ⟨fuel, hf0⟩ := h
  have hC : Tryz.prog.cellsOf 30 = 14 := by kernel_rfl
  obtain ⟨l⟩ := cs
  have hl : l.length = 14 := by simpa [hC] using hsz
  obtain ⟨c0, c1, c2, c3, c4, c5, c6, c7, c8, c9, c10, c11, c12, c13, rfl⟩ := list14 hl
  obtain ⟨o, ho⟩ := origin_cells hf0
  exact ⟨o, by rw [ho]⟩
end Go.Proofs.YtppbkblnjlbnfaaGreatDoor
/-! A request as an argument: opened. -/
namespace Go.Proofs.YtppbkblnjlbnfaaGreatDoor
open Go.ChangeShapes Go.WideShapes Go.ChangeAt Go.RowKit
open Go.WideMaps Go.WideElems
open Go.ChangeMaps (open_string shut_string)
theorem cons_of {α : Type} {l : List α} {n : Nat} (h : l.length = n + 1) : ∃ c t, l = c :: t ∧ t.length = n := by
  cases l with
  | nil => simp at h
  | cons c t => exact ⟨c, t, rfl, by simpa using h⟩
set_option maxRecDepth 100000 in
theorem list45 {α : Type} {l : List α} (h : l.length = 45) : ∃ c0 c1 c2 c3 c4 c5 c6 c7 c8 c9 c10 c11 c12 c13 c14 c15 c16 c17 c18 c19 c20 c21 c22 c23 c24 c25 c26 c27 c28 c29 c30 c31 c32 c33 c34 c35 c36 c37 c38 c39 c40 c41 c42 c43 c44, l = [c0, c1, c2, c3, c4, c5, c6, c7, c8, c9, c10, c11, c12, c13, c14, c15, c16, c17, c18, c19, c20, c21, c22, c23, c24, c25, c26, c27, c28, c29, c30, c31, c32, c33, c34, c35, c36, c37, c38, c39, c40, c41, c42, c43, c44] := by
  obtain ⟨c0, t0, rfl, h0⟩ := cons_of (n := 44) h
  obtain ⟨c1, t1, rfl, h1⟩ := cons_of (n := 43) h0
  obtain ⟨c2, t2, rfl, h2⟩ := cons_of (n := 42) h1
  obtain ⟨c3, t3, rfl, h3⟩ := cons_of (n := 41) h2
  obtain ⟨c4, t4, rfl, h4⟩ := cons_of (n := 40) h3
  obtain ⟨c5, t5, rfl, h5⟩ := cons_of (n := 39) h4
  obtain ⟨c6, t6, rfl, h6⟩ := cons_of (n := 38) h5
  obtain ⟨c7, t7, rfl, h7⟩ := cons_of (n := 37) h6
  obtain ⟨c8, t8, rfl, h8⟩ := cons_of (n := 36) h7
  obtain ⟨c9, t9, rfl, h9⟩ := cons_of (n := 35) h8
  obtain ⟨c10, t10, rfl, h10⟩ := cons_of (n := 34) h9
  obtain ⟨c11, t11, rfl, h11⟩ := cons_of (n := 33) h10
  obtain ⟨c12, t12, rfl, h12⟩ := cons_of (n := 32) h11
  obtain ⟨c13, t13, rfl, h13⟩ := cons_of (n := 31) h12
  obtain ⟨c14, t14, rfl, h14⟩ := cons_of (n := 30) h13
  obtain ⟨c15, t15, rfl, h15⟩ := cons_of (n := 29) h14
  obtain ⟨c16, t16, rfl, h16⟩ := cons_of (n := 28) h15
  obtain ⟨c17, t17, rfl, h17⟩ := cons_of (n := 27) h16
  obtain ⟨c18, t18, rfl, h18⟩ := cons_of (n := 26) h17
  obtain ⟨c19, t19, rfl, h19⟩ := cons_of (n := 25) h18
  obtain ⟨c20, t20, rfl, h20⟩ := cons_of (n := 24) h19
  obtain ⟨c21, t21, rfl, h21⟩ := cons_of (n := 23) h20
  obtain ⟨c22, t22, rfl, h22⟩ := cons_of (n := 22) h21
  obtain ⟨c23, t23, rfl, h23⟩ := cons_of (n := 21) h22
  obtain ⟨c24, t24, rfl, h24⟩ := cons_of (n := 20) h23
  obtain ⟨c25, t25, rfl, h25⟩ := cons_of (n := 19) h24
  obtain ⟨c26, t26, rfl, h26⟩ := cons_of (n := 18) h25
  obtain ⟨c27, t27, rfl, h27⟩ := cons_of (n := 17) h26
  obtain ⟨c28, t28, rfl, h28⟩ := cons_of (n := 16) h27
  obtain ⟨c29, t29, rfl, h29⟩ := cons_of (n := 15) h28
  obtain ⟨c30, t30, rfl, h30⟩ := cons_of (n := 14) h29
  obtain ⟨c31, t31, rfl, h31⟩ := cons_of (n := 13) h30
  obtain ⟨c32, t32, rfl, h32⟩ := cons_of (n := 12) h31
  obtain ⟨c33, t33, rfl, h33⟩ := cons_of (n := 11) h32
  obtain ⟨c34, t34, rfl, h34⟩ := cons_of (n := 10) h33
  obtain ⟨c35, t35, rfl, h35⟩ := cons_of (n := 9) h34
  obtain ⟨c36, t36, rfl, h36⟩ := cons_of (n := 8) h35
  obtain ⟨c37, t37, rfl, h37⟩ := cons_of (n := 7) h36
  obtain ⟨c38, t38, rfl, h38⟩ := cons_of (n := 6) h37
  obtain ⟨c39, t39, rfl, h39⟩ := cons_of (n := 5) h38
  obtain ⟨c40, t40, rfl, h40⟩ := cons_of (n := 4) h39
  obtain ⟨c41, t41, rfl, h41⟩ := cons_of (n := 3) h40
  obtain ⟨c42, t42, rfl, h42⟩ := cons_of (n := 2) h41
  obtain ⟨c43, t43, rfl, h43⟩ := cons_of (n := 1) h42
  obtain ⟨c44, t44, rfl, h44⟩ := cons_of (n := 0) h43
  have : t44 = [] := List.eq_nil_of_length_eq_zero h44
  subst this
  exact ⟨c0, c1, c2, c3, c4, c5, c6, c7, c8, c9, c10, c11, c12, c13, c14, c15, c16, c17, c18, c19, c20, c21, c22, c23, c24, c25, c26, c27, c28, c29, c30, c31, c32, c33, c34, c35, c36, c37, c38, c39, c40, c41, c42, c43, c44, rfl⟩
set_option maxRecDepth 100000 in
theorem fields_cell {H : Type} {enc : TypeId × Value → H} {w : World} {base : Nat} {spare : Nat → Bool} {held : Bool} {fuel : Nat} {c : Value} {x : DataW H × List MemPlace} (h : DataW.trod enc Tryz.prog w base spare held fuel 28 [c] = some x) : ∃ a n k xs, c = .slice a n k ∧ RdFW w a n xs := by
  rcases Go.Deep.open_slice_pairs Tryz.underlying28 Tryz.underlying50 (by kernel_rfl) rfl rfl (by kernel_rfl) (by kernel_rfl) h with ⟨hcs, _⟩ | ⟨a, len, cap, m, n, V0, V1, D0, D1, P0, P1, hcs, _, hl, _, hm, _, hc⟩
  · exact ⟨none, 0, 0, [], by simpa using hcs, rfl, .inl rfl⟩
  · have hlm : len ≤ m := by rw [hm]; split <;> omega
    have hst : ∀ i, i < m → ∃ l0 l1, V0 i = .string (mkS l0) ∧ V1 i = .string (mkS l1) := fun i hi => by
      obtain ⟨_, _, t0, t1⟩ := hc i hi
      obtain ⟨l0, e0⟩ := str_cell (c := V0 i) t0
      obtain ⟨l1, e1⟩ := str_cell (c := V1 i) t1
      exact ⟨l0, l1, e0, e1⟩
    have hF : ∃ f : Nat → List UInt8 × List UInt8, ∀ i, i < m → V0 i = .string (mkS (f i).1) ∧ V1 i = .string (mkS (f i).2) := by
      refine ⟨fun i => if hi : i < m then ⟨(hst i hi).choose, (hst i hi).choose_spec.choose⟩ else ([], []), fun i hi => ?_⟩
      dsimp only
      rw [dif_pos hi]
      exact (hst i hi).choose_spec.choose_spec
    obtain ⟨f, hf⟩ := hF
    refine ⟨some a, len, cap, (List.range len).map f, by simpa using hcs, by simp, ?_⟩
    rcases Nat.eq_zero_or_pos len with h0 | h0
    · subst h0
      exact .inl rfl
    · right
      obtain ⟨b, o, spot⟩ := a
      have hspot : spot = none := by
        have := World.cell?_spot (hc 0 (by omega)).1
        simpa [Addr.add] using this
      subst hspot
      have hlt : b < w.heap.size := by
        have := (hc 0 (by omega)).1
        rw [Go.WideShapes.add_plain] at this
        exact cell_lt this
      refine ⟨b, o, rfl, hlt, fun j hj => ?_⟩
      have hj' : j < len := by simpa using hj
      obtain ⟨g0, g1, _, _⟩ := hc j (by omega)
      obtain ⟨e0, e1⟩ := hf j (by omega)
      rw [Go.WideShapes.add_plain, e0] at g0
      rw [Go.WideShapes.add_plain, e1] at g1
      simp only [List.getElem_map, List.getElem_range]
      exact ⟨g0, g1⟩
set_option maxRecDepth 100000 in
set_option maxHeartbeats 2000000 in
theorem open_req {H : Type} {enc : TypeId × Value → H} {w : World} {base : Nat} {spare : Nat → Bool} {held : Bool} {r : Reach} {b0 : Nat} {v : Value} {d : DataW H} {p : List MemPlace} (hv : Value.okWide Tryz.prog w r b0 32 v) (h : DataW.Trod enc Tryz.prog w base spare held 32 v d p) :
    ∃ q : QV, v = .agg q.cells ∧ RdW w q.u.a q.u.pn q.u.xs ∧ RdFW w q.ha q.hn q.hs := by
  obtain ⟨cs, rfl, hsz⟩ := okWide_struct Tryz.underlying32 hv
  obtain ⟨fuel, hf0⟩ := h
  have hC : Tryz.prog.cellsOf 32 = 45 := by kernel_rfl
  obtain ⟨l⟩ := cs
  have hl : l.length = 45 := by simpa [hC] using hsz
  obtain ⟨c0, c1, c2, c3, c4, c5, c6, c7, c8, c9, c10, c11, c12, c13, c14, c15, c16, c17, c18, c19, c20, c21, c22, c23, c24, c25, c26, c27, c28, c29, c30, c31, c32, c33, c34, c35, c36, c37, c38, c39, c40, c41, c42, c43, c44, rfl⟩ := list45 hl
  obtain ⟨xs, m, _, _, _, hlen, hf⟩ := DataW.trod_struct Tryz.underlying32 hf0
  have k3 : Tryz.prog.cellsOf 3 = 1 := by kernel_rfl
  have k4 : Tryz.prog.cellsOf 4 = 1 := by kernel_rfl
  have k9 : Tryz.prog.cellsOf 9 = 1 := by kernel_rfl
  have kU : Tryz.prog.cellsOf 27 = 21 := by kernel_rfl
  have kO : Tryz.prog.cellsOf 30 = 14 := by kernel_rfl
  have kF : Tryz.prog.cellsOf 28 = 1 := by kernel_rfl
  have g : ∀ i, i < 12 → ∃ y, xs[i]? = some y := fun i hi => some_of_lt (by rw [hlen]; exact hi)
  obtain ⟨y0, e0⟩ := g 0 (by decide)
  have h0 : DataW.trod enc Tryz.prog w base spare held m 27 (([c0, c1, c2, c3, c4, c5, c6, c7, c8, c9, c10, c11, c12, c13, c14, c15, c16, c17, c18, c19, c20, c21, c22, c23, c24, c25, c26, c27, c28, c29, c30, c31, c32, c33, c34, c35, c36, c37, c38, c39, c40, c41, c42, c43, c44].drop 0).take (Tryz.prog.cellsOf 27)) = xs[0]? := hf 0 _ rfl
  rw [kU, e0] at h0
  obtain ⟨y1, e1⟩ := g 1 (by decide)
  have h1 : DataW.trod enc Tryz.prog w base spare held m 9 (([c0, c1, c2, c3, c4, c5, c6, c7, c8, c9, c10, c11, c12, c13, c14, c15, c16, c17, c18, c19, c20, c21, c22, c23, c24, c25, c26, c27, c28, c29, c30, c31, c32, c33, c34, c35, c36, c37, c38, c39, c40, c41, c42, c43, c44].drop 21).take (Tryz.prog.cellsOf 9)) = xs[1]? := hf 1 _ rfl
  rw [k9, e1] at h1
  obtain ⟨y2, e2⟩ := g 2 (by decide)
  have h2 : DataW.trod enc Tryz.prog w base spare held m 28 (([c0, c1, c2, c3, c4, c5, c6, c7, c8, c9, c10, c11, c12, c13, c14, c15, c16, c17, c18, c19, c20, c21, c22, c23, c24, c25, c26, c27, c28, c29, c30, c31, c32, c33, c34, c35, c36, c37, c38, c39, c40, c41, c42, c43, c44].drop 22).take (Tryz.prog.cellsOf 28)) = xs[2]? := hf 2 _ rfl
  rw [kF, e2] at h2
  obtain ⟨y3, e3⟩ := g 3 (by decide)
  have h3 : DataW.trod enc Tryz.prog w base spare held m 4 (([c0, c1, c2, c3, c4, c5, c6, c7, c8, c9, c10, c11, c12, c13, c14, c15, c16, c17, c18, c19, c20, c21, c22, c23, c24, c25, c26, c27, c28, c29, c30, c31, c32, c33, c34, c35, c36, c37, c38, c39, c40, c41, c42, c43, c44].drop 23).take (Tryz.prog.cellsOf 4)) = xs[3]? := hf 3 _ rfl
  rw [k4, e3] at h3
  obtain ⟨y4, e4⟩ := g 4 (by decide)
  have h4 : DataW.trod enc Tryz.prog w base spare held m 30 (([c0, c1, c2, c3, c4, c5, c6, c7, c8, c9, c10, c11, c12, c13, c14, c15, c16, c17, c18, c19, c20, c21, c22, c23, c24, c25, c26, c27, c28, c29, c30, c31, c32, c33, c34, c35, c36, c37, c38, c39, c40, c41, c42, c43, c44].drop 24).take (Tryz.prog.cellsOf 30)) = xs[4]? := hf 4 _ rfl
  rw [kO, e4] at h4
  obtain ⟨y5, e5⟩ := g 5 (by decide)
  have h5 : DataW.trod enc Tryz.prog w base spare held m 3 (([c0, c1, c2, c3, c4, c5, c6, c7, c8, c9, c10, c11, c12, c13, c14, c15, c16, c17, c18, c19, c20, c21, c22, c23, c24, c25, c26, c27, c28, c29, c30, c31, c32, c33, c34, c35, c36, c37, c38, c39, c40, c41, c42, c43, c44].drop 38).take (Tryz.prog.cellsOf 3)) = xs[5]? := hf 5 _ rfl
  rw [k3, e5] at h5
  obtain ⟨y6, e6⟩ := g 6 (by decide)
  have h6 : DataW.trod enc Tryz.prog w base spare held m 3 (([c0, c1, c2, c3, c4, c5, c6, c7, c8, c9, c10, c11, c12, c13, c14, c15, c16, c17, c18, c19, c20, c21, c22, c23, c24, c25, c26, c27, c28, c29, c30, c31, c32, c33, c34, c35, c36, c37, c38, c39, c40, c41, c42, c43, c44].drop 39).take (Tryz.prog.cellsOf 3)) = xs[6]? := hf 6 _ rfl
  rw [k3, e6] at h6
  obtain ⟨y7, e7⟩ := g 7 (by decide)
  have h7 : DataW.trod enc Tryz.prog w base spare held m 3 (([c0, c1, c2, c3, c4, c5, c6, c7, c8, c9, c10, c11, c12, c13, c14, c15, c16, c17, c18, c19, c20, c21, c22, c23, c24, c25, c26, c27, c28, c29, c30, c31, c32, c33, c34, c35, c36, c37, c38, c39, c40, c41, c42, c43, c44].drop 40).take (Tryz.prog.cellsOf 3)) = xs[7]? := hf 7 _ rfl
  rw [k3, e7] at h7
  obtain ⟨y8, e8⟩ := g 8 (by decide)
  have h8 : DataW.trod enc Tryz.prog w base spare held m 9 (([c0, c1, c2, c3, c4, c5, c6, c7, c8, c9, c10, c11, c12, c13, c14, c15, c16, c17, c18, c19, c20, c21, c22, c23, c24, c25, c26, c27, c28, c29, c30, c31, c32, c33, c34, c35, c36, c37, c38, c39, c40, c41, c42, c43, c44].drop 41).take (Tryz.prog.cellsOf 9)) = xs[8]? := hf 8 _ rfl
  rw [k9, e8] at h8
  obtain ⟨y9, e9⟩ := g 9 (by decide)
  have h9 : DataW.trod enc Tryz.prog w base spare held m 4 (([c0, c1, c2, c3, c4, c5, c6, c7, c8, c9, c10, c11, c12, c13, c14, c15, c16, c17, c18, c19, c20, c21, c22, c23, c24, c25, c26, c27, c28, c29, c30, c31, c32, c33, c34, c35, c36, c37, c38, c39, c40, c41, c42, c43, c44].drop 42).take (Tryz.prog.cellsOf 4)) = xs[9]? := hf 9 _ rfl
  rw [k4, e9] at h9
  obtain ⟨y10, e10⟩ := g 10 (by decide)
  have h10 : DataW.trod enc Tryz.prog w base spare held m 4 (([c0, c1, c2, c3, c4, c5, c6, c7, c8, c9, c10, c11, c12, c13, c14, c15, c16, c17, c18, c19, c20, c21, c22, c23, c24, c25, c26, c27, c28, c29, c30, c31, c32, c33, c34, c35, c36, c37, c38, c39, c40, c41, c42, c43, c44].drop 43).take (Tryz.prog.cellsOf 4)) = xs[10]? := hf 10 _ rfl
  rw [k4, e10] at h10
  obtain ⟨y11, e11⟩ := g 11 (by decide)
  have h11 : DataW.trod enc Tryz.prog w base spare held m 3 (([c0, c1, c2, c3, c4, c5, c6, c7, c8, c9, c10, c11, c12, c13, c14, c15, c16, c17, c18, c19, c20, c21, c22, c23, c24, c25, c26, c27, c28, c29, c30, c31, c32, c33, c34, c35, c36, c37, c38, c39, c40, c41, c42, c43, c44].drop 44).take (Tryz.prog.cellsOf 3)) = xs[11]? := hf 11 _ rfl
  rw [k3, e11] at h11
  obtain ⟨u, hu, hru⟩ := url_cells h0
  obtain ⟨me, r1⟩ := str_cell (c := c21) h1
  obtain ⟨ha, hn, hc, hs, r2, hrf⟩ := fields_cell (c := c22) h2
  obtain ⟨bo, r3⟩ := bool_cell (c := c23) h3
  obtain ⟨o, ho⟩ := origin_cells h4
  obtain ⟨mo, r5⟩ := int_cell (c := c38) h5
  obtain ⟨re, r6⟩ := int_cell (c := c39) h6
  obtain ⟨po, r7⟩ := int_cell (c := c40) h7
  obtain ⟨rf, r8⟩ := str_cell (c := c41) h8
  obtain ⟨ta, r9⟩ := bool_cell (c := c42) h9
  obtain ⟨cr, r10⟩ := bool_cell (c := c43) h10
  obtain ⟨co, r11⟩ := int_cell (c := c44) h11
  refine ⟨⟨u, me, ha, hn, hc, hs, bo, o, mo, re, po, rf, ta, cr, co⟩, ?_, hru, hrf⟩
  subst r1 r2 r3 r5 r6 r7 r8 r9 r10 r11
  have hu' : [c0, c1, c2, c3, c4, c5, c6, c7, c8, c9, c10, c11, c12, c13, c14, c15, c16, c17, c18, c19, c20] = u.cells.toList := hu
  have ho' : [c24, c25, c26, c27, c28, c29, c30, c31, c32, c33, c34, c35, c36, c37] = o.cells.toList := ho
  simp only [UV.cells, OV.cells, List.cons.injEq, and_true] at hu' ho'
  obtain ⟨rfl, rfl, rfl, rfl, rfl, rfl, rfl, rfl, rfl, rfl, rfl, rfl, rfl, rfl, rfl, rfl, rfl, rfl, rfl, rfl, rfl⟩ := hu'
  obtain ⟨rfl, rfl, rfl, rfl, rfl, rfl, rfl, rfl, rfl, rfl, rfl, rfl, rfl, rfl⟩ := ho'
  rfl
end Go.Proofs.YtppbkblnjlbnfaaGreatDoor
