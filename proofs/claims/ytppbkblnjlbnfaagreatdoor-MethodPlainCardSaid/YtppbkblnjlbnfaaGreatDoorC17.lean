import Derived.Test.YtppbkblnjlbnfaaGreatDoorC16
/-! Addresses as values; contracts: url.Web, url.opaque. -/
set_option linter.unusedVariables false
set_option linter.unusedSimpArgs false
namespace Go.Proofs.YtppbkblnjlbnfaaGreatDoor
open Go.RowKit
/-- An address as it comes. -/
structure UV where
  sc : List UInt8
  us : List UInt8
  pa : List UInt8
  k : Int
  n : List UInt8
  m : Int
  s0 : Int
  s1 : Int
  s2 : Int
  s3 : Int
  s4 : Int
  s5 : Int
  s6 : Int
  s7 : Int
  port : Int
  a : Option Addr
  pn : Nat
  pc : Nat
  xs : List (List UInt8)
  op : List UInt8
  qu : List UInt8
  fr : List UInt8
  hq : Bool
  hf : Bool
def UV.cells (u : UV) : Array Value := #[.string (mkS u.sc), .string (mkS u.us), .string (mkS u.pa), .int .i64 u.k, .string (mkS u.n), .int .i64 u.m, .int .i64 u.s0, .int .i64 u.s1, .int .i64 u.s2, .int .i64 u.s3, .int .i64 u.s4, .int .i64 u.s5, .int .i64 u.s6, .int .i64 u.s7, .int .i64 u.port, .slice u.a u.pn u.pc, .string (mkS u.op), .string (mkS u.qu), .string (mkS u.fr), .bool u.hq, .bool u.hf]
def UV.six (u : UV) : List Int := [u.s0, u.s1, u.s2, u.s3, u.s4, u.s5, u.s6, u.s7]
def UV.host (u : UV) : PM.Host := ⟨u.k, u.n, u.m, u.six⟩
def UV.pm (u : UV) : PM.Url := ⟨u.sc, u.us, u.pa, u.host, u.port, u.xs, u.op, u.qu, u.fr, u.hq, u.hf⟩
/-- Its texts are few. -/
structure UV.Ok (u : UV) (w : World) : Prop where
  sc : u.sc.length ≤ 1000000
  us : u.us.length ≤ 1000000
  pa : u.pa.length ≤ 1000000
  n : u.n.length ≤ 1000000
  op : u.op.length ≤ 1000000
  qu : u.qu.length ≤ 1000000
  fr : u.fr.length ≤ 1000000
  xn : u.xs.length ≤ 10000
  xl : ∀ s ∈ u.xs, s.length ≤ 1000000
  rd : RdS w u.a u.pn u.xs
theorem UV.Ok.below {u : UV} {w W : World} (h : u.Ok w) (hb : Below w.heap.size w W) : u.Ok W := ⟨h.sc, h.us, h.pa, h.n, h.op, h.qu, h.fr, h.xn, h.xl, h.rd.below hb⟩
/-- An address lies at block b. -/
def UrlAt (W : World) (b : Nat) (u : UV) : Prop :=
  W.cell? ⟨b, 0, none⟩ = some (.string (mkS u.sc)) ∧ W.cell? ⟨b, 1, none⟩ = some (.string (mkS u.us)) ∧ W.cell? ⟨b, 2, none⟩ = some (.string (mkS u.pa)) ∧ W.cell? ⟨b, 3, none⟩ = some (.int .i64 u.k) ∧ W.cell? ⟨b, 4, none⟩ = some (.string (mkS u.n)) ∧ W.cell? ⟨b, 5, none⟩ = some (.int .i64 u.m) ∧ W.cell? ⟨b, 6, none⟩ = some (.int .i64 u.s0) ∧ W.cell? ⟨b, 7, none⟩ = some (.int .i64 u.s1) ∧ W.cell? ⟨b, 8, none⟩ = some (.int .i64 u.s2) ∧ W.cell? ⟨b, 9, none⟩ = some (.int .i64 u.s3) ∧ W.cell? ⟨b, 10, none⟩ = some (.int .i64 u.s4) ∧ W.cell? ⟨b, 11, none⟩ = some (.int .i64 u.s5) ∧ W.cell? ⟨b, 12, none⟩ = some (.int .i64 u.s6) ∧ W.cell? ⟨b, 13, none⟩ = some (.int .i64 u.s7) ∧ W.cell? ⟨b, 14, none⟩ = some (.int .i64 u.port) ∧ W.cell? ⟨b, 15, none⟩ = some (.slice u.a u.pn u.pc) ∧ W.cell? ⟨b, 16, none⟩ = some (.string (mkS u.op)) ∧ W.cell? ⟨b, 17, none⟩ = some (.string (mkS u.qu)) ∧ W.cell? ⟨b, 18, none⟩ = some (.string (mkS u.fr)) ∧ W.cell? ⟨b, 19, none⟩ = some (.bool u.hq) ∧ W.cell? ⟨b, 20, none⟩ = some (.bool u.hf)
theorem UrlAt.below {w W : World} {b : Nat} {u : UV} (h : UrlAt w b u) (hb : Below w.heap.size w W) : UrlAt W b u := by
  obtain ⟨c0, c1, c2, c3, c4, c5, c6, c7, c8, c9, c10, c11, c12, c13, c14, c15, c16, c17, c18, c19, c20⟩ := h
  exact ⟨cell_b hb c0, cell_b hb c1, cell_b hb c2, cell_b hb c3, cell_b hb c4, cell_b hb c5, cell_b hb c6, cell_b hb c7, cell_b hb c8, cell_b hb c9, cell_b hb c10, cell_b hb c11, cell_b hb c12, cell_b hb c13, cell_b hb c14, cell_b hb c15, cell_b hb c16, cell_b hb c17, cell_b hb c18, cell_b hb c19, cell_b hb c20⟩
set_option maxRecDepth 100000 in
theorem UrlAt.new (w : World) (u : UV) : UrlAt (w.alloc (.cells #[.string (mkS u.sc), .string (mkS u.us), .string (mkS u.pa), .int .i64 u.k, .string (mkS u.n), .int .i64 u.m, .int .i64 u.s0, .int .i64 u.s1, .int .i64 u.s2, .int .i64 u.s3, .int .i64 u.s4, .int .i64 u.s5, .int .i64 u.s6, .int .i64 u.s7, .int .i64 u.port, .slice u.a u.pn u.pc, .string (mkS u.op), .string (mkS u.qu), .string (mkS u.fr), .bool u.hq, .bool u.hf] 27)) w.heap.size u := by
  refine ⟨?_, ?_, ?_, ?_, ?_, ?_, ?_, ?_, ?_, ?_, ?_, ?_, ?_, ?_, ?_, ?_, ?_, ?_, ?_, ?_, ?_⟩ <;> go_simp
theorem beq_list (a b : List UInt8) : (a == b) = decide (a = b) := by
  by_cases h : a = b
  · simp [h]
  · simp [h]
theorem Web_c (s : List UInt8) (w : World) : Calls Tryz.prog 61 #[.string (mkS s)] w fun e w' => e = .returned (.int .i64 (PM.web s)) ∧ w' = w := by
  have hw : PM.web s = if (s == [104, 116, 116, 112]) = true then 80 else if (s == [104, 116, 116, 112, 115]) = true then 443 else 0 := by
    unfold PM.web
    simp only [beq_iff_eq]
    rfl
  have HW := Lib.hid hw
  clear hw
  cases h1 : (s == [104, 116, 116, 112])
  · cases h2 : (s == [104, 116, 116, 112, 115])
    · go_enter Tryz.func61, Tryz.ntmps61
      go_wp2
      go_ret
      exact ⟨ret_int (by rw [HW.out, h1, h2]; rfl), rfl⟩
    · go_enter Tryz.func61, Tryz.ntmps61
      go_wp2
      go_ret
      exact ⟨ret_int (by rw [HW.out, h1, h2]; rfl), rfl⟩
  · go_enter Tryz.func61, Tryz.ntmps61
    go_wp2
    go_ret
    exact ⟨ret_int (by rw [HW.out, h1]; rfl), rfl⟩
theorem opq_has (s : List UInt8) : Lib.containsS [mkS PM.about, mkS PM.data, mkS PM.blob] (mkS s) = PM.opq s := by
  rw [Bool.eq_iff_iff, Lib.containsS_iff]
  unfold PM.opq
  simp only [List.mem_cons, List.not_mem_nil, or_false, decide_eq_true_eq]
  constructor
  · rintro (h | h | h)
    · exact .inl (mkS_inj h)
    · exact .inr (.inl (mkS_inj h))
    · exact .inr (.inr (mkS_inj h))
  · rintro (h | h | h)
    · exact .inl (by rw [h])
    · exact .inr (.inl (by rw [h]))
    · exact .inr (.inr (by rw [h]))
theorem opaque_c (s : List UInt8) (w : World) : Calls Tryz.prog 76 #[.string (mkS s)] w fun e w' => e = .returned (.bool (PM.opq s)) ∧ Below w.heap.size w w' := by
  go_enter Tryz.func76, Tryz.ntmps76
  go_wp2_with fail
  refine (Tryz.slices_Contains_string w.heap.size 0 3 3 [mkS PM.about, mkS PM.data, mkS PM.blob] (mkS s) _ (by simp) (by omega) ?_).mono ?_
  · intro j hj
    match j, hj with
    | 0, _ => go_simp; rfl
    | 1, _ => go_simp; rfl
    | 2, _ => go_simp; rfl
  rw [show [mkS PM.about, mkS PM.data, mkS PM.blob].take 3 = [mkS PM.about, mkS PM.data, mkS PM.blob] from rfl, opq_has]
  rintro e w1 ⟨rfl, rfl⟩
  go_wp2
  go_ret
  exact ⟨rfl, by (repeat (first | exact Below.refl _ _ | apply b_alloc | apply b_drew | apply b_drewN | assumption | (refine b_then ?_ (by assumption))))⟩
theorem any_chars (s : List UInt8) : Lib.containsAny s [63, 35] = (PM.has s 63 || PM.has s 35) := by
  unfold Lib.containsAny PM.has
  induction s with
  | nil => rfl
  | cons b r ih =>
    have hge := Lib.indexAny_ge [63, 35] r
    rw [Lib.indexAny]
    by_cases hc : ([63, 35] : List UInt8).contains b = true
    · rw [if_pos hc]
      have : b = 63 ∨ b = 35 := by simpa using hc
      rcases this with rfl | rfl <;> simp
    · rw [if_neg hc]
      have hn : b ≠ 63 ∧ b ≠ 35 := by simpa using hc
      have e1 : (b :: r).contains 63 = r.contains 63 := by simp [List.contains_cons]; intro h; exact absurd h.symm hn.1
      have e2 : (b :: r).contains 35 = r.contains 35 := by simp [List.contains_cons]; intro h; exact absurd h.symm hn.2
      rw [e1, e2, ← ih]
      split
      · rename_i h
        have : Lib.indexAny r [63, 35] = -1 := by simpa using h
        rw [this]
      · rename_i h
        have : Lib.indexAny r [63, 35] ≠ -1 := by simpa using h
        rw [decide_eq_decide]
        omega
theorem ready_ascii (s : List UInt8) (h : PM.ready 1 s = true) : ∀ c ∈ s, c.toNat < 128 := by
  intro c hc
  have := PM.in0_range c (PM.inSet_in0 1 c ((PM.ready_iff 1 s).1 h c hc))
  omega
theorem ContainsAny_c (s : List UInt8) (hs : s.length ≤ 1000000) (ha : ∀ c ∈ s, c.toNat < 128) (w : World) : Calls Tryz.prog 77 #[.string (mkS s), .string { data := #[63, 35] }] w fun e w' => e = .returned (.bool (PM.has s 63 || PM.has s 35)) ∧ Below w.heap.size w w' := by
  have h := Tryz.strings_ContainsAny_laid (mkS s) ⟨#[63, 35]⟩ w (by rw [mkS_size]; omega) (by show 2 < _; omega) (fun j b hb => by rw [mkS_data] at hb; exact ha b (List.mem_of_getElem? hb)) (fun j b hb => by
    have : b ∈ [(63 : UInt8), 35] := List.mem_of_getElem? hb
    simp at this
    rcases this with rfl | rfl <;> decide)
  rw [mkS_data] at h
  rw [← any_chars]
  exact h
end Go.Proofs.YtppbkblnjlbnfaaGreatDoor
