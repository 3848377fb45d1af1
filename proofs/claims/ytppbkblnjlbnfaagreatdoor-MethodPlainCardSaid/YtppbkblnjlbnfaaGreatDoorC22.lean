import Derived.Test.YtppbkblnjlbnfaaGreatDoorC21
/-! Contracts: slices.Clone, show.Bare, show.Open. -/
set_option linter.unusedVariables false
namespace Go.Proofs.YtppbkblnjlbnfaaGreatDoor
open Go.RowKit
theorem RdS.frame {w W : World} {a : Option Addr} {n : Nat} {xs : List (List UInt8)} (h : RdS w a n xs) (hsz : w.heap.size ≤ W.heap.size) (hk : ∀ g o, a = some ⟨g, o, none⟩ → xs ≠ [] → W.heap[g]? = w.heap[g]?) : RdS W a n xs :=
  ⟨h.len, h.small, by
    rcases h.at_ with e | ⟨b, o, e, hlt, hc⟩
    · exact .inl e
    · rcases Classical.em (xs = []) with e0 | e0
      · exact .inl e0
      · exact .inr ⟨b, o, e, Nat.lt_of_lt_of_le hlt hsz, fun j hj => (World.cell?_of_block (a := ⟨b, o + j, none⟩) (hk b o e e0)).trans (hc j hj)⟩⟩
/-- The texts lie from block B on, if there are any. -/
def From (B : Nat) (a : Option Addr) (xs : List (List UInt8)) : Prop := ∀ g o, a = some ⟨g, o, none⟩ → xs ≠ [] → B ≤ g
theorem own_rdS {W : World} {B : Nat} {v : Value} {n : Nat} {xs : List (List UInt8)} (h : W.ownsRow B 9 1 v n (strs xs)) (hn : xs.length = n) (hs : n * 16 ≤ 140737488355328) : ∃ a c, v = .slice a n c ∧ RdS W a n xs ∧ From B a xs := by
  rcases h.2 with ⟨rfl, rfl⟩ | ⟨g, cap, cur, rfl, hg, hb, h1, h2, h3, h4⟩
  · exact ⟨none, 0, rfl, ⟨hn, hs, .inl (List.eq_nil_of_length_eq_zero hn)⟩, fun g o e => by simp at e⟩
  · refine ⟨some ⟨g, 0, none⟩, cap, rfl, ⟨hn, hs, .inr ⟨g, 0, rfl, (Array.getElem?_eq_some_iff.1 hb).1, fun j hj => ?_⟩⟩, fun g' o' e _ => by simp at e; omega⟩
    rw [Lib.cell_of_heap hb, Nat.zero_add]
    have : (cur.toList.take (n * 1))[j]? = some (.string (mkS (xs[j]'hj))) := by
      rw [h4]
      simp [strs, hj]
    rw [List.getElem?_take] at this
    split at this
    · simpa using this
    · exact absurd this (by simp)
theorem Clone_c (a : Option Addr) (n c : Nat) (xs : List (List UInt8)) (w : World) (h : RdS w a n xs) :
    Calls Tryz.prog 50 #[.slice a n c] w fun e w' => ∃ a' c', e = .returned (.slice a' n c') ∧ RdS w' a' n xs ∧ From w.heap.size a' xs ∧ Below w.heap.size w w' := by
  have hlen := h.len
  rcases h.at_ with rfl | ⟨b, o, rfl, hlt, hc⟩
  · have hn : n = 0 := by simpa using hlen.symm
    subst hn
    cases a with
    | none =>
      refine (Tryz.slices_Clone_string_nil 0 c w).mono ?_
      rintro e w' ⟨rfl, rfl⟩
      exact ⟨none, 0, rfl, h.below (Below.refl _ _), fun g o e => by simp at e, Below.refl _ _⟩
    | some p =>
      refine (Tryz.slices_Clone_string_zero p c w).mono ?_
      rintro e w' ⟨v', rfl, ho, _, hb⟩
      obtain ⟨a', c', rfl, hr, hf⟩ := own_rdS (xs := []) ho rfl (by decide)
      exact ⟨a', c', rfl, hr, hf, hb⟩
  · refine (Tryz.slices_Clone_string b o n c (xs.map mkS) w (by simp; omega) h.small ?_).mono ?_
    · intro j hj
      rw [List.length_map] at hj
      rw [hc j hj]
      simp [List.getD, hj]
    · rintro e w' ⟨v', rfl, ho, _, hb⟩
      have ho' : w'.ownsRow w.heap.size 9 1 v' n (strs xs) := by
        have e1 : ((xs.map mkS).take n).map Value.string = strs xs := by
          rw [List.take_of_length_le (by simp; omega)]
          simp [strs]
        rw [← e1]
        exact ho
      obtain ⟨a', c', rfl, hr, hf⟩ := own_rdS ho' hlen h.small
      exact ⟨a', c', rfl, hr, hf, hb⟩
/-- An address of noughts. -/
def zurl : Array Value := #[.string ⟨#[]⟩, .string ⟨#[]⟩, .string ⟨#[]⟩, .int .i64 0, .string ⟨#[]⟩, .int .i64 0, .int .i64 0, .int .i64 0, .int .i64 0, .int .i64 0, .int .i64 0, .int .i64 0, .int .i64 0, .int .i64 0, .int .i64 0, .slice none 0 0, .string ⟨#[]⟩, .string ⟨#[]⟩, .string ⟨#[]⟩, .bool false, .bool false]
/-- Where a function stands that has an address and makes another one. -/
structure TwoAt (u : UV) (cs : Array Value) (w W : World) : Prop where
  one : W.heap[w.heap.size]? = some (.cells u.cells 27 (0, 0))
  two : W.heap[w.heap.size + 1]? = some (.cells cs 27 (0, 0))
  be : Below w.heap.size w W
theorem TwoAt.below {u : UV} {cs : Array Value} {w W W' : World} (h : TwoAt u cs w W) (hb : Below W.heap.size W W') : TwoAt u cs w W' := ⟨heap_b hb h.one, heap_b hb h.two, b_then h.be hb⟩
theorem TwoAt.new (u : UV) (w : World) : TwoAt u zurl w ((w.alloc (.cells #[.string (mkS u.sc), .string (mkS u.us), .string (mkS u.pa), .int .i64 u.k, .string (mkS u.n), .int .i64 u.m, .int .i64 u.s0, .int .i64 u.s1, .int .i64 u.s2, .int .i64 u.s3, .int .i64 u.s4, .int .i64 u.s5, .int .i64 u.s6, .int .i64 u.s7, .int .i64 u.port, .slice u.a u.pn u.pc, .string (mkS u.op), .string (mkS u.qu), .string (mkS u.fr), .bool u.hq, .bool u.hf] 27)).alloc (.cells #[.string ⟨#[]⟩, .string ⟨#[]⟩, .string ⟨#[]⟩, .int .i64 0, .string ⟨#[]⟩, .int .i64 0, .int .i64 0, .int .i64 0, .int .i64 0, .int .i64 0, .int .i64 0, .int .i64 0, .int .i64 0, .int .i64 0, .int .i64 0, .slice none 0 0, .string ⟨#[]⟩, .string ⟨#[]⟩, .string ⟨#[]⟩, .bool false, .bool false] 27)) :=
  ⟨heap_two _ _ _, Go.heap_alloc2_new _ _ _, by (repeat (first | exact Below.refl _ _ | apply b_alloc | apply b_drew | apply b_drewN | assumption | (refine b_then ?_ (by assumption))))⟩
theorem heap_set_other {w : World} {b : Nat} {o : Option Obj} (h : w.heap[b]? = o) (g k : Nat) (v : Value) (hg : g ≠ b) : (w.setCell ⟨g, k, none⟩ v).heap[b]? = o := (Below.heap_setCell _ _ _ _ (fun e => hg e.symm)).trans h
theorem agg_one (v : UV) : v.cells.all (·.oneCell') = true := by
  unfold UV.cells
  simp [Value.oneCell']
theorem heap_setRow {w : World} {b : Nat} {cs : Array Value} {T : TypeId} (h : w.heap[b]? = some (.cells cs T (0, 0))) (cs' : Array Value) : (w.setRow b cs').heap[b]? = some (.cells cs' T (0, 0)) := by
  simp [World.setRow, Array.getElem?_modify, h]
theorem below_setRow {B : Nat} {w w1 : World} (h : Below B w w1) {b : Nat} (hb : B ≤ b) (cs' : Array Value) : Below B w (w1.setRow b cs') :=
  ⟨h.os, h.tape, h.output, by simpa [World.setRow] using h.size, fun k hk => by
    rw [← h.block k hk]
    simp [World.setRow, Array.getElem?_modify, show b ≠ k by omega]⟩
set_option maxRecDepth 100000 in
set_option maxHeartbeats 2000000 in
theorem Bare_c (u : UV) (w : World) (hu : u.Ok w) : Calls Tryz.prog 39 #[.agg u.cells] w fun e w' => ∃ v : UV, e = .returned (.agg v.cells) ∧ v.pm = PM.bare u.pm ∧ v.Ok w' ∧ From w.heap.size v.a v.xs ∧ Below w.heap.size w w' := by
  have HT := Lib.hid (TwoAt.new u w)
  unfold UV.cells
  have HU := Lib.hid hu
  clear hu
  go_enter Tryz.func39, Tryz.ntmps39
  go_upto_region 1 with fail
  generalize ((w.alloc (.cells #[.string (mkS u.sc), .string (mkS u.us), .string (mkS u.pa), .int .i64 u.k, .string (mkS u.n), .int .i64 u.m, .int .i64 u.s0, .int .i64 u.s1, .int .i64 u.s2, .int .i64 u.s3, .int .i64 u.s4, .int .i64 u.s5, .int .i64 u.s6, .int .i64 u.s7, .int .i64 u.port, .slice u.a u.pn u.pc, .string (mkS u.op), .string (mkS u.qu), .string (mkS u.fr), .bool u.hq, .bool u.hf] 27)).alloc (.cells #[.string ⟨#[]⟩, .string ⟨#[]⟩, .string ⟨#[]⟩, .int .i64 0, .string ⟨#[]⟩, .int .i64 0, .int .i64 0, .int .i64 0, .int .i64 0, .int .i64 0, .int .i64 0, .int .i64 0, .int .i64 0, .int .i64 0, .int .i64 0, .slice none 0 0, .string ⟨#[]⟩, .string ⟨#[]⟩, .string ⟨#[]⟩, .bool false, .bool false] 27)) = V0 at HT ⊢
  obtain ⟨c0, c1, c2, c3, c4, c5, c6, c7, c8, c9, c10, c11, c12, c13, c14, c15, c16, c17, c18, c19, c20⟩ := UrlAt.of_heap HT.out.one
  go_wp2_with fail
  refine (Clone_c u.a u.pn u.pc u.xs _ (HU.out.rd.below HT.out.be)).mono ?_
  rintro e V1 ⟨a', c', rfl, hr, hfr, hb1⟩
  have hz : w.heap.size + 2 ≤ V0.heap.size := by have := h_lt HT.out.two; omega
  replace HT := Lib.hid (HT.out.below hb1)
  clear c0 c1 c2 c3 c4 c5 c6 c7 c8 c9 c10 c11 c12 c13 c14 c15 c16 c17 c18 c19 c20 hb1
  obtain ⟨c0, c1, c2, c3, c4, c5, c6, c7, c8, c9, c10, c11, c12, c13, c14, c15, c16, c17, c18, c19, c20⟩ := UrlAt.of_heap HT.out.one
  have f15 := Lib.frozen_of_heap HT.out.one 15
  have f18 := Lib.frozen_of_heap HT.out.one 18
  have f20 := Lib.frozen_of_heap HT.out.one 20
  go_upto_region 3 with fail
  obtain ⟨V2, hV2⟩ : ∃ V2, V2 = ((V1.setCell ⟨w.heap.size, 15, none⟩ (.slice a' u.pn c')).setCell ⟨w.heap.size, 18, none⟩ (.string ⟨#[]⟩)).setCell ⟨w.heap.size, 20, none⟩ (.bool false) := ⟨_, rfl⟩
  let v : UV := { u with a := a', pc := c', fr := [], hf := false }
  have h2 : TwoAt v zurl w V2 := by
    rw [hV2]
    refine ⟨setCell_heap (setCell_heap (setCell_heap HT.out.one _ _) _ _) _ _, ?_, b_set (b_set (b_set HT.out.be _ (Nat.le_refl _) _) _ (Nat.le_refl _) _) _ (Nat.le_refl _) _⟩
    exact heap_set_other (heap_set_other (heap_set_other HT.out.two _ _ _ (by omega)) _ _ _ (by omega)) _ _ _ (by omega)
  have hvr : RdS V2 a' u.pn u.xs := by
    rw [hV2]
    refine hr.frame (by simp [World.setCell]) fun g o e hx => ?_
    have hg := hfr g o e hx
    rw [heap_set_other (heap_set_other (heap_set_other rfl _ _ _ (by omega)) _ _ _ (by omega)) _ _ _ (by omega)]
  rw [← hV2]
  clear hV2 c0 c1 c2 c3 c4 c5 c6 c7 c8 c9 c10 c11 c12 c13 c14 c15 c16 c17 c18 c19 c20 f15 f18 f20 HT
  go_wp2_with (first
    | (refine wpList_load_row rfl 27 _ rfl w.heap.size rfl 27 _ (0, 0) _ h2.one Tryz.underlying27 rfl (by kernel_rfl) ?_)
    | (refine wpList_store_row rfl 27 _ _ rfl (w.heap.size + 1) v.cells rfl rfl 27 _ h2.two (by kernel_rfl) rfl (agg_one v) ?_))
  refine bodyPost_ret (results_cell_row (fr := (0, 0)) rfl _ _ (w.heap.size + 1) 27 v.cells _ rfl (heap_setRow h2.two _) Tryz.underlying27 rfl (by kernel_rfl)) rfl ?_
  refine ⟨v, rfl, rfl, ⟨HU.out.sc, HU.out.us, HU.out.pa, HU.out.n, HU.out.op, HU.out.qu, by simp [v], HU.out.xn, HU.out.xl, ?_⟩, fun g o e hx => by have := hfr g o e hx; omega, below_setRow h2.be (by omega) _⟩
  refine hvr.frame (by simp [World.setRow]) fun g o e hx => ?_
  have hg := hfr g o e hx
  simp [World.setRow, Array.getElem?_modify, show w.heap.size + 1 ≠ g by omega]
end Go.Proofs.YtppbkblnjlbnfaaGreatDoor
