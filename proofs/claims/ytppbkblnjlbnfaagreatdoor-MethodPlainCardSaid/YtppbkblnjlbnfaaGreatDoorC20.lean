import Derived.Test.YtppbkblnjlbnfaaGreatDoorC17
/-! Contract: show.Show$1 ('when'). -/
set_option linter.unusedVariables false
namespace Go.Proofs.YtppbkblnjlbnfaaGreatDoor
open Go.RowKit
/-- All but block b, and what is a row of bytes, is as it was. -/
structure FrT (w w' : World) (b : Nat) : Prop where
  os : w'.os = w.os
  tape : w'.tape = w.tape
  output : w'.output = w.output
  size : w.heap.size ≤ w'.heap.size
  block : ∀ k, k < w.heap.size → k ≠ b → (∀ cs fz, w.heap[k]? ≠ some (.cells cs 5 fz)) → w'.heap[k]? = w.heap[k]?
theorem FrT.refl (w : World) (b : Nat) : FrT w w b := ⟨rfl, rfl, rfl, Nat.le_refl _, fun _ _ _ _ => rfl⟩
theorem FrT.trans {w w1 w2 : World} {b : Nat} (h : FrT w w1 b) (k : FrT w1 w2 b) : FrT w w2 b :=
  ⟨k.os.trans h.os, k.tape.trans h.tape, k.output.trans h.output, Nat.le_trans h.size k.size, fun i hi hb hn => by
    have e := h.block i hi hb hn
    exact (k.block i (Nat.lt_of_lt_of_le hi h.size) hb (by rw [e]; exact hn)).trans e⟩
theorem Bldr.frT {b : Nat} {r : Option Nat} {l : List UInt8} {W W' : World} (h : Bldr b r l W) (hF : Fr W W' b r) : FrT W W' b := by
  obtain ⟨p, v, hp, hbk, ho, hvr, hne⟩ := h
  refine ⟨hF.os, hF.tape, hF.output, hF.size, fun k hk hb hn => hF.block k hk hb ?_⟩
  intro e
  rcases ho.2 with ⟨rfl, _⟩ | ⟨g, cap, cur, rfl, _, hgk, _⟩
  · simp [Value.ownBlock] at hvr
    rw [← hvr] at e
    cases e
  · have : g = k := by
      simp [Value.ownBlock] at hvr
      rw [← hvr] at e
      exact (Option.some.inj e).symm
    subst this
    exact hn _ _ hgk
theorem FrT.keep {w W W' : World} {b : Nat} (h : FrT w W b) (hb : Below W.heap.size W W') : FrT w W' b :=
  ⟨hb.os.trans h.os, hb.tape.trans h.tape, hb.output.trans h.output, Nat.le_trans h.size hb.size, fun i hi h1 h2 => (hb.block i (Nat.lt_of_lt_of_le hi h.size)).trans (h.block i hi h1 h2)⟩
theorem FrT.cells {w W : World} {b : Nat} (h : FrT w W b) {k : Nat} {cs : Array Value} {T : TypeId} {fz : Nat × Nat} (hk : w.heap[k]? = some (.cells cs T fz)) (hT : T ≠ 5) (hb : k ≠ b) : W.heap[k]? = some (.cells cs T fz) := by
  refine (h.block k (Array.getElem?_eq_some_iff.1 hk).1 hb ?_).trans hk
  intro cs' fz' e
  rw [hk] at e
  injection e with e
  injection e with _ e _
  exact hT e
theorem when_step (is : Bool) (parts : List (List UInt8)) (k : Nat) (h : k < parts.length) : PM.when is (parts.take (k + 1)) = PM.when is (parts.take k) ++ (if is then parts[k]'h else []) := by
  have e := List.take_succ_eq_append_getElem h
  unfold PM.when
  rw [e]
  cases is
  · simp
  · simp only [if_true, List.flatten_append, List.flatten_cons, List.flatten_nil, List.append_nil]
theorem when_len (is : Bool) (parts : List (List UInt8)) (hl : ∀ s ∈ parts, s.length ≤ 20000000000) : (PM.when is parts).length ≤ parts.length * 20000000000 := by
  unfold PM.when
  split
  · induction parts with
    | nil => simp
    | cons x r ih =>
      have h1 := hl x (by simp)
      have := ih (fun s hs => hl s (by simp [hs]))
      simp only [List.flatten_cons, List.length_append, List.length_cons] at *
      omega
  · simp
set_option maxRecDepth 100000 in
set_option maxHeartbeats 2000000 in
theorem when_c (is : Bool) (parts : List (List UInt8)) (hl : ∀ s ∈ parts, s.length ≤ 20000000000) (hn : parts.length ≤ 3) (g q b c : Nat) (r : Option Nat) (l : List UInt8) (hll : l.length ≤ 10000000000000) (W : World) (hB : Bldr b r l W)
    (hg : W.heap[g]? = some (.cells (strs parts).toArray 9 (0, 0))) (hgb : g ≠ b) (tq : TypeId) (htq : tq ≠ 5)
    (hq : W.heap[q]? = some (.cells #[.func (.func 64) #[.pointer (some ⟨b, 0, none⟩)] #[]] tq (0, 0))) (hqb : q ≠ b) :
    Calls Tryz.prog 65 #[.bool is, .slice (some ⟨g, 0, none⟩) parts.length c, .pointer (some ⟨q, 0, none⟩)] W fun e w' => e = .returned (.tuple #[]) ∧ ∃ r', Bldr b r' (l ++ PM.when is parts) w' ∧ FrT W w' b ∧ Below b W w' := by
  go_enter Tryz.func65, Tryz.ntmps65
  go_wp2
  go_loopw [9] (fun i wr => ∃ k : Nat, i = .int .i64 k ∧ k ≤ parts.length ∧ ∃ r', Hid (Bldr b r' (l ++ PM.when is (parts.take k)) wr) ∧ FrT W wr b ∧ Below b W wr) (fun i _ => parts.length - (intOf i).toNat)
  case atStart => exact ⟨0, rfl, by omega, r, Lib.hid (by simpa [PM.when] using hB), FrT.refl _ _, Below.refl _ _⟩
  case round =>
    obtain ⟨k, rfl, hk, r', HB, hF, hBe⟩ := hrel
    by_cases hlt : k < parts.length
    · have hlt' : (k : Int) < parts.length := by omega
      have hg' : wr.heap[g]? = some (.cells (strs parts).toArray 9 (0, 0)) := hF.cells hg (by decide) hgb
      have hq' := hF.cells hq htq hqb
      have hcg : wr.cell? ⟨g, k, none⟩ = some (.string (mkS (parts[k]'hlt))) := by
        rw [Lib.cell_of_heap hg']
        simp [strs, hlt]
      have hcq : wr.cell? ⟨q, 0, none⟩ = some (.func (.func 64) #[.pointer (some ⟨b, 0, none⟩)] #[]) := by rw [Lib.cell_of_heap hq']; rfl
      have hw := when_step is parts k hlt
      have HW := Lib.hid hw
      have hpk := hl _ (List.getElem_mem hlt)
      have hln := when_len is (parts.take k) (fun s hs => hl s (List.mem_of_mem_take hs))
      rw [List.length_take] at hln
      generalize parts[k]'hlt = x at hcg HW hpk
      clear hw hg' hq' hg hq
      cases is
      · go_wp2
        refine ⟨⟨k + 1, congrArg (Value.int .i64) (by omega), by omega, r', Lib.hid (by rw [HW.out]; simpa using HB.out), hF, hBe⟩, ?_⟩
        simp only [intOf]; omega
      · have hlen : (l ++ PM.when true (parts.take k)).length + x.length ≤ 140737488355328 := by rw [List.length_append]; omega
        clear hln
        go_wp2_with fail
        refine (WriteString_c b r' _ x _ HB.out hlen).mono ?_
        rintro e w1 ⟨rfl, r2, hB2, hF2⟩
        go_wp2
        refine ⟨⟨k + 1, congrArg (Value.int .i64) (by omega), by omega, r2, Lib.hid (by rw [HW.out]; simpa using hB2), hF.trans (HB.out.frT hF2), hBe.trans (hF2.below (Nat.le_refl _) (Nat.le_of_lt HB.out.lt) (fun k hk => Nat.le_of_lt (HB.out.row k hk).1))⟩, ?_⟩
        simp only [intOf]; omega
    · have hk' : k = parts.length := by omega
      subst hk'
      rw [List.take_length] at HB
      go_wp2
      go_end0
      exact ⟨rfl, r', HB.out, hF, hBe⟩
end Go.Proofs.YtppbkblnjlbnfaaGreatDoor
