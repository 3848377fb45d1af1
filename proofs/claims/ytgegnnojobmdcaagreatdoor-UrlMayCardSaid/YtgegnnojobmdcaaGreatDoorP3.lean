import Derived.Test.YtgegnnojobmdcaaGreatDoorP2
import Derived.Laws.Bits64b
import Derived.Laws.BitsLemmas
/-! Contract: four.Parse. -/
set_option linter.unusedVariables false
namespace Go.Proofs.YtgegnnojobmdcaaGreatDoor
open Go.RowKit
theorem or_shift (n k : Nat) (hn : n < 1099511627776) (hk : k < 256) : bits .or .i64 ((n : Int) * 256) (k : Int) = (n : Int) * 256 + k := by
  have h1 : (BitVec.ofInt 64 ((n : Int) * 256)).toNat = 256 * n := by
    rw [show ((n : Int) * 256) = ((256 * n : Nat) : Int) by omega, BitVec.ofInt_natCast, BitVec.toNat_ofNat]; exact Nat.mod_eq_of_lt (by omega)
  have h2 : (BitVec.ofInt 64 (k : Int)).toNat = k := by
    rw [BitVec.ofInt_natCast, BitVec.toNat_ofNat]; exact Nat.mod_eq_of_lt (by omega)
  show IntKind.i64.wrap ((BitVec.ofInt 64 ((n : Int) * 256) ||| BitVec.ofInt 64 (k : Int)).toNat : Int) = _
  rw [BitVec.toNat_or, h1, h2, ← Nat.two_pow_add_eq_or_of_lt (i := 8) hk, IntKind.wrap_i64]
  omega
theorem read_le (s : List UInt8) (M n : Nat) (h : PM.read s M = some n) : n ≤ M := by
  unfold PM.read at h
  split at h
  · rename_i hc
    simp only [Bool.and_eq_true, decide_eq_true_eq] at hc
    simp at h
    omega
  · simp at h
/-- What the closure lays: the parts up to here, as one number. -/
def four1 (s : List UInt8) (n : Nat) : Nat := 256 * n + ((PM.read s 255).getD 0)
set_option maxRecDepth 100000 in
set_option maxHeartbeats 1000000 in
theorem Parse1_c (s : List UInt8) (hs : s.length ≤ 1000000) (b n : Nat) (hn : n ≤ 16777216) (w : World) (hc : w.cell? ⟨b, 0, none⟩ = some (.int .i64 (n : Int))) (hf : w.frozen? ⟨b, 0, none⟩ = false) :
    Calls Tryz.prog 180 #[.string (mkS s), .pointer (some ⟨b, 0, none⟩)] w fun e w' => e = .returned (.bool (PM.fourPart s).isSome) ∧ Below w.heap.size (w.setCell ⟨b, 0, none⟩ (.int .i64 (four1 s n : Nat))) w' := by
  have hr := Read_c s 255 hs (by decide) (by decide)
  have HR := Lib.hid hr
  clear hr
  cases h1 : PM.read s 255 with
  | none =>
    have e1 : readV s 255 = .tuple #[.int .i64 0, .bool false] := by unfold readV; rw [h1]
    have e2 : PM.fourPart s = none := by unfold PM.fourPart; rw [h1]
    have e3 : four1 s n = 256 * n := by unfold four1; rw [h1]; rfl
    have e4 := or_shift n 0 (by omega) (by decide)
    have e5 : (n : Int) * 256 + ((0 : Nat) : Int) = ((256 * n : Nat) : Int) := by omega
    rw [e5] at e4
    rw [e1] at HR
    rw [e2, e3]
    clear e1 e2 e3 h1 e5
    go_enter Tryz.func180, Tryz.ntmps180
    go_wp2_with fail
    refine (HR.out _).mono ?_
    rintro e w1 ⟨rfl, rfl⟩
    go_wp2
    go_ret
    refine ⟨rfl, ?_⟩
    have e6 : bits .or .i64 ((n : Int) * 256) 0 = ((256 * n : Nat) : Int) := e4
    rw [e6]
    exact Below.refl _ _
  | some k =>
    have hk := read_le s 255 k h1
    have e1 : readV s 255 = .tuple #[.int .i64 (k : Int), .bool true] := by unfold readV; rw [h1]
    have e2 : PM.fourPart s = if PM.digs k = s then some k else none := by unfold PM.fourPart; rw [h1]
    have e3 : four1 s n = 256 * n + k := by unfold four1; rw [h1]; rfl
    have e4 := or_shift n k (by omega) (by omega)
    have e5 : (n : Int) * 256 + (k : Int) = ((256 * n + k : Nat) : Int) := by omega
    rw [e5] at e4
    have hS := deciShow_c k (by omega)
    have e7 : (PM.fourPart s).isSome = (PM.digs k == s) := by
      rw [e2]
      by_cases hd : PM.digs k = s
      · simp [hd]
      · simp [hd]
    rw [e1] at HR
    rw [e3, e7]
    have HS := Lib.hid hS
    have H4 := Lib.hid e4
    clear e1 e2 e3 h1 e5 e7 hS
    generalize PM.digs k = D at HS
    go_enter Tryz.func180, Tryz.ntmps180
    go_wp2_with fail
    refine (HR.out _).mono ?_
    rintro e w1 ⟨rfl, rfl⟩
    go_wp2_with fail
    refine (HS.out _).mono ?_
    rintro e w2 ⟨rfl, hb⟩
    go_wp2
    go_ret
    refine ⟨rfl, ?_⟩
    simpa [World.setCell] using hb
def fourV (s : List UInt8) : Value := match PM.fourParse s with
  | some n => .tuple #[.int .i64 (n : Int), .bool true]
  | none => .tuple #[.int .i64 0, .bool false]
theorem fourStep_none (l : List (List UInt8)) : l.foldl PM.fourStep none = none := by
  induction l with
  | nil => rfl
  | cons x r ih => exact ih
theorem fourStep_hit {s : List UInt8} {n : Nat} (h : (PM.fourPart s).isSome = true) : PM.fourStep (some n) s = some (four1 s n) ∧ four1 s n ≤ 256 * n + 255 := by
  unfold four1
  cases hr : PM.read s 255 with
  | none =>
    have e : PM.fourPart s = none := by unfold PM.fourPart; rw [hr]
    rw [e] at h
    exact absurd h (by simp)
  | some k =>
    have hk := read_le s 255 k hr
    have e : PM.fourPart s = some k := by
      unfold PM.fourPart at h ⊢
      rw [hr] at h ⊢
      dsimp only at h ⊢
      split at h
      · rename_i hd
        rw [if_pos hd]
      · exact absurd h (by simp)
    refine ⟨by unfold PM.fourStep; rw [e]; rfl, ?_⟩
    show 256 * n + k ≤ _
    omega
theorem fourStep_miss {s : List UInt8} {o : Option Nat} (h : (PM.fourPart s).isSome = false) : PM.fourStep o s = none := by
  have e : PM.fourPart s = none := by simpa using h
  unfold PM.fourStep
  rw [e]
  cases o <;> rfl
set_option maxRecDepth 100000 in
set_option maxHeartbeats 1000000 in
theorem FourParse_c (s : List UInt8) (hs : s.length ≤ 1000000) (w : World) (hg : Gl w) : Calls Tryz.prog 161 #[.string (mkS s)] w fun e w' => e = .returned (fourV s) ∧ Below w.heap.size w w' := by
  have hsp := Split_c s 46 ⟨#[46]⟩ rfl (by omega) w hg
  have hv : fourV s = (match (if (PM.splitB 46 s).length = 4 then (PM.splitB 46 s).foldl PM.fourStep (some 0) else none) with
    | some n => .tuple #[.int .i64 (n : Int), .bool true]
    | none => .tuple #[.int .i64 0, .bool false]) := rfl
  have hx : ∀ x ∈ PM.splitB 46 s, x.length ≤ 1000000 := fun x h => Nat.le_trans ((splitB_len 46 s).2 x h) hs
  generalize PM.splitB 46 s = xs at hsp hv hx
  have HV := Lib.hid hv
  clear hv
  by_cases h4 : xs.length = 4
  · have h4' : ((xs.length : Int) != 4) = false := by simp; omega
    have hcell : Hid (∀ V, Below (w.heap.size + 1) ((w.alloc (.cells (strs xs).toArray 9)).alloc (.cells #[.int .i64 0] 3)) V → ∀ k (hk : k < xs.length), V.cell? ⟨w.heap.size, k, none⟩ = some (.string (mkS (xs[k]'hk)))) := by
      intro V hV k hk
      have h0 : ((w.alloc (.cells (strs xs).toArray 9)).alloc (.cells #[.int .i64 0] 3)).heap[w.heap.size]? = some (.cells (strs xs).toArray 9 (0, 0)) := heap_two _ _ _
      rw [Lib.cell_of_heap ((hV.block _ (by omega)).trans h0)]
      simp [strs, hk]
    have h1 : Hid (((w.alloc (.cells (strs xs).toArray 9)).alloc (.cells #[.int .i64 0] 3)).heap[w.heap.size + 1]? = some (.cells #[.int .i64 0] 3 (0, 0))) := Go.heap_alloc2_new _ _ _
    have hw : Hid (Below w.heap.size w ((w.alloc (.cells (strs xs).toArray 9)).alloc (.cells #[.int .i64 0] 3))) := by exact b_alloc (b_alloc (Below.refl _ _) _) _
    go_enter Tryz.func161, Tryz.ntmps161
    go_wp2_with fail
    refine hsp.mono ?_
    rintro e w1 ⟨rfl, rfl⟩
    rw [h4]
    go_upto_region 6 with fail
    generalize (w.alloc (.cells (strs xs).toArray 9)).alloc (.cells #[.int .i64 0] 3) = V0 at hcell h1 hw ⊢
    clear hsp h4'
    go_wp2
    go_loopw [17] (fun i wr => ∃ k : Nat, i = .int .i64 k ∧ k ≤ 4 ∧ ∃ n : Nat, Hid ((xs.take k).foldl PM.fourStep (some 0) = some n) ∧ n < 256 ^ k ∧ Hid (wr.heap[w.heap.size + 1]? = some (.cells #[.int .i64 (n : Int)] 3 (0, 0))) ∧ Hid (Below (w.heap.size + 1) V0 wr)) (fun i _ => 4 - (intOf i).toNat)
    case atStart => exact ⟨0, rfl, by omega, 0, Lib.hid rfl, by decide, h1, Lib.hid (Below.refl _ _)⟩
    case round =>
      obtain ⟨k, rfl, hk, n, HF, hn, HH, HB⟩ := hrel
      by_cases hlt : k < 4
      · have hlt' : (k : Int) < 4 := by omega
        have hkx : k < xs.length := by omega
        have hck := hcell.out wr HB.out k hkx
        have hn3 : n < 16777216 := Nat.lt_of_lt_of_le hn (show 256 ^ k ≤ 256 ^ 3 from Nat.pow_le_pow_right (by decide) (by omega))
        have hst : (xs.take (k + 1)).foldl PM.fourStep (some 0) = PM.fourStep (some n) (xs[k]'hkx) := by
          rw [List.take_succ_eq_append_getElem hkx, List.foldl_append, HF.out]
          rfl
        have hall : xs.foldl PM.fourStep (some 0) = (xs.drop (k + 1)).foldl PM.fourStep ((xs.take (k + 1)).foldl PM.fourStep (some 0)) := by
          rw [← List.foldl_append, List.take_append_drop]
        have hxl := hx _ (List.getElem_mem hkx)
        rw [hst] at hall
        generalize xs[k]'hkx = x at hck hst hall hxl
        have hc0 : wr.cell? ⟨w.heap.size + 1, 0, none⟩ = some (.int .i64 (n : Int)) := by rw [Lib.cell_of_heap HH.out]; rfl
        have hf0 := Lib.frozen_of_heap HH.out 0
        have hP := Parse1_c x hxl (w.heap.size + 1) n (by omega) wr hc0 hf0
        have hhit := fourStep_hit (s := x) (n := n)
        have hmiss := fourStep_miss (s := x) (o := some n)
        have HST := Lib.hid hst
        have HALL := Lib.hid hall
        have hH2 : (wr.setCell ⟨w.heap.size + 1, 0, none⟩ (.int .i64 (four1 x n : Nat))).heap[w.heap.size + 1]? = some (.cells #[.int .i64 (four1 x n : Nat)] 3 (0, 0)) := setCell_heap HH.out _ _
        have hB2 : Below (w.heap.size + 1) V0 (wr.setCell ⟨w.heap.size + 1, 0, none⟩ (.int .i64 (four1 x n : Nat))) := HB.out.setCell (Nat.le_refl _) _
        have hsz : w.heap.size + 1 < wr.heap.size := h_lt HH.out
        have H2 := Lib.hid hH2
        have HB2 := Lib.hid hB2
        clear hst hall hH2 hB2
        cases hd : (PM.fourPart x).isSome
        · rw [hd] at hP
          have hm := hmiss hd
          have HP := Lib.hid hP
          have HM := Lib.hid hm
          clear hhit hmiss hd hP hm
          go_wp2_with fail
          refine HP.out.mono ?_
          rintro e w1 ⟨rfl, hb⟩
          go_wp2
          go_ret2
          refine ⟨?_, ?_⟩
          · have : fourV s = .tuple #[.int .i64 0, .bool false] := by
              rw [HV.out, if_pos h4, HALL.out, HM.out, fourStep_none]
            exact congrArg Ending.returned this.symm
          · exact hw.out.trans ((HB2.out.trans (hb.mono (by omega))).mono (by omega))
        · rw [hd] at hP
          obtain ⟨hm1, hm2⟩ := hhit hd
          have HP := Lib.hid hP
          have HM := Lib.hid hm1
          clear hhit hmiss hd hP hm1
          go_wp2_with fail
          refine HP.out.mono ?_
          rintro e w1 ⟨rfl, hb⟩
          go_wp2
          refine ⟨⟨k + 1, congrArg (Value.int .i64) (by omega), by omega, four1 x n, Lib.hid (by rw [HST.out, HM.out]), by rw [Nat.pow_succ]; omega, Lib.hid ((hb.block _ hsz).trans H2.out), Lib.hid (HB2.out.trans (hb.mono (by omega)))⟩, ?_⟩
          simp only [intOf]; omega
      · have hk4 : k = 4 := by omega
        subst hk4
        have hc0 : wr.cell? ⟨w.heap.size + 1, 0, none⟩ = some (.int .i64 (n : Int)) := by rw [Lib.cell_of_heap HH.out]; rfl
        go_wp2
        go_ret2
        refine ⟨?_, hw.out.trans (HB.out.mono (by omega))⟩
        have hF := HF.out
        rw [List.take_of_length_le (by omega)] at hF
        have : fourV s = .tuple #[.int .i64 (n : Int), .bool true] := by rw [HV.out, if_pos h4, hF]
        exact congrArg Ending.returned this.symm
  · have h4' : ((xs.length : Int) != 4) = true := by simp; omega
    go_enter Tryz.func161, Tryz.ntmps161
    go_wp2_with fail
    refine hsp.mono ?_
    rintro e w1 ⟨rfl, rfl⟩
    go_wp2
    go_ret2
    refine ⟨?_, b_alloc (Below.refl _ _) _⟩
    rw [HV.out, if_neg h4]
    rfl
end Go.Proofs.YtgegnnojobmdcaaGreatDoor
