import Derived.Test.YtppbkblnjlbnfaaGreatDoorP2
import Derived.Laws.Bits64b
import Derived.Laws.BitsLemmas
set_option linter.unusedVariables false
set_option linter.unusedSimpArgs false
/-! Contract: four.Parse. -/
namespace Go.Proofs.YtppbkblnjlbnfaaGreatDoor
open Go.RowKit
theorem or_shift (n k : Nat) (hn : n < 1099511627776) (hk : k < 256) : bits .or .i64 ((n : Int) * 256) (k : Int) = (n : Int) * 256 + k := by
  have h1 : (BitVec.ofInt 64 ((n : Int) * 256)).toNat = 256 * n := by
    rw [show ((n : Int) * 256) = ((256 * n : Nat) : Int) by omega, BitVec.ofInt_natCast, BitVec.toNat_ofNat]; exact Nat.mod_eq_of_lt (by omega)
  have h2 : (BitVec.ofInt 64 (k : Int)).toNat = k := by
    rw [BitVec.ofInt_natCast, BitVec.toNat_ofNat]; exact Nat.mod_eq_of_lt (by omega)
  show IntKind.i64.wrap ((BitVec.ofInt 64 ((n : Int) * 256) ||| BitVec.ofInt 64 (k : Int)).toNat : Int) = _
  rw [BitVec.toNat_or, h1, h2, ← Nat.two_pow_add_eq_or_of_lt (i := 8) hk, IntKind.wrap_i64]
  omega
theorem read_le (s : List UInt8) (M n : Nat) (h : PM.read s M = some n) : n ≤ M := by
  unfold PM.read at h
  split at h
  · rename_i hc
    simp only [Bool.and_eq_true, decide_eq_true_eq] at hc
    simp at h
    omega
  · simp at h
/-- What the closure lays: the parts up to here, as one number. -/
def four1 (s : List UInt8) (n : Nat) : Nat := 256 * n + ((PM.read s 255).getD 0)
set_option maxRecDepth 100000 in
set_option maxHeartbeats 1000000 in
theorem Parse1_c (s : List UInt8) (hs : s.length ≤ 1000000) (b n : Nat) (hn : n ≤ 16777216) (w : World) (hc : w.cell? ⟨b, 0, none⟩ = some (.int .i64 (n : Int))) (hf : w.frozen? ⟨b, 0, none⟩ = false) :
    Calls Tryz.prog 193 #[.string (mkS s), .pointer (some ⟨b, 0, none⟩)] w fun e w' => e = .returned (.bool (PM.fourPart s).isSome) ∧ Below w.heap.size (w.setCell ⟨b, 0, none⟩ (.int .i64 (four1 s n : Nat))) w' := by
  have hr := Read_c s 255 hs (by decide) (by decide)
  have HR := Lib.hid hr
  clear hr
  cases h1 : PM.read s 255 with
  | none =>
    have e1 : readV s 255 = .tuple #[.int .i64 0, .bool false] := by unfold readV; rw [h1]
    have e2 : PM.fourPart s = none := by unfold PM.fourPart; rw [h1]
    have e3 : four1 s n = 256 * n := by unfold four1; rw [h1]; rfl
    have e4 := or_shift n 0 (by omega) (by decide)
    have e5 : (n : Int) * 256 + ((0 : Nat) : Int) = ((256 * n : Nat) : Int) := by omega
    rw [e5] at e4
    rw [e1] at HR
    rw [e2, e3]
    clear e1 e2 e3 h1 e5
    go_enter Tryz.func193, Tryz.ntmps193
    go_wp2_with fail
    refine (HR.out _).mono ?_
    rintro e w1 ⟨rfl, rfl⟩
    go_wp2
    go_ret
    refine ⟨rfl, ?_⟩
    have e6 : bits .or .i64 ((n : Int) * 256) 0 = ((256 * n : Nat) : Int) := e4
    rw [e6]
    exact Below.refl _ _
  | some k =>
    have hk := read_le s 255 k h1
    have e1 : readV s 255 = .tuple #[.int .i64 (k : Int), .bool true] := by unfold readV; rw [h1]
    have e2 : PM.fourPart s = if PM.digs k = s then some k else none := by unfold PM.fourPart; rw [h1]
    have e3 : four1 s n = 256 * n + k := by unfold four1; rw [h1]; rfl
    have e4 := or_shift n k (by omega) (by omega)
    have e5 : (n : Int) * 256 + (k : Int) = ((256 * n + k : Nat) : Int) := by omega
    rw [e5] at e4
    have hS := deciShow_c k (by omega)
    have e7 : (PM.fourPart s).isSome = (PM.digs k == s) := by
      rw [e2]
      by_cases hd : PM.digs k = s
      · simp [hd]
      · simp [hd]
    rw [e1] at HR
    rw [e3, e7]
    have HS := Lib.hid hS
    have H4 := Lib.hid e4
    clear e1 e2 e3 h1 e5 e7 hS
    generalize PM.digs k = D at HS
    go_enter Tryz.func193, Tryz.ntmps193
    go_wp2_with fail
    refine (HR.out _).mono ?_
    rintro e w1 ⟨rfl, rfl⟩
    go_wp2_with fail
    refine (HS.out _).mono ?_
    rintro e w2 ⟨rfl, hb⟩
    go_wp2
    go_ret
    refine ⟨rfl, ?_⟩
    simpa [World.setCell] using hb
def fourV (s : List UInt8) : Value := match PM.fourParse s with
  | some n => .tuple #[.int .i64 (n : Int), .bool true]
  | none => .tuple #[.int .i64 0, .bool false]
theorem fourStep_none (l : List (List UInt8)) : l.foldl PM.fourStep none = none := by
  induction l with
  | nil => rfl
  | cons x r ih => exact ih
theorem fourStep_hit {s : List UInt8} {n : Nat} (h : (PM.fourPart s).isSome = true) : PM.fourStep (some n) s = some (four1 s n) ∧ four1 s n ≤ 256 * n + 255 := by
  unfold four1
  cases hr : PM.read s 255 with
  | none =>
    have e : PM.fourPart s = none := by unfold PM.fourPart; rw [hr]
    rw [e] at h
    exact absurd h (by simp)
  | some k =>
    have hk := read_le s 255 k hr
    have e : PM.fourPart s = some k := by
      unfold PM.fourPart at h ⊢
      rw [hr] at h ⊢
      dsimp only at h ⊢
      split at h
      · rename_i hd
        rw [if_pos hd]
      · exact absurd h (by simp)
    refine ⟨by unfold PM.fourStep; rw [e]; rfl, ?_⟩
    show 256 * n + k ≤ _
    omega
theorem fourStep_miss {s : List UInt8} {o : Option Nat} (h : (PM.fourPart s).isSome = false) : PM.fourStep o s = none := by
  have e : PM.fourPart s = none := by simpa using h
  unfold PM.fourStep
  rw [e]
  cases o <;> rfl
set_option maxRecDepth 100000 in
set_option maxHeartbeats 1000000 in
theorem FourParse_c (s : List UInt8) (hs : s.length ≤ 1000000) (w : World) (hg : Gl w) : Calls Tryz.prog 177 #[.string (mkS s)] w fun e w' => e = .returned (fourV s) ∧ Below w.heap.size w w' := by
  have hsp := Split_c s 46 ⟨#[46]⟩ rfl (by omega) w hg
  have hv : fourV s = (match (if (PM.splitB 46 s).length = 4 then (PM.splitB 46 s).foldl PM.fourStep (some 0) else none) with
    | some n => .tuple #[.int .i64 (n : Int), .bool true]
    | none => .tuple #[.int .i64 0, .bool false]) := rfl
  have hx : ∀ x ∈ PM.splitB 46 s, x.length ≤ 1000000 := fun x h => Nat.le_trans ((splitB_len 46 s).2 x h) hs
  generalize PM.splitB 46 s = xs at hsp hv hx
  have HV := Lib.hid hv
  clear hv
  by_cases h4 : xs.length = 4
  · have h4' : ((xs.length : Int) != 4) = false := by simp; omega
    have hcell : Hid (∀ V, Below (w.heap.size + 1) ((w.alloc (.cells (strs xs).toArray 9)).alloc (.cells #[.int .i64 0] 3)) V → ∀ k (hk : k < xs.length), V.cell? ⟨w.heap.size, k, none⟩ = some (.string (mkS (xs[k]'hk)))) := by
      intro V hV k hk
      have h0 : ((w.alloc (.cells (strs xs).toArray 9)).alloc (.cells #[.int .i64 0] 3)).heap[w.heap.size]? = some (.cells (strs xs).toArray 9 (0, 0)) := heap_two _ _ _
      rw [Lib.cell_of_heap ((hV.block _ (by omega)).trans h0)]
      simp [strs, hk]
    have h1 : Hid (((w.alloc (.cells (strs xs).toArray 9)).alloc (.cells #[.int .i64 0] 3)).heap[w.heap.size + 1]? = some (.cells #[.int .i64 0] 3 (0, 0))) := Go.heap_alloc2_new _ _ _
    have hw : Hid (Below w.heap.size w ((w.alloc (.cells (strs xs).toArray 9)).alloc (.cells #[.int .i64 0] 3))) := by exact b_alloc (b_alloc (Below.refl _ _) _) _
    go_enter Tryz.func177, Tryz.ntmps177
    go_wp2_with fail
    refine hsp.mono ?_
    rintro e w1 ⟨rfl, rfl⟩
    rw [h4]
    go_upto_region 6 with fail
    generalize (w.alloc (.cells (strs xs).toArray 9)).alloc (.cells #[.int .i64 0] 3) = V0 at hcell h1 hw ⊢
    clear hsp h4'
    go_wp2
    go_loopw [17] (fun i wr => ∃ k : Nat, i = .int .i64 k ∧ k ≤ 4 ∧ ∃ n : Nat, Hid ((xs.take k).foldl PM.fourStep (some 0) = some n) ∧ n < 256 ^ k ∧ Hid (wr.heap[w.heap.size + 1]? = some (.cells #[.int .i64 (n : Int)] 3 (0, 0))) ∧ Hid (Below (w.heap.size + 1) V0 wr)) (fun i _ => 4 - (intOf i).toNat)
    case atStart => exact ⟨0, rfl, by omega, 0, Lib.hid rfl, by decide, h1, Lib.hid (Below.refl _ _)⟩
    case round =>
      obtain ⟨k, rfl, hk, n, HF, hn, HH, HB⟩ := hrel
      by_cases hlt : k < 4
      · have hlt' : (k : Int) < 4 := by omega
        have hkx : k < xs.length := by omega
        have hck := hcell.out wr HB.out k hkx
        have hn3 : n < 16777216 := Nat.lt_of_lt_of_le hn (show 256 ^ k ≤ 256 ^ 3 from Nat.pow_le_pow_right (by decide) (by omega))
        have hst : (xs.take (k + 1)).foldl PM.fourStep (some 0) = PM.fourStep (some n) (xs[k]'hkx) := by
          rw [List.take_succ_eq_append_getElem hkx, List.foldl_append, HF.out]
          rfl
        have hall : xs.foldl PM.fourStep (some 0) = (xs.drop (k + 1)).foldl PM.fourStep ((xs.take (k + 1)).foldl PM.fourStep (some 0)) := by
          rw [← List.foldl_append, List.take_append_drop]
        have hxl := hx _ (List.getElem_mem hkx)
        rw [hst] at hall
        generalize xs[k]'hkx = x at hck hst hall hxl
        have hc0 : wr.cell? ⟨w.heap.size + 1, 0, none⟩ = some (.int .i64 (n : Int)) := by rw [Lib.cell_of_heap HH.out]; rfl
        have hf0 := Lib.frozen_of_heap HH.out 0
        have hP := Parse1_c x hxl (w.heap.size + 1) n (by omega) wr hc0 hf0
        have hhit := fourStep_hit (s := x) (n := n)
        have hmiss := fourStep_miss (s := x) (o := some n)
        have HST := Lib.hid hst
        have HALL := Lib.hid hall
        have hH2 : (wr.setCell ⟨w.heap.size + 1, 0, none⟩ (.int .i64 (four1 x n : Nat))).heap[w.heap.size + 1]? = some (.cells #[.int .i64 (four1 x n : Nat)] 3 (0, 0)) := setCell_heap HH.out _ _
        have hB2 : Below (w.heap.size + 1) V0 (wr.setCell ⟨w.heap.size + 1, 0, none⟩ (.int .i64 (four1 x n : Nat))) := HB.out.setCell (Nat.le_refl _) _
        have hsz : w.heap.size + 1 < wr.heap.size := h_lt HH.out
        have H2 := Lib.hid hH2
        have HB2 := Lib.hid hB2
        clear hst hall hH2 hB2
        cases hd : (PM.fourPart x).isSome
        · rw [hd] at hP
          have hm := hmiss hd
          have HP := Lib.hid hP
          have HM := Lib.hid hm
          clear hhit hmiss hd hP hm
          go_wp2_with fail
          refine HP.out.mono ?_
          rintro e w1 ⟨rfl, hb⟩
          go_wp2
          go_ret2
          refine ⟨?_, ?_⟩
          · have : fourV s = .tuple #[.int .i64 0, .bool false] := by
              rw [HV.out, if_pos h4, HALL.out, HM.out, fourStep_none]
            exact congrArg Ending.returned this.symm
          · exact hw.out.trans ((HB2.out.trans (hb.mono (by omega))).mono (by omega))
        · rw [hd] at hP
          obtain ⟨hm1, hm2⟩ := hhit hd
          have HP := Lib.hid hP
          have HM := Lib.hid hm1
          clear hhit hmiss hd hP hm1
          go_wp2_with fail
          refine HP.out.mono ?_
          rintro e w1 ⟨rfl, hb⟩
          go_wp2
          refine ⟨⟨k + 1, congrArg (Value.int .i64) (by omega), by omega, four1 x n, Lib.hid (by rw [HST.out, HM.out]), by rw [Nat.pow_succ]; omega, Lib.hid ((hb.block _ hsz).trans H2.out), Lib.hid (HB2.out.trans (hb.mono (by omega)))⟩, ?_⟩
          simp only [intOf]; omega
      · have hk4 : k = 4 := by omega
        subst hk4
        have hc0 : wr.cell? ⟨w.heap.size + 1, 0, none⟩ = some (.int .i64 (n : Int)) := by rw [Lib.cell_of_heap HH.out]; rfl
        go_wp2
        go_ret2
        refine ⟨?_, hw.out.trans (HB.out.mono (by omega))⟩
        have hF := HF.out
        rw [List.take_of_length_le (by omega)] at hF
        have : fourV s = .tuple #[.int .i64 (n : Int), .bool true] := by rw [HV.out, if_pos h4, hF]
        exact congrArg Ending.returned this.symm
  · have h4' : ((xs.length : Int) != 4) = true := by simp; omega
    go_enter Tryz.func177, Tryz.ntmps177
    go_wp2_with fail
    refine hsp.mono ?_
    rintro e w1 ⟨rfl, rfl⟩
    go_wp2
    go_ret2
    refine ⟨?_, b_alloc (Below.refl _ _) _⟩
    rw [HV.out, if_neg h4]
    rfl
end Go.Proofs.YtppbkblnjlbnfaaGreatDoor
/-! Contracts: ascii.Hex, six.split. -/
namespace Go.Proofs.YtppbkblnjlbnfaaGreatDoor
open Go.RowKit
def hexI (c : UInt8) : Int := match PM.hexv c with
  | some d => d
  | none => -1
theorem or_val (c : UInt8) (h : (65 ≤ c.toNat ∧ c.toNat ≤ 70) ∨ (97 ≤ c.toNat ∧ c.toNat ≤ 102)) : bits .or .u8 (c.toNat : Int) 32 = if c.toNat ≤ 70 then (c.toNat : Int) + 32 else (c.toNat : Int) := by
  have hh : (List.range 256).all (fun n => !((decide (65 ≤ n) && decide (n ≤ 70)) || (decide (97 ≤ n) && decide (n ≤ 102))) || decide (bits .or .u8 (n : Int) 32 = if n ≤ 70 then (n : Int) + 32 else (n : Int))) = true := by kernel_rfl
  have := all256 hh c
  simp only [Bool.or_eq_true, Bool.not_eq_true', Bool.or_eq_false_iff, Bool.and_eq_false_iff, decide_eq_false_iff_not, decide_eq_true_eq] at this
  rcases this with h' | h'
  · omega
  · exact h'
set_option maxRecDepth 100000 in
set_option maxHeartbeats 1000000 in
theorem Hex_c (c : UInt8) (w : World) : Calls Tryz.prog 205 #[.int .u8 (c.toNat : Int)] w fun e w' => e = .returned (.int .i64 (hexI c)) ∧ w' = w := by
  have hd := Digit_c c
  have hi := in_c (bits .or .u8 (c.toNat : Int) 32) 97 102 w
  rw [or_hex] at hi
  cases h1 : PM.isDigit c
  · rw [h1] at hd
    have HD := Lib.hid hd
    clear hd
    by_cases h2 : (65 ≤ c.toNat ∧ c.toNat ≤ 70) ∨ (97 ≤ c.toNat ∧ c.toNat ≤ 102)
    · have hv := or_val c h2
      have e1 : ((decide (65 ≤ c.toNat) && decide (c.toNat ≤ 70)) || (decide (97 ≤ c.toNat) && decide (c.toNat ≤ 102))) = true := by
        simp only [Bool.or_eq_true, Bool.and_eq_true, decide_eq_true_eq]
        exact h2
      rw [e1] at hi
      have hx : ∃ d : Int, hexI c = d ∧ bits .or .u8 (c.toNat : Int) 32 = d + 87 ∧ 10 ≤ d ∧ d ≤ 15 := by
        rcases h2 with h2 | h2
        · have e2 : hexI c = ((c.toNat - 55 : Nat) : Int) := by
            unfold hexI PM.hexv
            rw [h1, if_neg (by simp), if_pos (by simp [h2])]
          rw [if_pos h2.2] at hv
          exact ⟨_, e2, by rw [hv]; omega, by omega, by omega⟩
        · have e2 : hexI c = ((c.toNat - 87 : Nat) : Int) := by
            unfold hexI PM.hexv
            rw [h1, if_neg (by simp), if_neg (by simp; omega), if_pos (by simp [h2])]
          rw [if_neg (by omega)] at hv
          exact ⟨_, e2, by rw [hv]; omega, by omega, by omega⟩
      obtain ⟨d, hd1, hd2, hd3, hd4⟩ := hx
      rw [hd2] at hi
      have HI := Lib.hid hi
      have H1 := Lib.hid hd1
      have hc65 : (65 : Int) ≤ c.toNat := by omega
      clear hi hd1 h1 h2 hv e1
      go_enter Tryz.func205, Tryz.ntmps205
      go_wp2_with fail
      refine (HD.out _).mono ?_
      rintro e w1 ⟨rfl, rfl⟩
      go_wp2_with fail
      refine HI.out.mono ?_
      rintro e w1 ⟨rfl, rfl⟩
      go_wp2
      go_ret
      exact ⟨ret_int (by rw [H1.out]; omega), rfl⟩
    · have e1 : ((decide (65 ≤ c.toNat) && decide (c.toNat ≤ 70)) || (decide (97 ≤ c.toNat) && decide (c.toNat ≤ 102))) = false := by
        rw [Bool.eq_false_iff]
        simp only [ne_eq, Bool.or_eq_true, Bool.and_eq_true, decide_eq_true_eq]
        exact h2
      rw [e1] at hi
      have hn : hexI c = -1 := by
        unfold hexI PM.hexv
        rw [h1, if_neg (by simp), if_neg (by simp; omega), if_neg (by simp; omega)]
      have HI := Lib.hid hi
      have HN := Lib.hid hn
      clear hi h1 h2 e1 hn
      go_enter Tryz.func205, Tryz.ntmps205
      go_wp2_with fail
      refine (HD.out _).mono ?_
      rintro e w1 ⟨rfl, rfl⟩
      go_wp2_with fail
      refine HI.out.mono ?_
      rintro e w1 ⟨rfl, rfl⟩
      go_wp2
      go_ret
      exact ⟨ret_int HN.out.symm, rfl⟩
  · rw [h1] at hd
    have hr : (48 : Int) ≤ c.toNat ∧ (c.toNat : Int) ≤ 57 := by
      unfold PM.isDigit at h1
      simp at h1
      omega
    have hn : hexI c = (c.toNat : Int) - 48 := by
      unfold hexI PM.hexv
      rw [h1, if_pos rfl]
      dsimp only
      omega
    have HD := Lib.hid hd
    have HN := Lib.hid hn
    obtain ⟨hr1, hr2⟩ := hr
    clear hd hi h1 hn
    go_enter Tryz.func205, Tryz.ntmps205
    go_wp2_with fail
    refine (HD.out _).mono ?_
    rintro e w1 ⟨rfl, rfl⟩
    go_wp2
    go_ret
    exact ⟨ret_int HN.out.symm, rfl⟩
theorem hexv_le {c : UInt8} {d : Nat} (h : PM.hexv c = some d) : d ≤ 15 := by
  unfold PM.hexv at h
  split at h
  · rename_i h1
    unfold PM.isDigit at h1
    simp at h h1
    omega
  · split at h
    · rename_i h1
      simp at h h1
      omega
    · split at h
      · rename_i h1
        simp at h h1
        omega
      · simp at h
theorem pieces_none {x : List UInt8} (h : PM.piece x = none) : ∀ l : List (List UInt8), x ∈ l → PM.pieces l = none := by
  intro l
  induction l with
  | nil => intro hx; simp at hx
  | cons y r ih =>
    intro hx
    unfold PM.pieces
    rcases List.mem_cons.1 hx with rfl | hx
    · rw [h]
    · rw [ih hx]
      cases PM.piece y <;> rfl
theorem pieces_snoc {a : List (List UInt8)} {l : List Int} {x : List UInt8} {n : Nat} (ha : PM.pieces a = some l) (hx : PM.piece x = some n) : PM.pieces (a ++ [x]) = some (l ++ [(n : Int)]) := by
  induction a generalizing l with
  | nil =>
    simp only [PM.pieces, Option.some.injEq] at ha
    subst ha
    simp [PM.pieces, hx]
  | cons y r ih =>
    rw [List.cons_append, PM.pieces]
    rw [PM.pieces] at ha
    cases hy : PM.piece y with
    | none => rw [hy] at ha; simp at ha
    | some m =>
      cases hr : PM.pieces r with
      | none => rw [hy, hr] at ha; simp at ha
      | some t =>
        rw [hy, hr] at ha
        rw [ih hr]
        simp at ha ⊢
        rw [← ha]
        rfl
theorem pieceFold_none (l : List UInt8) : l.foldl PM.pieceStep none = none := by
  induction l with
  | nil => rfl
  | cons x r ih => exact ih
theorem piece_bad {x : List UInt8} {j : Nat} (h : (x.take j).foldl PM.pieceStep (some 0) = none) : PM.piece x = none := by
  unfold PM.piece
  split
  · rfl
  · rw [← List.take_append_drop j x, List.foldl_append, h, pieceFold_none]
theorem piece_long {x : List UInt8} (h : 4 < x.length) : PM.piece x = none := by
  unfold PM.piece
  rw [if_pos (.inr h)]
theorem infoInt : (Tryz.prog.info? 3).map (fun i => (i.zero, i.size, i.bytes)) = some (some (.int .i64 0), 1, 8) := by kernel_rfl
def intsL (l : List Int) : List Value := l.map (Value.int .i64)
/-- What six.split hands back. -/
def SixPost (w : World) (o : Option (List Int)) (e : Ending) (w' : World) : Prop := Below w.heap.size w w' ∧ ∃ v, (match o with
      | some l => e = .returned (.tuple #[v, .bool true]) ∧ w'.ownsRow w.heap.size 3 1 v l.length (intsL l)
      | none => e = .returned (.tuple #[v, .bool false]) ∧ v = .slice none 0 0)
theorem SixPost.bad {w w' : World} {o : Option (List Int)} (h : o = none) (hb : Below w.heap.size w w') : SixPost w o (.returned (.tuple #[.slice none 0 0, .bool false])) w' := by
  subst h
  exact ⟨hb, _, rfl, rfl⟩
theorem SixPost.good {w w' : World} {o : Option (List Int)} {l : List Int} {v : Value} (h : o = some l) (hb : Below w.heap.size w w') (ho : w'.ownsRow w.heap.size 3 1 v l.length (intsL l)) : SixPost w o (.returned (.tuple #[v, .bool true])) w' := by
  subst h
  exact ⟨hb, v, rfl, ho⟩
theorem ownsRow_mono {W : World} {B B' : Nat} {e : TypeId} {sz : Nat} {v : Value} {n : Nat} {xs : List Value} (h : W.ownsRow B e sz v n xs) (hB : B' ≤ B) : W.ownsRow B' e sz v n xs := by
  refine ⟨h.1, ?_⟩
  rcases h.2 with h | ⟨g, cap, cur, h1, h2, h3⟩
  · exact .inl h
  · exact .inr ⟨g, cap, cur, h1, Nat.le_trans hB h2, h3⟩
set_option maxRecDepth 100000 in
set_option maxHeartbeats 2000000 in
theorem SixSplit_c (s : List UInt8) (hs : s.length ≤ 1000000) (w : World) (hg : Gl w) : Calls Tryz.prog 192 #[.string (mkS s)] w fun e w' => SixPost w (PM.sixSplit s) e w' := by
  by_cases hne : s = []
  · subst hne
    go_enter Tryz.func192, Tryz.ntmps192
    go_wp2
    go_ret2
    exact SixPost.good (l := []) rfl (Below.refl _ _) (World.ownsRow_nil _ _ _ _)
  · have hsp := Split_c s 58 ⟨#[58]⟩ rfl (by omega) w hg
    have hv : PM.sixSplit s = PM.pieces (PM.splitB 58 s) := by unfold PM.sixSplit; rw [if_neg hne]
    have hne' : s.isEmpty = false := by simpa using hne
    have hlen := (splitB_len 58 s).1
    have hx : ∀ x ∈ PM.splitB 58 s, x.length ≤ 1000000 := fun x h => Nat.le_trans ((splitB_len 58 s).2 x h) hs
    have hsz : Hid ((w.alloc (.cells (strs (PM.splitB 58 s)).toArray 9)).heap.size = w.heap.size + 1) := World.size_alloc _ _
    have hcl : Hid ((w.alloc (.cells (strs (PM.splitB 58 s)).toArray 9)).heap[w.heap.size]? = some (.cells (strs (PM.splitB 58 s)).toArray 9 (0, 0))) := Go.heap_alloc_new _ _
    have hbw : Hid (Below w.heap.size w (w.alloc (.cells (strs (PM.splitB 58 s)).toArray 9))) := by exact b_alloc (Below.refl _ _) _
    generalize PM.splitB 58 s = xs at hsp hv hx hsz hcl hbw hlen
    have HV := Lib.hid hv
    obtain ⟨i0, hi, hz0, hz1, hz2⟩ := info_parts infoInt
    have hnone : ∀ k (hk : k < xs.length), PM.piece (xs[k]'hk) = none → PM.sixSplit s = none := fun k hk h => by
      rw [HV.out]
      exact pieces_none h _ (List.getElem_mem hk)
    have HN := Lib.hid hnone
    clear hv hne hnone
    go_enter Tryz.func192, Tryz.ntmps192
    go_wp2_with fail
    refine hsp.mono ?_
    rintro e w1 ⟨rfl, rfl⟩
    clear hsp hg
    generalize w.alloc (.cells (strs xs).toArray 9) = V0 at hsz hcl hbw ⊢
    go_wp2
    go_loopw [4, 15] (fun v i wr => ∃ k : Nat, i = .int .i64 k ∧ k ≤ xs.length ∧ ∃ l : List Int, Hid (PM.pieces (xs.take k) = some l) ∧ Hid (wr.ownsRow V0.heap.size 3 1 v k (intsL l)) ∧ l.length = k ∧ Hid (Below V0.heap.size V0 wr)) (fun _ i _ => xs.length - (intOf i).toNat)
    case atStart => exact ⟨0, rfl, by omega, [], Lib.hid rfl, Lib.hid (World.ownsRow_nil _ _ _ _), rfl, Lib.hid (Below.refl _ _)⟩
    case round =>
      obtain ⟨k, rfl, hk, l, HP, hown, hll, HB⟩ := hrel
      by_cases hlt : k < xs.length
      · have hlt' : (k : Int) < xs.length := by omega
        have hck : wr.cell? ⟨w.heap.size, k, none⟩ = some (.string (mkS (xs[k]'hlt))) := by
          rw [Lib.cell_of_heap ((HB.out.block _ (by rw [hsz.out]; omega)).trans hcl.out)]
          simp [strs, hlt]
        have hN := HN.out k hlt
        have hxl := hx _ (List.getElem_mem hlt)
        have htk : xs.take (k + 1) = xs.take k ++ [xs[k]'hlt] := List.take_succ_eq_append_getElem hlt
        generalize xs[k]'hlt = x at hck hN hxl htk
        have HNx := Lib.hid hN
        have HTK := Lib.hid htk
        clear hN htk
        have hxp : PM.piece x = if x.length = 0 ∨ 4 < x.length then none else x.foldl PM.pieceStep (some 0) := rfl
        have HXP := Lib.hid hxp
        clear hxp
        go_wp2
        go_loop [7, 21] (fun n i => ∃ j : Nat, i = .int .i64 j ∧ j ≤ x.length ∧ ∃ m : Nat, n = .int .i64 m ∧ Hid ((x.take j).foldl PM.pieceStep (some 0) = some m) ∧ m < 16 ^ j ∧ m ≤ 65535) (fun _ i => x.length - (intOf i).toNat)
        case atStart => exact ⟨0, rfl, by omega, 0, rfl, Lib.hid rfl, by decide, by omega⟩
        case round =>
          obtain ⟨j, rfl, hj, m, rfl, HF, hm, hm2⟩ := hrel
          by_cases hjl : j < x.length
          · have hjl' : (j : Int) < x.length := by omega
            have hst : (x.take (j + 1)).foldl PM.pieceStep (some 0) = PM.pieceStep (some m) (x[j]'hjl) := by
              rw [List.take_succ_eq_append_getElem hjl, List.foldl_append, HF.out]
              rfl
            have hH := Hex_c (x[j]'hjl) wr
            cases hv : PM.hexv (x[j]'hjl) with
            | none =>
              have e1 : hexI (x[j]'hjl) = -1 := by unfold hexI; rw [hv]
              have e2 : PM.pieceStep (some m) (x[j]'hjl) = none := by unfold PM.pieceStep; rw [hv]
              rw [e1] at hH
              rw [e2] at hst
              have hbad := HNx.out (piece_bad hst)
              have HH := Lib.hid hH
              have HBAD := Lib.hid hbad
              clear e1 e2 hst hH hbad hv
              go_wp2_with fail
              refine HH.out.mono ?_
              rintro e w1 ⟨rfl, rfl⟩
              go_wp2
              go_ret2
              exact SixPost.bad HBAD.out (b_then hbw.out HB.out)
            | some d =>
              have e1 : hexI (x[j]'hjl) = (d : Int) := by unfold hexI; rw [hv]
              have e2 : PM.pieceStep (some m) (x[j]'hjl) = some (16 * m + d) := by unfold PM.pieceStep; rw [hv]
              have hd : d ≤ 15 := hexv_le hv
              rw [e1] at hH
              rw [e2] at hst
              have HH := Lib.hid hH
              have HST := Lib.hid hst
              clear e1 e2 hst hH hv
              by_cases hbig : 16 * m + d ≤ 65535
              · have hb' : ¬ ((65535 : Int) < (m : Int) * 16 + (d : Int)) := by omega
                have hd0 : ¬ ((d : Int) < 0) := by omega
                go_wp2_with fail
                refine HH.out.mono ?_
                rintro e w1 ⟨rfl, rfl⟩
                go_wp2
                refine ⟨⟨j + 1, congrArg (Value.int .i64) (by omega), by omega, 16 * m + d, congrArg (Value.int .i64) (by omega), HST, by rw [Nat.pow_succ]; omega, hbig⟩, ?_⟩
                simp only [intOf]; omega
              · have hb' : ((65535 : Int) < (m : Int) * 16 + (d : Int)) := by omega
                have hd0 : ¬ ((d : Int) < 0) := by omega
                have hlong : 4 < x.length := by
                  rcases Nat.lt_or_ge 4 x.length with h | h
                  · exact h
                  · have h1 : 16 ^ j ≤ 16 ^ 3 := Nat.pow_le_pow_right (by decide) (by omega)
                    have h2 : (16 : Nat) ^ 3 = 4096 := by decide
                    omega
                have HBAD := Lib.hid (HNx.out (piece_long hlong))
                clear hlong
                go_wp2_with fail
                refine HH.out.mono ?_
                rintro e w1 ⟨rfl, rfl⟩
                go_wp2
                go_ret2
                exact SixPost.bad HBAD.out (b_then hbw.out HB.out)
          · have hjx : j = x.length := by omega
            subst hjx
            rw [List.take_length] at HF
            by_cases h0 : x.length = 0
            · have he : x.isEmpty = true := by simpa using List.eq_nil_of_length_eq_zero h0
              have HBAD := Lib.hid (HNx.out (by rw [HXP.out, if_pos (.inl h0)]))
              clear h0
              go_wp2
              go_ret2
              exact SixPost.bad HBAD.out (b_then hbw.out HB.out)
            · have he : x.isEmpty = false := by
                cases x with
                | nil => simp at h0
                | cons _ _ => rfl
              by_cases h4 : 4 < x.length
              · have h4' : (4 : Int) < x.length := by omega
                have HBAD := Lib.hid (HNx.out (piece_long h4))
                go_wp2
                go_ret2
                exact SixPost.bad HBAD.out (b_then hbw.out HB.out)
              · have h4' : ¬ (4 : Int) < x.length := by omega
                have hpx : PM.piece x = some m := by rw [HXP.out, if_neg (by omega)]; exact HF.out
                have hnew := pieces_snoc HP.out hpx
                rw [← HTK.out] at hnew
                have HNEW := Lib.hid hnew
                have hkb : k ≤ 1000001 := by omega
                clear hnew hpx
                go_wp2_with (at_builtin; refine wpList_append_own_at _ rfl _ _ 223 rfl V0.heap.size 3 i0 (.int .i64 0) 1 8 Tryz.underlying223 hi hz0 hz1 hz2 rfl (by decide) _ _ _ rfl (own_alloc hown.out _) ⟨wr.heap.size, 0, none⟩ 1 1 [.int .i64 (m : Int)] rfl rfl (cell_one_new _ _ _) ?c2 ?c3 ?c4 ?c5 ?_)
                case c2 => first | rfl | (intro u hu; simp at hu; subst hu; rfl)
                case c3 => unfold maxLen; omega
                case c4 => omega
                case c5 => have := HB.out.size; simp; omega
                intro v' w3 hown' hgrow _ hat
                have hb3 : Below V0.heap.size V0 w3 := (b_alloc HB.out _).grown hgrow (by have := HB.out.size; simp; omega) (fun k hk => (hown.out.lt k hk).1)
                have hown3 : Hid (w3.ownsRow V0.heap.size 3 1 v' (k + 1) (intsL (l ++ [(m : Int)]))) := by
                  have e : intsL (l ++ [(m : Int)]) = intsL l ++ [.int .i64 (m : Int)] := by unfold intsL; simp
                  unfold Hid
                  rw [e]
                  exact hown'
                have HB3 := Lib.hid hb3
                clear hown' hgrow hat hb3
                go_wp2
                refine ⟨⟨k + 1, congrArg (Value.int .i64) (by omega), by omega, l ++ [(m : Int)], HNEW, hown3, by simp [hll], HB3⟩, ?_⟩
                simp only [intOf]; omega
      · have hk' : k = xs.length := by omega
        subst hk'
        rw [List.take_length] at HP
        go_wp2
        go_ret2
        refine SixPost.good (l := l) (by rw [HV.out]; exact HP.out) (b_then hbw.out HB.out) ?_
        rw [hll]
        exact ownsRow_mono hown.out (by rw [hsz.out]; omega)
end Go.Proofs.YtppbkblnjlbnfaaGreatDoor
