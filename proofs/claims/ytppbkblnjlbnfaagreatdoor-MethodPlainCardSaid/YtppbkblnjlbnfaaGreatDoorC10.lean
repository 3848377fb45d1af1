import Derived.Test.YtppbkblnjlbnfaaGreatDoorC8
import Derived.ChangeKeysEq
set_option linter.unusedVariables false
set_option linter.unusedSimpArgs false
/-! Contracts: package six. -/
namespace Go.Proofs.YtppbkblnjlbnfaaGreatDoor
open Go.RowKit
theorem hexl_slice (k : Nat) (hk : k < 16) : ({ data := #[48, 49, 50, 51, 52, 53, 54, 55, 56, 57, 97, 98, 99, 100, 101, 102] } : ByteArray).extract k (k + 1) = mkS [PM.hexl k] := by
  apply ByteArray.ext
  rw [ByteArray.data_extract]
  unfold mkS PM.hexl
  match k, hk with
  | 0, _ => rfl
  | 1, _ => rfl
  | 2, _ => rfl
  | 3, _ => rfl
  | 4, _ => rfl
  | 5, _ => rfl
  | 6, _ => rfl
  | 7, _ => rfl
  | 8, _ => rfl
  | 9, _ => rfl
  | 10, _ => rfl
  | 11, _ => rfl
  | 12, _ => rfl
  | 13, _ => rfl
  | 14, _ => rfl
  | 15, _ => rfl
  | n + 16, h => exact absurd h (by omega)
theorem hexs_len (n : Nat) : ∀ f, n < 16 ^ (f + 1) → (PM.hexs n).length ≤ f + 1 := by
  induction n using Nat.strongRecOn with
  | ind n ih =>
    intro f hf
    by_cases h : n > 15
    · rw [PM.hexs_big n h]
      rcases f with _ | f
      · simp at hf; omega
      · have := ih (n / 16) (by omega) f (by rw [Nat.pow_succ] at hf; omega)
        simp; omega
    · rw [PM.hexs_small n h]; simp
theorem text_c (n : Nat) : n ≤ 65535 → ∀ w : World, Calls Tryz.prog 247 #[.int .i64 (n : Int)] w fun e w' => e = .returned (.string (mkS (PM.hexs n))) ∧ w' = w := by
  induction n using Nat.strongRecOn with
  | ind n ih =>
  intro hn w
  have hb : bits .and .i64 (n : Int) 15 = ((n % 16 : Nat) : Int) := by
    have := bits_low (n : Int) 4 (by omega)
    rw [show ((2 ^ 4 - 1 : Nat) : Int) = 15 by rfl] at this
    rw [this]
    rfl
  have h16 : n % 16 < 16 := by omega
  have h16' : ((n % 16 : Nat) : Int) < 16 := by omega
  have hs := hexl_slice (n % 16) h16
  by_cases h : n > 15
  · have h' : 15 < (n : Int) := by omega
    rw [PM.hexs_big n h]
    have hlen := hexs_len (n / 16) 3 (by show _ < 65536; omega)
    have IH := Lib.hid (ih (n / 16) (by omega) (by omega) w)
    clear ih
    go_enter Tryz.func247, Tryz.ntmps247
    go_wp2_with fail
    rw [hs]
    refine IH.out.mono ?_
    rintro e w1 ⟨rfl, rfl⟩
    go_wp2
    go_ret
    exact ⟨rfl, rfl⟩
  · have h' : (n : Int) ≤ 15 := by omega
    rw [PM.hexs_small n h]
    clear ih
    go_enter Tryz.func247, Tryz.ntmps247
    go_wp2
    rw [hs]
    go_ret
    exact ⟨rfl, rfl⟩
/-- A slice of numbers that is read. -/
structure RdI (w : World) (a : Option Addr) (n : Nat) (xs : List Int) : Prop where
  len : xs.length = n
  at_ : xs = [] ∨ ∃ b o, a = some ⟨b, o, none⟩ ∧ b < w.heap.size ∧ ∀ j (h : j < xs.length), w.cell? ⟨b, o + j, none⟩ = some (.int .i64 (xs[j]'h))
theorem RdI.below {w W : World} {a : Option Addr} {n : Nat} {xs : List Int} (h : RdI w a n xs) (hb : Below w.heap.size w W) : RdI W a n xs :=
  ⟨h.len, h.at_.imp id fun ⟨b, o, e, hlt, hc⟩ => ⟨b, o, e, Nat.lt_of_lt_of_le hlt hb.size, fun j hj => cell_b hb (hc j hj)⟩⟩
set_option maxHeartbeats 1000000 in
theorem sixJoin_c (xs : List Int) (hx : ∀ x ∈ xs, 0 ≤ x ∧ x ≤ 65535) (hl : xs.length ≤ 1000) (a : Option Addr) (n c : Nat) (w : World) (h : RdI w a n xs) :
    Calls Tryz.prog 246 #[.slice a n c] w fun e w' => e = .returned (.string (mkS (PM.sixJoin xs))) ∧ Below w.heap.size w w' := by
  obtain ⟨i0, hi, hz0, hz1, hz2⟩ := info_parts infoText
  have hlen := h.len
  subst hlen
  have HX := Lib.hid hx
  clear hx
  go_enter Tryz.func246, Tryz.ntmps246
  go_wp2
  go_loopw [3, 8] (fun v i wr => ∃ k : Nat, i = .int .i64 k ∧ k ≤ xs.length ∧ Hid (wr.ownsRow w.heap.size 9 1 v k (strs ((xs.map fun n => PM.hexs n.toNat).take k))) ∧ Below w.heap.size w wr) (fun _ i _ => xs.length - (intOf i).toNat)
  case atStart => exact ⟨0, rfl, by omega, Lib.hid (World.ownsRow_nil _ _ _ _), Below.refl _ _⟩
  case round =>
    obtain ⟨k, rfl, hk4, hown, hb⟩ := hrel
    by_cases hk : k < xs.length
    · have hk' : (k : Int) < xs.length := by omega
      obtain ⟨b, o, rfl, hblt, hc⟩ : ∃ b o, a = some ⟨b, o, none⟩ ∧ b < w.heap.size ∧ ∀ j (h : j < xs.length), w.cell? ⟨b, o + j, none⟩ = some (.int .i64 (xs[j]'h)) := by
        rcases h.at_ with rfl | h
        · simp at hk
        · exact h
      have hck := cell_b hb (hc k hk)
      have hr := HX.out xs[k] (List.getElem_mem hk)
      obtain ⟨m, hm⟩ : ∃ m : Nat, xs[k] = (m : Int) := ⟨xs[k].toNat, by omega⟩
      have htk : (xs.map fun n => PM.hexs n.toNat).take (k + 1) = (xs.map fun n => PM.hexs n.toNat).take k ++ [PM.hexs m] := by
        rw [List.take_succ_eq_append_getElem (by simpa using hk), List.getElem_map, hm]; rfl
      rw [hm] at hck hr
      have HT := Lib.hid htk
      clear htk hm hc h
      go_wp2_with fail
      refine (text_c m (by omega) _).mono ?_
      rintro e w1 ⟨rfl, rfl⟩
      go_wp2_with (at_builtin; refine wpList_append_own_at _ rfl _ _ 25 rfl w.heap.size 9 i0 (.string ⟨#[]⟩) 1 16 Tryz.underlying25 hi hz0 hz1 hz2 rfl (by decide) _ _ _ rfl (own_alloc hown.out _) ⟨w1.heap.size, 0, none⟩ 1 1 [.string (mkS (PM.hexs m))] rfl rfl (cell_one_new _ _ _) ?c2 ?c3 ?c4 ?c5 ?_)
      case c2 => intro u hu; simp at hu; subst hu; rfl
      case c3 => unfold maxLen; omega
      case c4 => omega
      case c5 => have := hb.size; simp; omega
      intro v' w3 hown' hgrow _ hat
      rw [strs_snoc, ← HT.out] at hown'
      have hb3 : Below w.heap.size w w3 := (b_alloc hb _).grown hgrow (by have := hb.size; simp; omega) (fun k hk => (hown.out.lt k hk).1)
      have hown3 := Lib.hid hown'
      clear hown' hgrow hat
      go_wp2
      refine ⟨⟨k + 1, congrArg (Value.int .i64) (by omega), by omega, hown3, hb3⟩, ?_⟩
      simp only [intOf]; omega
    · have hk' : k = xs.length := by omega
      subst hk'
      rw [List.take_of_length_le (by simp)] at hown
      go_wp2_with fail
      refine (own_join _ xs.length (by simp) [58] w.heap.size _ _ hown.out (by omega) ?_ (by simp)).mono ?_
      · intro l hl
        obtain ⟨x, hx, rfl⟩ := List.mem_map.1 hl
        have := HX.out x hx
        exact Nat.le_trans (hexs_len _ 3 (by show _ < 65536; omega)) (by decide)
      rintro e w1 ⟨rfl, hb1⟩
      go_wp2
      go_ret
      exact ⟨rfl, b_then hb hb1⟩
theorem bits16 (n : Int) : bits .and .i64 n 65535 = n % 65536 := by
  have := bits_low n 16 (by omega)
  rwa [show ((2 ^ 16 - 1 : Nat) : Int) = 65535 by rfl, show ((2 ^ 16 : Nat) : Int) = 65536 by rfl] at this
/-- Numbers as values. -/
def ints (xs : List Int) : Array Value := (xs.map (Value.int .i64)).toArray
@[go_sem] theorem idx8_0 (p0 p1 p2 p3 p4 p5 p6 p7 : Int) (w : World) : (Instr.index 22 (.agg #[.int .i64 p0, .int .i64 p1, .int .i64 p2, .int .i64 p3, .int .i64 p4, .int .i64 p5, .int .i64 p6, .int .i64 p7]) (.int .i64 0)).run Tryz.prog w = .ok (.int .i64 p0) w := by kernel_rfl
@[go_sem] theorem idx8_1 (p0 p1 p2 p3 p4 p5 p6 p7 : Int) (w : World) : (Instr.index 22 (.agg #[.int .i64 p0, .int .i64 p1, .int .i64 p2, .int .i64 p3, .int .i64 p4, .int .i64 p5, .int .i64 p6, .int .i64 p7]) (.int .i64 1)).run Tryz.prog w = .ok (.int .i64 p1) w := by kernel_rfl
@[go_sem] theorem idx8_2 (p0 p1 p2 p3 p4 p5 p6 p7 : Int) (w : World) : (Instr.index 22 (.agg #[.int .i64 p0, .int .i64 p1, .int .i64 p2, .int .i64 p3, .int .i64 p4, .int .i64 p5, .int .i64 p6, .int .i64 p7]) (.int .i64 2)).run Tryz.prog w = .ok (.int .i64 p2) w := by kernel_rfl
@[go_sem] theorem idx8_3 (p0 p1 p2 p3 p4 p5 p6 p7 : Int) (w : World) : (Instr.index 22 (.agg #[.int .i64 p0, .int .i64 p1, .int .i64 p2, .int .i64 p3, .int .i64 p4, .int .i64 p5, .int .i64 p6, .int .i64 p7]) (.int .i64 3)).run Tryz.prog w = .ok (.int .i64 p3) w := by kernel_rfl
@[go_sem] theorem idx8_4 (p0 p1 p2 p3 p4 p5 p6 p7 : Int) (w : World) : (Instr.index 22 (.agg #[.int .i64 p0, .int .i64 p1, .int .i64 p2, .int .i64 p3, .int .i64 p4, .int .i64 p5, .int .i64 p6, .int .i64 p7]) (.int .i64 4)).run Tryz.prog w = .ok (.int .i64 p4) w := by kernel_rfl
@[go_sem] theorem idx8_5 (p0 p1 p2 p3 p4 p5 p6 p7 : Int) (w : World) : (Instr.index 22 (.agg #[.int .i64 p0, .int .i64 p1, .int .i64 p2, .int .i64 p3, .int .i64 p4, .int .i64 p5, .int .i64 p6, .int .i64 p7]) (.int .i64 5)).run Tryz.prog w = .ok (.int .i64 p5) w := by kernel_rfl
@[go_sem] theorem idx8_6 (p0 p1 p2 p3 p4 p5 p6 p7 : Int) (w : World) : (Instr.index 22 (.agg #[.int .i64 p0, .int .i64 p1, .int .i64 p2, .int .i64 p3, .int .i64 p4, .int .i64 p5, .int .i64 p6, .int .i64 p7]) (.int .i64 6)).run Tryz.prog w = .ok (.int .i64 p6) w := by kernel_rfl
@[go_sem] theorem idx8_7 (p0 p1 p2 p3 p4 p5 p6 p7 : Int) (w : World) : (Instr.index 22 (.agg #[.int .i64 p0, .int .i64 p1, .int .i64 p2, .int .i64 p3, .int .i64 p4, .int .i64 p5, .int .i64 p6, .int .i64 p7]) (.int .i64 7)).run Tryz.prog w = .ok (.int .i64 p7) w := by kernel_rfl
theorem plain_int : Tryz.prog.plainKey 3 = true := by kernel_rfl
theorem cells_int : Tryz.prog.cellsOf 3 = 1 := by kernel_rfl
theorem eq_items (d : Nat) (w : World) (xs ys : List Int) (h : xs.length = ys.length) : ∀ m k, k + m = xs.length →
    (Op.eqItems (d + 1) 3 (Tryz.prog.cellsOf 3) (ints xs) (ints ys) (List.range' k m)).run Tryz.prog w = .ok (decide (xs.drop k = ys.drop k)) w := by
  intro m
  induction m with
  | zero =>
    intro k hk
    rw [List.drop_of_length_le (by omega), List.drop_of_length_le (by omega)]
    simp [Op.eqItems]
  | succ m ih =>
    intro k hk
    have hx : (ints xs)[k * 1]? = some (.int .i64 (xs[k]'(by omega))) := by simp [ints, List.getElem?_eq_getElem (show k < xs.length by omega)]
    have hy : (ints ys)[k * 1]? = some (.int .i64 (ys[k]'(by omega))) := by simp [ints, List.getElem?_eq_getElem (show k < ys.length by omega)]
    rw [List.range'_succ, Op.eqItems, cells_int]
    simp only [Sem.run_bind, run_part_plain w plain_int hx, run_part_plain w plain_int hy, Result.andThen_ok, run_equalIn_int w d 3 .i64 .i64 _ _ Tryz.underlying3]
    have IH := ih (k + 1) (by omega)
    rw [cells_int] at IH
    rw [List.drop_eq_getElem_cons (show k < xs.length by omega), List.drop_eq_getElem_cons (show k < ys.length by omega)]
    by_cases e : xs[k]'(by omega) = ys[k]'(by omega)
    · simp only [e, beq_self_eq_true, Bool.not_true, Bool.false_eq_true, if_false, IH, List.cons.injEq, true_and]
    · have hb : (xs[k]'(by omega) == ys[k]'(by omega)) = false := by simpa using e
      simp only [hb, Bool.not_false, if_true, Sem.run_pure, List.cons.injEq, e, false_and, decide_false]
theorem info_int : ∃ i, Tryz.prog.info? 3 = some i := by
  cases h : Tryz.prog.info? 3 with
  | none => have : (Tryz.prog.info? 3).isSome = true := by kernel_rfl
            rw [h] at this; cases this
  | some i => exact ⟨i, rfl⟩
theorem eq_arr8 (d : Nat) (w : World) (xs ys : List Int) (hx : xs.length = 8) (hy : ys.length = 8) : (Op.equalIn (d + 2) 22 (.agg (ints xs)) (.agg (ints ys))).run Tryz.prog w = .ok (decide (xs = ys)) w := by
  obtain ⟨i, hi⟩ := info_int
  rw [run_equalIn_array w (d + 1) (ints xs) (ints ys) Tryz.underlying22 hi, List.range_eq_range']
  have := eq_items d w xs ys (by omega) 8 0 (by omega)
  simpa using this
@[go_sem] theorem alen8 : Tryz.prog.arrayLen 22 = 8 := by kernel_rfl
@[go_sem] theorem aelem8 : Tryz.prog.elem 22 = 3 := by kernel_rfl
/-- What own is behind k rounds. -/
def ownAt (P : List Int) (k j : Nat) : Int := if j < k then P.getD j 0 % 65536 else 0
set_option maxRecDepth 100000 in
set_option maxHeartbeats 2000000 in
theorem sixMay_c (p0 p1 p2 p3 p4 p5 p6 p7 : Int) (w : World) :
    Calls Tryz.prog 142 #[.agg #[.int .i64 p0, .int .i64 p1, .int .i64 p2, .int .i64 p3, .int .i64 p4, .int .i64 p5, .int .i64 p6, .int .i64 p7]] w fun e w' => e = .returned (.bool (PM.sixMay [p0, p1, p2, p3, p4, p5, p6, p7])) ∧ Below w.heap.size w w' := by
  go_enter Tryz.func142, Tryz.ntmps142
  go_wp2
  go_loopw [7] (fun i wr => ∃ k : Nat, i = .int .i64 k ∧ k ≤ 8 ∧ Hid (∀ j, j < 8 → wr.cell? ⟨w.heap.size, j, none⟩ = some (.int .i64 ([p0, p1, p2, p3, p4, p5, p6, p7].getD j 0))) ∧ Hid (∀ j, j < 8 → wr.cell? ⟨w.heap.size + 1, j, none⟩ = some (.int .i64 (ownAt [p0, p1, p2, p3, p4, p5, p6, p7] k j))) ∧ Hid (∀ j, wr.frozen? ⟨w.heap.size + 1, j, none⟩ = false) ∧ Below w.heap.size w wr) (fun i _ => 8 - (intOf i).toNat)
  case atStart =>
    refine ⟨0, rfl, by omega, Lib.hid ?_, Lib.hid ?_, Lib.hid ?_, by (repeat (first | exact Below.refl _ _ | apply b_alloc | apply b_drew | apply b_drewN | assumption | (refine b_then ?_ (by assumption))))⟩
    · intro j hj
      match j, hj with
      | 0, _ => go_simp
      | 1, _ => go_simp
      | 2, _ => go_simp
      | 3, _ => go_simp
      | 4, _ => go_simp
      | 5, _ => go_simp
      | 6, _ => go_simp
      | 7, _ => go_simp
    · intro j hj
      match j, hj with
      | 0, _ => go_simp; rfl
      | 1, _ => go_simp; rfl
      | 2, _ => go_simp; rfl
      | 3, _ => go_simp; rfl
      | 4, _ => go_simp; rfl
      | 5, _ => go_simp; rfl
      | 6, _ => go_simp; rfl
      | 7, _ => go_simp; rfl
    · intro j
      go_simp
  case round =>
    obtain ⟨k, rfl, hk, hP, hO, hF, hb⟩ := hrel
    by_cases hk8 : k < 8
    · have key : ∀ (v : Int), v = [p0, p1, p2, p3, p4, p5, p6, p7].getD k 0 → ∀ W : World, W = wr.setCell ⟨w.heap.size + 1, k, none⟩ (.int .i64 (bits .and .i64 v 65535)) → (∀ j, j < 8 → W.cell? ⟨w.heap.size, j, none⟩ = some (.int .i64 ([p0, p1, p2, p3, p4, p5, p6, p7].getD j 0))) ∧ (∀ j, j < 8 → W.cell? ⟨w.heap.size + 1, j, none⟩ = some (.int .i64 (ownAt [p0, p1, p2, p3, p4, p5, p6, p7] (k + 1) j))) ∧ (∀ j, W.frozen? ⟨w.heap.size + 1, j, none⟩ = false) ∧ Below w.heap.size w W := by
        rintro v hv W rfl
        refine ⟨fun j hj => ?_, fun j hj => ?_, fun j => ?_, hb.setCell (p := ⟨w.heap.size + 1, k, none⟩) (by simp) _⟩
        · rw [World.cell?_setCell_other _ _ _ _ (by intro e; injection e; omega)]
          exact hP.out j hj
        · by_cases e : j = k
          · subst e
            rw [World.cell?_setCell_same' _ _ _ (by rw [hO.out j hj]; rfl), bits16, hv]
            simp [ownAt]
          · rw [World.cell?_setCell_other _ _ _ _ (by intro e; injection e; omega), hO.out j hj]
            have : (j < k + 1) ↔ (j < k) := by omega
            simp only [ownAt, this]
        · rw [World.frozen?_setCell]; exact hF.out j
      have KEY := Lib.hid key
      clear key
      have hck := hO.out k hk8
      have hfk := hF.out k
      have hBlt := cell_lt hck
      rcases (show k = 0 ∨ k = 1 ∨ k = 2 ∨ k = 3 ∨ k = 4 ∨ k = 5 ∨ k = 6 ∨ k = 7 by omega) with rfl | rfl | rfl | rfl | rfl | rfl | rfl | rfl
      · go_wp2
        have K := KEY.out _ rfl _ rfl
        refine ⟨⟨1, rfl, by omega, Lib.hid K.1, Lib.hid K.2.1, Lib.hid K.2.2.1, K.2.2.2⟩, ?_⟩
        simp only [intOf]; omega
      · go_wp2
        have K := KEY.out _ rfl _ rfl
        refine ⟨⟨2, rfl, by omega, Lib.hid K.1, Lib.hid K.2.1, Lib.hid K.2.2.1, K.2.2.2⟩, ?_⟩
        simp only [intOf]; omega
      · go_wp2
        have K := KEY.out _ rfl _ rfl
        refine ⟨⟨3, rfl, by omega, Lib.hid K.1, Lib.hid K.2.1, Lib.hid K.2.2.1, K.2.2.2⟩, ?_⟩
        simp only [intOf]; omega
      · go_wp2
        have K := KEY.out _ rfl _ rfl
        refine ⟨⟨4, rfl, by omega, Lib.hid K.1, Lib.hid K.2.1, Lib.hid K.2.2.1, K.2.2.2⟩, ?_⟩
        simp only [intOf]; omega
      · go_wp2
        have K := KEY.out _ rfl _ rfl
        refine ⟨⟨5, rfl, by omega, Lib.hid K.1, Lib.hid K.2.1, Lib.hid K.2.2.1, K.2.2.2⟩, ?_⟩
        simp only [intOf]; omega
      · go_wp2
        have K := KEY.out _ rfl _ rfl
        refine ⟨⟨6, rfl, by omega, Lib.hid K.1, Lib.hid K.2.1, Lib.hid K.2.2.1, K.2.2.2⟩, ?_⟩
        simp only [intOf]; omega
      · go_wp2
        have K := KEY.out _ rfl _ rfl
        refine ⟨⟨7, rfl, by omega, Lib.hid K.1, Lib.hid K.2.1, Lib.hid K.2.2.1, K.2.2.2⟩, ?_⟩
        simp only [intOf]; omega
      · go_wp2
        have K := KEY.out _ rfl _ rfl
        refine ⟨⟨8, rfl, by omega, Lib.hid K.1, Lib.hid K.2.1, Lib.hid K.2.2.1, K.2.2.2⟩, ?_⟩
        simp only [intOf]; omega
    · have hk' : k = 8 := by omega
      subst hk'
      have a0 := hP.out 0 (by omega)
      have a1 := hP.out 1 (by omega)
      have a2 := hP.out 2 (by omega)
      have a3 := hP.out 3 (by omega)
      have a4 := hP.out 4 (by omega)
      have a5 := hP.out 5 (by omega)
      have a6 := hP.out 6 (by omega)
      have a7 := hP.out 7 (by omega)
      have b0 := hO.out 0 (by omega)
      have b1 := hO.out 1 (by omega)
      have b2 := hO.out 2 (by omega)
      have b3 := hO.out 3 (by omega)
      have b4 := hO.out 4 (by omega)
      have b5 := hO.out 5 (by omega)
      have b6 := hO.out 6 (by omega)
      have b7 := hO.out 7 (by omega)
      have hBlt := cell_lt b0
      have he := eq_arr8 9998 wr [ownAt [p0, p1, p2, p3, p4, p5, p6, p7] 8 0, ownAt [p0, p1, p2, p3, p4, p5, p6, p7] 8 1, ownAt [p0, p1, p2, p3, p4, p5, p6, p7] 8 2, ownAt [p0, p1, p2, p3, p4, p5, p6, p7] 8 3, ownAt [p0, p1, p2, p3, p4, p5, p6, p7] 8 4, ownAt [p0, p1, p2, p3, p4, p5, p6, p7] 8 5, ownAt [p0, p1, p2, p3, p4, p5, p6, p7] 8 6, ownAt [p0, p1, p2, p3, p4, p5, p6, p7] 8 7] [p0, p1, p2, p3, p4, p5, p6, p7] rfl rfl
      simp only [ints, List.map_cons, List.map_nil] at he
      go_wp2
      go_ret
      refine ⟨ret_bool ?_, hb⟩
      have hm : ∀ p : Int, p % 65536 = p ↔ (0 ≤ p ∧ p ≤ 65535) := fun p => by omega
      simp [PM.sixMay, ownAt, hm]
end Go.Proofs.YtppbkblnjlbnfaaGreatDoor
/-! Contract: six.Run. -/
namespace Go.Proofs.YtppbkblnjlbnfaaGreatDoor
open Go.RowKit
theorem und8 : Tryz.prog.underlying 22 = some (.array (Tryz.prog.arrayLen 22) (Tryz.prog.elem 22)) := by rw [alen8, aelem8]; exact Tryz.underlying22
theorem size_int (W : World) : (sizeOf (Tryz.prog.elem 22)).run Tryz.prog W = .ok 1 W := by rw [aelem8]; exact Tryz.sizeOf3 W
theorem slice8_l (b k : Nat) (hk : k < 8) (W : World) : (Instr.sliceAt 22 (.pointer (some ⟨b, 0, none⟩)) (some (.int .i64 (k : Int))) none none).run Tryz.prog W = .ok (.slice (some ⟨b, k, none⟩) (8 - k) (8 - k)) W := by
  rw [run_sliceAt_array_l W 22 ⟨b, 0, none⟩ und8 .i64 (k : Int) (by omega) (by rw [alen8]; omega), size_int, Result.andThen_ok, slicedAt, alen8]
  have : ¬ 8 = (k : Int).toNat := by omega
  rw [if_neg this]
  simp [Addr.add]
  omega
theorem slice8_h (b k : Nat) (hk : k ≤ 8) (W : World) : (Instr.sliceAt 22 (.pointer (some ⟨b, 0, none⟩)) none (some (.int .i64 (k : Int))) none).run Tryz.prog W = .ok (.slice (some ⟨b, 0, none⟩) k 8) W := by
  rw [run_sliceAt_array_h W 22 ⟨b, 0, none⟩ und8 .i64 (k : Int) (by omega) (by rw [alen8]; omega), size_int, Result.andThen_ok, slicedAt, alen8]
  simp [Addr.add]
theorem slice8_e (b : Nat) (W : World) : (Instr.sliceAt 22 (.pointer (some ⟨b, 0, none⟩)) (some (.int .i64 8)) none none).run Tryz.prog W = .ok (.slice (some ⟨b, 0, none⟩) 0 0) W := by
  rw [run_sliceAt_array_l W 22 ⟨b, 0, none⟩ und8 .i64 8 (by omega) (by rw [alen8]; omega), size_int, Result.andThen_ok, slicedAt, alen8]
  rfl
theorem slice8_all (b : Nat) (W : World) : (Instr.sliceAt 22 (.pointer (some ⟨b, 0, none⟩)) none none none).run Tryz.prog W = .ok (.slice (some ⟨b, 0, none⟩) 8 8) W := by
  rw [run_sliceAt_array_all W 22 ⟨b, 0, none⟩ und8, size_int, Result.andThen_ok, slicedAt, alen8]
  simp [Addr.add]
set_option maxRecDepth 100000 in
set_option maxHeartbeats 2000000 in
theorem sixRun_c (p0 p1 p2 p3 p4 p5 p6 p7 : Int) (w : World) :
    Calls Tryz.prog 245 #[.agg #[.int .i64 p0, .int .i64 p1, .int .i64 p2, .int .i64 p3, .int .i64 p4, .int .i64 p5, .int .i64 p6, .int .i64 p7]] w fun e w' => e = .returned (.tuple #[.int .i64 ((PM.run [p0, p1, p2, p3, p4, p5, p6, p7]).1 : Int), .int .i64 ((PM.run [p0, p1, p2, p3, p4, p5, p6, p7]).2 : Int)]) ∧ Below w.heap.size w w' := by
  go_enter Tryz.func245, Tryz.ntmps245
  go_wp2
  have hc : ∀ t, t < 8 → (w.alloc (Obj.cells #[.int .i64 p0, .int .i64 p1, .int .i64 p2, .int .i64 p3, .int .i64 p4, .int .i64 p5, .int .i64 p6, .int .i64 p7] 22)).cell? ⟨w.heap.size, t, none⟩ = some (.int .i64 ([p0, p1, p2, p3, p4, p5, p6, p7].getD t 0)) := by
    intro j hj
    match j, hj with
    | 0, _ => go_simp
    | 1, _ => go_simp
    | 2, _ => go_simp
    | 3, _ => go_simp
    | 4, _ => go_simp
    | 5, _ => go_simp
    | 6, _ => go_simp
    | 7, _ => go_simp
  have hb : Below w.heap.size w (w.alloc (Obj.cells #[.int .i64 p0, .int .i64 p1, .int .i64 p2, .int .i64 p3, .int .i64 p4, .int .i64 p5, .int .i64 p6, .int .i64 p7] 22)) := by (repeat (first | exact Below.refl _ _ | apply b_alloc | apply b_drew | apply b_drewN | assumption | (refine b_then ?_ (by assumption))))
  generalize w.alloc (Obj.cells #[.int .i64 p0, .int .i64 p1, .int .i64 p2, .int .i64 p3, .int .i64 p4, .int .i64 p5, .int .i64 p6, .int .i64 p7] 22) = W at hc hb ⊢
  have HC := Lib.hid hc
  clear hc
  generalize hP : [p0, p1, p2, p3, p4, p5, p6, p7] = P at HC ⊢
  have hlen : P.length = 8 := by rw [← hP]; rfl
  go_wp2
  go_step3
  go_wp2
  go_step3
  go_wp2
  go_loopg [4, 5, 10] 8 (fun g at_ long i wr => ∃ k : Nat, k + g = 8 ∧ i = .int .i64 k ∧ at_ = .int .i64 ((PM.runTo P k).1 : Int) ∧ long = .int .i64 ((PM.runTo P k).2 : Int) ∧ wr = W)
  case atStart => exact ⟨0, by omega, rfl, rfl, rfl, rfl⟩
  case round =>
    obtain ⟨k, hkg, rfl, rfl, rfl, rfl⟩ := hrel
    cases gk with
    | zero =>
      have hk : k = 8 := by omega
      subst hk
      by_cases h2 : (PM.runTo P 8).2 < 2
      · have h2' : ((PM.runTo P 8).2 : Int) < 2 := by omega
        have hr : PM.run P = (0, 0) := by simp [PM.run, h2]
        go_wp2
        go_ret2
        rw [hP, hr]
        exact ⟨rfl, hb⟩
      · have h2' : ¬ ((PM.runTo P 8).2 : Int) < 2 := by omega
        have hr : PM.run P = PM.runTo P 8 := by simp [PM.run, h2]
        go_wp2
        go_ret2
        rw [hP, hr]
        exact ⟨rfl, hb⟩
    | succ g =>
      have hk8 : (k : Int) < 8 := by omega
      have hk8' : k < 8 := by omega
      have hst := PM.runTo_succ P k
      have HS := Lib.hid hst
      clear hst
      have hsl := slice8_l w.heap.size k hk8' wr
      go_wp2
      clear hsl
      go_loopg [7, 16] (8 - k) (fun g2 n j wq => ∃ t : Nat, t + g2 = 8 - k ∧ n = .int .i64 t ∧ j = .int .i64 t ∧ Hid (∀ u, u < t → (P.drop k).getD u 0 = 0) ∧ wq = wr)
      case atStart => exact ⟨0, by omega, rfl, rfl, Lib.hid (fun u hu => absurd hu (by omega)), rfl⟩
      case round =>
        obtain ⟨t, htg, rfl, rfl, HZ, rfl⟩ := hrel
        cases gk with
        | zero =>
          have htk : t = 8 - k := by omega
          have hz : PM.zeros (P.drop k) = 8 - k := by
            rw [PM.zeros_all _ (fun u hu => HZ.out u (by simp [hlen] at hu; omega))]
            simp [hlen]
          have hz' := Lib.hid hz
          clear hz
          by_cases hgt : 8 - k > (PM.runTo P k).2
          · have hgt' : ((PM.runTo P k).2 : Int) < ((8 - k : Nat) : Int) := by omega
            subst htk
            go_wp2
            go_roundg g
            case measure => omega
            case rel =>
              have e : PM.runTo P (k + 1) = (k, 8 - k) := by rw [HS.out, PM.runStep, hz'.out, if_pos hgt]
              exact ⟨k + 1, by omega, congrArg (Value.int .i64) (by omega), by rw [e], by rw [e], rfl⟩
          · have hgt' : ¬ ((PM.runTo P k).2 : Int) < ((8 - k : Nat) : Int) := by omega
            subst htk
            go_wp2
            go_roundg g
            case measure => omega
            case rel =>
              have e : PM.runTo P (k + 1) = PM.runTo P k := by rw [HS.out, PM.runStep, hz'.out, if_neg hgt]
              exact ⟨k + 1, by omega, congrArg (Value.int .i64) (by omega), by rw [e], by rw [e], rfl⟩
        | succ g2 =>
          have htk : t < 8 - k := by omega
          have hgd : (P.drop k).getD t 0 = P.getD (k + t) 0 := by simp [List.getD_eq_getElem?_getD]
          have hcell := HC.out (k + t) (by omega)
          by_cases hz : P.getD (k + t) 0 = 0
          · rw [hz] at hcell
            rw [hz] at hgd
            have HG := Lib.hid hgd
            clear hgd hz
            go_wp2
            go_roundg g2
            case measure => omega
            case rel =>
              refine ⟨t + 1, by omega, congrArg (Value.int .i64) (by omega), congrArg (Value.int .i64) (by omega), Lib.hid (fun u hu => ?_), rfl⟩
              by_cases e : u = t
              · rw [e]; exact HG.out
              · exact HZ.out u (by omega)
          · have hzz : PM.zeros (P.drop k) = t := PM.zeros_hit _ t (by simp [hlen]; omega) (fun u hu => HZ.out u hu) (by rw [hgd]; exact hz)
            have hz' := Lib.hid hzz
            clear hzz hgd
            generalize P.getD (k + t) 0 = x at hz hcell
            by_cases hgt : t ≤ (PM.runTo P k).2
            · have hgt' : (t : Int) ≤ ((PM.runTo P k).2 : Int) := by omega
              go_wp2
              go_roundg g
              case measure => omega
              case rel =>
                have e : PM.runTo P (k + 1) = PM.runTo P k := by rw [HS.out, PM.runStep, hz'.out, if_neg (by omega)]
                exact ⟨k + 1, by omega, congrArg (Value.int .i64) (by omega), by rw [e], by rw [e], rfl⟩
            · have hgt' : ((PM.runTo P k).2 : Int) < (t : Int) := by omega
              go_wp2
              go_roundg g
              case measure => omega
              case rel =>
                have e : PM.runTo P (k + 1) = (k, t) := by rw [HS.out, PM.runStep, hz'.out, if_pos (by omega)]
                exact ⟨k + 1, by omega, congrArg (Value.int .i64) (by omega), by rw [e], by rw [e], rfl⟩
end Go.Proofs.YtppbkblnjlbnfaaGreatDoor
