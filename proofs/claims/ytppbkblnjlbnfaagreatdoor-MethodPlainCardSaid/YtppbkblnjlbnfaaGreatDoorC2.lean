import Derived.Test.YtppbkblnjlbnfaaGreatDoorC1
/-! Contracts: pct.Encode, pct.Ready. -/
namespace Go.Proofs.YtppbkblnjlbnfaaGreatDoor
open Go.RowKit
theorem In_c (k : Int) (hk : k = 1 ∨ k = 2 ∨ k = 3 ∨ k = 4) (c : UInt8) (w : World) : Calls Tryz.prog 133 #[.int .i64 k, .int .u8 (c.toNat : Int)] w fun e w' => e = .returned (.bool (PM.inSet k c)) ∧ Below w.heap.size w w' := by
  rcases hk with rfl | rfl | rfl | rfl
  · exact In_1 c w
  · exact In_2 c w
  · exact In_3 c w
  · exact In_4 c w
theorem hex_index (n : Nat) (hn : n < 16) (w : World) : (Instr.index 9 (.string { data := #[48, 49, 50, 51, 52, 53, 54, 55, 56, 57, 65, 66, 67, 68, 69, 70] }) (.int .u8 (n : Int))).run Tryz.prog w = .ok (.int .u8 ((PM.hexd n).toNat : Int)) w := by
  rw [run_index_string (h := Tryz.underlying9)]
  rw [dif_pos (by constructor <;> simp [ByteArray.size] <;> omega)]
  have h : ∀ (m : Nat) (hm : m < 16), (([48, 49, 50, 51, 52, 53, 54, 55, 56, 57, 65, 66, 67, 68, 69, 70] : List UInt8)[m]'(by simpa using hm)) = PM.hexd m := by
    intro m hm
    unfold PM.hexd
    rw [List.getD_eq_getElem?_getD, List.getElem?_eq_getElem (by simpa using hm)]
    rfl
  have h2 : ∀ (i : Nat) (hi : i < 16) (e : i = n), (({ data := #[48, 49, 50, 51, 52, 53, 54, 55, 56, 57, 65, 66, 67, 68, 69, 70] } : ByteArray)[i]'hi) = PM.hexd n := by
    rintro i hi rfl
    exact h i hi
  rw [h2 _ (by omega) (by simp)]
theorem u8_id (n : Int) (h0 : 0 ≤ n) (h1 : n < 256) : IntKind.u8.wrap n = n := by
  simp [IntKind.wrap, IntKind.signed, IntKind.bits]
  omega
set_option maxHeartbeats 200000 in
theorem Encode_c (s : List UInt8) (k : Int) (hk : k = 1 ∨ k = 2 ∨ k = 3 ∨ k = 4) (w : World) (hl : s.length ≤ 10000000000) :
    Calls Tryz.prog 102 #[.string (mkS s), .int .i64 k] w fun e w' => e = .returned (.string (mkS (PM.encode k s))) ∧ Below w.heap.size w w' := by
  have HK := Lib.hid hk
  clear hk
  go_enter Tryz.func102, Tryz.ntmps102
  go_wp2
  go_loopw [6, 7, 10] (fun _ _ i wr => ∃ j : Nat, j ≤ s.length ∧ i = .int .i64 j ∧ ∃ r', Bldr w.heap.size r' (PM.encode k (s.take j)) wr ∧ Below w.heap.size w wr) (fun _ _ i _ => s.length - (intOf i).toNat)
  case atStart => exact ⟨0, by omega, rfl, none, Bldr.new w, by (repeat (first | exact Below.refl _ _ | apply b_alloc | apply b_drew | apply b_drewN | assumption | (refine b_then ?_ (by assumption))))⟩
  case round =>
    obtain ⟨j, hj, rfl, r', hB, hb⟩ := hrel
    by_cases hlt : j < s.length
    · go_wp2_with fail
      refine (In_c k HK.out s[j] _).mono ?_
      rintro e w1 ⟨rfl, hb1⟩
      have hB1 := hB.keep hb1
      cases hin : PM.inSet k s[j]
      · go_wp2_with fail
        refine (put_c w.heap.size r' (PM.encode k (s.take j)) w1.heap.size [s[j]] _ (hB1.keep (by (repeat (first | exact Below.refl _ _ | apply b_alloc | apply b_drew | apply b_drewN | assumption | (refine b_then ?_ (by assumption)))))) (by have := hB1.lt; omega) (fun e => by have := (hB1.row _ e.symm).2; omega) (fun i hi => ?_) ?_).mono ?_
        · have : i = 0 := by simp at hi; omega
          subst this
          go_simp
        · have := PM.encode_len k (s.take j)
          have h2 : (s.take j).length ≤ s.length := List.length_take_le' _ _
          simp; omega
        rintro e w2 ⟨rfl, r2, hB2, hr2, hF2⟩
        go_wp2
        go_roundw
        case rel =>
          refine ⟨j + 1, by omega, by go_num, r2, ?_, Fr.under (by (repeat (first | exact Below.refl _ _ | apply b_alloc | apply b_drew | apply b_drewN | assumption | (refine b_then ?_ (by assumption))))) (hB1.keep (by (repeat (first | exact Below.refl _ _ | apply b_alloc | apply b_drew | apply b_drewN | assumption | (refine b_then ?_ (by assumption)))))) (Nat.le_refl _) hF2⟩
          rw [List.take_succ_eq_append_getElem hlt, PM.encode_snoc]
          simpa [PM.encByte, hin] using hB2
        case measure => simp [intOf]; omega
      · have hb0 : 0 ≤ (s[j].toNat : Int) := by omega
        have hb1 : (s[j].toNat : Int) < 256 := by have := s[j].toNat_lt; omega
        have hw1 := u8_id ((s[j].toNat : Int) / 16) (by omega) (by omega)
        have hw2 : (s[j].toNat : Int).tmod 16 = (s[j].toNat : Int) % 16 := Int.tmod_eq_emod_of_nonneg hb0
        have hi1 := hex_index (s[j].toNat / 16) (by have := s[j].toNat_lt; omega)
        have hi2 := hex_index (s[j].toNat % 16) (by omega)
        rw [Int.natCast_ediv] at hi1
        rw [Int.natCast_emod] at hi2
        change ∀ w, (Instr.index 9 _ (.int .u8 ((s[j].toNat : Int) / 16))).run _ w = _ at hi1
        change ∀ w, (Instr.index 9 _ (.int .u8 ((s[j].toNat : Int) % 16))).run _ w = _ at hi2
        go_wp2_with fail
        go_region_with (go_at_call 134; refine (put_c w.heap.size r' (PM.encode k (s.take j)) w1.heap.size [37, PM.hexd (s[j].toNat / 16), PM.hexd (s[j].toNat % 16)] _ (hB1.keep (by (repeat (first | exact Below.refl _ _ | apply b_alloc | apply b_drew | apply b_drewN | assumption | (refine b_then ?_ (by assumption)))))) ?_ ?_ ?_ ?_).mono ?_; (have := hB1.lt; omega); (exact fun e => by have := (hB1.row _ e.symm).2; omega); (intro i hi; match i, hi with | 0, _ => go_simp | 1, _ => go_simp | 2, _ => go_simp); (have := PM.encode_len k (s.take j); have h2 : (s.take j).length ≤ s.length := List.length_take_le' _ _; simp; omega); rintro e w2 ⟨rfl, r2, hB2, hr2, hF2⟩)
        all_goals
          go_wp2
          go_roundw
          case rel =>
            refine ⟨j + 1, by omega, by go_num, r2, ?_, Fr.under (by (repeat (first | exact Below.refl _ _ | apply b_alloc | apply b_drew | apply b_drewN | assumption | (refine b_then ?_ (by assumption))))) (hB1.keep (by (repeat (first | exact Below.refl _ _ | apply b_alloc | apply b_drew | apply b_drewN | assumption | (refine b_then ?_ (by assumption)))))) (Nat.le_refl _) hF2⟩
            rw [List.take_succ_eq_append_getElem hlt, PM.encode_snoc]
            simpa [PM.encByte, hin] using hB2
          case measure => simp [intOf]; omega
    · rw [List.take_of_length_le (by omega)] at hB
      go_wp2_with fail
      refine (Builder_String_c w.heap.size r' _ _ hB (Nat.le_refl _)).mono ?_
      rintro e w2 ⟨rfl, hb2⟩
      go_wp2
      go_ret
      exact ⟨rfl, hb.trans hb2⟩
theorem Ready_c (s : List UInt8) (k : Int) (hk : k = 1 ∨ k = 2 ∨ k = 3 ∨ k = 4) (w : World) (hl : s.length ≤ 10000000000) :
    Calls Tryz.prog 75 #[.string (mkS s), .int .i64 k] w fun e w' => e = .returned (.bool (PM.ready k s)) ∧ Below w.heap.size w w' := by
  have H := Encode_c s k hk
  go_enter Tryz.func75, Tryz.ntmps75
  go_wp2_with fail
  refine (H _ hl).mono ?_
  rintro e w1 ⟨rfl, hb⟩
  go_wp2
  go_ret
  exact ⟨ret_bool (by simp [PM.ready]), hb⟩
end Go.Proofs.YtppbkblnjlbnfaaGreatDoor
