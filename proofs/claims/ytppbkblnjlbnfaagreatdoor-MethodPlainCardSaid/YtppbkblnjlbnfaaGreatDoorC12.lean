import Derived.Test.YtppbkblnjlbnfaaGreatDoorC11
import Derived.Laws.RangeAny
/-! Contract: (host.domain).fits. -/
set_option linter.unusedVariables false
namespace Go.Proofs.YtppbkblnjlbnfaaGreatDoor
open Go.RowKit
theorem contains_dd (l : List UInt8) : Lib.contains l [46, 46] = PM.hasDD l := by
  unfold Lib.contains
  induction l with
  | nil => rfl
  | cons b r ih =>
    rw [Lib.index, PM.hasDD, ← ih]
    have := Lib.index_ge r [46, 46]
    split
    · rename_i h; simp [h]
    · rename_i h
      split
      · rename_i h2
        have h3 : Lib.index r [46, 46] = -1 := by simpa using h2
        simp [h, h3]
      · rename_i h2
        have h3 : Lib.index r [46, 46] ≠ -1 := by simpa using h2
        have h4 : 0 ≤ Lib.index r [46, 46] := by omega
        have h5 : 0 ≤ Lib.index r [46, 46] + 1 := by omega
        simp [h, h4, h5]
theorem orT {a b : Bool} (h : a = true) : (a || b) = true := by rw [h]; rfl
theorem orF {a b : Bool} (h : a = false) : (a || b) = b := by rw [h]; rfl
theorem idx_odd (l : List UInt8) : ∀ f pos, l.length ≤ pos + f → decide (0 ≤ Lib.idxFuncFrom PM.oddN true (mkS l) f pos) = (l.drop pos).any PM.odd := by
  intro f
  induction f with
  | zero =>
    intro pos h
    rw [List.drop_of_length_le (by omega)]
    rfl
  | succ f ih =>
    intro pos h
    by_cases hp : pos < l.length
    · have hps : pos < (mkS l).size := by rw [mkS_size]; exact hp
      rw [List.drop_eq_getElem_cons hp, List.any_cons, Lib.idxFuncFrom, if_pos hps]
      have hg := mkS_get l pos hps
      by_cases ha : (l[pos]).toNat < 128
      · rw [decode_ascii (mkS l) pos hps (by rw [hg]; exact ha), hg]
        show decide (0 ≤ (if PM.oddN (l[pos]).toNat = true then (pos : Int) else _)) = _
        by_cases ho : PM.oddN (l[pos]).toNat = true
        · rw [if_pos ho]
          exact (decide_eq_true (by omega)).trans (orT ho).symm
        · rw [if_neg ho]
          have : PM.odd l[pos] = false := by simpa [PM.odd] using ho
          exact (ih (pos + 1) (by omega)).trans (orF this).symm
      · have hd := decode_high (mkS l) pos hps (by rw [hg]; omega)
        have ho : PM.oddN (Utf8.decode (mkS l) pos).1 = true := by simp [PM.oddN, hd.1]
        have : PM.odd l[pos] = true := by simp [PM.odd, PM.oddN]; omega
        rw [if_pos ho]
        exact (decide_eq_true (by omega)).trans (orT this).symm
    · rw [List.drop_of_length_le (by omega), Lib.idxFuncFrom_end _ _ _ _ _ (by rw [mkS_size]; exact hp)]
      rfl
theorem idx_any (l : List UInt8) : decide (0 ≤ Lib.idxFunc PM.oddN true (mkS l)) = l.any PM.odd := by
  unfold Lib.idxFunc
  rw [idx_odd l _ 0 (by rw [mkS_size]; omega)]
  rfl
theorem digit_N (x : Nat) (hx : x < 128) : PM.isDigit (UInt8.ofNat x) = (decide (48 ≤ x) && decide (x ≤ 57)) := by
  unfold PM.isDigit
  rw [UInt8.toNat_ofNat_of_lt' (by show x < 256; omega)]
  congr 1 <;> rw [decide_eq_decide] <;> omega
theorem fits1_c (x : Nat) (hx : x ≤ 1114111) (w : World) : Calls Tryz.prog 173 #[.int .i32 (x : Int)] w fun e w' => e = .returned (.bool (PM.oddN x)) ∧ w' = w := by
  by_cases h1 : 128 ≤ x
  · have h1' : 128 ≤ (x : Int) := by omega
    go_enter Tryz.func173, Tryz.ntmps173
    go_wp2
    go_ret
    exact ⟨ret_bool (by simp [PM.oddN, h1]), rfl⟩
  · have h1' : ¬ 128 ≤ (x : Int) := by omega
    by_cases h2 : x = 46 ∨ x = 45 ∨ x = 95
    · rcases h2 with rfl | rfl | rfl
      all_goals
        go_enter Tryz.func173, Tryz.ntmps173
        go_wp2
        go_ret
        exact ⟨ret_bool (by decide), rfl⟩
    · have a1 : ((x : Int) != 46) = true := by rw [bne_iff_ne]; omega
      have a2 : ((x : Int) != 45) = true := by rw [bne_iff_ne]; omega
      have a3 : ((x : Int) != 95) = true := by rw [bne_iff_ne]; omega
      have hd := Digit_c (UInt8.ofNat x)
      rw [digit_N x (by omega), UInt8.toNat_ofNat_of_lt' (show x < 256 by omega)] at hd
      have HD := Lib.hid hd
      clear hd
      have h128 : (x : Int) < 256 := by omega
      have h0 : 0 ≤ (x : Int) := by omega
      by_cases h3 : 48 ≤ x ∧ x ≤ 57
      · have e1 : (decide (48 ≤ x) && decide (x ≤ 57)) = true := by simp [h3.1, h3.2]
        have e3 : PM.oddN x = false := by unfold PM.oddN; rw [e1]; simp; omega
        rw [e1] at HD
        clear h3
        go_enter Tryz.func173, Tryz.ntmps173
        go_wp2_with fail
        refine (HD.out _).mono ?_
        rintro e w1 ⟨rfl, rfl⟩
        go_wp2
        go_ret
        exact ⟨ret_bool e3.symm, rfl⟩
      · have e1 : (decide (48 ≤ x) && decide (x ≤ 57)) = false := by
          rw [Bool.and_eq_false_iff]
          simp only [decide_eq_false_iff_not]
          omega
        have e3 : PM.oddN x = (decide (x < 97) || decide (122 < x)) := by
          unfold PM.oddN
          rw [e1]
          have b1 : decide (x ≠ 46) = true := by simp; omega
          have b2 : decide (x ≠ 45) = true := by simp; omega
          have b3 : decide (x ≠ 95) = true := by simp; omega
          have b4 : decide (128 ≤ x) = false := by simp; omega
          rw [b1, b2, b3, b4]
          rfl
        rw [e1] at HD
        clear h3
        by_cases h4 : x < 97
        · have h4' : (x : Int) < 97 := by omega
          have e4 : PM.oddN x = true := by rw [e3]; simp [h4]
          go_enter Tryz.func173, Tryz.ntmps173
          go_wp2_with fail
          refine (HD.out _).mono ?_
          rintro e w1 ⟨rfl, rfl⟩
          go_wp2
          go_ret
          exact ⟨ret_bool e4.symm, rfl⟩
        · have h4' : ¬ (x : Int) < 97 := by omega
          have e4 : PM.oddN x = (decide ((x : Int) < 97) || decide ((122 : Int) < x)) := by
            rw [e3]
            congr 1 <;> rw [decide_eq_decide] <;> omega
          go_enter Tryz.func173, Tryz.ntmps173
          go_wp2_with fail
          refine (HD.out _).mono ?_
          rintro e w1 ⟨rfl, rfl⟩
          go_wp2
          go_ret
          exact ⟨ret_bool e4.symm, rfl⟩
/-- The one variable of Go's library that is read. -/
def Gl (w : World) : Prop := ∃ m, w.cell? ⟨1, 0, none⟩ = some (.int .i64 m)
theorem Gl.below {w W : World} (h : Gl w) (hb : Below w.heap.size w W) : Gl W := h.elim fun m h => ⟨m, cell_b hb h⟩
theorem odd_c (s : List UInt8) (w : World) : Calls Tryz.prog 129 #[.string (mkS s), .func (.func 173) #[] #[]] w fun e w' => e = .returned (.bool (s.any PM.odd)) ∧ Below w.heap.size w w' := by
  have h := Tryz.strings_ContainsFunc_runes 173 #[] (fun args w => by kernel_rfl) PM.oddN (mkS s) w (fun W x hx hb => (fits1_c x hx W).mono fun e w' h => ⟨h.1, 0, h.2⟩)
  rwa [idx_any] at h
theorem dots_eq (s : List UInt8) : ({ data := #[46] } : ByteArray) ++ mkS s ++ { data := #[46] } = mkS (46 :: (s ++ [46])) := by
  rw [show ({ data := #[46] } : ByteArray) = mkS [46] from rfl, mkS_append, mkS_append]
  rfl
set_option maxHeartbeats 1000000 in
theorem fits_c (s : List UInt8) (hs : s.length ≤ 1000000) (w : World) (hg : Gl w) : Calls Tryz.prog 140 #[.string (mkS s)] w fun e w' => e = .returned (.bool (PM.fits s)) ∧ Below w.heap.size w w' := by
  cases s with
  | nil =>
    go_enter Tryz.func140, Tryz.ntmps140
    go_wp2
    go_ret
    exact ⟨rfl, Below.refl _ _⟩
  | cons a r =>
    have hne : (a :: r).isEmpty = false := rfl
    have hf : PM.fits (a :: r) = (!decide (100 < (a :: r).length) && !PM.looks (a :: r) && !PM.hasDD (46 :: ((a :: r) ++ [46])) && !(a :: r).any PM.odd) := rfl
    generalize a :: r = s at hs hne hf ⊢
    have HF := Lib.hid hf
    clear hf
    by_cases h1 : 100 < s.length
    · have h1' : 100 < (s.length : Int) := by omega
      go_enter Tryz.func140, Tryz.ntmps140
      go_wp2
      go_ret
      exact ⟨ret_bool (by rw [HF.out]; simp [h1]), Below.refl _ _⟩
    · have h1' : ¬ 100 < (s.length : Int) := by omega
      have hL := Looks_c s (by omega)
      cases h2 : PM.looks s
      · rw [h2] at hL
        have HL := Lib.hid hL
        clear hL
        obtain ⟨m, hm⟩ := hg
        have hC := Tryz.strings_Contains (mkS (46 :: (s ++ [46]))) ⟨#[46, 46]⟩ m w (by rw [mkS_size]; simp; omega) hm
        rw [mkS_data, show (⟨#[46, 46]⟩ : ByteArray).data.toList = [46, 46] from rfl, contains_dd] at hC
        cases h3 : PM.hasDD (46 :: (s ++ [46]))
        · rw [h3] at hC
          have HC := Lib.hid hC
          clear hC
          go_enter Tryz.func140, Tryz.ntmps140
          go_wp2_with fail
          refine (HL.out _).mono ?_
          rintro e w1 ⟨rfl, rfl⟩
          go_wp2_with fail
          rw [dots_eq]
          refine HC.out.mono ?_
          rintro e w2 ⟨rfl, rfl⟩
          go_wp2_with fail
          refine (odd_c s _).mono ?_
          rintro e w3 ⟨rfl, hb⟩
          go_wp2
          go_ret
          exact ⟨ret_bool (by rw [HF.out, h2, h3]; simp [h1]), hb⟩
        · rw [h3] at hC
          have HC := Lib.hid hC
          clear hC
          go_enter Tryz.func140, Tryz.ntmps140
          go_wp2_with fail
          refine (HL.out _).mono ?_
          rintro e w1 ⟨rfl, rfl⟩
          go_wp2_with fail
          rw [dots_eq]
          refine HC.out.mono ?_
          rintro e w2 ⟨rfl, rfl⟩
          go_wp2
          go_ret
          exact ⟨ret_bool (by rw [HF.out, h3]; simp), Below.refl _ _⟩
      · rw [h2] at hL
        have HL := Lib.hid hL
        clear hL
        go_enter Tryz.func140, Tryz.ntmps140
        go_wp2_with fail
        refine (HL.out _).mono ?_
        rintro e w1 ⟨rfl, rfl⟩
        go_wp2
        go_ret
        exact ⟨ret_bool (by rw [HF.out, h2]; simp), Below.refl _ _⟩
end Go.Proofs.YtppbkblnjlbnfaaGreatDoor
