import Derived.Test.YtgegnnojobmdcaaGreatDoorP7
import Derived.Lib.TrimUEq
/-! Contract: ascii.Trim. -/
set_option linter.unusedVariables false
namespace Go.Proofs.YtgegnnojobmdcaaGreatDoor
open Go.RowKit
def bl (x : Nat) : Bool := decide (x ≤ 32)
theorem bl_blank (c : UInt8) : bl c.toNat = PM.blank c := rfl
theorem idx_trim (l : List UInt8) : ∀ f pos, pos ≤ l.length → l.length ≤ pos + f → Lib.idxFuncFrom bl false (mkS l) f pos = if (l.drop pos).all PM.blank then -1 else ((pos + ((l.drop pos).takeWhile PM.blank).length : Nat) : Int) := by
  intro f
  induction f with
  | zero =>
    intro pos h0 h
    rw [List.drop_of_length_le (by omega)]
    rfl
  | succ f ih =>
    intro pos h0 h
    by_cases hq : pos < l.length
    · have hps : pos < (mkS l).size := by rw [mkS_size]; exact hq
      obtain ⟨c, hcr, hc⟩ : ∃ c, l.drop pos = c :: l.drop (pos + 1) ∧ (mkS l)[pos]'hps = c := ⟨_, List.drop_eq_getElem_cons hq, mkS_get l pos hps⟩
      rw [hcr, List.all_cons, List.takeWhile_cons, Lib.idxFuncFrom, if_pos hps]
      by_cases ho : PM.blank c = true
      · have ha : c.toNat < 128 := by unfold PM.blank at ho; have := of_decide_eq_true ho; omega
        rw [decode_ascii (mkS l) pos hps (by rw [hc]; exact ha), hc]
        show (if bl c.toNat = false then (pos : Int) else Lib.idxFuncFrom bl false (mkS l) f (pos + 1)) = _
        rw [bl_blank, ho, if_neg (by simp), ih (pos + 1) (by omega) (by omega), Bool.true_and, if_pos rfl]
        split
        · rfl
        · rw [List.length_cons]
          congr 1
          omega
      · have ho' : PM.blank c = false := by simpa using ho
        rw [ho', Bool.false_and]
        have hd : bl (Utf8.decode (mkS l) pos).1 = false := by
          by_cases ha : c.toNat < 128
          · rw [decode_ascii (mkS l) pos hps (by rw [hc]; exact ha), hc]
            exact ho'
          · have := (decode_high (mkS l) pos hps (by rw [hc]; omega)).1
            unfold bl
            exact decide_eq_false (by omega)
        rw [if_pos hd]
        rfl
    · rw [List.drop_of_length_le (by omega), Lib.idxFuncFrom_end _ _ _ _ _ (by rw [mkS_size]; exact hq)]
      rfl
theorem drop_takeWhile (l : List UInt8) (p : UInt8 → Bool) : l.drop (l.takeWhile p).length = l.dropWhile p := by
  induction l with
  | nil => rfl
  | cons a r ih =>
    by_cases h : p a = true
    · rw [List.takeWhile_cons, if_pos h, List.dropWhile_cons, if_pos h]
      exact ih
    · rw [List.takeWhile_cons, if_neg h, List.dropWhile_cons, if_neg h]
      rfl
theorem dropWhile_all (l : List UInt8) (p : UInt8 → Bool) (h : l.all p = true) : l.dropWhile p = [] := by
  induction l with
  | nil => rfl
  | cons a r ih =>
    rw [List.all_cons, Bool.and_eq_true] at h
    rw [List.dropWhile_cons, if_pos h.1]
    exact ih h.2
theorem trimLeft_eq (l : List UInt8) : Lib.trimLeftF bl (mkS l) = mkS (l.dropWhile PM.blank) := by
  unfold Lib.trimLeftF Lib.idxFunc
  rw [idx_trim l _ 0 (by omega) (by rw [mkS_size]; omega), List.drop_zero]
  by_cases ha : l.all PM.blank = true
  · rw [if_pos ha, if_pos rfl, dropWhile_all l _ ha]
    rfl
  · rw [if_neg ha, if_neg (by omega), mkS_extract, Nat.zero_add, Int.toNat_natCast, drop_takeWhile, mkS_size, List.take_of_length_le]
    rw [← drop_takeWhile, List.length_drop]
    exact Nat.le_refl _
theorem last_high (l : List UInt8) (i : Nat) (hi : 0 < i) (hil : i ≤ l.length) (h : 128 ≤ (l.getD (i - 1) 0).toNat) : 128 ≤ (Lib.decodeLastL (l.take i)).1 := by
  rcases Lib.last_cases l i hi hil with ⟨ha, hd⟩ | ⟨ha, hd⟩ | ⟨ha, st, hst, hd, hsum⟩
  · omega
  · rw [hd]
    decide
  · rw [hd]
    have hlen : (l.take i).length = i := by rw [List.length_take]; omega
    have hsz : st < (mkS (l.take i)).size := by rw [mkS_size, hlen]; exact hst
    have he : Lib.decodeL ((l.take i).drop st) = Utf8.decode (mkS (l.take i)) st := by
      have := Lib.decodeL_drop (mkS (l.take i)) st
      rw [mkS_data] at this
      exact this
    by_cases hc : ((mkS (l.take i))[st]'hsz).toNat < 128
    · rw [he, decode_ascii _ st hsz hc] at hsum
      have h1 : st = i - 1 := by simp at hsum; omega
      subst h1
      rw [mkS_get] at hc
      have : (l.take i)[i - 1]'(by rw [hlen]; omega) = l.getD (i - 1) 0 := by
        rw [List.getElem_take, List.getD_eq_getElem?_getD, List.getElem?_eq_getElem (by omega)]
        rfl
      rw [this] at hc
      omega
    · rw [he]
      exact (decode_high _ st hsz (by omega)).1
theorem right_trim (l : List UInt8) : ∀ f i, i ≤ f → i ≤ l.length → Lib.OpenAt l i →
    (if 0 ≤ Lib.lastIdxFuncFrom bl false (mkS l) f i then (Lib.lastIdxFuncFrom bl false (mkS l) f i).toNat + (Lib.decodeL (l.drop (Lib.lastIdxFuncFrom bl false (mkS l) f i).toNat)).2 else 0) = ((l.take i).reverse.dropWhile PM.blank).length
  | 0, i, hf, _, _ => by
    obtain rfl : i = 0 := by omega
    rfl
  | f + 1, i, hf, hil, ho => by
    by_cases hi : 0 < i
    · have hlen : (l.take i).length = i := by rw [List.length_take]; omega
      have hget : l.getD (i - 1) 0 = l[i - 1]'(by omega) := by
        rw [List.getD_eq_getElem?_getD, List.getElem?_eq_getElem (by omega)]
        rfl
      have hrev : (l.take i).reverse = l[i - 1]'(by omega) :: (l.take (i - 1)).reverse := by
        obtain ⟨k, rfl⟩ : ∃ k, i = k + 1 := ⟨i - 1, by omega⟩
        rw [List.take_succ_eq_append_getElem (by omega), List.reverse_append]
        rfl
      have hw := Lib.decodeLastL_width (l.take i) (by rw [hlen]; omega)
      rw [hlen] at hw
      have hun : Lib.lastIdxFuncFrom bl false (mkS l) (f + 1) i = if bl (Lib.decodeLastL (l.take i)).1 = false then ((i - (Lib.decodeLastL (l.take i)).2 : Nat) : Int) else Lib.lastIdxFuncFrom bl false (mkS l) f (i - (Lib.decodeLastL (l.take i)).2) := by
        simp only [Lib.lastIdxFuncFrom, if_pos hi, mkS_data]
      rw [hrev, List.dropWhile_cons]
      by_cases hb : PM.blank (l[i - 1]'(by omega)) = true
      · have ha : (l[i - 1]'(by omega)).toNat ≤ 32 := of_decide_eq_true hb
        have hd : Lib.decodeLastL (l.take i) = ((l[i - 1]'(by omega)).toNat, 1) := by
          rcases Lib.last_cases l i hi hil with ⟨_, hd⟩ | ⟨ha', _⟩ | ⟨ha', _⟩
          · rw [hd, hget]
          · rw [hget] at ha'; omega
          · rw [hget] at ha'; omega
        rw [hd] at hun
        have hstep : Lib.lastIdxFuncFrom bl false (mkS l) (f + 1) i = Lib.lastIdxFuncFrom bl false (mkS l) f (i - 1) := hun.trans (if_neg (by
          show ¬ PM.blank (l[i - 1]'(by omega)) = false
          rw [hb]
          decide))
        rw [hstep, if_pos hb]
        refine right_trim l f (i - 1) (by omega) (by omega) (.inr ?_)
        rw [hget]
        omega
      · have hb' : PM.blank (l[i - 1]'(by omega)) = false := by simpa using hb
        have hp : bl (Lib.decodeLastL (l.take i)).1 = false := by
          by_cases ha : (l[i - 1]'(by omega)).toNat < 128
          · rcases Lib.last_cases l i hi hil with ⟨_, hd⟩ | ⟨ha', _⟩ | ⟨ha', _⟩
            · rw [hd, hget]
              exact hb'
            · rw [hget] at ha'; omega
            · rw [hget] at ha'; omega
          · have := last_high l i hi hil (by rw [hget]; omega)
            unfold bl
            exact decide_eq_false (by omega)
        have hstep := hun.trans (if_pos hp)
        rw [hstep, if_pos (by omega), Int.toNat_natCast, Lib.fw_width l i hi hil ho, Nat.sub_add_cancel hw.2, if_neg hb, List.length_cons, List.length_reverse, List.length_take]
        omega
    · obtain rfl : i = 0 := by omega
      rw [Lib.lastIdxFuncFrom_zero]
      rfl
theorem take_revDrop (l : List UInt8) (p : UInt8 → Bool) : l.take (l.reverse.dropWhile p).length = (l.reverse.dropWhile p).reverse := by
  have h : l.reverse.takeWhile p ++ l.reverse.dropWhile p = l.reverse := List.takeWhile_append_dropWhile
  have h2 : l = (l.reverse.dropWhile p).reverse ++ (l.reverse.takeWhile p).reverse := by
    rw [← List.reverse_append, h, List.reverse_reverse]
  conv => lhs; arg 2; rw [h2]
  rw [List.take_append_of_le_length (by rw [List.length_reverse]; exact Nat.le_refl _), List.take_of_length_le (by rw [List.length_reverse]; exact Nat.le_refl _)]
theorem trimRight_eq (l : List UInt8) : Lib.trimRightF bl (mkS l) = mkS (l.reverse.dropWhile PM.blank).reverse := by
  have h := right_trim l l.length l.length (Nat.le_refl _) (Nat.le_refl _) (.inl rfl)
  rw [List.take_length] at h
  have he : Lib.rightEndF bl (mkS l) = (l.reverse.dropWhile PM.blank).length := by
    rw [← h]
    unfold Lib.rightEndF Lib.lastIdxFunc
    rw [mkS_size]
    split
    · rename_i h0
      congr 1
      rcases Lib.lastIdxFuncFrom_range bl false (mkS l) l.length l.length with hm | hlt
      · omega
      · generalize hk : (Lib.lastIdxFuncFrom bl false (mkS l) l.length l.length).toNat = k
        rw [mkS_extract, List.take_of_length_le (by rw [List.length_drop]; exact Nat.le_refl _)]
        by_cases hkl : k < l.length
        · unfold Lib.decodeGoB Lib.decodeL
          rw [if_neg (by rw [mkS_size, List.length_drop]; omega)]
          rfl
        · exfalso
          rw [hk, List.drop_of_length_le (by omega)] at h
          have hw : 1 ≤ (Lib.decodeL []).2 := Lib.decodeL_width _
          rw [if_pos h0] at h
          have h3 : (l.reverse.dropWhile PM.blank).length ≤ l.length := by
            have h4 : l.reverse.takeWhile PM.blank ++ l.reverse.dropWhile PM.blank = l.reverse := List.takeWhile_append_dropWhile
            have h5 := congrArg List.length h4
            rw [List.length_append, List.length_reverse] at h5
            omega
          omega
    · rfl
  unfold Lib.trimRightF
  rw [he, mkS_extract, List.drop_zero, Nat.sub_zero, take_revDrop]
theorem trim_eq (l : List UInt8) : Lib.trimF bl (mkS l) = mkS (PM.trim l) := by
  unfold Lib.trimF
  rw [trimLeft_eq, trimRight_eq]
  rfl
set_option maxHeartbeats 1000000 in
theorem Trim1_c (x : Nat) (w : World) : Calls Tryz.prog 131 #[.int .i32 (x : Int)] w fun e w' => e = .returned (.bool (bl x)) ∧ w' = w := by
  by_cases h : x ≤ 32
  · have h1 : (x : Int) ≤ 32 := by omega
    go_enter Tryz.func131, Tryz.ntmps131
    go_wp2
    go_ret
    exact ⟨ret_bool (by simp [bl, h]), rfl⟩
  · have h1 : ¬ (x : Int) ≤ 32 := by omega
    go_enter Tryz.func131, Tryz.ntmps131
    go_wp2
    go_ret
    exact ⟨ret_bool (by simp [bl, h]), rfl⟩
set_option maxHeartbeats 1000000 in
theorem Trim_c (s : List UInt8) (hs : s.length ≤ 1000000000) (w : World) (hT : Lib.Utf8Tabs 1 2 w) : Calls Tryz.prog 82 #[.string (mkS s)] w fun e w' => e = .returned (.string (mkS (PM.trim s))) ∧ Below w.heap.size w w' := by
  have h := Tryz.strings_TrimFunc_runes 131 #[] (fun args w => by kernel_rfl) bl (mkS s) w (by rw [mkS_size]; omega) hT (fun W x hx hb => (Trim1_c x W).mono fun e w' h => ⟨h.1, 0, h.2⟩)
  rw [trim_eq] at h
  go_enter Tryz.func82, Tryz.ntmps82
  go_wp2_with fail
  refine h.mono ?_
  rintro e w1 ⟨rfl, hb⟩
  go_wp2_with fail
  go_ret
  exact ⟨rfl, hb⟩
end Go.Proofs.YtgegnnojobmdcaaGreatDoor
