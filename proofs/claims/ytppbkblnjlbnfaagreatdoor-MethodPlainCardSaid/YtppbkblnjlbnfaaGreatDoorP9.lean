import Derived.Test.YtppbkblnjlbnfaaGreatDoorP7
import Derived.Lib.TrimUEq
import Derived.Tactics2
import Derived.Defers
import Derived.Laws.Pointers
import Derived.Laws.LoneSync
import Derived.RegionTactic
import Derived.RegionCalls
set_option linter.unusedVariables false
set_option linter.unusedSimpArgs false
/-! Contract: ascii.Trim. -/
namespace Go.Proofs.YtppbkblnjlbnfaaGreatDoor
open Go.RowKit
def bl (x : Nat) : Bool := decide (x ≤ 32)
theorem bl_blank (c : UInt8) : bl c.toNat = PM.blank c := rfl
theorem idx_trim (l : List UInt8) : ∀ f pos, pos ≤ l.length → l.length ≤ pos + f → Lib.idxFuncFrom bl false (mkS l) f pos = if (l.drop pos).all PM.blank then -1 else ((pos + ((l.drop pos).takeWhile PM.blank).length : Nat) : Int) := by
  intro f
  induction f with
  | zero =>
    intro pos h0 h
    rw [List.drop_of_length_le (by omega)]
    rfl
  | succ f ih =>
    intro pos h0 h
    by_cases hq : pos < l.length
    · have hps : pos < (mkS l).size := by rw [mkS_size]; exact hq
      obtain ⟨c, hcr, hc⟩ : ∃ c, l.drop pos = c :: l.drop (pos + 1) ∧ (mkS l)[pos]'hps = c := ⟨_, List.drop_eq_getElem_cons hq, mkS_get l pos hps⟩
      rw [hcr, List.all_cons, List.takeWhile_cons, Lib.idxFuncFrom, if_pos hps]
      by_cases ho : PM.blank c = true
      · have ha : c.toNat < 128 := by unfold PM.blank at ho; have := of_decide_eq_true ho; omega
        rw [decode_ascii (mkS l) pos hps (by rw [hc]; exact ha), hc]
        show (if bl c.toNat = false then (pos : Int) else Lib.idxFuncFrom bl false (mkS l) f (pos + 1)) = _
        rw [bl_blank, ho, if_neg (by simp), ih (pos + 1) (by omega) (by omega), Bool.true_and, if_pos rfl]
        split
        · rfl
        · rw [List.length_cons]
          congr 1
          omega
      · have ho' : PM.blank c = false := by simpa using ho
        rw [ho', Bool.false_and]
        have hd : bl (Utf8.decode (mkS l) pos).1 = false := by
          by_cases ha : c.toNat < 128
          · rw [decode_ascii (mkS l) pos hps (by rw [hc]; exact ha), hc]
            exact ho'
          · have := (decode_high (mkS l) pos hps (by rw [hc]; omega)).1
            unfold bl
            exact decide_eq_false (by omega)
        rw [if_pos hd]
        rfl
    · rw [List.drop_of_length_le (by omega), Lib.idxFuncFrom_end _ _ _ _ _ (by rw [mkS_size]; exact hq)]
      rfl
theorem drop_takeWhile (l : List UInt8) (p : UInt8 → Bool) : l.drop (l.takeWhile p).length = l.dropWhile p := by
  induction l with
  | nil => rfl
  | cons a r ih =>
    by_cases h : p a = true
    · rw [List.takeWhile_cons, if_pos h, List.dropWhile_cons, if_pos h]
      exact ih
    · rw [List.takeWhile_cons, if_neg h, List.dropWhile_cons, if_neg h]
      rfl
theorem dropWhile_all (l : List UInt8) (p : UInt8 → Bool) (h : l.all p = true) : l.dropWhile p = [] := by
  induction l with
  | nil => rfl
  | cons a r ih =>
    rw [List.all_cons, Bool.and_eq_true] at h
    rw [List.dropWhile_cons, if_pos h.1]
    exact ih h.2
theorem trimLeft_eq (l : List UInt8) : Lib.trimLeftF bl (mkS l) = mkS (l.dropWhile PM.blank) := by
  unfold Lib.trimLeftF Lib.idxFunc
  rw [idx_trim l _ 0 (by omega) (by rw [mkS_size]; omega), List.drop_zero]
  by_cases ha : l.all PM.blank = true
  · rw [if_pos ha, if_pos rfl, dropWhile_all l _ ha]
    rfl
  · rw [if_neg ha, if_neg (by omega), mkS_extract, Nat.zero_add, Int.toNat_natCast, drop_takeWhile, mkS_size, List.take_of_length_le]
    rw [← drop_takeWhile, List.length_drop]
    exact Nat.le_refl _
theorem last_high (l : List UInt8) (i : Nat) (hi : 0 < i) (hil : i ≤ l.length) (h : 128 ≤ (l.getD (i - 1) 0).toNat) : 128 ≤ (Lib.decodeLastL (l.take i)).1 := by
  rcases Lib.last_cases l i hi hil with ⟨ha, hd⟩ | ⟨ha, hd⟩ | ⟨ha, st, hst, hd, hsum⟩
  · omega
  · rw [hd]
    decide
  · rw [hd]
    have hlen : (l.take i).length = i := by rw [List.length_take]; omega
    have hsz : st < (mkS (l.take i)).size := by rw [mkS_size, hlen]; exact hst
    have he : Lib.decodeL ((l.take i).drop st) = Utf8.decode (mkS (l.take i)) st := by
      have := Lib.decodeL_drop (mkS (l.take i)) st
      rw [mkS_data] at this
      exact this
    by_cases hc : ((mkS (l.take i))[st]'hsz).toNat < 128
    · rw [he, decode_ascii _ st hsz hc] at hsum
      have h1 : st = i - 1 := by simp at hsum; omega
      subst h1
      rw [mkS_get] at hc
      have : (l.take i)[i - 1]'(by rw [hlen]; omega) = l.getD (i - 1) 0 := by
        rw [List.getElem_take, List.getD_eq_getElem?_getD, List.getElem?_eq_getElem (by omega)]
        rfl
      rw [this] at hc
      omega
    · rw [he]
      exact (decode_high _ st hsz (by omega)).1
theorem right_trim (l : List UInt8) : ∀ f i, i ≤ f → i ≤ l.length → Lib.OpenAt l i →
    (if 0 ≤ Lib.lastIdxFuncFrom bl false (mkS l) f i then (Lib.lastIdxFuncFrom bl false (mkS l) f i).toNat + (Lib.decodeL (l.drop (Lib.lastIdxFuncFrom bl false (mkS l) f i).toNat)).2 else 0) = ((l.take i).reverse.dropWhile PM.blank).length
  | 0, i, hf, _, _ => by
    obtain rfl : i = 0 := by omega
    rfl
  | f + 1, i, hf, hil, ho => by
    by_cases hi : 0 < i
    · have hlen : (l.take i).length = i := by rw [List.length_take]; omega
      have hget : l.getD (i - 1) 0 = l[i - 1]'(by omega) := by
        rw [List.getD_eq_getElem?_getD, List.getElem?_eq_getElem (by omega)]
        rfl
      have hrev : (l.take i).reverse = l[i - 1]'(by omega) :: (l.take (i - 1)).reverse := by
        obtain ⟨k, rfl⟩ : ∃ k, i = k + 1 := ⟨i - 1, by omega⟩
        rw [List.take_succ_eq_append_getElem (by omega), List.reverse_append]
        rfl
      have hw := Lib.decodeLastL_width (l.take i) (by rw [hlen]; omega)
      rw [hlen] at hw
      have hun : Lib.lastIdxFuncFrom bl false (mkS l) (f + 1) i = if bl (Lib.decodeLastL (l.take i)).1 = false then ((i - (Lib.decodeLastL (l.take i)).2 : Nat) : Int) else Lib.lastIdxFuncFrom bl false (mkS l) f (i - (Lib.decodeLastL (l.take i)).2) := by
        simp only [Lib.lastIdxFuncFrom, if_pos hi, mkS_data]
      rw [hrev, List.dropWhile_cons]
      by_cases hb : PM.blank (l[i - 1]'(by omega)) = true
      · have ha : (l[i - 1]'(by omega)).toNat ≤ 32 := of_decide_eq_true hb
        have hd : Lib.decodeLastL (l.take i) = ((l[i - 1]'(by omega)).toNat, 1) := by
          rcases Lib.last_cases l i hi hil with ⟨_, hd⟩ | ⟨ha', _⟩ | ⟨ha', _⟩
          · rw [hd, hget]
          · rw [hget] at ha'; omega
          · rw [hget] at ha'; omega
        rw [hd] at hun
        have hstep : Lib.lastIdxFuncFrom bl false (mkS l) (f + 1) i = Lib.lastIdxFuncFrom bl false (mkS l) f (i - 1) := hun.trans (if_neg (by
          show ¬ PM.blank (l[i - 1]'(by omega)) = false
          rw [hb]
          decide))
        rw [hstep, if_pos hb]
        refine right_trim l f (i - 1) (by omega) (by omega) (.inr ?_)
        rw [hget]
        omega
      · have hb' : PM.blank (l[i - 1]'(by omega)) = false := by simpa using hb
        have hp : bl (Lib.decodeLastL (l.take i)).1 = false := by
          by_cases ha : (l[i - 1]'(by omega)).toNat < 128
          · rcases Lib.last_cases l i hi hil with ⟨_, hd⟩ | ⟨ha', _⟩ | ⟨ha', _⟩
            · rw [hd, hget]
              exact hb'
            · rw [hget] at ha'; omega
            · rw [hget] at ha'; omega
          · have := last_high l i hi hil (by rw [hget]; omega)
            unfold bl
            exact decide_eq_false (by omega)
        have hstep := hun.trans (if_pos hp)
        rw [hstep, if_pos (by omega), Int.toNat_natCast, Lib.fw_width l i hi hil ho, Nat.sub_add_cancel hw.2, if_neg hb, List.length_cons, List.length_reverse, List.length_take]
        omega
    · obtain rfl : i = 0 := by omega
      rw [Lib.lastIdxFuncFrom_zero]
      rfl
theorem take_revDrop (l : List UInt8) (p : UInt8 → Bool) : l.take (l.reverse.dropWhile p).length = (l.reverse.dropWhile p).reverse := by
  have h : l.reverse.takeWhile p ++ l.reverse.dropWhile p = l.reverse := List.takeWhile_append_dropWhile
  have h2 : l = (l.reverse.dropWhile p).reverse ++ (l.reverse.takeWhile p).reverse := by
    rw [← List.reverse_append, h, List.reverse_reverse]
  conv => lhs; arg 2; rw [h2]
  rw [List.take_append_of_le_length (by rw [List.length_reverse]; exact Nat.le_refl _), List.take_of_length_le (by rw [List.length_reverse]; exact Nat.le_refl _)]
theorem trimRight_eq (l : List UInt8) : Lib.trimRightF bl (mkS l) = mkS (l.reverse.dropWhile PM.blank).reverse := by
  have h := right_trim l l.length l.length (Nat.le_refl _) (Nat.le_refl _) (.inl rfl)
  rw [List.take_length] at h
  have he : Lib.rightEndF bl (mkS l) = (l.reverse.dropWhile PM.blank).length := by
    rw [← h]
    unfold Lib.rightEndF Lib.lastIdxFunc
    rw [mkS_size]
    split
    · rename_i h0
      congr 1
      rcases Lib.lastIdxFuncFrom_range bl false (mkS l) l.length l.length with hm | hlt
      · omega
      · generalize hk : (Lib.lastIdxFuncFrom bl false (mkS l) l.length l.length).toNat = k
        rw [mkS_extract, List.take_of_length_le (by rw [List.length_drop]; exact Nat.le_refl _)]
        by_cases hkl : k < l.length
        · unfold Lib.decodeGoB Lib.decodeL
          rw [if_neg (by rw [mkS_size, List.length_drop]; omega)]
          rfl
        · exfalso
          rw [hk, List.drop_of_length_le (by omega)] at h
          have hw : 1 ≤ (Lib.decodeL []).2 := Lib.decodeL_width _
          rw [if_pos h0] at h
          have h3 : (l.reverse.dropWhile PM.blank).length ≤ l.length := by
            have h4 : l.reverse.takeWhile PM.blank ++ l.reverse.dropWhile PM.blank = l.reverse := List.takeWhile_append_dropWhile
            have h5 := congrArg List.length h4
            rw [List.length_append, List.length_reverse] at h5
            omega
          omega
    · rfl
  unfold Lib.trimRightF
  rw [he, mkS_extract, List.drop_zero, Nat.sub_zero, take_revDrop]
theorem trim_eq (l : List UInt8) : Lib.trimF bl (mkS l) = mkS (PM.trim l) := by
  unfold Lib.trimF
  rw [trimLeft_eq, trimRight_eq]
  rfl
set_option maxHeartbeats 1000000 in
theorem Trim1_c (x : Nat) (w : World) : Calls Tryz.prog 124 #[.int .i32 (x : Int)] w fun e w' => e = .returned (.bool (bl x)) ∧ w' = w := by
  by_cases h : x ≤ 32
  · have h1 : (x : Int) ≤ 32 := by omega
    go_enter Tryz.func124, Tryz.ntmps124
    go_wp2
    go_ret
    exact ⟨ret_bool (by simp [bl, h]), rfl⟩
  · have h1 : ¬ (x : Int) ≤ 32 := by omega
    go_enter Tryz.func124, Tryz.ntmps124
    go_wp2
    go_ret
    exact ⟨ret_bool (by simp [bl, h]), rfl⟩
set_option maxHeartbeats 1000000 in
theorem Trim_c (s : List UInt8) (hs : s.length ≤ 1000000000) (w : World) (hT : Lib.Utf8Tabs 2 3 w) : Calls Tryz.prog 97 #[.string (mkS s)] w fun e w' => e = .returned (.string (mkS (PM.trim s))) ∧ Below w.heap.size w w' := by
  have h := Tryz.strings_TrimFunc_runes 124 #[] (fun args w => by kernel_rfl) bl (mkS s) w (by rw [mkS_size]; omega) hT (fun W x hx hb => (Trim1_c x W).mono fun e w' h => ⟨h.1, 0, h.2⟩)
  rw [trim_eq] at h
  go_enter Tryz.func97, Tryz.ntmps97
  go_wp2_with fail
  refine h.mono ?_
  rintro e w1 ⟨rfl, hb⟩
  go_wp2_with fail
  go_ret
  exact ⟨rfl, hb⟩
end Go.Proofs.YtppbkblnjlbnfaaGreatDoor
/-! Contracts: sync.Once, one goroutine (after the kit's worked texts on Lazy). -/
namespace Go.Proofs.YtppbkblnjlbnfaaGreatDoor
open Go.RowKit
theorem race_disable (w : World) : (callFunc 206 #[]).run Tryz.prog w = .ok (.value (.tuple #[])) w := run_call_mark0 Tryz.func206 (by kernel_rfl) (by kernel_rfl) (by kernel_rfl) .disable (by kernel_rfl) w
theorem race_enable (w : World) : (callFunc 208 #[]).run Tryz.prog w = .ok (.value (.tuple #[])) w := run_call_mark0 Tryz.func208 (by kernel_rfl) (by kernel_rfl) (by kernel_rfl) .enable (by kernel_rfl) w
theorem race_acquire (a : Addr) (w : World) : (callFunc 209 #[.pointer (some a)]).run Tryz.prog w = .ok (.value (.tuple #[])) w := run_call_marked Tryz.func209 (by kernel_rfl) (by kernel_rfl) (by kernel_rfl) .acquire (by kernel_rfl) a w
theorem race_releaseMerge (a : Addr) (w : World) : (callFunc 211 #[.pointer (some a)]).run Tryz.prog w = .ok (.value (.tuple #[])) w := run_call_marked Tryz.func211 (by kernel_rfl) (by kernel_rfl) (by kernel_rfl) .releaseMerge (by kernel_rfl) a w
theorem store_deferred (a : Addr) (x : Value) (u : FrameMode) (w : World) (hc : w.cell? a = some x) (hz : w.frozen? a = false) :
    CallsD Tryz.prog 183 #[.pointer (some a), .bool true] u w fun e u' w' => u' = u ∧ (e = .returned (.tuple #[]) ∧ w' = w.drew.setCell a (.int .u32 1)) := by
  have hc' : w.drew.cell? a = some x := by go_simp
  have hz' : w.drew.frozen? a = false := by go_simp
  have hst := run_call_store (P := Tryz.prog) Tryz.func196 (by kernel_rfl) (by kernel_rfl) (by kernel_rfl) (by kernel_rfl) (k := .u32) (y := 1) hc' hz'
  go_enter_d Tryz.func183, Tryz.ntmps183
  go_wp2
  go_region_calls
  all_goals (go_end0; exact ⟨rfl, rfl⟩)
set_option maxRecDepth 100000 in
theorem unlock_inner (a : Addr) (w : World) (hc : w.cell? a = some (.int .i32 1)) (hz : w.frozen? a = false) :
    Calls Tryz.prog 195 #[.pointer (some a)] w fun e w' => e = .returned (.tuple #[]) ∧ w' = w.setCell a (.int .i32 0) := by
  have hd := race_disable
  have he := race_enable
  have hr := race_releaseMerge
  have hadd := run_call_add (P := Tryz.prog) Tryz.func212 (by kernel_rfl) (by kernel_rfl) (by kernel_rfl) .i32 (by kernel_rfl) (y := -1) (s := 0) hc hz (by simp [go_sem]; rfl)
  have hcv := run_convert_to_unsafe (P := Tryz.prog) (src := 242) (dst := 144) Tryz.underlying242 Tryz.underlying144 (by kernel_rfl) hc
  go_enter Tryz.func195, Tryz.ntmps195
  go_wp2
  go_end0
  exact ⟨rfl, rfl⟩
theorem unlock_deferred (a : Addr) (u : FrameMode) (w : World) (hc : w.cell? a = some (.int .i32 1)) (hz : w.frozen? a = false) :
    CallsD Tryz.prog 182 #[.pointer (some a)] u w fun e u' w' => u' = u ∧ (e = .returned (.tuple #[]) ∧ w' = w.setCell a (.int .i32 0)) := by
  have HU := Lib.hid (unlock_inner a w hc hz)
  clear hc hz
  go_enter_d Tryz.func182, Tryz.ntmps182
  go_wp2_with fail
  refine HU.out.mono ?_
  rintro e w1 ⟨rfl, rfl⟩
  go_wp2_with fail
  go_end0
  exact ⟨rfl, rfl⟩
set_option maxRecDepth 100000 in
theorem lock_inner (a : Addr) (w : World) (hc : w.cell? a = some (.int .i32 0)) (hz : w.frozen? a = false) :
    Calls Tryz.prog 194 #[.pointer (some a)] w fun e w' => e = .returned (.tuple #[]) ∧ w' = w.setCell a (.int .i32 1) := by
  have hd := race_disable
  have he := race_enable
  have ha := race_acquire
  have hcas := run_call_cas_hit (P := Tryz.prog) Tryz.func207 (by kernel_rfl) (by kernel_rfl) (by kernel_rfl) .i32 (by kernel_rfl) (y := 1) hc hz
  have hc' : (w.setCell a (.int .i32 1)).cell? a = some (.int .i32 1) := World.cell?_setCell_same w a _ hc
  have hcv := run_convert_to_unsafe (P := Tryz.prog) (src := 242) (dst := 144) Tryz.underlying242 Tryz.underlying144 (by kernel_rfl) hc'
  go_enter Tryz.func194, Tryz.ntmps194
  go_wp2
  first | go_end0 | (simp only [Exit.inBlock, Exit.then]; refine bodyPost_ret (results_none rfl _ _ _) rfl ?_) | refine bodyPost_ret (results_none rfl _ _ _) rfl ?_
  exact ⟨rfl, rfl⟩
theorem lock_free (a : Addr) (w : World) (hc : w.cell? a = some (.int .i32 0)) (hz : w.frozen? a = false) :
    Calls Tryz.prog 181 #[.pointer (some a)] w fun e w' => e = .returned (.tuple #[]) ∧ w' = w.setCell a (.int .i32 1) := by
  have HU := Lib.hid (lock_inner a w hc hz)
  clear hc hz
  go_enter Tryz.func181, Tryz.ntmps181
  go_wp2_with fail
  refine HU.out.mono ?_
  rintro e w1 ⟨rfl, rfl⟩
  go_wp2_with fail
  go_end0
  exact ⟨rfl, rfl⟩
theorem load_c (a : Addr) (x : Int) (w : World) (h : w.cell? a = some (.int .u32 x)) : Calls Tryz.prog 154 #[.pointer (some a)] w fun e w' => e = .returned (.bool (x != 0)) ∧ w' = w := by
  have hl := run_call_load (P := Tryz.prog) Tryz.func180 (by kernel_rfl) (by kernel_rfl) (by kernel_rfl) .u32 (by kernel_rfl) h
  go_enter Tryz.func154, Tryz.ntmps154
  go_wp2
  go_ret
  exact ⟨rfl, rfl⟩
set_option maxRecDepth 100000 in
/-- The Once of a Replacer that is not yet built: by the contract of what builds it. -/
theorem slow_c (b : Nat) (w : World) (Q : World → Prop)
    (h0 : w.cell? ⟨b, 0, none⟩ = some (.int .u32 0)) (h1 : w.cell? ⟨b, 1, none⟩ = some (.int .i32 0)) (f1 : w.frozen? ⟨b, 1, none⟩ = false)
    (hf : Calls Tryz.prog 122 #[.pointer (some ⟨b, 0, none⟩)] (w.setCell ⟨b, 1, none⟩ (.int .i32 1)) fun e w' => e = .returned (.tuple #[]) ∧ Q w')
    (hQ : ∀ W, Q W → W.cell? ⟨b, 0, none⟩ = some (.int .u32 0) ∧ W.cell? ⟨b, 1, none⟩ = some (.int .i32 1) ∧ W.frozen? ⟨b, 0, none⟩ = false ∧ W.frozen? ⟨b, 1, none⟩ = false) :
    Calls Tryz.prog 155 #[.pointer (some ⟨b, 0, none⟩), .func (.func 122) #[.pointer (some ⟨b, 0, none⟩)] #[]] w fun e w' => e = .returned (.tuple #[]) ∧ ∃ W, Q W ∧ w' = (W.drew.setCell ⟨b, 0, none⟩ (.int .u32 1)).setCell ⟨b, 1, none⟩ (.int .i32 0) := by
  have hnot : ∀ (x : Bool) (w : World), (Op.unary .not (.bool x)).run Tryz.prog w = .ok (.bool (!x)) w := fun _ _ => rfl
  have hl := load_c ⟨b, 0, none⟩ 0 (w.setCell ⟨b, 1, none⟩ (.int .i32 1)) ((World.cell?_setCell_other _ ⟨b, 1, none⟩ ⟨b, 0, none⟩ _ (by simp)).trans h0)
  have HL := Lib.hid (lock_free ⟨b, 1, none⟩ w h1 f1)
  have HLD := Lib.hid hl
  have HF := Lib.hid hf
  have HQ := Lib.hid hQ
  clear hl hf hQ h0 h1 f1
  go_enter_defers Tryz.func155, Tryz.ntmps155
  go_wp2_with (first
    | (go_at_call 181; refine HL.out.mono ?_; rintro e w1 ⟨rfl, rfl⟩)
    | (go_at_call 154; refine HLD.out.mono ?_; rintro e w1 ⟨rfl, rfl⟩)
    | (go_at_call 122; refine HF.out.mono ?_; rintro e W ⟨rfl, hqW⟩))
  obtain ⟨c0, c1, z0, z1⟩ := HQ.out _ hqW
  refine leaves_cons (f := 183) (args := #[.pointer (some ⟨b, 0, none⟩), .bool true]) (by simp) (by simp [go_sem]) ?_
  refine (store_deferred ⟨b, 0, none⟩ (.int .u32 0) .returning _ c0 z0).mono ?_
  rintro e u' w'' ⟨rfl, rfl, rfl⟩
  refine leaves_cons (f := 182) (args := #[.pointer (some ⟨b, 1, none⟩)]) (by simp [settle]) (by simp [go_sem]) ?_
  refine (unlock_deferred ⟨b, 1, none⟩ _ _ ?_ ?_).mono ?_
  · refine (World.cell?_setCell_other _ ⟨b, 0, none⟩ ⟨b, 1, none⟩ _ (by simp)).trans ?_
    rw [World.cell?_drew]
    exact c1
  · simp [z1]
  rintro e u' w'' ⟨rfl, rfl, rfl⟩
  simp [Leaves, settle, results, Tryz.results155]
  exact ⟨W, hqW, rfl⟩
set_option maxRecDepth 100000 in
theorem do_c (b : Nat) (w : World) (Q : World → Prop)
    (h0 : w.cell? ⟨b, 0, none⟩ = some (.int .u32 0)) (h1 : w.cell? ⟨b, 1, none⟩ = some (.int .i32 0)) (f1 : w.frozen? ⟨b, 1, none⟩ = false)
    (hf : Calls Tryz.prog 122 #[.pointer (some ⟨b, 0, none⟩)] (w.setCell ⟨b, 1, none⟩ (.int .i32 1)) fun e w' => e = .returned (.tuple #[]) ∧ Q w')
    (hQ : ∀ W, Q W → W.cell? ⟨b, 0, none⟩ = some (.int .u32 0) ∧ W.cell? ⟨b, 1, none⟩ = some (.int .i32 1) ∧ W.frozen? ⟨b, 0, none⟩ = false ∧ W.frozen? ⟨b, 1, none⟩ = false) :
    Calls Tryz.prog 121 #[.pointer (some ⟨b, 0, none⟩), .func (.func 122) #[.pointer (some ⟨b, 0, none⟩)] #[]] w fun e w' => e = .returned (.tuple #[]) ∧ ∃ W, Q W ∧ w' = (W.drew.setCell ⟨b, 0, none⟩ (.int .u32 1)).setCell ⟨b, 1, none⟩ (.int .i32 0) := by
  have hnot : ∀ (x : Bool) (w : World), (Op.unary .not (.bool x)).run Tryz.prog w = .ok (.bool (!x)) w := fun _ _ => rfl
  have HLD := Lib.hid (load_c ⟨b, 0, none⟩ 0 w h0)
  have HS := Lib.hid (slow_c b w Q h0 h1 f1 hf hQ)
  clear hf hQ h0 h1 f1
  go_enter Tryz.func121, Tryz.ntmps121
  go_wp2_with (first
    | (go_at_call 154; refine HLD.out.mono ?_; rintro e w1 ⟨rfl, rfl⟩)
    | (go_at_call 155; refine HS.out.mono ?_; rintro e w1 ⟨rfl, W, hqW, rfl⟩))
  go_end0
  exact ⟨rfl, W, hqW, rfl⟩
end Go.Proofs.YtppbkblnjlbnfaaGreatDoor
