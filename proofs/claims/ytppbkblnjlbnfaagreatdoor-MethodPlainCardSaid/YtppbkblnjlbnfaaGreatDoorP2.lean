import Derived.Test.YtppbkblnjlbnfaaGreatDoorP1
/-! Contracts: deci.Read, four.Parse. -/
set_option linter.unusedVariables false
namespace PM
theorem val_snoc (a : L) (c : UInt8) : val (a ++ [c]) = 10 * val a + (c.toNat - 48) := by simp [val]
theorem val_foldl (b : L) : ∀ n, n ≤ b.foldl (fun n c => 10 * n + (c.toNat - 48)) n := by
  induction b with
  | nil => intro n; exact Nat.le_refl _
  | cons c r ih => intro n; exact Nat.le_trans (show n ≤ 10 * n + (c.toNat - 48) by omega) (ih _)
theorem val_le (a b : L) : val a ≤ val (a ++ b) := by
  unfold val
  rw [List.foldl_append]
  exact val_foldl b _
end PM
namespace Go.Proofs.YtppbkblnjlbnfaaGreatDoor
open Go.RowKit
def readV (s : List UInt8) (M : Nat) : Value := match PM.read s M with
  | some n => .tuple #[.int .i64 n, .bool true]
  | none => .tuple #[.int .i64 0, .bool false]
theorem ret_two {a b c d : Value} (h1 : a = c) (h2 : b = d) : Ending.returned (.tuple #[a, b]) = .returned (.tuple #[c, d]) := by rw [h1, h2]
set_option maxRecDepth 100000 in
set_option maxHeartbeats 1000000 in
theorem Read_c (s : List UInt8) (M : Nat) (hs : s.length ≤ 1000000) (h9 : 9 ≤ M) (hM : M ≤ 1000000) (w : World) : Calls Tryz.prog 149 #[.string (mkS s), .int .i64 (M : Int)] w fun e w' => e = .returned (readV s M) ∧ w' = w := by
  have hp := Plain_c s w (by omega)
  cases hpl : PM.plain s
  · rw [hpl] at hp
    have hr : readV s M = .tuple #[.int .i64 0, .bool false] := by unfold readV PM.read; rw [hpl]; rfl
    have HP := Lib.hid hp
    rw [hr]
    clear hp hpl hr
    go_enter Tryz.func149, Tryz.ntmps149
    go_wp2_with fail
    refine HP.out.mono ?_
    rintro e w1 ⟨rfl, rfl⟩
    go_wp2
    go_ret2
    exact ⟨rfl, rfl⟩
  · rw [hpl] at hp
    have HP := Lib.hid hp
    have hM0 : ¬ (M : Int) < 0 := by omega
    have hall : ∀ k (hk : k < s.length), ∃ D : Nat, D ≤ 9 ∧ ((s[k]'hk).toNat : Int) = 48 + (D : Int) := by
      intro k hk
      have h1 : PM.isDigit (s[k]'hk) = true := by
        unfold PM.plain at hpl
        simp only [Bool.and_eq_true] at hpl
        exact List.all_eq_true.1 hpl.1 _ (List.getElem_mem hk)
      unfold PM.isDigit at h1
      simp at h1
      exact ⟨(s[k]'hk).toNat - 48, by omega, by omega⟩
    have hbad : ∀ k, M < PM.val (s.take k) → readV s M = .tuple #[.int .i64 0, .bool false] := by
      intro k hk
      have h1 := PM.val_le (s.take k) (s.drop k)
      rw [List.take_append_drop] at h1
      unfold readV PM.read
      rw [hpl, decide_eq_false (by omega)]
      rfl
    have hgood : PM.val s ≤ M → readV s M = .tuple #[.int .i64 (PM.val s), .bool true] := by
      intro h
      unfold readV PM.read
      rw [hpl, decide_eq_true h]
      rfl
    have HA := Lib.hid hall
    have HB := Lib.hid hbad
    have HG := Lib.hid hgood
    clear hp hpl hall hbad hgood
    go_enter Tryz.func149, Tryz.ntmps149
    go_wp2_with fail
    refine HP.out.mono ?_
    rintro e w1 ⟨rfl, rfl⟩
    go_wp2
    go_loop [6, 18] (fun n i => ∃ k : Nat, i = .int .i64 k ∧ k ≤ s.length ∧ n = .int .i64 (PM.val (s.take k)) ∧ PM.val (s.take k) ≤ M) (fun _ i => s.length - (intOf i).toNat)
    case atStart => exact ⟨0, rfl, by omega, rfl, by simp [PM.val]⟩
    case round =>
      obtain ⟨k, rfl, hk, rfl, hv⟩ := hrel
      by_cases hlt : k < s.length
      · have hlt' : (k : Int) < s.length := by omega
        obtain ⟨D, hD, hc⟩ := HA.out k hlt
        have hst : PM.val (s.take (k + 1)) = 10 * PM.val (s.take k) + D := by
          rw [List.take_succ_eq_append_getElem hlt, PM.val_snoc]
          omega
        generalize PM.val (s.take k) = n at hv hst ⊢
        by_cases hover : 10 * n + D ≤ M
        · have h1 : ¬ ((((M : Int) - (D : Int)).tdiv 10) < (n : Int)) := by
            rw [Int.tdiv_eq_ediv_of_nonneg (by omega)]
            omega
          have h2 : ¬ ((M : Int) < (D : Int)) := by omega
          have HST := Lib.hid hst
          clear hst
          go_wp2
          refine ⟨⟨k + 1, congrArg (Value.int .i64) (by omega), by omega, congrArg (Value.int .i64) (by rw [HST.out]; omega), by rw [HST.out]; exact hover⟩, ?_⟩
          simp only [intOf]; omega
        · have h1 : ((((M : Int) - (D : Int)).tdiv 10) < (n : Int)) := by
            rw [Int.tdiv_eq_ediv_of_nonneg (by omega)]
            omega
          have hr := HB.out (k + 1) (by omega)
          clear hst
          go_wp2
          go_ret2
          exact ⟨rfl, rfl⟩
      · have hk' : k = s.length := by omega
        subst hk'
        rw [List.take_length] at hv ⊢
        have hr := HG.out hv
        have HR := Lib.hid hr
        clear hr
        go_wp2
        go_ret2
        exact ⟨congrArg Ending.returned HR.out.symm, rfl⟩
theorem split_tw (l : List UInt8) (c : UInt8) (h : PM.has l c = true) : l = l.takeWhile (· != c) ++ c :: (l.dropWhile (· != c)).drop 1 := by
  induction l with
  | nil => simp [PM.has] at h
  | cons b r ih =>
    rw [List.takeWhile_cons, List.dropWhile_cons]
    by_cases hb : b = c
    · subst hb
      simp
    · have h1 : PM.has r c = true := by
        unfold PM.has at h ⊢
        rw [List.contains_cons] at h
        have : (c == b) = false := by simpa using fun e => hb e.symm
        simpa [this] using h
      have h2 : (b != c) = true := by simpa using hb
      rw [h2]
      simp only [if_true, List.cons_append]
      rw [← ih h1]
theorem tw_no (l : List UInt8) (c : UInt8) : ∀ x ∈ l.takeWhile (· != c), x ≠ c := by
  induction l with
  | nil => simp
  | cons b r ih =>
    intro x hx
    rw [List.takeWhile_cons] at hx
    split at hx
    · rename_i hb
      rcases List.mem_cons.1 hx with rfl | hx
      · simpa using hb
      · exact ih x hx
    · simp at hx
theorem split_one (c : UInt8) (n : Nat) : ∀ l : List UInt8, l.length ≤ n → Lib.splitK [c] 0 (Lib.count l [c]) l = PM.splitB c l ∧ (PM.splitB c l).length = Lib.count l [c] + 1 := by
  induction n with
  | zero =>
    intro l h
    have : l = [] := List.eq_nil_of_length_eq_zero (by omega)
    subst this
    exact ⟨rfl, rfl⟩
  | succ n ih =>
    intro l h
    obtain ⟨h1, h2⟩ := index_one l c
    cases hc : PM.has l c
    · rw [Lib.count_miss (h2 hc)]
      have hno : ∀ x ∈ l, x ≠ c := by
        intro x hx e
        subst e
        unfold PM.has at hc
        simp [hx] at hc
      rw [PM.splitB_none c l hno]
      exact ⟨rfl, rfl⟩
    · have hi := h1 hc
      have hsp := split_tw l c hc
      have hd : l.drop ((l.takeWhile (· != c)).length + [c].length) = (l.dropWhile (· != c)).drop 1 := by
        rw [← List.drop_drop, drop_tw]
        rfl
      have hlen : ((l.dropWhile (· != c)).drop 1).length ≤ n := by
        have := congrArg List.length hsp
        rw [List.length_append, List.length_cons] at this
        omega
      obtain ⟨r1, r2⟩ := ih _ hlen
      rw [Lib.count_hit (by simp) hi, hd, Nat.add_comm 1]
      have hne : (Lib.index l [c] == -1) = false := by rw [hi]; simp
      have e1 : PM.splitB c l = l.takeWhile (· != c) :: PM.splitB c ((l.dropWhile (· != c)).drop 1) := by
        conv => lhs; rw [hsp]
        exact PM.splitB_hit c _ _ (tw_no l c)
      rw [e1]
      refine ⟨?_, by rw [List.length_cons, r2]⟩
      rw [Lib.splitK, hne]
      simp only [Bool.false_eq_true, if_false]
      have e2 : (Lib.index l [c]).toNat = (l.takeWhile (· != c)).length := by rw [hi]; omega
      rw [e2, hd, Nat.add_zero, take_tw, r1]
theorem Split_c (s : List UInt8) (c : UInt8) (d : ByteArray) (hd : d = mkS [c]) (hs : s.length ≤ 1000000000) (w : World) (hg : Gl w) :
    Calls Tryz.prog 161 #[.string (mkS s), .string d] w fun e w' => e = .returned (.slice (some ⟨w.heap.size, 0, none⟩) (PM.splitB c s).length (PM.splitB c s).length) ∧ w' = w.alloc (.cells (strs (PM.splitB c s)).toArray 9) := by
  subst hd
  obtain ⟨m, hm⟩ := hg
  refine (Tryz.strings_Split (mkS s) (mkS [c]) m w (by rw [mkS_size]; omega) hm (by rw [mkS_size]; simp)).mono ?_
  rintro e w' ⟨rfl, rfl⟩
  obtain ⟨h1, h2⟩ := split_one c s.length s (Nat.le_refl _)
  have hc : Lib.countB (mkS s) (mkS [c]) = Lib.count s [c] := by unfold Lib.countB; rw [mkS_data, mkS_data]
  have hb : (Lib.splitB (mkS [c]) 0 (Lib.count s [c]) (mkS s)) = (PM.splitB c s).map mkS := by
    have := Lib.splitB_data (mkS [c]) 0 (Lib.count s [c]) (mkS s)
    rw [mkS_data, mkS_data, h1] at this
    rw [← this, List.map_map]
    conv => lhs; rw [← List.map_id (Lib.splitB (mkS [c]) 0 (Lib.count s [c]) (mkS s))]
    apply List.map_congr_left
    intro x _
    obtain ⟨l, rfl⟩ := mkS_surj x
    simp [mkS_data]
  rw [hc, hb, ← h2]
  refine ⟨rfl, ?_⟩
  congr 3
  simp [strs]
theorem splitB_len (c : UInt8) (l : List UInt8) : (PM.splitB c l).length ≤ l.length + 1 ∧ ∀ x ∈ PM.splitB c l, x.length ≤ l.length := by
  induction l with
  | nil => exact ⟨by simp [PM.splitB], by simp [PM.splitB]⟩
  | cons b r ih =>
    unfold PM.splitB
    split
    · refine ⟨by simp; exact ih.1, fun x hx => ?_⟩
      rcases List.mem_cons.1 hx with rfl | hx
      · simp
      · exact Nat.le_trans (ih.2 x hx) (by simp)
    · split
      · exact ⟨by simp, by simp⟩
      · rename_i h t e
        rw [e] at ih
        refine ⟨by simp at ih ⊢; omega, fun x hx => ?_⟩
        rcases List.mem_cons.1 hx with rfl | hx
        · have := ih.2 h (by simp); simp; exact this
        · have := ih.2 x (by simp [hx]); simp; omega
theorem rdS_new (w : World) (xs : List (List UInt8)) (hs : xs.length * 16 ≤ 140737488355328) : RdS (w.alloc (.cells (strs xs).toArray 9)) (some ⟨w.heap.size, 0, none⟩) xs.length xs :=
  ⟨rfl, hs, .inr ⟨w.heap.size, 0, rfl, by simp, fun j hj => by
    rw [Lib.cell_of_heap (Go.heap_alloc_new w _)]
    simp [strs, hj]⟩⟩
end Go.Proofs.YtppbkblnjlbnfaaGreatDoor
