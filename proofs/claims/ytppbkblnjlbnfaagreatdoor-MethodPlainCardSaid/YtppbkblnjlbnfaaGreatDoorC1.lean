import Derived.Test.YtppbkblnjlbnfaaGreatDoorBase
import Derived.Test.YtppbkblnjlbnfaaGreatDoorSpec
import Derived.Test.YtppbkblnjlbnfaaGreatDoorBld
/-! Contracts: ascii, deci, pct. -/
namespace Go.Proofs.YtppbkblnjlbnfaaGreatDoor
open Go.RowKit
theorem in_c (c a b : Int) (w : World) : Calls Tryz.prog 89 #[.int .u8 c, .int .u8 a, .int .u8 b] w fun e w' => e = .returned (.bool (decide (a ≤ c) && decide (c ≤ b))) ∧ w' = w := by
  by_cases h1 : a ≤ c <;> by_cases h2 : c ≤ b
  all_goals
    go_enter Tryz.func89, Tryz.ntmps89
    go_wp2
    all_goals (go_ret; exact ⟨by simp [h1, h2], rfl⟩)
theorem Digit_c (c : UInt8) (w : World) : Calls Tryz.prog 127 #[.int .u8 (c.toNat : Int)] w fun e w' => e = .returned (.bool (PM.isDigit c)) ∧ w' = w := by
  go_enter Tryz.func127, Tryz.ntmps127
  go_wp2_with (go_at_call 89; refine (in_c _ _ _ _).mono ?_; rintro e w' ⟨rfl, rfl⟩)
  go_ret
  exact ⟨rfl, rfl⟩
theorem Plain_c (l : List UInt8) (w : World) (hl : l.length ≤ 9223372036854775807) : Calls Tryz.prog 178 #[.string (mkS l)] w fun e w' => e = .returned (.bool (PM.plain l)) ∧ w' = w := by
  go_enter Tryz.func178, Tryz.ntmps178
  go_wp2
  go_loop [3, 6] (fun _ i => ∃ k : Nat, k ≤ l.length ∧ i = .int .i64 k ∧ (l.take k).all PM.isDigit = true) (fun _ i => l.length - (intOf i).toNat)
  case atStart => exact ⟨0, by omega, rfl, rfl⟩
  case round =>
    obtain ⟨k, hk, rfl, hp⟩ := hrel
    by_cases hlt : k < l.length
    · cases hd : PM.isDigit l[k]
      · go_wp2_with (go_at_call 127; refine (Digit_c _ _).mono ?_; rintro e w' ⟨rfl, rfl⟩)
        go_ret
        refine ⟨ret_bool ?_, rfl⟩
        symm
        unfold PM.plain
        rw [show l.all PM.isDigit = false from List.all_eq_false.2 ⟨l[k], List.getElem_mem _, by simp [hd]⟩]
        rfl
      · go_wp2_with (go_at_call 127; refine (Digit_c _ _).mono ?_; rintro e w' ⟨rfl, rfl⟩)
        go_round
        case rel => exact ⟨k + 1, by omega, by go_num, by rw [List.take_succ_eq_append_getElem hlt, List.all_append, hp]; simp [hd]⟩
        case measure => simp [intOf]; omega
    · go_wp2
      go_ret
      refine ⟨ret_bool ?_, rfl⟩
      rw [List.take_of_length_le (by omega)] at hp
      simp [PM.plain, hp]
theorem In2_c (c : UInt8) (b : Nat) (w : World) (hc : w.cell? ⟨b, 0, none⟩ = some (.int .u8 (c.toNat : Int))) : Calls Tryz.prog 165 #[.pointer (some ⟨b, 0, none⟩)] w fun e w' => e = .returned (.bool (PM.in0 c)) ∧ w' = w := by
  by_cases h1 : (c.toNat : Int) < 32 <;> by_cases h2 : (126 : Int) < c.toNat
  all_goals
    go_enter Tryz.func165, Tryz.ntmps165
    go_wp2
    all_goals (go_ret; refine ⟨ret_bool ?_, rfl⟩; simp [PM.in0]; omega)
theorem indexByte_has (l : List UInt8) (c : UInt8) : decide (0 ≤ Lib.indexByte l c) = PM.has l c := by
  induction l with
  | nil => rfl
  | cons x r ih =>
    unfold Lib.indexByte PM.has
    have hg := Lib.indexByte_ge r c
    by_cases h : (x == c) = true
    · have : x = c := by simpa using h
      simp [this]
    · have h' : (x == c) = false := by simpa using h
      have h'' : (c == x) = false := by rw [Bool.beq_comm]; exact h'
      rw [List.contains_cons, h'', Bool.false_or, ← PM.has, ← ih, h']
      simp only [Bool.false_eq_true, if_false]
      by_cases e : Lib.indexByte r c = -1
      · simp [e]
      · have : (Lib.indexByte r c == -1) = false := by simpa using e
        rw [this]
        simp only [Bool.false_eq_true, if_false, decide_eq_decide]
        omega
theorem IndexByte_c (l : List UInt8) (c : UInt8) (w : World) : Calls Tryz.prog 111 #[.string (mkS l), .int .u8 (c.toNat : Int)] w fun e w' => e = .returned (.int .i64 (Lib.indexByte l c)) ∧ w' = w := by
  have h := Tryz.strings_IndexByte (mkS l) (c.toNat : Int) w
  rw [mkS_data, show (c.toNat : Int).toNat.toUInt8 = c by simp] at h
  exact h
theorem In1_c (c : UInt8) (b : Nat) (l : List UInt8) (w : World) (hc : w.cell? ⟨b, 0, none⟩ = some (.int .u8 (c.toNat : Int))) : Calls Tryz.prog 164 #[.string (mkS l), .pointer (some ⟨b, 0, none⟩)] w fun e w' => e = .returned (.bool (PM.has l c)) ∧ w' = w := by
  go_enter Tryz.func164, Tryz.ntmps164
  go_wp2_with (go_at_call 111; refine (IndexByte_c _ _ _).mono ?_; rintro e w' ⟨rfl, rfl⟩)
  go_ret
  exact ⟨ret_bool (indexByte_has l c), rfl⟩
theorem In_0 (c : UInt8) (w : World) : Calls Tryz.prog 133 #[.int .i64 0, .int .u8 (c.toNat : Int)] w fun e w' => e = .returned (.bool (PM.in0 c)) ∧ Below w.heap.size w w' := by
  go_enter Tryz.func133, Tryz.ntmps133
  go_wp2_with fail
  refine (In2_c c _ _ ?_).mono ?_
  · go_simp
  rintro e w' ⟨rfl, rfl⟩
  go_wp2
  go_ret
  exact ⟨rfl, by (repeat (first | exact Below.refl _ _ | apply b_alloc | apply b_drew | apply b_drewN | assumption | (refine b_then ?_ (by assumption))))⟩
theorem In3_c (c : UInt8) (b b2 : Nat) (w : World) (hc : w.cell? ⟨b, 0, none⟩ = some (.int .u8 (c.toNat : Int))) (hf : w.cell? ⟨b2, 0, none⟩ = some (.func (.func 164) #[] #[.pointer (some ⟨b, 0, none⟩)])) :
    Calls Tryz.prog 166 #[.pointer (some ⟨b, 0, none⟩), .pointer (some ⟨b2, 0, none⟩)] w fun e w' => e = .returned (.bool (PM.in1 c)) ∧ Below w.heap.size w w' := by
  cases h : PM.in0 c
  · go_enter Tryz.func166, Tryz.ntmps166
    go_wp2_with fail
    refine (In_0 c _).mono ?_
    rintro e w1 ⟨rfl, hb⟩
    have hc1 := cell_b hb hc
    have hf1 := cell_b hb hf
    go_wp2_with fail
    refine (In1_c c b [32, 34, 60, 62, 96] _ hc1).mono ?_
    rintro e w2 ⟨rfl, rfl⟩
    go_wp2
    go_ret
    exact ⟨ret_bool (by simp [PM.in1, h]), hb⟩
  · go_enter Tryz.func166, Tryz.ntmps166
    go_wp2_with fail
    refine (In_0 c _).mono ?_
    rintro e w1 ⟨rfl, hb⟩
    go_wp2
    go_ret
    exact ⟨ret_bool (by simp [PM.in1, h]), hb⟩
theorem In_1 (c : UInt8) (w : World) : Calls Tryz.prog 133 #[.int .i64 1, .int .u8 (c.toNat : Int)] w fun e w' => e = .returned (.bool (PM.in1 c)) ∧ Below w.heap.size w w' := by
  go_enter Tryz.func133, Tryz.ntmps133
  go_wp2_with fail
  refine (In3_c c w.heap.size (w.heap.size + 1) _ ?_ ?_).mono ?_
  · go_simp
  · go_simp
  rintro e w' ⟨rfl, hb⟩
  go_wp2
  go_ret
  exact ⟨rfl, by (repeat (first | exact Below.refl _ _ | apply b_alloc | apply b_drew | apply b_drewN | assumption | (refine b_then ?_ (by assumption))))⟩
theorem In4_c (c : UInt8) (b b2 : Nat) (w : World) (hc : w.cell? ⟨b, 0, none⟩ = some (.int .u8 (c.toNat : Int))) (hf : w.cell? ⟨b2, 0, none⟩ = some (.func (.func 164) #[] #[.pointer (some ⟨b, 0, none⟩)])) :
    Calls Tryz.prog 167 #[.pointer (some ⟨b, 0, none⟩), .pointer (some ⟨b2, 0, none⟩)] w fun e w' => e = .returned (.bool (PM.in2 c)) ∧ Below w.heap.size w w' := by
  cases h : PM.in0 c
  · go_enter Tryz.func167, Tryz.ntmps167
    go_wp2_with fail
    refine (In_0 c _).mono ?_
    rintro e w1 ⟨rfl, hb⟩
    have hc1 := cell_b hb hc
    have hf1 := cell_b hb hf
    go_wp2_with fail
    refine (In1_c c b [32, 34, 35, 39, 60, 62] _ hc1).mono ?_
    rintro e w2 ⟨rfl, rfl⟩
    go_wp2
    go_ret
    exact ⟨ret_bool (by simp [PM.in2, h]), hb⟩
  · go_enter Tryz.func167, Tryz.ntmps167
    go_wp2_with fail
    refine (In_0 c _).mono ?_
    rintro e w1 ⟨rfl, hb⟩
    go_wp2
    go_ret
    exact ⟨ret_bool (by simp [PM.in2, h]), hb⟩
theorem In_2 (c : UInt8) (w : World) : Calls Tryz.prog 133 #[.int .i64 2, .int .u8 (c.toNat : Int)] w fun e w' => e = .returned (.bool (PM.in2 c)) ∧ Below w.heap.size w w' := by
  go_enter Tryz.func133, Tryz.ntmps133
  go_wp2_with fail
  refine (In4_c c w.heap.size (w.heap.size + 1) _ ?_ ?_).mono ?_
  · go_simp
  · go_simp
  rintro e w' ⟨rfl, hb⟩
  go_wp2
  go_ret
  exact ⟨rfl, by (repeat (first | exact Below.refl _ _ | apply b_alloc | apply b_drew | apply b_drewN | assumption | (refine b_then ?_ (by assumption))))⟩
theorem In5_c (c : UInt8) (b b2 : Nat) (w : World) (hc : w.cell? ⟨b, 0, none⟩ = some (.int .u8 (c.toNat : Int))) (hf : w.cell? ⟨b2, 0, none⟩ = some (.func (.func 164) #[] #[.pointer (some ⟨b, 0, none⟩)])) :
    Calls Tryz.prog 168 #[.pointer (some ⟨b, 0, none⟩), .pointer (some ⟨b2, 0, none⟩)] w fun e w' => e = .returned (.bool (PM.in3 c)) ∧ Below w.heap.size w w' := by
  cases h : PM.in2 c
  · go_enter Tryz.func168, Tryz.ntmps168
    go_wp2_with fail
    refine (In_2 c _).mono ?_
    rintro e w1 ⟨rfl, hb⟩
    have hc1 := cell_b hb hc
    have hf1 := cell_b hb hf
    go_wp2_with fail
    refine (In1_c c b [63, 94, 96, 123, 125] _ hc1).mono ?_
    rintro e w2 ⟨rfl, rfl⟩
    go_wp2
    go_ret
    exact ⟨ret_bool (by simp [PM.in3, h]), hb⟩
  · go_enter Tryz.func168, Tryz.ntmps168
    go_wp2_with fail
    refine (In_2 c _).mono ?_
    rintro e w1 ⟨rfl, hb⟩
    go_wp2
    go_ret
    exact ⟨ret_bool (by simp [PM.in3, h]), hb⟩
theorem In_3 (c : UInt8) (w : World) : Calls Tryz.prog 133 #[.int .i64 3, .int .u8 (c.toNat : Int)] w fun e w' => e = .returned (.bool (PM.in3 c)) ∧ Below w.heap.size w w' := by
  go_enter Tryz.func133, Tryz.ntmps133
  go_wp2_with fail
  refine (In5_c c w.heap.size (w.heap.size + 1) _ ?_ ?_).mono ?_
  · go_simp
  · go_simp
  rintro e w' ⟨rfl, hb⟩
  go_wp2
  go_ret
  exact ⟨rfl, by (repeat (first | exact Below.refl _ _ | apply b_alloc | apply b_drew | apply b_drewN | assumption | (refine b_then ?_ (by assumption))))⟩
theorem In6_c (c : UInt8) (b b2 : Nat) (w : World) (hc : w.cell? ⟨b, 0, none⟩ = some (.int .u8 (c.toNat : Int))) (hf : w.cell? ⟨b2, 0, none⟩ = some (.func (.func 164) #[] #[.pointer (some ⟨b, 0, none⟩)])) :
    Calls Tryz.prog 169 #[.pointer (some ⟨b, 0, none⟩), .pointer (some ⟨b2, 0, none⟩)] w fun e w' => e = .returned (.bool (PM.in4 c)) ∧ Below w.heap.size w w' := by
  cases h : PM.in3 c
  · go_enter Tryz.func169, Tryz.ntmps169
    go_wp2_with fail
    refine (In_3 c _).mono ?_
    rintro e w1 ⟨rfl, hb⟩
    have hc1 := cell_b hb hc
    have hf1 := cell_b hb hf
    go_wp2_with fail
    refine (In1_c c b [47, 58, 59, 61, 64, 91, 92, 93, 124] _ hc1).mono ?_
    rintro e w2 ⟨rfl, rfl⟩
    go_wp2
    go_ret
    exact ⟨ret_bool (by simp [PM.in4, h]), hb⟩
  · go_enter Tryz.func169, Tryz.ntmps169
    go_wp2_with fail
    refine (In_3 c _).mono ?_
    rintro e w1 ⟨rfl, hb⟩
    go_wp2
    go_ret
    exact ⟨ret_bool (by simp [PM.in4, h]), hb⟩
theorem In_4 (c : UInt8) (w : World) : Calls Tryz.prog 133 #[.int .i64 4, .int .u8 (c.toNat : Int)] w fun e w' => e = .returned (.bool (PM.in4 c)) ∧ Below w.heap.size w w' := by
  go_enter Tryz.func133, Tryz.ntmps133
  go_wp2_with fail
  refine (In6_c c w.heap.size (w.heap.size + 1) _ ?_ ?_).mono ?_
  · go_simp
  · go_simp
  rintro e w' ⟨rfl, hb⟩
  go_wp2
  go_ret
  exact ⟨rfl, by (repeat (first | exact Below.refl _ _ | apply b_alloc | apply b_drew | apply b_drewN | assumption | (refine b_then ?_ (by assumption))))⟩
set_option maxHeartbeats 1000000 in
theorem put_c (b : Nat) (r : Option Nat) (l : List UInt8) (g : Nat) (cs : List UInt8) (w : World) (h : Bldr b r l w) (hg : g ≠ b) (hgr : some g ≠ r) (hc : ∀ j (hj : j < cs.length), w.cell? ⟨g, j, none⟩ = some (.int .u8 ((cs[j]'hj).toNat : Int))) (hlen : l.length + cs.length ≤ 100000000000) :
    Calls Tryz.prog 134 #[.pointer (some ⟨b, 0, none⟩), .slice (some ⟨g, 0, none⟩) cs.length cs.length] w fun e w' => e = .returned (.tuple #[]) ∧ ∃ r', Bldr b r' (l ++ cs) w' ∧ (r' = r ∨ ∃ k, r' = some k ∧ w.heap.size ≤ k) ∧ Fr w w' b r := by
  have Hc := Lib.hid hc
  clear hc
  go_enter Tryz.func134, Tryz.ntmps134
  go_wp2
  go_loopw [5, 8] (fun _ i wr => ∃ k : Nat, k ≤ cs.length ∧ i = .int .i64 k ∧ ∃ r', Bldr b r' (l ++ cs.take k) wr ∧ (r' = r ∨ ∃ k, r' = some k ∧ w.heap.size ≤ k) ∧ Fr w wr b r) (fun _ i _ => cs.length - (intOf i).toNat)
  case atStart => exact ⟨0, by omega, rfl, r, by simpa using h, .inl rfl, Fr.refl _ _ _⟩
  case round =>
    obtain ⟨k, hk, rfl, r', hB, hr', hF⟩ := hrel
    by_cases hlt : k < cs.length
    · have hck := hF.cell hg hgr (Hc.out k hlt)
      go_wp2_with fail
      refine (WriteByte_c b r' (l ++ cs.take k) cs[k] _ hB (by simp; omega)).mono ?_
      rintro e w1 ⟨rfl, r1, hB1, hr1, hF1⟩
      have hr2 : r1 = r ∨ ∃ k, r1 = some k ∧ w.heap.size ≤ k := by
        rcases hr1 with rfl | ⟨j, rfl, hj⟩
        · exact hr'
        · exact .inr ⟨j, rfl, Nat.le_trans hF.size hj⟩
      have hF2 := hF.trans hF1 hr'
      go_wp2
      go_roundw
      case rel =>
        refine ⟨k + 1, by omega, by go_num, r1, ?_, hr2, hF2⟩
        rw [List.take_succ_eq_append_getElem hlt, ← List.append_assoc]
        exact hB1
      case measure => simp [intOf]; omega
    · go_wp2
      go_end0
      refine ⟨rfl, r', ?_, hr', hF⟩
      rw [List.take_of_length_le (by omega)] at hB
      exact hB
end Go.Proofs.YtppbkblnjlbnfaaGreatDoor
