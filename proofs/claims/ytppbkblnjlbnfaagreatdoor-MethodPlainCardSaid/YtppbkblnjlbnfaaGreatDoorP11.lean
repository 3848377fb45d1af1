import Derived.Test.YtppbkblnjlbnfaaGreatDoorP10
/-! Contract: a byteStringReplacer's Replace. -/
set_option linter.unusedVariables false
set_option linter.unusedSimpArgs false
namespace Go.Proofs.YtppbkblnjlbnfaaGreatDoor
open Go.RowKit
def ends (s : List UInt8) : Nat := (s.filter PM.isEnd).length
theorem ends_snoc (s : List UInt8) (c : UInt8) : ends (s ++ [c]) = ends s + if PM.isEnd c = true then 1 else 0 := by
  unfold ends
  rw [List.filter_append]
  by_cases h : PM.isEnd c = true <;> simp [h]
theorem isEnd_mem (c : UInt8) : PM.isEnd c = true ↔ c ∈ [13, 10, 9] := by
  unfold PM.isEnd
  simp only [Bool.or_eq_true, beq_iff_eq, List.mem_cons, List.not_mem_nil, or_false]
  constructor
  · rintro ((h | h) | h) <;> simp [h]
  · rintro (h | h | h) <;> simp [h]
theorem ends_count (s : List UInt8) : ends s = Lib.countByte s 13 + Lib.countByte s 10 + Lib.countByte s 9 := by
  unfold Lib.countByte
  induction s with
  | nil => rfl
  | cons c r ih =>
    have h : ends (c :: r) = (if PM.isEnd c = true then 1 else 0) + ends r := by
      unfold ends
      by_cases h : PM.isEnd c = true <;> simp [h] <;> omega
    rw [h, ih]
    simp only [List.count_cons, beq_iff_eq]
    have hi := isEnd_mem c
    by_cases h1 : c = 13
    · subst h1
      simp [PM.isEnd]
      omega
    · by_cases h2 : c = 10
      · subst h2
        simp [PM.isEnd]
        omega
      · by_cases h3 : c = 9
        · subst h3
          simp [PM.isEnd]
          omega
        · rw [if_neg (by rw [hi]; simp [h1, h2, h3])]
          simp [h1, h2, h3]
/-- What is read of it. -/
theorem BSt.at_ {g B : Nat} {W : World} (h : BSt g B [13, 10, 9] W) (c : UInt8) : (PM.isEnd c = true → ∃ a k, W.cell? ⟨g, c.toNat, none⟩ = some (.slice (some a) 0 k)) ∧ (PM.isEnd c = false → W.cell? ⟨g, c.toNat, none⟩ = some (.slice none 0 0)) := by
  obtain ⟨cs, v, h1, h2, h3, h4, h5⟩ := h
  obtain ⟨a, k, e1, e2, e3⟩ := h5 c
  rw [Lib.cell_of_heap h1]
  refine ⟨fun hc => ?_, fun hc => ?_⟩
  · cases a with
    | none => exact absurd ((isEnd_mem c).1 hc) (e2.1 rfl)
    | some a => exact ⟨a, k, e1⟩
  · have : a = none := e2.2 (fun hm => by rw [(isEnd_mem c).2 hm] at hc; cases hc)
    subst this
    rw [e1, e3 rfl]
def pad (m : Nat) (l : List UInt8) : List UInt8 := l ++ List.replicate (m - l.length) 0
def padV (m : Nat) (l : List UInt8) : Array Value := ((pad m l).map fun c => Value.int .u8 (c.toNat : Int)).toArray
theorem pad_set (m : Nat) (l : List UInt8) (c : UInt8) (h : l.length < m) : (pad m l).set l.length c = pad m (l ++ [c]) := by
  obtain ⟨d, hd⟩ : ∃ d, m - l.length = d + 1 := ⟨m - l.length - 1, by omega⟩
  unfold pad
  rw [List.length_append, List.length_singleton, hd, show m - (l.length + 1) = d by omega, List.replicate_succ, List.set_append_right _ _ (Nat.le_refl _), Nat.sub_self, List.append_assoc]
  rfl
theorem padV_set (m : Nat) (l : List UInt8) (c : UInt8) (h : l.length < m) : (padV m l).setIfInBounds l.length (.int .u8 (c.toNat : Int)) = padV m (l ++ [c]) := by
  unfold padV
  rw [← pad_set m l c h, List.map_set, List.setIfInBounds_toArray]
theorem padV_nil (m : Nat) : madeCells #[.int .u8 0] m = padV m [] := by
  rw [made_eq]
  simp [padV, pad]
theorem padV_get (m : Nat) (l : List UInt8) (h : l.length < m) : (padV m l)[l.length]? = some (.int .u8 0) := by
  obtain ⟨d, hd⟩ : ∃ d, m - l.length = d + 1 := ⟨m - l.length - 1, by omega⟩
  unfold padV pad
  rw [hd, List.replicate_succ]
  simp
theorem padV_full (l : List UInt8) : padV l.length l = (l.map fun c => Value.int .u8 (c.toNat : Int)).toArray := by
  simp [padV, pad]
def keep (s : List UInt8) : List UInt8 := s.filter fun c => !PM.isEnd c
theorem keep_snoc (s : List UInt8) (c : UInt8) : keep (s ++ [c]) = if PM.isEnd c = true then keep s else keep s ++ [c] := by
  unfold keep
  rw [List.filter_append]
  by_cases h : PM.isEnd c = true <;> simp [h]
theorem keep_ends (s : List UInt8) : (keep s).length + ends s = s.length := by
  induction s with
  | nil => rfl
  | cons c r ih =>
    unfold keep ends at *
    by_cases h : PM.isEnd c = true
    · simp [h]
      omega
    · have h' : PM.isEnd c = false := by simpa using h
      simp [h']
      omega
theorem keep_take (s : List UInt8) (k : Nat) : (keep (s.take k)).length ≤ (keep s).length := by
  unfold keep
  exact ((List.take_sublist k s).filter _).length_le
set_option maxRecDepth 100000 in
set_option maxHeartbeats 1000000 in
theorem BRep_c (g B : Nat) (s : List UInt8) (hs : s.length ≤ 1000000) (w : World) (hst : BSt g B [13, 10, 9] w) : Calls Tryz.prog 257 #[.pointer (some ⟨g, 0, none⟩), .string (mkS s)] w fun e w' => e = .returned (.string (mkS (s.filter fun c => !PM.isEnd c))) ∧ Below w.heap.size w w' := by
  obtain ⟨cs, v, h1, h2, h3, h4, h5⟩ := hst
  obtain ⟨va, vc, rfl⟩ := own_form h4
  have e256 : w.cell? ⟨g, 256, none⟩ = some (.slice va 3 vc) := by rw [Lib.cell_of_heap h1]; exact h3
  go_enter Tryz.func257, Tryz.ntmps257
  by_cases h24 : 24 ≤ s.length
  · have h24' : (24 : Int) ≤ (s.length : Int) := by omega
    have hst : BSt g B [13, 10, 9] w := ⟨cs, _, h1, h2, h3, h4, h5⟩
    have HST := Lib.hid hst
    obtain ⟨gg, cap, cur, hva, _, hgg, _, _, _, htk⟩ := h4.2.resolve_left (fun e => by simp at e)
    injection hva with hva _ _
    subst hva
    have hx : ∀ j u, (strs (([13, 10, 9] : List UInt8).map fun c => [c]))[j]? = some u → w.cell? ⟨gg, j, none⟩ = some u := fun j u hj => by
      rw [Lib.cell_of_heap hgg]
      rw [← htk, List.getElem?_take] at hj
      split at hj
      · simpa using hj
      · cases hj
    have x0 : w.cell? ⟨gg, 0, none⟩ = some (.string (mkS [13])) := hx 0 _ rfl
    have x1 : w.cell? ⟨gg, 1, none⟩ = some (.string (mkS [10])) := hx 1 _ rfl
    have x2 : w.cell? ⟨gg, 2, none⟩ = some (.string (mkS [9])) := hx 2 _ rfl
    obtain ⟨a13, k13, r13⟩ := (hst.at_ 13).1 rfl
    replace r13 : w.cell? ⟨g, 13, none⟩ = some (.slice (some a13) 0 k13) := r13
    obtain ⟨a10, k10, r10⟩ := (hst.at_ 10).1 rfl
    replace r10 : w.cell? ⟨g, 10, none⟩ = some (.slice (some a10) 0 k10) := r10
    obtain ⟨a9, k9, r9⟩ := (hst.at_ 9).1 rfl
    replace r9 : w.cell? ⟨g, 9, none⟩ = some (.slice (some a9) 0 k9) := r9
    have g13 : ∀ h : 0 < (mkS [13]).size, (mkS [13])[0]'h = 13 := fun _ => rfl
    have g10 : ∀ h : 0 < (mkS [10]).size, (mkS [10])[0]'h = 10 := fun _ => rfl
    have g9 : ∀ h : 0 < (mkS [9]).size, (mkS [9])[0]'h = 9 := fun _ => rfl
    have n13 := fun W => Tryz.strings_Count_one (mkS s) 13 W
    have n10 := fun W => Tryz.strings_Count_one (mkS s) 10 W
    have n9 := fun W => Tryz.strings_Count_one (mkS s) 9 W
    simp only [mkS_data] at n13 n10 n9
    have l13 : Lib.countByte s 13 ≤ s.length := List.count_le_length
    have l10 : Lib.countByte s 10 ≤ s.length := List.count_le_length
    have l9 : Lib.countByte s 9 ≤ s.length := List.count_le_length
    have hends := ends_count s
    generalize Lib.countByte s 13 = c13 at n13 l13 hends
    generalize Lib.countByte s 10 = c10 at n10 l10 hends
    generalize Lib.countByte s 9 = c9 at n9 l9 hends
    have N13 := Lib.hid n13
    have N10 := Lib.hid n10
    have N9 := Lib.hid n9
    have HE := Lib.hid hends
    clear h1 h2 h3 h4 h5 hst hgg htk hx n13 n10 n9 hends cs
    go_wp2
    go_loopw [5, 6, 32] (fun ns any i wr => Hid (Below w.heap.size w wr) ∧ ((i = .int .i64 0 ∧ ns = .int .i64 s.length ∧ any = .bool false) ∨ (i = .int .i64 1 ∧ ns = .int .i64 ((s.length : Int) - c13) ∧ any = .bool (decide (0 < c13))) ∨ (i = .int .i64 2 ∧ ns = .int .i64 ((s.length : Int) - c13 - c10) ∧ any = .bool (decide (0 < c13 + c10))) ∨ (i = .int .i64 3 ∧ ns = .int .i64 ((s.length : Int) - ends s) ∧ any = .bool (decide (0 < ends s))))) (fun _ _ i _ => 3 - (intOf i).toNat)
    case atStart => exact ⟨Lib.hid (Below.refl _ _), .inl ⟨rfl, rfl, rfl⟩⟩
    case round =>
      obtain ⟨HB, hrel⟩ := hrel
      have e256 := cell_b HB.out e256
      have x0 := cell_b HB.out x0
      have x1 := cell_b HB.out x1
      have x2 := cell_b HB.out x2
      have r13 := cell_b HB.out r13
      have r10 := cell_b HB.out r10
      have r9 := cell_b HB.out r9
      rcases hrel with ⟨rfl, rfl, rfl⟩ | ⟨rfl, rfl, rfl⟩ | ⟨rfl, rfl, rfl⟩ | ⟨rfl, rfl, rfl⟩
      · rcases Nat.eq_zero_or_pos c13 with h0 | h0
        · subst h0
          go_wp2_with (go_at_call 203; refine (N13.out _).mono ?_; rintro e w1 ⟨rfl, rfl⟩)
          exact ⟨⟨by first | exact HB | exact Lib.hid (b_drew HB.out) | exact Lib.hid (b_drewN HB.out _), .inr (.inl ⟨rfl, congrArg (Value.int .i64) (by omega), congrArg Value.bool (by first | rfl | (simp; done) | (simp; omega))⟩)⟩, by simp [intOf]⟩
        · have h0' : ((c13 : Int) != 0) = true := by simp; omega
          go_wp2_with (go_at_call 203; refine (N13.out _).mono ?_; rintro e w1 ⟨rfl, rfl⟩)
          go_region_with (fail)
          go_wp2
          exact ⟨⟨by first | exact HB | exact Lib.hid (b_drew HB.out) | exact Lib.hid (b_drewN HB.out _), .inr (.inl ⟨rfl, congrArg (Value.int .i64) (by omega), congrArg Value.bool (by first | rfl | (simp; done) | (simp; omega))⟩)⟩, by simp [intOf]⟩
      · rcases Nat.eq_zero_or_pos c10 with h0 | h0
        · subst h0
          go_wp2_with (go_at_call 203; refine (N10.out _).mono ?_; rintro e w1 ⟨rfl, rfl⟩)
          exact ⟨⟨by first | exact HB | exact Lib.hid (b_drew HB.out) | exact Lib.hid (b_drewN HB.out _), .inr (.inr (.inl ⟨rfl, congrArg (Value.int .i64) (by omega), congrArg Value.bool (by first | rfl | (simp; done) | (simp; omega))⟩))⟩, by simp [intOf]⟩
        · have h0' : ((c10 : Int) != 0) = true := by simp; omega
          go_wp2_with (go_at_call 203; refine (N10.out _).mono ?_; rintro e w1 ⟨rfl, rfl⟩)
          go_region_with (fail)
          go_wp2
          exact ⟨⟨by first | exact HB | exact Lib.hid (b_drew HB.out) | exact Lib.hid (b_drewN HB.out _), .inr (.inr (.inl ⟨rfl, congrArg (Value.int .i64) (by omega), congrArg Value.bool (by first | rfl | (simp; done) | (simp; omega))⟩))⟩, by simp [intOf]⟩
      · rcases Nat.eq_zero_or_pos c9 with h0 | h0
        · subst h0
          go_wp2_with (go_at_call 203; refine (N9.out _).mono ?_; rintro e w1 ⟨rfl, rfl⟩)
          exact ⟨⟨by first | exact HB | exact Lib.hid (b_drew HB.out) | exact Lib.hid (b_drewN HB.out _), .inr (.inr (.inr ⟨rfl, congrArg (Value.int .i64) (by rw [HE.out]; omega), congrArg Value.bool (by rw [HE.out]; first | rfl | (simp; done) | (simp; omega))⟩))⟩, by simp [intOf]⟩
        · have h0' : ((c9 : Int) != 0) = true := by simp; omega
          go_wp2_with (go_at_call 203; refine (N9.out _).mono ?_; rintro e w1 ⟨rfl, rfl⟩)
          go_region_with (fail)
          go_wp2
          exact ⟨⟨by first | exact HB | exact Lib.hid (b_drew HB.out) | exact Lib.hid (b_drewN HB.out _), .inr (.inr (.inr ⟨rfl, congrArg (Value.int .i64) (by rw [HE.out]; omega), congrArg Value.bool (by rw [HE.out]; first | rfl | (simp; done) | (simp; omega))⟩))⟩, by simp [intOf]⟩
      · obtain ⟨W0, hW0⟩ : ∃ W0, W0 = wr := ⟨_, rfl⟩
        subst hW0
        have HSW := Lib.hid (HST.out.below HB.out)
        have hle : ends s ≤ s.length := List.length_filter_le _ _
        by_cases h0 : ends s = 0
        · have hf : (s.filter fun c => !PM.isEnd c) = s := by
            rw [List.filter_eq_self]
            intro c hc
            have h1 := List.eq_nil_of_length_eq_zero h0
            rw [List.filter_eq_nil_iff] at h1
            have := h1 c hc
            simpa using this
          have HF := Lib.hid hf
          have h0' : ¬ 0 < ends s := by omega
          clear hf
          go_wp2
          go_ret
          exact ⟨by rw [HF.out]; rfl, HB.out⟩
        · have h0' : 0 < ends s := by omega
          have hke := keep_ends s
          have hKE : (s.filter fun c => !PM.isEnd c) = keep s := rfl
          have HKE := Lib.hid hKE
          clear hKE
          have hmi : (s.length : Int) - (ends s : Int) = ((keep s).length : Int) := by omega
          obtain ⟨m, hm⟩ : ∃ m, m = (keep s).length := ⟨_, rfl⟩
          have hml : m ≤ 1000000 := by omega
          have hmk := fun W => run_make_row' (P := Tryz.prog) 90 5 (.int .u8 0) 1 Tryz.underlying90 infoByte rfl .i64 .i64 m (by omega) (by omega) W
          rw [hmi, ← hm, decide_eq_true h0']
          have HM := Lib.hid hm
          clear hmi hm hke hle h0 h0'
          go_wp2
          rw [padV_nil]
          clear hmk
          have hglt : g < W0.heap.size := by
            obtain ⟨c1, v1, x1, _⟩ := HSW.out
            exact h_lt x1
          go_loopw [13, 14, 15] (fun j i b wr => ∃ k : Nat, k ≤ s.length ∧ i = .int .i64 k ∧ j = .int .i64 ((keep (s.take k)).length : Nat) ∧ Hid (wr.heap[W0.heap.size]? = some (.cells (padV m (keep (s.take k))) 5 (0, 0))) ∧ Hid (Below W0.heap.size W0 wr)) (fun _ i _ _ => s.length - (intOf i).toNat)
          case atStart => exact ⟨0, Nat.zero_le _, rfl, rfl, Lib.hid (Go.heap_alloc_new _ _), Lib.hid (b_alloc (Below.refl _ _) _)⟩
          case round =>
            obtain ⟨k, hk, rfl, rfl, HR, HB2⟩ := hrel
            have hq : (keep (s.take k)).length ≤ m := by rw [HM.out]; exact keep_take s k
            by_cases hlt : k < s.length
            · have htk : s.take (k + 1) = s.take k ++ [s[k]] := List.take_succ_eq_append_getElem hlt
              have hen : keep (s.take (k + 1)) = if PM.isEnd s[k] = true then keep (s.take k) else keep (s.take k) ++ [s[k]] := by rw [htk, keep_snoc]
              have hq1 := keep_take s (k + 1)
              rw [← HM.out] at hq1
              have hat := HSW.out.at_ s[k]
              have h256 : (s[k].toNat : Int) < 256 := by have := s[k].toNat_lt; omega
              have hnil : ∀ W : World, (binOp .neq 90 (.slice none 0 0) (.slice none 0 0)).run Tryz.prog W = .ok (.bool false) W := fun _ => rfl
              have hnon : ∀ (W : World) (x : Addr) (y : Nat), (binOp .neq 90 (.slice (some x) 0 y) (.slice none 0 0)).run Tryz.prog W = .ok (.bool true) W := fun _ _ _ => rfl
              rcases Bool.eq_false_or_eq_true (PM.isEnd s[k]) with hc | hc
              rotate_left
              · have hcell := cell_b HB2.out (hat.2 hc)
                rw [if_neg (by rw [hc]; decide)] at hen
                rw [hen, List.length_append, List.length_singleton] at hq1
                have e1 : wr.cell? ⟨W0.heap.size, (keep (s.take k)).length, none⟩ = some (.int .u8 0) := by rw [Lib.cell_of_heap HR.out, padV_get _ _ (by omega)]
                have e2 : wr.frozen? ⟨W0.heap.size, (keep (s.take k)).length, none⟩ = false := by simp [World.frozen?, HR.out]
                have h2 := blk_setCell (i := (keep (s.take k)).length) HR.out (.int .u8 (s[k].toNat : Int))
                rw [padV_set _ _ _ (by omega), ← hen] at h2
                have hlen : Hid ((keep (s.take (k + 1))).length = (keep (s.take k)).length + 1) := Lib.hid (by rw [hen]; simp)
                have H2 := Lib.hid h2
                have hb2 := Lib.hid (b_set HB2.out ⟨W0.heap.size, (keep (s.take k)).length, none⟩ (Nat.le_refl _) (.int .u8 (s[k].toNat : Int)))
                have hj : ((keep (s.take k)).length : Int) < (m : Int) := by omega
                clear hat hc hen h2 htk
                generalize (keep (s.take k)).length = q at *
                go_wp2
                go_roundw
                case rel => exact ⟨k + 1, by omega, congrArg (Value.int .i64) (by omega), congrArg (Value.int .i64) (by rw [hlen.out]; omega), H2, hb2⟩
                case measure => simp [intOf]; omega
              · obtain ⟨a, kk, hcell0⟩ := hat.1 hc
                have hcell := cell_b HB2.out hcell0
                rw [if_pos hc] at hen
                have HEN := Lib.hid hen
                have hcopy : ∀ (W : World) (x : Addr) (n c : Nat) (y : Addr) (z : Nat), (Builtin.copy_ #[90, 90] 3 #[.slice (some x) n c, .slice (some y) 0 z]).run Tryz.prog W = .ok (.int .i64 0) W := fun W x n c y z => by
                  have := run_copy_none (P := Tryz.prog) W 90 90 3 5 (some x) (some y) n c 0 z Tryz.underlying90 (by kernel_rfl) (by simp)
                  exact this
                clear hat hc hen htk hcell0
                generalize hqq : (keep (s.take k)).length = q at *
                have hqi : (q : Int) ≤ (m : Int) := by omega
                by_cases hqm : m = q
                · subst hqm
                  go_wp2
                  go_region_with (fail)
                  go_wp2
                  go_roundw
                  case rel => exact ⟨k + 1, by omega, congrArg (Value.int .i64) (by omega), congrArg (Value.int .i64) (by rw [HEN.out, hqq]), Lib.hid (by rw [HEN.out]; exact HR.out), Lib.hid (b_drewN HB2.out _)⟩
                  case measure => simp [intOf]; omega
                · go_wp2
                  go_region_with (fail)
                  go_wp2
                  go_roundw
                  case rel => exact ⟨k + 1, by omega, congrArg (Value.int .i64) (by omega), congrArg (Value.int .i64) (by rw [HEN.out, hqq]), Lib.hid (by rw [HEN.out]; exact HR.out), Lib.hid (b_drewN HB2.out _)⟩
                  case measure => simp [intOf]; omega
            · obtain rfl : k = s.length := by omega
              rw [List.take_length] at HR hq
              have hcv := run_bytes_str wr 90 9 5 Tryz.underlying90 Tryz.underlying5 Tryz.underlying9 W0.heap.size m (keep s) (fun j hj => by
                have := padV_full (keep s)
                rw [← HM.out] at this
                rw [Lib.cell_of_heap HR.out, this]
                simp [hj])
              rw [← HM.out] at hcv
              have hlen : (keep s).length = m := HM.out.symm
              go_wp2
              go_ret
              exact ⟨by rw [HKE.out]; rfl, b_then HB.out HB2.out⟩
  · have h24' : ¬ (24 : Int) ≤ (s.length : Int) := by omega
    have hst : BSt g B [13, 10, 9] w := ⟨cs, _, h1, h2, h3, h4, h5⟩
    have HST := Lib.hid hst
    clear h1 h2 h3 h4 h5 hst
    go_wp2
    go_loopw [5, 6, 10, 11] (fun ns any i b wr => wr = w ∧ ∃ k : Nat, k ≤ s.length ∧ i = .int .i64 k ∧ ns = .int .i64 ((s.length : Int) - ends (s.take k)) ∧ any = .bool (decide (0 < ends (s.take k)))) (fun _ _ i _ _ => s.length - (intOf i).toNat)
    case atStart => exact ⟨rfl, 0, Nat.zero_le _, rfl, by simp [ends], by simp [ends]⟩
    case round =>
      obtain ⟨hwr, k, hk, rfl, rfl, rfl⟩ := hrel
      have hwr' := hwr.symm
      subst hwr'
      clear hwr
      by_cases hlt : k < s.length
      · have htk : s.take (k + 1) = s.take k ++ [s[k]] := List.take_succ_eq_append_getElem hlt
        have hen : ends (s.take (k + 1)) = ends (s.take k) + if PM.isEnd s[k] = true then 1 else 0 := by rw [htk, ends_snoc]
        have hat := HST.out.at_ s[k]
        have hle : ends (s.take k) ≤ k := by
          unfold ends
          exact Nat.le_trans (List.length_filter_le _ _) (by simp; omega)
        have h256 : (s[k].toNat : Int) < 256 := by have := s[k].toNat_lt; omega
        have hnil : ∀ W : World, (binOp .neq 90 (.slice none 0 0) (.slice none 0 0)).run Tryz.prog W = .ok (.bool false) W := fun _ => rfl
        have hnon : ∀ (W : World) (x : Addr) (y : Nat), (binOp .neq 90 (.slice (some x) 0 y) (.slice none 0 0)).run Tryz.prog W = .ok (.bool true) W := fun _ _ _ => rfl
        have HEN := Lib.hid hen
        clear hen htk
        rcases Bool.eq_false_or_eq_true (PM.isEnd s[k]) with hc | hc
        rotate_left
        · have hcell := hat.2 hc
          have HE : Hid (ends (s.take (k + 1)) = ends (s.take k)) := by
            have := HEN.out
            rw [if_neg (by rw [hc]; decide)] at this
            exact Lib.hid this
          clear hat hc HEN
          go_wp2
          go_roundw
          case rel => exact ⟨trivial, k + 1, by omega, congrArg (Value.int .i64) (by omega), by rw [HE.out], by rw [HE.out]⟩
          case measure => simp [intOf]; omega
        · obtain ⟨a, kk, hcell⟩ := hat.1 hc
          have HE : Hid (ends (s.take (k + 1)) = ends (s.take k) + 1) := by
            have := HEN.out
            rw [if_pos hc] at this
            exact Lib.hid this
          clear hat hc HEN
          go_wp2
          go_roundw
          case rel => exact ⟨trivial, k + 1, by omega, congrArg (Value.int .i64) (by omega), congrArg (Value.int .i64) (by rw [HE.out]; omega), congrArg Value.bool (by rw [HE.out]; simp)⟩
          case measure => simp [intOf]; omega
      · obtain rfl : k = s.length := by omega
        rw [List.take_length]
        have hle : ends s ≤ s.length := List.length_filter_le _ _
        by_cases h0 : ends s = 0
        · have hf : (s.filter fun c => !PM.isEnd c) = s := by
            rw [List.filter_eq_self]
            intro c hc
            have h1 := List.eq_nil_of_length_eq_zero h0
            rw [List.filter_eq_nil_iff] at h1
            have := h1 c hc
            simpa using this
          have HF := Lib.hid hf
          have h0' : ¬ 0 < ends s := by omega
          clear hf
          go_wp2
          go_ret
          exact ⟨by rw [HF.out]; rfl, Below.refl _ _⟩
        · have h0' : 0 < ends s := by omega
          have hke := keep_ends s
          have hKE : (s.filter fun c => !PM.isEnd c) = keep s := rfl
          have HKE := Lib.hid hKE
          clear hKE
          have hmi : (s.length : Int) - (ends s : Int) = ((keep s).length : Int) := by omega
          obtain ⟨m, hm⟩ : ∃ m, m = (keep s).length := ⟨_, rfl⟩
          have hml : m ≤ 1000000 := by omega
          have hmk := fun W => run_make_row' (P := Tryz.prog) 90 5 (.int .u8 0) 1 Tryz.underlying90 infoByte rfl .i64 .i64 m (by omega) (by omega) W
          rw [hmi, ← hm, decide_eq_true h0']
          have HM := Lib.hid hm
          clear hmi hm hke hle h0 h0'
          go_wp2
          rw [padV_nil]
          clear hmk
          have hglt : g < w.heap.size := by
            obtain ⟨c1, v1, x1, _⟩ := HST.out
            exact h_lt x1
          go_loopw [13, 14, 15] (fun j i b wr => ∃ k : Nat, k ≤ s.length ∧ i = .int .i64 k ∧ j = .int .i64 ((keep (s.take k)).length : Nat) ∧ Hid (wr.heap[w.heap.size]? = some (.cells (padV m (keep (s.take k))) 5 (0, 0))) ∧ Hid (Below w.heap.size w wr)) (fun _ i _ _ => s.length - (intOf i).toNat)
          case atStart => exact ⟨0, Nat.zero_le _, rfl, rfl, Lib.hid (Go.heap_alloc_new _ _), Lib.hid (b_alloc (Below.refl _ _) _)⟩
          case round =>
            obtain ⟨k, hk, rfl, rfl, HR, HB⟩ := hrel
            have hq : (keep (s.take k)).length ≤ m := by rw [HM.out]; exact keep_take s k
            by_cases hlt : k < s.length
            · have htk : s.take (k + 1) = s.take k ++ [s[k]] := List.take_succ_eq_append_getElem hlt
              have hen : keep (s.take (k + 1)) = if PM.isEnd s[k] = true then keep (s.take k) else keep (s.take k) ++ [s[k]] := by rw [htk, keep_snoc]
              have hq1 := keep_take s (k + 1)
              rw [← HM.out] at hq1
              have hat := HST.out.at_ s[k]
              have h256 : (s[k].toNat : Int) < 256 := by have := s[k].toNat_lt; omega
              have hnil : ∀ W : World, (binOp .neq 90 (.slice none 0 0) (.slice none 0 0)).run Tryz.prog W = .ok (.bool false) W := fun _ => rfl
              have hnon : ∀ (W : World) (x : Addr) (y : Nat), (binOp .neq 90 (.slice (some x) 0 y) (.slice none 0 0)).run Tryz.prog W = .ok (.bool true) W := fun _ _ _ => rfl
              rcases Bool.eq_false_or_eq_true (PM.isEnd s[k]) with hc | hc
              rotate_left
              · have hcell := cell_b HB.out (hat.2 hc)
                rw [if_neg (by rw [hc]; decide)] at hen
                rw [hen, List.length_append, List.length_singleton] at hq1
                have e1 : wr.cell? ⟨w.heap.size, (keep (s.take k)).length, none⟩ = some (.int .u8 0) := by rw [Lib.cell_of_heap HR.out, padV_get _ _ (by omega)]
                have e2 : wr.frozen? ⟨w.heap.size, (keep (s.take k)).length, none⟩ = false := by simp [World.frozen?, HR.out]
                have h2 := blk_setCell (i := (keep (s.take k)).length) HR.out (.int .u8 (s[k].toNat : Int))
                rw [padV_set _ _ _ (by omega), ← hen] at h2
                have hlen : Hid ((keep (s.take (k + 1))).length = (keep (s.take k)).length + 1) := Lib.hid (by rw [hen]; simp)
                have H2 := Lib.hid h2
                have hb2 := Lib.hid (b_set HB.out ⟨w.heap.size, (keep (s.take k)).length, none⟩ (Nat.le_refl _) (.int .u8 (s[k].toNat : Int)))
                have hj : ((keep (s.take k)).length : Int) < (m : Int) := by omega
                clear hat hc hen h2 htk
                generalize (keep (s.take k)).length = q at *
                go_wp2
                go_roundw
                case rel => exact ⟨k + 1, by omega, congrArg (Value.int .i64) (by omega), congrArg (Value.int .i64) (by rw [hlen.out]; omega), H2, hb2⟩
                case measure => simp [intOf]; omega
              · obtain ⟨a, kk, hcell0⟩ := hat.1 hc
                have hcell := cell_b HB.out hcell0
                rw [if_pos hc] at hen
                have HEN := Lib.hid hen
                have hcopy : ∀ (W : World) (x : Addr) (n c : Nat) (y : Addr) (z : Nat), (Builtin.copy_ #[90, 90] 3 #[.slice (some x) n c, .slice (some y) 0 z]).run Tryz.prog W = .ok (.int .i64 0) W := fun W x n c y z => by
                  have := run_copy_none (P := Tryz.prog) W 90 90 3 5 (some x) (some y) n c 0 z Tryz.underlying90 (by kernel_rfl) (by simp)
                  exact this
                clear hat hc hen htk hcell0
                generalize hqq : (keep (s.take k)).length = q at *
                have hqi : (q : Int) ≤ (m : Int) := by omega
                by_cases hqm : m = q
                · subst hqm
                  go_wp2
                  go_region_with (fail)
                  go_wp2
                  go_roundw
                  case rel => exact ⟨k + 1, by omega, congrArg (Value.int .i64) (by omega), congrArg (Value.int .i64) (by rw [HEN.out, hqq]), Lib.hid (by rw [HEN.out]; exact HR.out), Lib.hid (b_drewN HB.out _)⟩
                  case measure => simp [intOf]; omega
                · go_wp2
                  go_region_with (fail)
                  go_wp2
                  go_roundw
                  case rel => exact ⟨k + 1, by omega, congrArg (Value.int .i64) (by omega), congrArg (Value.int .i64) (by rw [HEN.out, hqq]), Lib.hid (by rw [HEN.out]; exact HR.out), Lib.hid (b_drewN HB.out _)⟩
                  case measure => simp [intOf]; omega
            · obtain rfl : k = s.length := by omega
              rw [List.take_length] at HR hq
              have hcv := run_bytes_str wr 90 9 5 Tryz.underlying90 Tryz.underlying5 Tryz.underlying9 w.heap.size m (keep s) (fun j hj => by
                have := padV_full (keep s)
                rw [← HM.out] at this
                rw [Lib.cell_of_heap HR.out, this]
                simp [hj])
              rw [← HM.out] at hcv
              have hlen : (keep s).length = m := HM.out.symm
              go_wp2
              go_ret
              exact ⟨by rw [HKE.out]; rfl, HB.out⟩
end Go.Proofs.YtppbkblnjlbnfaaGreatDoor
