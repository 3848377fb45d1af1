import Derived.Test.YtppbkblnjlbnfaaGreatDoorC3b
/-! Contracts: ascii.Same, path.Dots. -/
namespace Go.Proofs.YtppbkblnjlbnfaaGreatDoor
open Go.RowKit
theorem Same_c (a b : List UInt8) (ha : a.length ≤ 1000000000000) (hb : b.length ≤ 1000000000000) (w : World) :
    Calls Tryz.prog 37 #[.string (mkS a), .string (mkS b)] w fun e w' => e = .returned (.bool (PM.same a b)) ∧ Below w.heap.size w w' := by
  go_enter Tryz.func37, Tryz.ntmps37
  go_wp2_with fail
  refine (Lower_c a ha _).mono ?_
  rintro e w1 ⟨rfl, h1⟩
  go_wp2_with fail
  refine (Lower_c b hb _).mono ?_
  rintro e w2 ⟨rfl, h2⟩
  go_wp2
  go_ret
  exact ⟨ret_bool (by simp [PM.same]), b_then h1 h2⟩
theorem CutPrefix_c (s p : List UInt8) (w : World) :
    Calls Tryz.prog 110 #[.string (mkS s), .string (mkS p)] w fun e w' => e = .returned (.tuple #[.string (mkS (Lib.trimPrefix s p)), .bool (Lib.hasPrefix s p)]) ∧ w' = w := by
  have h := Tryz.strings_CutPrefix (mkS s) (mkS p) w
  rw [mkS_data, mkS_data] at h
  exact h
theorem cutDot_yes (r : List UInt8) (w : World) : Calls Tryz.prog 110 #[.string (mkS (46 :: r)), .string { data := #[46] }] w fun e w' => e = .returned (.tuple #[.string (mkS r), .bool true]) ∧ w' = w := by
  have h := CutPrefix_c (46 :: r) [46] w
  rw [show Lib.trimPrefix (46 :: r) [46] = r by simp [Lib.trimPrefix, Lib.hasPrefix], show Lib.hasPrefix (46 :: r) [46] = true by simp [Lib.hasPrefix]] at h
  exact h
theorem cutDot_no (c : UInt8) (r : List UInt8) (hc : c ≠ 46) (w : World) : Calls Tryz.prog 110 #[.string (mkS (c :: r)), .string { data := #[46] }] w fun e w' => e = .returned (.tuple #[.string (mkS (c :: r)), .bool false]) ∧ w' = w := by
  have h := CutPrefix_c (c :: r) [46] w
  have hp : Lib.hasPrefix (c :: r) [46] = false := by simp [Lib.hasPrefix, List.isPrefixOf, Ne.symm hc]
  rw [show Lib.trimPrefix (c :: r) [46] = c :: r by simp [Lib.trimPrefix, hp], hp] at h
  exact h
set_option maxHeartbeats 1000000 in
theorem Dots_c (s : List UInt8) (_hs : s.length ≤ 1000000000000) (w : World) :
    Calls Tryz.prog 108 #[.string (mkS s)] w fun e w' => e = .returned (.int .i64 (PM.dots s : Int)) ∧ Below w.heap.size w w' := by
  go_enter Tryz.func108, Tryz.ntmps108
  go_wp2
  go_loopw [0, 3, 4, 5] (fun v n _ _ wr => ∃ (t : List UInt8) (k f : Nat), v = .string (mkS t) ∧ n = .int .i64 k ∧ k ≤ 2 ∧ t.length < f ∧ t.length ≤ s.length ∧ PM.dotsF f t k = PM.dots s ∧ Below w.heap.size w wr) (fun v _ _ _ _ => match v with | .string t => t.size | _ => 0)
  case atStart => exact ⟨s, 0, s.length + 1, rfl, rfl, by omega, by omega, by omega, rfl, Below.refl _ _⟩
  case round =>
    obtain ⟨t, k, f, rfl, rfl, hk, hf, hts, hd, hb⟩ := hrel
    obtain ⟨f, rfl⟩ : ∃ g, f = g + 1 := ⟨f - 1, by omega⟩
    have HD := Lib.hid hd
    clear hd
    cases t with
    | nil =>
      go_wp2
      go_ret
      refine ⟨?_, hb⟩
      rw [← HD.out]
      rfl
    | cons c r =>
      by_cases hc : c = 46
      · subst hc
        have hstep : PM.dotsF (f + 1) (46 :: r) k = if k + 1 > 2 then 0 else PM.dotsF f r (k + 1) := by simp [PM.dotsF]
        have HS := Lib.hid hstep
        clear hstep
        by_cases hk2 : k = 2
        · subst hk2
          go_wp2_with (go_at_call 110; refine (cutDot_yes _ _).mono ?_; rintro e w' ⟨rfl, rfl⟩)
          go_ret
          refine ⟨?_, hb⟩
          rw [← HD.out, HS.out]
          rfl
        · have hk3 : (k : Int) + 1 ≤ 2 := by omega
          go_wp2_with (go_at_call 110; refine (cutDot_yes _ _).mono ?_; rintro e w' ⟨rfl, rfl⟩)
          go_roundw
          case rel =>
            refine ⟨r, k + 1, f, rfl, by go_num, by omega, by simp at hf; omega, by simp at hts; omega, ?_, hb⟩
            rw [← HD.out, HS.out, if_neg (by omega)]
          case measure => simp [mkS_size]
      · have HC := Lib.hid hc
        by_cases h3 : 2 ≤ r.length
        · have hi3 : (3 : Int) ≤ (r.length : Int) + 1 := by omega
          have hl3 : (c :: r.take 2).length ≤ 1000000000000 := by simp; omega
          cases hsm : PM.same (c :: r.take 2) [37, 50, 101]
          · have hstep : PM.dotsF (f + 1) (c :: r) k = 0 := by
              simp only [PM.dotsF]
              rw [if_neg hc, show (c :: r).take 3 = c :: r.take 2 from rfl, hsm]
              simp
            have HS := Lib.hid hstep
            clear hstep hc
            go_wp2_with (go_at_call 110; refine (cutDot_no _ _ HC.out _).mono ?_; rintro e w' ⟨rfl, rfl⟩)
            refine (Same_c (c :: r.take 2) [37, 50, 101] hl3 (by simp) _).mono ?_
            rintro e w1 ⟨rfl, h1⟩
            go_wp2
            go_ret
            refine ⟨?_, hb.trans (h1.mono hb.size)⟩
            rw [← HD.out, HS.out]
            rfl
          · have hstep : PM.dotsF (f + 1) (c :: r) k = if k + 1 > 2 then 0 else PM.dotsF f (r.drop 2) (k + 1) := by
              simp only [PM.dotsF]
              rw [if_neg hc, show (c :: r).take 3 = c :: r.take 2 from rfl, hsm, if_pos (by simp; omega)]
              rfl
            have HS := Lib.hid hstep
            clear hstep hc
            by_cases hk2 : k = 2
            · subst hk2
              go_wp2_with (go_at_call 110; refine (cutDot_no _ _ HC.out _).mono ?_; rintro e w' ⟨rfl, rfl⟩)
              refine (Same_c (c :: r.take 2) [37, 50, 101] hl3 (by simp) _).mono ?_
              rintro e w1 ⟨rfl, h1⟩
              go_wp2
              go_ret
              refine ⟨?_, hb.trans (h1.mono hb.size)⟩
              rw [← HD.out, HS.out]
              rfl
            · have hk3 : (k : Int) + 1 ≤ 2 := by omega
              go_wp2_with (go_at_call 110; refine (cutDot_no _ _ HC.out _).mono ?_; rintro e w' ⟨rfl, rfl⟩)
              refine (Same_c (c :: r.take 2) [37, 50, 101] hl3 (by simp) _).mono ?_
              rintro e w1 ⟨rfl, h1⟩
              go_wp2
              go_roundw
              case rel =>
                refine ⟨r.drop 2, k + 1, f, rfl, by go_num, by omega, by simp at hf; simp; omega, by simp at hts; simp; omega, ?_, hb.trans (h1.mono hb.size)⟩
                rw [← HD.out, HS.out, if_neg (by omega)]
              case measure => simp [mkS_size]; omega
        · have hi3 : (r.length : Int) + 1 < 3 := by omega
          have hstep : PM.dotsF (f + 1) (c :: r) k = 0 := by
            simp only [PM.dotsF]
            rw [if_neg hc, if_neg (by simp; omega)]
          have HS := Lib.hid hstep
          clear hstep hc
          go_wp2_with (go_at_call 110; refine (cutDot_no _ _ HC.out _).mono ?_; rintro e w' ⟨rfl, rfl⟩)
          go_ret
          refine ⟨?_, hb⟩
          rw [← HD.out, HS.out]
          rfl
end Go.Proofs.YtppbkblnjlbnfaaGreatDoor
