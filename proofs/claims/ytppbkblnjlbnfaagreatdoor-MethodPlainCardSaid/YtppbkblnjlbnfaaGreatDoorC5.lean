import Derived.Test.YtppbkblnjlbnfaaGreatDoorC4
/-! Contracts: path.May; slices of texts. -/
set_option linter.unusedVariables false
namespace Go.Proofs.YtppbkblnjlbnfaaGreatDoor
open Go.RowKit
/-- A slice of texts that is read: the address, how many, and what lies there. -/
structure RdS (w : World) (a : Option Addr) (n : Nat) (xs : List (List UInt8)) : Prop where
  len : xs.length = n
  small : n * 16 ≤ 140737488355328
  at_ : xs = [] ∨ ∃ b o, a = some ⟨b, o, none⟩ ∧ b < w.heap.size ∧ ∀ j (h : j < xs.length), w.cell? ⟨b, o + j, none⟩ = some (.string (mkS (xs[j]'h)))
theorem RdS.below {w W : World} {a : Option Addr} {n : Nat} {xs : List (List UInt8)} (h : RdS w a n xs) (hb : Below w.heap.size w W) : RdS W a n xs :=
  ⟨h.len, h.small, h.at_.imp id fun ⟨b, o, e, hlt, hc⟩ => ⟨b, o, e, Nat.lt_of_lt_of_le hlt hb.size, fun j hj => cell_b hb (hc j hj)⟩⟩
theorem Contains_slash (s : List UInt8) (w : World) : Calls Tryz.prog 107 #[.string (mkS s), .string { data := #[47] }] w fun e w' => e = .returned (.bool (PM.has s 47)) ∧ w' = w := by
  have h := Tryz.strings_Contains_one (mkS s) 47 w
  rw [mkS_data, indexByte_has] at h
  exact h
theorem May1_c (s : List UInt8) (hs : s.length ≤ 10000000000) (w : World) :
    Calls Tryz.prog 106 #[.string (mkS s)] w fun e w' => e = .returned (.bool (PM.segOdd s)) ∧ Below w.heap.size w w' := by
  cases h1 : PM.ready 3 s
  · go_enter Tryz.func106, Tryz.ntmps106
    go_wp2_with fail
    refine (Ready_c s 3 (by simp) _ hs).mono ?_
    rintro e w1 ⟨rfl, hb1⟩
    go_wp2
    go_ret
    exact ⟨ret_bool (by simp [PM.segOdd, h1]), hb1⟩
  · cases h2 : PM.has s 47
    · go_enter Tryz.func106, Tryz.ntmps106
      go_wp2_with fail
      refine (Ready_c s 3 (by simp) _ hs).mono ?_
      rintro e w1 ⟨rfl, hb1⟩
      go_wp2_with fail
      refine (Contains_slash s _).mono ?_
      rintro e w2 ⟨rfl, rfl⟩
      go_wp2_with fail
      refine (Dots_c s (by omega) _).mono ?_
      rintro e w3 ⟨rfl, hb3⟩
      go_wp2
      go_ret
      exact ⟨ret_bool (by simp [PM.segOdd, h1, h2]), b_then hb1 hb3⟩
    · go_enter Tryz.func106, Tryz.ntmps106
      go_wp2_with fail
      refine (Ready_c s 3 (by simp) _ hs).mono ?_
      rintro e w1 ⟨rfl, hb1⟩
      go_wp2_with fail
      refine (Contains_slash s _).mono ?_
      rintro e w2 ⟨rfl, rfl⟩
      go_wp2
      go_ret
      exact ⟨ret_bool (by simp [PM.segOdd, h1, h2]), hb1⟩
set_option maxHeartbeats 1000000 in
theorem IndexFunc_c (xs : List (List UInt8)) (hx : ∀ s ∈ xs, s.length ≤ 10000000000) (a : Option Addr) (n c : Nat) (w : World) (h : RdS w a n xs) :
    Calls Tryz.prog 83 #[.slice a n c, .func (.func 106) #[] #[]] w fun e w' => e = .returned (.int .i64 (PM.anyIdx PM.segOdd xs)) ∧ Below w.heap.size w w' := by
  have hlen := h.len
  have hsm := h.small
  subst hlen
  rcases h.at_ with rfl | ⟨b, o, rfl, hlt0, hc⟩
  · go_enter Tryz.func83, Tryz.ntmps83
    go_wp2
    go_loop [5, 8] (fun _ i => i = .int .i64 0) (fun _ _ => 0)
    case atStart => rfl
    case round =>
      subst hrel
      go_wp2
      go_ret
      exact ⟨rfl, Below.refl _ _⟩
  · have Hc := Lib.hid hc
    clear hc h
    go_enter Tryz.func83, Tryz.ntmps83
    go_wp2
    go_loopw [5, 8] (fun _ i wr => ∃ k : Nat, k ≤ xs.length ∧ i = .int .i64 k ∧ (xs.take k).any PM.segOdd = false ∧ Below w.heap.size w wr) (fun _ i _ => xs.length - (intOf i).toNat)
    case atStart => exact ⟨0, by omega, rfl, rfl, Below.refl _ _⟩
    case round =>
      obtain ⟨k, hk, rfl, hn, hb⟩ := hrel
      have HN := Lib.hid hn
      clear hn
      by_cases hlt : k < xs.length
      · have hck := cell_b hb (Hc.out k hlt)
        cases hp : PM.segOdd xs[k]
        · go_wp2_with fail
          refine (May1_c xs[k] (hx _ (List.getElem_mem _)) _).mono ?_
          rintro e w1 ⟨rfl, h1⟩
          go_wp2
          go_roundw
          case rel => exact ⟨k + 1, by omega, by go_num, by rw [List.take_succ_eq_append_getElem hlt, List.any_append, HN.out]; simp [hp], hb.trans (h1.mono hb.size)⟩
          case measure => simp [intOf]; omega
        · go_wp2_with fail
          refine (May1_c xs[k] (hx _ (List.getElem_mem _)) _).mono ?_
          rintro e w1 ⟨rfl, h1⟩
          go_wp2
          go_ret
          exact ⟨ret_int (PM.anyIdx_hit _ _ k hlt hp HN.out).symm, hb.trans (h1.mono hb.size)⟩
      · go_wp2
        go_ret
        have hn := HN.out
        rw [List.take_of_length_le (by omega)] at hn
        exact ⟨ret_int (PM.anyIdx_none _ _ hn).symm, hb⟩
theorem ContainsFunc_c (xs : List (List UInt8)) (hx : ∀ s ∈ xs, s.length ≤ 10000000000) (a : Option Addr) (n c : Nat) (w : World) (h : RdS w a n xs) :
    Calls Tryz.prog 54 #[.slice a n c, .func (.func 106) #[] #[]] w fun e w' => e = .returned (.bool (xs.any PM.segOdd)) ∧ Below w.heap.size w w' := by
  have H := IndexFunc_c xs hx a n c w h
  go_enter Tryz.func54, Tryz.ntmps54
  go_wp2_with fail
  refine H.mono ?_
  rintro e w1 ⟨rfl, h1⟩
  go_wp2
  go_ret
  exact ⟨ret_bool (PM.anyIdx_any _ _), h1⟩
theorem pathMay_c (xs : List (List UInt8)) (hx : ∀ s ∈ xs, s.length ≤ 10000000000) (a : Option Addr) (n c : Nat) (w : World) (h : RdS w a n xs) :
    Calls Tryz.prog 79 #[.slice a n c] w fun e w' => e = .returned (.bool (PM.pathMay xs)) ∧ Below w.heap.size w w' := by
  have H := ContainsFunc_c xs hx a n c w h
  have hlen := h.len
  have hsm := h.small
  by_cases h0 : (0 : Int) < (n : Int)
  · go_enter Tryz.func79, Tryz.ntmps79
    go_wp2_with fail
    refine H.mono ?_
    rintro e w1 ⟨rfl, h1⟩
    go_wp2
    go_ret
    refine ⟨ret_bool ?_, h1⟩
    cases xs with
    | nil => simp at hlen; omega
    | cons x r => simp [PM.pathMay]
  · go_enter Tryz.func79, Tryz.ntmps79
    go_wp2
    go_ret
    refine ⟨ret_bool ?_, Below.refl _ _⟩
    cases xs with
    | nil => rfl
    | cons x r => simp at hlen; omega
end Go.Proofs.YtppbkblnjlbnfaaGreatDoor
