import Derived.Test.YtppbkblnjlbnfaaGreatDoorP1
import Derived.Test.YtppbkblnjlbnfaaGreatDoorC8
import Derived.Test.YtppbkblnjlbnfaaGreatDoorBack
/-! Plain lemmas on bytes' places, for url.door and url.parse. -/
set_option linter.unusedVariables false
set_option linter.unusedSimpArgs false
namespace Go.Proofs.YtppbkblnjlbnfaaGreatDoor
open Go.RowKit
theorem idxByte (l : List UInt8) (c : UInt8) : (PM.has l c = true → Lib.indexByte l c = ((l.takeWhile (· != c)).length : Int)) ∧ (PM.has l c = false → Lib.indexByte l c = -1) := by
  induction l with
  | nil => exact ⟨fun h => by simp [PM.has] at h, fun _ => rfl⟩
  | cons b r ih =>
    unfold PM.has at ih ⊢
    rw [Lib.indexByte]
    by_cases hb : b = c
    · subst hb
      refine ⟨fun _ => ?_, fun h => by simp at h⟩
      rw [if_pos (by simp)]
      simp
    · rw [if_neg (by simpa using hb)]
      have hcb : (c == b) = false := by simpa using fun e => hb e.symm
      refine ⟨fun h => ?_, fun h => ?_⟩
      · have h1 : r.contains c = true := by
          rw [List.contains_cons, hcb] at h
          simpa using h
        rw [ih.1 h1]
        have : (b :: r).takeWhile (· != c) = b :: r.takeWhile (· != c) := by rw [List.takeWhile_cons]; simp [hb]
        rw [this]
        have h3 : ¬ (((r.takeWhile (· != c)).length : Int) = -1) := by omega
        simp only [beq_iff_eq, h3, if_false, List.length_cons]
        omega
      · have h1 : r.contains c = false := by
          rw [List.contains_cons, hcb] at h
          simpa using h
        rw [ih.2 h1]
        rfl
theorem findIdx_tw (l : List UInt8) (c : UInt8) : l.findIdx (· == c) = (l.takeWhile (· != c)).length := by
  induction l with
  | nil => rfl
  | cons b r ih =>
    rw [List.findIdx_cons, List.takeWhile_cons]
    by_cases hb : b = c
    · subst hb
      simp
    · have : (b == c) = false := by simpa using hb
      simp [this, bne, ih]
theorem tw_le (l : List UInt8) (c : UInt8) : (l.takeWhile (· != c)).length ≤ l.length := (List.takeWhile_sublist _).length_le
theorem tw_lt (l : List UInt8) (c : UInt8) (h : PM.has l c = true) : (l.takeWhile (· != c)).length < l.length := by
  induction l with
  | nil => simp [PM.has] at h
  | cons b r ih =>
    rw [List.takeWhile_cons]
    by_cases hb : b = c
    · subst hb
      simp
    · have h1 : PM.has r c = true := by
        unfold PM.has at h ⊢
        rw [List.contains_cons] at h
        have : (c == b) = false := by simpa using fun e => hb e.symm
        simpa [this] using h
      have := ih h1
      simp [hb]
      exact this
theorem doorAt_idx (s : List UInt8) : (s.head? = some 91 → max 0 (Lib.indexByte s 93) = (PM.doorAt s : Int)) ∧ (s.head? ≠ some 91 → PM.doorAt s = 0) := by
  obtain ⟨h1, h2⟩ := idxByte s 93
  unfold PM.doorAt
  refine ⟨fun h => ?_, fun h => by rw [if_neg h]⟩
  rw [if_pos h]
  cases hc : PM.has s 93
  · rw [h2 hc]
    rfl
  · rw [h1 hc, if_pos rfl, findIdx_tw]
    omega
theorem doorAt_le (s : List UInt8) : PM.doorAt s ≤ s.length := by
  unfold PM.doorAt
  split
  · split
    · rw [findIdx_tw]
      exact tw_le _ _
    · omega
  · omega
/-- The door's two parts by the colon's place. -/
theorem door_cut (s : List UInt8) : (PM.has (s.drop (PM.doorAt s)) 58 = true → ∃ i : Nat, Lib.indexByte (s.drop (PM.doorAt s)) 58 = (i : Int) ∧ PM.doorAt s + i < s.length ∧ PM.doorName s = s.take (PM.doorAt s + i) ∧ PM.doorPort s = s.drop (PM.doorAt s + i + 1)) ∧ (PM.has (s.drop (PM.doorAt s)) 58 = false → Lib.indexByte (s.drop (PM.doorAt s)) 58 = -1 ∧ PM.doorName s = s ∧ PM.doorPort s = []) := by
  obtain ⟨h1, h2⟩ := idxByte (s.drop (PM.doorAt s)) 58
  refine ⟨fun h => ⟨((s.drop (PM.doorAt s)).takeWhile (· != 58)).length, h1 h, ?_, ?_, ?_⟩, fun h => ⟨h2 h, ?_, ?_⟩⟩
  · have := tw_lt _ _ h
    rw [List.length_drop] at this
    omega
  · unfold PM.doorName
    rw [if_pos h, List.take_add, take_tw]
  · unfold PM.doorPort
    rw [if_pos h, ← List.drop_drop, ← List.drop_drop, drop_tw]
  · unfold PM.doorName
    rw [h]
    rfl
  · unfold PM.doorPort
    rw [h]
    rfl
theorem last_at (l : List UInt8) : (PM.hasAt l = true → ∃ k : Nat, Lib.lastIndexByte (mkS l) 64 = (k : Int) ∧ k < l.length ∧ PM.aheadAt l = l.take k ∧ PM.behindAt l = l.drop (k + 1)) ∧ (PM.hasAt l = false → Lib.lastIndexByte (mkS l) 64 = -1) := by
  have hg : ∀ j, j < l.length → (mkS l).data[j]! = l.getD j 0 := by
    intro j hj
    rw [getElem!_pos _ _ (by simpa [mkS] using hj)]
    simp [mkS, List.getD_eq_getElem?_getD, List.getElem?_eq_getElem hj]
  have hne : ∀ (x : UInt8), (x.toNat : Int) ≠ 64 ↔ x ≠ 64 := fun x => by
    constructor
    · rintro h rfl; exact h rfl
    · intro h e; exact h (UInt8.toNat_inj.1 (by have : x.toNat = 64 := by omega
                                                rw [this]; rfl))
  rcases Lib.lastIndexByte_spec (mkS l) 64 with ⟨e, h⟩ | ⟨i, hi, e, hc, h⟩
  · have hno : ∀ x ∈ l, x ≠ 64 := by
      intro x hx
      obtain ⟨j, hj, rfl⟩ := List.getElem_of_mem hx
      have := h j (by rw [mkS_size]; exact hj)
      rw [hg j hj, hne, List.getD_eq_getElem?_getD, List.getElem?_eq_getElem hj] at this
      exact this
    exact ⟨fun hh => (by rw [PM.at_none hno] at hh; cases hh), fun _ => e⟩
  · rw [mkS_size] at hi
    rw [hg i hi] at hc
    have hc' : l[i] = 64 := by
      rw [List.getD_eq_getElem?_getD, List.getElem?_eq_getElem hi] at hc
      exact Classical.byContradiction fun hx => (hne _).2 hx hc
    have hl : l = l.take i ++ 64 :: l.drop (i + 1) := by
      rw [← hc', ← List.drop_eq_getElem_cons hi, List.take_append_drop]
    have hno : ∀ x ∈ l.drop (i + 1), x ≠ 64 := fun x hx => by
      obtain ⟨j, hj, rfl⟩ := List.getElem_of_mem hx
      simp at hj
      have := h (i + 1 + j) (by omega) (by rw [mkS_size]; omega)
      rw [hg _ (by omega), hne, List.getD_eq_getElem?_getD, List.getElem?_eq_getElem (by omega)] at this
      rw [List.getElem_drop]
      exact this
    have key := PM.at_hit (a := l.take i) (b := l.drop (i + 1)) hno
    rw [← hl] at key
    exact ⟨fun _ => ⟨i, e, hi, key.2.2, key.2.1⟩, fun hh => by rw [key.1] at hh; cases hh⟩
theorem tw_all (l : List UInt8) {c : UInt8} (h : ∀ x ∈ l, (x != c) = true) : l.takeWhile (· != c) = l := by
  have := List.takeWhile_append_of_pos (p := (· != c)) (l₁ := l) (l₂ := []) h
  simpa using this
theorem dw_all (l : List UInt8) {c : UInt8} (h : ∀ x ∈ l, (x != c) = true) : l.dropWhile (· != c) = [] := by
  have := List.dropWhile_append_of_pos (p := (· != c)) (l₁ := l) (l₂ := []) h
  simpa using this
theorem where_idx (l : List UInt8) : (PM.has l 47 = true → ∃ i : Nat, Lib.indexByte l 47 = (i : Int) ∧ i ≤ l.length ∧ PM.where_ l = l.take i ∧ l.dropWhile (· != 47) = l.drop i) ∧ (PM.has l 47 = false → Lib.indexByte l 47 = -1 ∧ PM.where_ l = l ∧ l.dropWhile (· != 47) = []) := by
  obtain ⟨h1, h2⟩ := idxByte l 47
  refine ⟨fun h => ⟨(l.takeWhile (· != 47)).length, h1 h, tw_le _ _, (take_tw _ _).symm, (drop_tw _ _).symm⟩, fun h => ⟨h2 h, ?_, ?_⟩⟩
  · have hno : ∀ x ∈ l, (x != (47 : UInt8)) = true := by
      intro x hx
      unfold PM.has at h
      simp only [List.contains_eq_mem, decide_eq_false_iff_not] at h
      simp only [bne_iff_ne, ne_eq]
      rintro rfl
      exact h hx
    exact tw_all l hno
  · have hno : ∀ x ∈ l, (x != (47 : UInt8)) = true := by
      intro x hx
      unfold PM.has at h
      simp only [List.contains_eq_mem, decide_eq_false_iff_not] at h
      simp only [bne_iff_ne, ne_eq]
      rintro rfl
      exact h hx
    exact dw_all l hno
theorem prefix_two (s : List UInt8) : (Lib.hasPrefix s [47, 47] = (PM.unslash2 s).isSome) ∧ (∀ r, PM.unslash2 s = some r → Lib.trimPrefix s [47, 47] = r) := by
  unfold Lib.trimPrefix Lib.hasPrefix
  match s with
  | [] => exact ⟨rfl, fun r h => by simp [PM.unslash2] at h⟩
  | [x] => exact ⟨by simp [List.isPrefixOf, PM.unslash2], fun r h => by simp [PM.unslash2] at h⟩
  | x :: y :: r =>
    by_cases hx : x = 47
    · by_cases hy : y = 47
      · subst hx hy
        exact ⟨by simp [List.isPrefixOf, PM.unslash2], fun q h => by simp [PM.unslash2] at h; simp [List.isPrefixOf, h]⟩
      · have e : PM.unslash2 (x :: y :: r) = none := by
          unfold PM.unslash2
          split
          · rename_i h; simp at h; exact absurd h.2.1 hy
          · rfl
        rw [e]
        exact ⟨by simp [List.isPrefixOf]; intro _ h; exact hy h.symm, fun q h => by cases h⟩
    · have e : PM.unslash2 (x :: y :: r) = none := by
        unfold PM.unslash2
        split
        · rename_i h; simp at h; exact absurd h.1 hx
        · rfl
      rw [e]
      exact ⟨by simp [List.isPrefixOf]; intro h; exact absurd h.symm hx, fun q h => by cases h⟩
end Go.Proofs.YtppbkblnjlbnfaaGreatDoor
