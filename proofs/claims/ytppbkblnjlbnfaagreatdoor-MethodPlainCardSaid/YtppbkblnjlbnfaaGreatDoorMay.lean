import Derived.Test.YtppbkblnjlbnfaaGreatDoorBack
/-! Plain: what is parsed may be. -/
set_option linter.unusedVariables false
set_option linter.unusedSimpArgs false
namespace PM
theorem hexd_out (k : Int) : ∀ n, n < 16 → inSet k (hexd n) = false := by
  intro n hn
  unfold inSet
  have : ∀ n, n < 16 → in1 (hexd n) = false ∧ in2 (hexd n) = false ∧ in3 (hexd n) = false ∧ in4 (hexd n) = false := by decide
  obtain ⟨h1, h2, h3, h4⟩ := this n hn
  split
  · exact h1
  · split
    · exact h2
    · split
      · exact h3
      · exact h4
theorem pct_out (k : Int) : inSet k 37 = false := by
  unfold inSet
  split
  · decide
  · split
    · decide
    · split <;> decide
theorem encode_mem {k : Int} {s : L} {c : UInt8} (h : c ∈ encode k s) : inSet k c = false ∧ (c ∈ s ∨ c = 37 ∨ ∃ n, n < 16 ∧ c = hexd n) := by
  unfold encode at h
  obtain ⟨x, hx, hc⟩ := List.mem_flatMap.1 h
  unfold encByte at hc
  split at hc
  · have hxn := x.toNat_lt
    simp only [List.mem_cons, List.not_mem_nil, or_false] at hc
    rcases hc with rfl | rfl | rfl
    · exact ⟨pct_out k, .inr (.inl rfl)⟩
    · exact ⟨hexd_out k _ (by omega), .inr (.inr ⟨_, by omega, rfl⟩)⟩
    · exact ⟨hexd_out k _ (by omega), .inr (.inr ⟨_, by omega, rfl⟩)⟩
  · rename_i hn
    simp only [List.mem_cons, List.not_mem_nil, or_false] at hc
    subst hc
    exact ⟨by simpa using hn, .inl hx⟩
theorem ready_encode (k : Int) (s : L) : ready k (encode k s) = true := (ready_iff k _).2 fun c hc => (encode_mem hc).1
theorem hexd_ne : ∀ n, n < 16 → hexd n ≠ 47 ∧ hexd n ≠ 63 ∧ hexd n ≠ 35 := by decide
theorem encode_no {k : Int} {s : L} {d : UInt8} (hd : d = 47 ∨ d = 63 ∨ d = 35) (h : ∀ c ∈ s, c ≠ d) : ∀ c ∈ encode k s, c ≠ d := by
  intro c hc
  rcases (encode_mem hc).2 with h1 | rfl | ⟨n, hn, rfl⟩
  · exact h c h1
  · rcases hd with rfl | rfl | rfl <;> decide
  · have := hexd_ne n hn
    rcases hd with rfl | rfl | rfl
    · exact this.1
    · exact this.2.1
    · exact this.2.2
theorem hexv_le {c : UInt8} {d : Nat} (h : hexv c = some d) : d < 16 := by
  unfold hexv isDigit at h
  split at h
  · rename_i h1
    simp at h1 h
    omega
  · split at h
    · rename_i h1
      simp at h1 h
      omega
    · split at h
      · rename_i h1
        simp at h1 h
        omega
      · cases h
theorem pieceFold_lt (s : L) : ∀ (m n b : Nat), m < b → s.foldl pieceStep (some m) = some n → n < b * 16 ^ s.length := by
  induction s with
  | nil => intro m n b hm h; simp at h; subst h; simpa using hm
  | cons c r ih =>
    intro m n b hm h
    rw [List.foldl_cons] at h
    unfold pieceStep at h
    cases hc : hexv c with
    | none =>
      rw [hc] at h
      have : ∀ s : L, s.foldl pieceStep none = none := by
        intro s
        induction s with
        | nil => rfl
        | cons c r ih => rw [List.foldl_cons]; exact ih
      change r.foldl pieceStep none = some n at h
      rw [this] at h
      cases h
    | some d =>
      rw [hc] at h
      have hd := hexv_le hc
      have := ih (16 * m + d) n (b * 16) (by omega) h
      rw [List.length_cons, Nat.pow_succ, Nat.mul_comm (16 ^ r.length) 16, ← Nat.mul_assoc]
      exact this
theorem piece_le {s : L} {n : Nat} (h : piece s = some n) : n ≤ 65535 := by
  unfold piece at h
  split at h
  · cases h
  · rename_i hl
    have h1 := pieceFold_lt s 0 n 1 (by omega) h
    have : 16 ^ s.length ≤ 16 ^ 4 := Nat.pow_le_pow_right (by decide) (by omega)
    omega
theorem pieces_may {xs : List L} {l : List Int} (h : pieces xs = some l) : sixMay l = true := by
  induction xs generalizing l with
  | nil => simp [pieces] at h; subst h; rfl
  | cons s r ih =>
    rw [pieces] at h
    split at h
    · rename_i n l' hn hl
      simp at h
      subst h
      have h1 := piece_le hn
      have h2 := ih hl
      unfold sixMay at h2 ⊢
      rw [List.all_cons, h2]
      simp
      omega
    · cases h
theorem sixSplit_may {s : L} {l : List Int} (h : sixSplit s = some l) : sixMay l = true := by
  unfold sixSplit at h
  split at h
  · simp at h; subst h; rfl
  · exact pieces_may h
theorem sixParse_may {s : L} {p : List Int} (h : sixParse s = some p) : sixMay p = true ∧ p.length = 8 := by
  unfold sixParse at h
  split at h
  · rename_i a b ha hb
    have h1 := sixSplit_may ha
    have h2 := sixSplit_may hb
    unfold sixOf at h
    split at h
    · cases h
    · rename_i hc
      simp at h
      subst h
      refine ⟨?_, ?_⟩
      · unfold sixMay at *
        rw [List.all_append, List.all_append, h1, h2]
        simp
      · simp at hc ⊢
        cases hg : (cut2 s).2.2 <;> simp [hg] at hc <;> omega
  · cases h
theorem digs_four {k : Nat} {s : L} (h : fourPart s = some k) : k ≤ 255 := by
  unfold fourPart at h
  split at h
  · rename_i n hn
    split at h
    · simp at h
      subst h
      unfold read at hn
      split at hn
      · rename_i hc
        simp at hn hc
        omega
      · cases hn
    · cases h
  · cases h
theorem fourFold_lt (xs : List L) : ∀ (m n b : Nat), m < b → xs.foldl fourStep (some m) = some n → n < b * 256 ^ xs.length := by
  induction xs with
  | nil => intro m n b hm h; simp at h; subst h; simpa using hm
  | cons c r ih =>
    intro m n b hm h
    rw [List.foldl_cons] at h
    unfold fourStep at h
    cases hc : fourPart c with
    | none =>
      rw [hc] at h
      have : ∀ s : List L, s.foldl fourStep none = none := by
        intro s
        induction s with
        | nil => rfl
        | cons c r ih => rw [List.foldl_cons]; exact ih
      change r.foldl fourStep none = some n at h
      rw [this] at h
      cases h
    | some d =>
      rw [hc] at h
      have hd := digs_four hc
      have := ih (256 * m + d) n (b * 256) (by omega) h
      rw [List.length_cons, Nat.pow_succ, Nat.mul_comm (256 ^ r.length) 256, ← Nat.mul_assoc]
      exact this
theorem fourParse_le {s : L} {n : Nat} (h : fourParse s = some n) : n ≤ 4294967295 := by
  unfold fourParse at h
  split at h
  · rename_i hl
    have := fourFold_lt _ 0 n 1 (by omega) h
    rw [hl] at this
    omega
  · cases h
theorem hostParse_may {s : L} {h : Host} (e : hostParse s = some h) : hostMay h = true ∧ h.six.length = 8 := by
  by_cases h91 : s.head? = some 91
  · obtain ⟨r, rfl⟩ : ∃ r, s = 91 :: r := by
      cases s with
      | nil => simp at h91
      | cons x r => simp at h91; exact ⟨r, by rw [h91]⟩
    have hv : hostParse (91 :: r) = if r.getLast? = some 93 then (match sixParse r.dropLast with
      | some p => some ⟨3, [], 0, p⟩
      | none => none) else none := rfl
    rw [hv] at e
    split at e
    · split at e
      · rename_i p hp
        simp at e
        subst e
        have := sixParse_may hp
        exact ⟨by simp [hostMay, this.1], this.2⟩
      · cases e
    · cases e
  · rw [hostParse_plain h91] at e
    split at e
    · split at e
      · rename_i n hn
        simp at e
        subst e
        have := fourParse_le hn
        refine ⟨?_, rfl⟩
        have h1 := fourShow_ne (n := n) (by omega) (by omega)
        simp [hostMay, h1]
      · cases e
    · split at e
      · rename_i hf
        simp at e
        subst e
        exact ⟨by simp [hostMay, hf], rfl⟩
      · cases e
theorem portOf_may {sch s : L} {p : Int} (h : portOf sch s = some p) : -1 ≤ p ∧ p ≤ 65535 ∧ (web sch ≠ 0 → p ≠ web sch) := by
  unfold portOf at h
  have hw := web_nonneg sch
  split at h
  · simp at h
    subst h
    exact ⟨by omega, by omega, by omega⟩
  · split at h
    · rename_i n hn
      have hle : n ≤ 65535 := by
        unfold read at hn
        split at hn
        · rename_i hc
          simp at hn hc
          omega
        · cases hn
      split at h
      · simp at h; omega
      · simp at h
        subst h
        exact ⟨by omega, by omega, fun _ => by assumption⟩
    · cases h
theorem splitB_mem (c : UInt8) (s : L) : splitB c s ≠ [] ∧ ∀ x ∈ splitB c s, ∀ y ∈ x, y ∈ s ∧ y ≠ c := by
  induction s with
  | nil => exact ⟨by simp [splitB], by simp [splitB]⟩
  | cons a r ih =>
    unfold splitB
    split
    · rename_i hac
      refine ⟨by simp, fun x hx y hy => ?_⟩
      simp only [List.mem_cons] at hx
      rcases hx with rfl | hx
      · cases hy
      · have := ih.2 x hx y hy
        exact ⟨List.mem_cons_of_mem _ this.1, this.2⟩
    · rename_i hac
      split
      · rename_i he
        exact absurd he ih.1
      · rename_i h t he
        refine ⟨by simp, fun x hx y hy => ?_⟩
        simp only [List.mem_cons] at hx
        rcases hx with rfl | hx
        · simp only [List.mem_cons] at hy
          rcases hy with rfl | hy
          · exact ⟨by simp, hac⟩
          · have := ih.2 h (by rw [he]; simp) y hy
            exact ⟨List.mem_cons_of_mem _ this.1, this.2⟩
        · have := ih.2 x (by rw [he]; simp [hx]) y hy
          exact ⟨List.mem_cons_of_mem _ this.1, this.2⟩
/-- What may stand in a path. -/
def SegOk (s : L) : Prop := ready 3 s = true ∧ has s 47 = false ∧ dots s = 0
theorem segOk_nil : SegOk [] := ⟨rfl, rfl, rfl⟩
theorem normStep_ok {out : List L} {s : L} {last : Bool} (ho : ∀ x ∈ out, SegOk x) (h1 : ready 3 s = true) (h2 : has s 47 = false) : (∀ x ∈ normStep out s last, SegOk x) ∧ (last = true → normStep out s last ≠ []) := by
  unfold normStep
  split
  · rename_i hd
    refine ⟨fun x hx => ?_, fun _ => by simp⟩
    simp only [List.mem_append, List.mem_cons, List.not_mem_nil, or_false] at hx
    rcases hx with hx | rfl
    · exact ho x hx
    · exact ⟨h1, h2, hd⟩
  · refine ⟨fun x hx => ?_, fun hl => by subst hl; simp⟩
    simp only [List.mem_append] at hx
    rcases hx with hx | hx
    · split at hx
      · exact ho x (List.dropLast_subset _ hx)
      · exact ho x hx
    · cases last
      · simp at hx
      · simp at hx
        subst hx
        exact segOk_nil
theorem normGo_ok (l : List L) (hl : ∀ s ∈ l, ready 3 s = true ∧ has s 47 = false) : ∀ out, (∀ x ∈ out, SegOk x) → (∀ x ∈ normGo out l, SegOk x) ∧ (l ≠ [] → normGo out l ≠ []) := by
  induction l with
  | nil => intro out ho; exact ⟨ho, fun h => absurd rfl h⟩
  | cons s r ih =>
    intro out ho
    have hs := hl s (by simp)
    cases r with
    | nil =>
      have := normStep_ok (last := true) ho hs.1 hs.2
      exact ⟨this.1, fun _ => this.2 rfl⟩
    | cons t r =>
      have := normStep_ok (last := false) ho hs.1 hs.2
      have h2 := ih (fun x hx => hl x (List.mem_cons_of_mem _ hx)) _ this.1
      exact ⟨h2.1, fun _ => h2.2 (by simp)⟩
theorem pathParse_may (s : L) : pathMay (pathParse s) = true := by
  unfold pathParse norm pathSplit
  have hm := splitB_mem 47 (encode 3 (unslash s))
  have h := normGo_ok (splitB 47 (encode 3 (unslash s))) (fun x hx => ⟨(ready_iff 3 x).2 fun c hc => (encode_mem (hm.2 x hx c hc).1).1, has_no 47 x fun c hc => (hm.2 x hx c hc).2⟩) [] (by simp)
  have h2 := h.2 hm.1
  unfold pathMay
  have h3 : (normGo [] (splitB 47 (encode 3 (unslash s)))).any segOdd = false := by
    rw [List.any_eq_false]
    intro x hx
    obtain ⟨a, b, c⟩ := h.1 x hx
    unfold segOdd
    simp [a, b, c]
  rw [h3]
  cases hn : normGo [] (splitB 47 (encode 3 (unslash s))) with
  | nil => exact absurd hn h2
  | cons _ _ => rfl
theorem tw_no (c : UInt8) (s : L) : ∀ x ∈ s.takeWhile (· != c), x ≠ c := by
  induction s with
  | nil => simp
  | cons a r ih =>
    intro x hx
    rw [List.takeWhile_cons] at hx
    split at hx
    · rename_i h
      simp only [List.mem_cons] at hx
      rcases hx with rfl | hx
      · simpa using h
      · exact ih x hx
    · cases hx
theorem tw_sub (c : UInt8) (s : L) : ∀ x ∈ s.takeWhile (· != c), x ∈ s := fun x hx => (List.takeWhile_sublist _).subset hx
theorem cut_fst_no (c : UInt8) (s : L) : ∀ x ∈ (cut c s).1, x ≠ c ∧ x ∈ s := by
  unfold cut
  intro x hx
  split at hx
  · exact ⟨tw_no c s x hx, tw_sub c s x hx⟩
  · rename_i h
    refine ⟨?_, hx⟩
    rintro rfl
    simp [has] at h
    exact h hx
theorem cut_snd (c : UInt8) (s : L) : (cut c s).2.2 = true ∨ (cut c s).2.1 = [] := by
  unfold cut
  split
  · exact .inl rfl
  · exact .inr rfl
theorem tail_no (s : L) : ∀ c ∈ (tail s).1, c ≠ 63 ∧ c ≠ 35 := by
  intro c hc
  unfold tail at hc
  have h := cut_fst_no 63 _ c hc
  exact ⟨h.1, (cut_fst_no 35 s c h.2).1⟩
theorem tail_has (s : L) : ((tail s).2.2.2.1 = true ∨ (tail s).2.1 = []) ∧ ((tail s).2.2.2.2 = true ∨ (tail s).2.2.1 = []) := ⟨cut_snd 63 _, cut_snd 35 s⟩
theorem has_none {s : L} {c : UInt8} (h : ∀ x ∈ s, x ≠ c) : has s c = false := has_no c s h
theorem parseT_may {sch : L} {x : L × L × L × Bool × Bool} {u : Url} (hw : 0 < web sch ∨ opq sch = true) (h1 : ∀ c ∈ x.1, c ≠ 63 ∧ c ≠ 35) (h2 : x.2.2.2.1 = true ∨ x.2.1 = []) (h3 : x.2.2.2.2 = true ∨ x.2.2.1 = []) (h : parseT sch x = some u) : urlMay u = true ∧ u.host.six.length = 8 := by
  have hq : ∀ b : Bool, ∀ s : L, (b = true ∨ s = []) → ∀ k, (b || (encode k s).isEmpty) = true := by
    intro b s h k
    rcases h with rfl | rfl
    · rfl
    · simp [encode]
  unfold parseT at h
  split at h
  · rename_i ho
    simp at h
    subst h
    refine ⟨?_, rfl⟩
    unfold urlMay qf parseOpq
    dsimp only
    rw [if_pos ho, ready_encode, ready_encode, hq _ _ h2, hq _ _ h3]
    unfold mayOpq
    dsimp only
    rw [ready_encode, has_none (encode_no (.inr (.inl rfl)) fun c hc => (h1 c hc).1), has_none (encode_no (.inr (.inr rfl)) fun c hc => (h1 c hc).2)]
    rfl
  · rename_i ho
    have hw' : 0 < web sch := hw.resolve_right ho
    unfold parseWeb at h
    split at h
    · cases h
    · rename_i t ht
      split at h
      · rename_i hh p hhp hp
        simp at h
        subst h
        have hm := hostParse_may hhp
        have hpm := portOf_may hp
        refine ⟨?_, hm.2⟩
        unfold urlMay qf
        dsimp only
        rw [if_neg ho, ready_encode, ready_encode, hq _ _ h2, hq _ _ h3]
        unfold mayWeb
        dsimp only
        have hu : ready 4 (userOf (where_ t)) = true := by
          unfold userOf
          split
          · exact ready_encode _ _
          · rfl
        have hpw : ready 4 (passOf (where_ t)) = true := by
          unfold passOf
          split
          · exact ready_encode _ _
          · rfl
        rw [hm.1, hu, hpw, pathParse_may, decide_eq_true hw', decide_eq_true hpm.1, decide_eq_true hpm.2.1, decide_eq_true (hpm.2.2 (by omega))]
        rfl
      · cases h
/-- What is parsed may be. -/
theorem parse_may {s : L} {u : Url} (h : urlParse s = some u) : urlMay u = true ∧ u.host.six.length = 8 := by
  unfold urlParse parseC at h
  split at h
  · cases h
  · rename_i hc
    simp only [Bool.or_eq_true, Bool.not_eq_true', not_or, Bool.not_eq_false, Bool.not_eq_true, decide_eq_true_eq, Bool.or_eq_false_iff] at hc
    refine parseT_may ?_ (tail_no _) (tail_has _).1 (tail_has _).2 h
    have h2 := hc.2
    simp only [Bool.not_eq_true', Bool.or_eq_false_iff, not_and, decide_eq_false_iff_not, Bool.not_eq_false] at h2
    by_cases hw : 0 < web (scheme (clean s)).1
    · exact .inl hw
    · exact .inr (by simpa [hw] using hc.2)
/-- What is parsed is shown as something that is parsed to it. -/
theorem parse_again {s : L} {u : Url} (h : urlParse s = some u) : urlParse (showUrl u) = some u := parse_show (parse_may h).1 (parse_may h).2
end PM
