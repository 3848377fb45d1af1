import Derived.Test.YtppbkblnjlbnfaaGreatDoorLaw1
/-! What the program's functions compute, in plain words: parsing. And: what is shown is parsed to the same. -/
set_option linter.unusedVariables false
namespace PM
def blank (c : UInt8) : Bool := decide (c.toNat ≤ 32)
def trim (s : L) : L := ((s.dropWhile blank).reverse.dropWhile blank).reverse
def isEnd (c : UInt8) : Bool := c == 9 || c == 10 || c == 13
def clean (s : L) : L := (trim s).filter fun c => !isEnd c
/-- What stands ahead of a byte's first place, what behind, and whether it is there. -/
def cut (c : UInt8) (s : L) : L × L × Bool := if has s c then (s.takeWhile (· != c), (s.dropWhile (· != c)).drop 1, true) else (s, [], false)
theorem cut_hit (c : UInt8) (a b : L) (h : ∀ x ∈ a, x ≠ c) : cut c (a ++ c :: b) = (a, b, true) := by
  have h1 : has (a ++ c :: b) c = true := by simp [has]
  unfold cut
  rw [if_pos h1, List.takeWhile_append_of_pos (by intro x hx; simpa using h x hx), List.dropWhile_append_of_pos (by intro x hx; simpa using h x hx)]
  simp
theorem has_no (c : UInt8) (a : L) (h : ∀ x ∈ a, x ≠ c) : has a c = false := by
  unfold has
  cases hc : a.contains c
  · rfl
  · exact absurd rfl (h c (by simpa using hc))
theorem cut_none (c : UInt8) (a : L) (h : ∀ x ∈ a, x ≠ c) : cut c a = (a, [], false) := by
  unfold cut
  rw [has_no c a h]
  simp
def alpha (c : UInt8) : Bool := (decide (65 ≤ c.toNat) && decide (c.toNat ≤ 90)) || (decide (97 ≤ c.toNat) && decide (c.toNat ≤ 122))
def schOdd (c : UInt8) : Bool := !alpha c && !isDigit c && !has [43, 45, 46] c
def schBad (s : L) : Bool := !(cut 58 s).2.2 || (cut 58 s).1.isEmpty || !alpha ((cut 58 s).1.headD 0) || (cut 58 s).1.any schOdd
def scheme (s : L) : L × L × Bool := if schBad s then ([], [], false) else (lower (cut 58 s).1, (cut 58 s).2.1, true)
/-- The address, the query, the fragment, whether there is a query, a fragment. -/
def tail (s : L) : L × L × L × Bool × Bool := ((cut 63 (cut 35 s).1).1, (cut 63 (cut 35 s).1).2.1, (cut 35 s).2.1, (cut 63 (cut 35 s).1).2.2, (cut 35 s).2.2)
/-- A text's pieces with a byte between. -/
def splitB (c : UInt8) : L → List L
  | [] => [[]]
  | x :: r => if x = c then [] :: splitB c r else match splitB c r with
    | [] => [[x]]
    | h :: t => (x :: h) :: t
theorem splitB_none (c : UInt8) (a : L) (h : ∀ x ∈ a, x ≠ c) : splitB c a = [a] := by
  induction a with
  | nil => rfl
  | cons x r ih =>
    unfold splitB
    rw [if_neg (h x (by simp)), ih (fun y hy => h y (by simp [hy]))]
theorem splitB_hit (c : UInt8) (a b : L) (h : ∀ x ∈ a, x ≠ c) : splitB c (a ++ c :: b) = a :: splitB c b := by
  induction a with
  | nil => simp [splitB]
  | cons x r ih =>
    rw [List.cons_append, splitB, if_neg (h x (by simp)), ih (fun y hy => h y (by simp [hy]))]
theorem joinBy_two (s a b : L) (r : List L) : joinBy s (a :: b :: r) = a ++ (s ++ joinBy s (b :: r)) := by
  unfold joinBy
  simp [List.intercalate]
theorem joinBy_one (s a : L) : joinBy s [a] = a := by
  unfold joinBy
  simp [List.intercalate]
theorem splitB_join (c : UInt8) (xs : List L) (h : ∀ x ∈ xs, ∀ y ∈ x, y ≠ c) (hn : xs ≠ []) : splitB c (joinBy [c] xs) = xs := by
  induction xs with
  | nil => exact absurd rfl hn
  | cons x r ih =>
    cases r with
    | nil => rw [joinBy_one]; exact splitB_none c x (h x (by simp))
    | cons y r =>
      rw [joinBy_two]
      show splitB c (x ++ c :: joinBy [c] (y :: r)) = _
      rw [splitB_hit c x _ (h x (by simp)), ih (fun z hz => h z (by simp only [List.mem_cons] at hz ⊢; exact .inr hz)) (by simp)]
/-- A number's worth. -/
def val (s : L) : Nat := s.foldl (fun n c => 10 * n + (c.toNat - 48)) 0
/-- deci.Read. -/
def read (s : L) (most : Nat) : Option Nat := if plain s && decide (val s ≤ most) then some (val s) else none
theorem digs_plain (m : Nat) : plain (digs m) = true := by
  unfold plain
  simp only [Bool.and_eq_true, Bool.not_eq_true', List.isEmpty_eq_false_iff]
  refine ⟨List.all_eq_true.2 fun c hc => ?_, digs_ne m⟩
  have := digs_all m c hc
  unfold isDigit
  simp
  omega
theorem rdigF_val (f : Nat) : ∀ m, m < 10 ^ f → (rdigF f m).foldr (fun c n => 10 * n + (c.toNat - 48)) 0 = m := by
  induction f with
  | zero => intro m h; simp at h; subst h; rfl
  | succ f ih =>
    intro m h
    unfold rdigF
    split
    · simp [dig_nat]; omega
    · rw [List.foldr_cons, ih (m / 10) (by rw [Nat.pow_succ] at h; omega), dig_nat]
      omega
theorem val_digs (m : Nat) (h : m < 10 ^ 20) : val (digs m) = m := by
  unfold val digs rdig
  rw [List.foldl_reverse]
  exact rdigF_val 20 m h
theorem read_digs (m most : Nat) (h : m ≤ most) (hm : most < 10 ^ 20) : read (digs m) most = some m := by
  unfold read
  rw [digs_plain, val_digs m (by omega)]
  simp [h]
theorem digs_inj {a b : Nat} (ha : a < 10 ^ 20) (hb : b < 10 ^ 20) (h : digs a = digs b) : a = b := by
  rw [← val_digs a ha, h, val_digs b hb]
/-- A part of a number with dots. -/
def fourPart (s : L) : Option Nat := match read s 255 with
  | some k => if digs k = s then some k else none
  | none => none
def fourStep (o : Option Nat) (s : L) : Option Nat := match o, fourPart s with
  | some n, some k => some (256 * n + k)
  | _, _ => none
def fourParse (s : L) : Option Nat := if (splitB 46 s).length = 4 then (splitB 46 s).foldl fourStep (some 0) else none
theorem fourPart_digs (k : Nat) (h : k ≤ 255) : fourPart (digs k) = some k := by
  unfold fourPart
  rw [read_digs k 255 h (by decide)]
  simp
theorem fourList_no (n : Nat) : ∀ x ∈ fourList n, ∀ y ∈ x, y ≠ (46 : UInt8) := by
  have : ∀ m, ∀ y ∈ digs m, y ≠ (46 : UInt8) := by
    intro m y hy e
    have := digs_all m y hy
    subst e
    simp at this
  intro x hx
  simp only [fourList, List.mem_cons, List.not_mem_nil, or_false] at hx
  rcases hx with rfl | rfl | rfl | rfl <;> exact this _
theorem fourParse_show (n : Int) (h0 : 0 ≤ n) (h1 : n ≤ 4294967295) : fourParse (fourShow n) = some n.toNat := by
  unfold fourParse fourShow
  rw [if_neg (by omega : ¬ (n < 0 ∨ 4294967295 < n)), splitB_join 46 _ (fourList_no _) (by simp [fourList])]
  simp only [fourList, List.length_cons, List.length_nil, if_true, List.foldl_cons, List.foldl_nil, fourStep]
  rw [fourPart_digs _ (by omega), fourPart_digs _ (by omega), fourPart_digs _ (by omega), fourPart_digs _ (by omega)]
  simp only [Option.some.injEq]
  omega
theorem afterDot_join (a b c d : L) (h : ∀ x ∈ d, x ≠ (46 : UInt8)) : afterDot (joinBy [46] [a, b, c, d]) = d := by
  rw [joinBy_two, joinBy_two, joinBy_two, joinBy_one]
  have e : a ++ ([46] ++ (b ++ ([46] ++ (c ++ ([46] ++ d))))) = (a ++ ([46] ++ (b ++ ([46] ++ c)))) ++ 46 :: d := by simp
  rw [e, afterDot_hit _ _ h]
theorem looks_four (n : Int) (h0 : 0 ≤ n) (h1 : n ≤ 4294967295) : looks (fourShow n) = true := by
  unfold looks fourShow
  rw [if_neg (by omega : ¬ (n < 0 ∨ 4294967295 < n))]
  unfold fourList
  rw [afterDot_join _ _ _ _ (fourList_no n.toNat _ (by simp [fourList]))]
  exact digs_plain _
/-- What a digit of a piece is worth. -/
def hexv (c : UInt8) : Option Nat := if isDigit c then some (c.toNat - 48) else if (decide (65 ≤ c.toNat) && decide (c.toNat ≤ 70)) then some (c.toNat - 55) else if (decide (97 ≤ c.toNat) && decide (c.toNat ≤ 102)) then some (c.toNat - 87) else none
def pieceStep (o : Option Nat) (c : UInt8) : Option Nat := match o, hexv c with
  | some n, some d => some (16 * n + d)
  | _, _ => none
def piece (s : L) : Option Nat := if s.length = 0 ∨ 4 < s.length then none else s.foldl pieceStep (some 0)
def pieces : List L → Option (List Int)
  | [] => some []
  | s :: r => match piece s, pieces r with
    | some n, some l => some ((n : Int) :: l)
    | _, _ => none
def sixSplit (s : L) : Option (List Int) := if s = [] then some [] else pieces (splitB 58 s)
/-- What stands ahead of the first two colons, behind them, and whether they are there. -/
def cut2 : L → L × L × Bool
  | [] => ([], [], false)
  | x :: r => if x = 58 ∧ r.head? = some 58 then ([], r.drop 1, true) else (if (cut2 r).2.2 then (x :: (cut2 r).1, (cut2 r).2.1, true) else (x :: r, [], false))
def sixOf (a b : List Int) (gap : Bool) : Option (List Int) := if (gap && decide (8 ≤ a.length + b.length)) || (!gap && decide (a.length + b.length ≠ 8)) then none else some (a ++ (List.replicate (8 - (a.length + b.length)) 0 ++ b))
def sixParse (s : L) : Option (List Int) := match sixSplit (cut2 s).1, sixSplit (cut2 s).2.1 with
  | some a, some b => sixOf a b (cut2 s).2.2
  | _, _ => none
theorem hexv_hexl : ∀ n, n < 16 → hexv (hexl n) = some n := by decide
theorem pieceFold_hexs (n : Nat) : ∀ m, (hexs n).foldl pieceStep (some m) = some (16 ^ (hexs n).length * m + n) := by
  induction n using Nat.strongRecOn with
  | _ n ih =>
    intro m
    by_cases hn : n > 15
    · rw [hexs_big n hn, List.foldl_append, ih (n / 16) (by omega)]
      simp only [List.foldl_cons, List.foldl_nil, pieceStep, hexv_hexl (n % 16) (by omega), List.length_append, List.length_cons, List.length_nil, Option.some.injEq]
      rw [Nat.pow_succ]
      have : 16 ^ (hexs (n / 16)).length * 16 * m = 16 * (16 ^ (hexs (n / 16)).length * m) := by rw [Nat.mul_comm _ 16, Nat.mul_assoc]
      rw [this]
      omega
    · rw [hexs_small n hn]
      simp only [List.foldl_cons, List.foldl_nil, pieceStep, hexv_hexl (n % 16) (by omega), List.length_cons, List.length_nil, Option.some.injEq]
      omega
theorem hexs_len (n : Nat) (h : n ≤ 65535) : 0 < (hexs n).length ∧ (hexs n).length ≤ 4 := by
  have l0 : ∀ m, m ≤ 15 → (hexs m).length = 1 := fun m hm => by rw [hexs_small m (by omega)]; rfl
  have l1 : ∀ m, m ≤ 255 → 0 < (hexs m).length ∧ (hexs m).length ≤ 2 := fun m hm => by
    by_cases hn : m > 15
    · rw [hexs_big m hn, List.length_append, l0 _ (by omega)]; simp
    · rw [l0 _ (by omega)]; simp
  have l2 : ∀ m, m ≤ 4095 → 0 < (hexs m).length ∧ (hexs m).length ≤ 3 := fun m hm => by
    by_cases hn : m > 15
    · have := l1 (m / 16) (by omega)
      rw [hexs_big m hn, List.length_append]; simp; omega
    · rw [l0 _ (by omega)]; simp
  by_cases hn : n > 15
  · have := l2 (n / 16) (by omega)
    rw [hexs_big n hn, List.length_append]; simp; omega
  · rw [l0 _ (by omega)]; simp
theorem piece_hexs (n : Nat) (h : n ≤ 65535) : piece (hexs n) = some n := by
  have hl := hexs_len n h
  unfold piece
  rw [if_neg (by omega), pieceFold_hexs]
  simp
theorem hexs_no (n : Nat) : ∀ y ∈ hexs n, y ≠ (58 : UInt8) := by
  intro y hy e
  have := hexs_all n y hy
  subst e
  simp at this
theorem pieces_hexs (p : List Int) (h : sixMay p = true) : pieces (p.map fun n => hexs n.toNat) = some p := by
  induction p with
  | nil => rfl
  | cons x r ih =>
    unfold sixMay at h
    simp only [List.all_cons, Bool.and_eq_true, decide_eq_true_eq] at h
    rw [List.map_cons, pieces, ih (by unfold sixMay; exact h.2), piece_hexs _ (by omega)]
    simp
    omega
theorem sixSplit_join (p : List Int) (h : sixMay p = true) : sixSplit (sixJoin p) = some p := by
  unfold sixSplit sixJoin
  cases p with
  | nil => rfl
  | cons x r =>
    have hne : joinBy [58] ((x :: r).map fun n => hexs n.toNat) ≠ [] := by
      rw [List.map_cons]
      have := hexs_ne x.toNat
      cases r with
      | nil => rw [List.map_nil, joinBy_one]; exact this
      | cons y r => rw [List.map_cons, joinBy_two]; simp
    rw [if_neg hne, splitB_join 58 _ (by
      intro z hz
      simp only [List.mem_map] at hz
      obtain ⟨n, _, rfl⟩ := hz
      exact hexs_no _) (by simp)]
    exact pieces_hexs _ h
/-- Has a text no two colons in a row, and none at its end? -/
def okc : L → Bool
  | [] => true
  | [x] => x != 58
  | x :: y :: r => (x != 58 || y != 58) && okc (y :: r)
theorem okc_app (a b : L) (h : ∀ x ∈ a, x ≠ (58 : UInt8)) (ha : a ≠ []) (hb : okc b = true) (hbn : b ≠ []) (hh : b.head? ≠ some 58) : okc (a ++ 58 :: b) = true := by
  induction a with
  | nil => exact absurd rfl ha
  | cons x r ih =>
    have hx : x ≠ 58 := h x (by simp)
    cases r with
    | nil =>
      cases b with
      | nil => exact absurd rfl hbn
      | cons y t =>
        have : y ≠ 58 := by simpa using hh
        simp [okc, hx, this, hb]
    | cons y r =>
      have := ih (fun z hz => h z (by simp only [List.mem_cons] at hz ⊢; exact .inr hz)) (by simp)
      rw [List.cons_append, List.cons_append, okc, ← List.cons_append, this]
      simp [hx]
theorem okc_no (a : L) (h : ∀ x ∈ a, x ≠ (58 : UInt8)) : okc a = true := by
  induction a with
  | nil => rfl
  | cons x r ih =>
    have hx : x ≠ 58 := h x (by simp)
    cases r with
    | nil => simp [okc, hx]
    | cons y r =>
      have := ih (fun z hz => h z (by simp only [List.mem_cons] at hz ⊢; exact .inr hz))
      simp [okc, hx, this]
theorem hexs_head (n : Nat) : (hexs n).head? ≠ some 58 := by
  intro e
  exact hexs_no n 58 (List.mem_of_mem_head? e) rfl
theorem sixJoin_ok (p : List Int) : okc (sixJoin p) = true ∧ (sixJoin p).head? ≠ some 58 ∧ (p ≠ [] → sixJoin p ≠ []) := by
  induction p with
  | nil => exact ⟨rfl, by simp [sixJoin, joinBy, List.intercalate], fun h => absurd rfl h⟩
  | cons x r ih =>
    have hne := hexs_ne x.toNat
    cases r with
    | nil =>
      have e : sixJoin [x] = hexs x.toNat := by unfold sixJoin; rw [List.map_cons, List.map_nil, joinBy_one]
      rw [e]
      exact ⟨okc_no _ (hexs_no _), hexs_head _, fun _ => hne⟩
    | cons y r =>
      have e : sixJoin (x :: y :: r) = hexs x.toNat ++ 58 :: sixJoin (y :: r) := by unfold sixJoin; rw [List.map_cons, List.map_cons, joinBy_two]; rfl
      rw [e]
      refine ⟨okc_app _ _ (hexs_no _) hne ih.1 (ih.2.2 (by simp)) ih.2.1, ?_, fun _ => by simp⟩
      have := hexs_head x.toNat
      revert this hne
      cases hexs x.toNat with
      | nil => intro h _; exact absurd rfl h
      | cons z t => intro _ h; simpa using h
theorem cut2_hit (a b : L) (h : okc a = true) : cut2 (a ++ 58 :: 58 :: b) = (a, b, true) := by
  induction a with
  | nil => simp [cut2]
  | cons x r ih =>
    cases r with
    | nil =>
      have hx : x ≠ 58 := by simpa [okc] using h
      have := ih rfl
      rw [List.nil_append] at this
      simp only [List.cons_append, List.nil_append]
      rw [cut2, this, if_neg (by simp [hx])]
      simp
    | cons y r =>
      simp only [okc, Bool.and_eq_true, Bool.or_eq_true, bne_iff_ne, ne_eq] at h
      have := ih h.2
      simp only [List.cons_append] at this ⊢
      rw [cut2, this, if_neg (by simp; intro h1 h2; rcases h.1 with h | h; exact h h1; exact h h2)]
      simp
theorem cut2_none (a : L) (h : okc a = true) : cut2 a = (a, [], false) := by
  induction a with
  | nil => rfl
  | cons x r ih =>
    cases r with
    | nil =>
      have hx : x ≠ 58 := by simpa [okc] using h
      simp [cut2]
    | cons y r =>
      simp only [okc, Bool.and_eq_true, Bool.or_eq_true, bne_iff_ne, ne_eq] at h
      have := ih h.2
      rw [cut2, this, if_neg (by simp; intro h1 h2; rcases h.1 with h | h; exact h h1; exact h h2)]
      simp
theorem zeros_take (p : List Int) (n : Nat) (h : n ≤ zeros p) : p.take n = List.replicate n 0 := by
  induction p generalizing n with
  | nil => simp [zeros] at h; subst h; rfl
  | cons x r ih =>
    cases n with
    | zero => rfl
    | succ n =>
      unfold zeros at h
      rw [List.takeWhile_cons] at h
      split at h
      · rename_i hx
        have : x = 0 := by simpa using hx
        subst this
        rw [List.take_succ_cons, List.replicate_succ, ih n (by unfold zeros; simpa using h)]
      · simp at h
theorem runTo_zeros (p : List Int) (k : Nat) : runTo p k = (0, 1) ∨ (runTo p k).2 = zeros (p.drop (runTo p k).1) := by
  induction k with
  | zero => exact .inl rfl
  | succ k ih =>
    rw [runTo_succ, runStep]
    split
    · exact .inr rfl
    · exact ih
theorem run_zeros (p : List Int) (h : (run p).2 ≠ 0) : 2 ≤ (run p).2 ∧ (run p).2 = zeros (p.drop (run p).1) := by
  unfold run at h ⊢
  split at h
  · exact absurd rfl h
  · rename_i h2
    rw [if_neg h2]
    refine ⟨by omega, ?_⟩
    rcases runTo_zeros p 8 with h | h
    · rw [h] at h2; simp at h2
    · exact h
theorem sixMay_take {p : List Int} (h : sixMay p = true) (n : Nat) : sixMay (p.take n) = true := by
  unfold sixMay at *
  exact List.all_eq_true.2 fun x hx => List.all_eq_true.1 h x (List.mem_of_mem_take hx)
theorem sixMay_drop {p : List Int} (h : sixMay p = true) (n : Nat) : sixMay (p.drop n) = true := by
  unfold sixMay at *
  exact List.all_eq_true.2 fun x hx => List.all_eq_true.1 h x (List.mem_of_mem_drop hx)
theorem sixParse_show (p : List Int) (h : sixMay p = true) (hl : p.length = 8) : sixParse (sixShow p) = some p := by
  unfold sixShow
  rw [if_pos h]
  split
  · unfold sixParse
    rw [cut2_none _ (sixJoin_ok p).1]
    simp only [sixSplit_join p h]
    simp [sixSplit, sixOf, hl]
  · rename_i hr
    obtain ⟨h2, hz⟩ := run_zeros p hr
    have hle := run_le p hl
    unfold sixParse
    rw [cut2_hit _ _ (sixJoin_ok _).1]
    simp only [sixSplit_join _ (sixMay_take h _), sixSplit_join _ (sixMay_drop h _)]
    unfold sixOf
    have hlen : (p.take (run p).1).length + (p.drop ((run p).1 + (run p).2)).length = 8 - (run p).2 := by simp [hl]; omega
    rw [hlen, if_neg (by simp; omega), show 8 - (8 - (run p).2) = (run p).2 by omega]
    congr 1
    have e1 : List.replicate (run p).2 0 = (p.drop (run p).1).take (run p).2 := (zeros_take _ _ (by omega)).symm
    rw [e1, ← List.drop_drop, List.take_append_drop, List.take_append_drop]
/-- host.Parse. -/
def hostParse (s : L) : Option Host :=
  match s with
  | 91 :: r => if r.getLast? = some 93 then (match sixParse r.dropLast with
      | some p => some ⟨3, [], 0, p⟩
      | none => none) else none
  | _ => if looks s then (match fourParse s with
      | some n => some ⟨2, [], n, noSix⟩
      | none => none) else if fits (lower s) then some ⟨1, lower s, 0, noSix⟩ else none
theorem lower_low {s : L} (h : ∀ c ∈ s, ¬ (65 ≤ c.toNat ∧ c.toNat ≤ 90)) : lower s = s := by
  unfold lower
  conv => rhs; rw [← List.map_id s]
  apply List.map_congr_left
  intro c hc
  have := h c hc
  unfold low
  rw [if_neg (by simp; omega)]
  rfl
theorem hostParse_plain {s : L} (h : s.head? ≠ some 91) : hostParse s = if looks s then (match fourParse s with
      | some n => some ⟨2, [], n, noSix⟩
      | none => none) else if fits (lower s) then some ⟨1, lower s, 0, noSix⟩ else none := by
  unfold hostParse
  split
  · simp at h
  · rfl
theorem hostParse_show (h : Host) (hm : hostMay h = true) (hl : h.six.length = 8) : hostParse (hostShow h) = some h := by
  unfold hostShow
  rw [if_pos hm]
  unfold hostMay at hm
  obtain ⟨k, n, m, x⟩ := h
  dsimp only at hm hl ⊢
  have hp : ∀ s : L, (∀ c ∈ s, Plainb c) → s.head? ≠ some 91 := fun s hs e => by
    have := hs 91 (List.mem_of_mem_head? e)
    simp [Plainb] at this
  split
  · rename_i hk
    rw [if_pos hk] at hm
    simp only [Bool.and_eq_true, decide_eq_true_eq] at hm
    obtain ⟨hf, h0, h1⟩ := hm
    subst h0 h1 hk
    rw [hostParse_plain (hp _ (fits_plainb hf)), lower_low (fun c hc => by have := fits_plainb hf c hc; unfold Plainb at this; omega), if_pos hf, if_neg (by
      unfold fits at hf
      simp only [Bool.and_eq_true, Bool.not_eq_true'] at hf
      simp [hf.1.1.2])]
  · rename_i hk
    rw [if_neg hk] at hm
    split
    · rename_i hk2
      rw [if_pos hk2] at hm
      simp only [Bool.and_eq_true, decide_eq_true_eq, List.isEmpty_iff, Bool.not_eq_true', List.isEmpty_eq_false_iff] at hm
      obtain ⟨hf, h0, h1⟩ := hm
      subst h0 h1 hk2
      have hb : 0 ≤ m ∧ m ≤ 4294967295 := by
        unfold fourShow at hf
        split at hf
        · exact absurd rfl hf
        · omega
      rw [hostParse_plain (hp _ (fourShow_plainb m)), if_pos (looks_four m hb.1 hb.2), fourParse_show m hb.1 hb.2]
      simp
      omega
    · rename_i hk2
      rw [if_neg hk2] at hm
      split at hm
      · rename_i hk3
        simp only [Bool.and_eq_true, decide_eq_true_eq, List.isEmpty_iff] at hm
        obtain ⟨hf, h0, h1⟩ := hm
        subst h0 h1 hk3
        have e : hostParse (91 :: (sixShow x ++ [93])) = (match sixParse (sixShow x) with
          | some p => some ⟨3, [], 0, p⟩
          | none => none) := by
          unfold hostParse
          simp
        rw [e, sixParse_show x hf hl]
      · exact absurd hm (by simp)
/-- What is put into an address ahead of its path: the host, and the port. -/
def doorAt (s : L) : Nat := if s.head? = some 91 then (if has s 93 then s.findIdx (· == 93) else 0) else 0
def doorName (s : L) : L := if has (s.drop (doorAt s)) 58 then s.take (doorAt s) ++ (s.drop (doorAt s)).takeWhile (· != 58) else s
def doorPort (s : L) : L := if has (s.drop (doorAt s)) 58 then ((s.drop (doorAt s)).dropWhile (· != 58)).drop 1 else []
def portOf (sch s : L) : Option Int := if s = [] then some (-1) else match read s 65535 with
  | some n => if (n : Int) = web sch then some (-1) else some n
  | none => none
/-- path.Norm. -/
def normStep (out : List L) (s : L) (last : Bool) : List L :=
  if dots s = 0 then out ++ [s] else (if dots s = 2 then out.dropLast else out) ++ (if last then [[]] else [])
def normGo : List L → List L → List L
  | out, [] => out
  | out, [s] => normStep out s true
  | out, s :: t :: r => normGo (normStep out s false) (t :: r)
def norm (l : List L) : List L := normGo [] l
def unslash : L → L
  | 47 :: r => r
  | s => s
def pathSplit (s : L) : List L := splitB 47 (encode 3 (unslash s))
def pathParse (s : L) : List L := norm (pathSplit s)
/-- What stands ahead of the last at sign, and behind it. -/
def hasAt (s : L) : Bool := has s 64
def behindAt (s : L) : L := (s.reverse.takeWhile (· != 64)).reverse
def aheadAt (s : L) : L := ((s.reverse.dropWhile (· != 64)).drop 1).reverse
/-- What stands ahead of a path, of an address of the web. -/
def where_ (t : L) : L := t.takeWhile (· != 47)
def userOf (s : L) : L := if hasAt s then encode 4 (cut 58 (aheadAt s)).1 else []
def passOf (s : L) : L := if hasAt s then encode 4 (cut 58 (aheadAt s)).2.1 else []
def doorOf (s : L) : L := if hasAt s then behindAt s else s
def unslash2 : L → Option L
  | 47 :: 47 :: r => some r
  | _ => none
def parseWeb (sch t query frag : L) (q f : Bool) : Option Url :=
  match unslash2 t with
  | none => none
  | some t =>
    match hostParse (doorName (doorOf (where_ t))), portOf sch (doorPort (doorOf (where_ t))) with
    | some h, some p => some ⟨sch, userOf (where_ t), passOf (where_ t), h, p, pathParse (t.dropWhile (· != 47)), [], encode 2 query, encode 1 frag, q, f⟩
    | _, _ => none
def parseOpq (sch t query frag : L) (q f : Bool) : Url := ⟨sch, [], [], noHost, -1, [], encode 1 t, encode 2 query, encode 1 frag, q, f⟩
def parseT (sch : L) (x : L × L × L × Bool × Bool) : Option Url :=
  if opq sch then some (parseOpq sch x.1 x.2.1 x.2.2.1 x.2.2.2.1 x.2.2.2.2) else parseWeb sch x.1 x.2.1 x.2.2.1 x.2.2.2.1 x.2.2.2.2
def parseC (s : L) : Option Url :=
  if !(scheme s).2.2 || !(decide (0 < web (scheme s).1) || opq (scheme s).1) then none else parseT (scheme s).1 (tail (scheme s).2.1)
def urlParse (raw : L) : Option Url := parseC (clean raw)
end PM
