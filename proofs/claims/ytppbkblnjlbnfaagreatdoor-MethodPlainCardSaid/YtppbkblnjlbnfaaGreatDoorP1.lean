import Derived.Test.YtppbkblnjlbnfaaGreatDoorC17
import Derived.Test.YtppbkblnjlbnfaaGreatDoorParse
/-! Contracts: ascii.Alpha, Hex; url.Scheme, Tail; bytes by predicates. -/
set_option linter.unusedVariables false
namespace Go.Proofs.YtppbkblnjlbnfaaGreatDoor
open Go.RowKit
theorem all256 {p : Nat → Bool} (h : (List.range 256).all p = true) (c : UInt8) : p c.toNat = true := List.all_eq_true.1 h _ (List.mem_range.2 c.toNat_lt)
theorem or_alpha (c : UInt8) : (decide (97 ≤ bits .or .u8 (c.toNat : Int) 32) && decide (bits .or .u8 (c.toNat : Int) 32 ≤ 122)) = ((decide (65 ≤ c.toNat) && decide (c.toNat ≤ 90)) || (decide (97 ≤ c.toNat) && decide (c.toNat ≤ 122))) := by
  have h : (List.range 256).all (fun n => (decide (97 ≤ bits .or .u8 (n : Int) 32) && decide (bits .or .u8 (n : Int) 32 ≤ 122)) == ((decide (65 ≤ n) && decide (n ≤ 90)) || (decide (97 ≤ n) && decide (n ≤ 122)))) = true := by kernel_rfl
  simpa using all256 h c
theorem or_hex (c : UInt8) : (decide (97 ≤ bits .or .u8 (c.toNat : Int) 32) && decide (bits .or .u8 (c.toNat : Int) 32 ≤ 102)) = ((decide (65 ≤ c.toNat) && decide (c.toNat ≤ 70)) || (decide (97 ≤ c.toNat) && decide (c.toNat ≤ 102))) := by
  have h : (List.range 256).all (fun n => (decide (97 ≤ bits .or .u8 (n : Int) 32) && decide (bits .or .u8 (n : Int) 32 ≤ 102)) == ((decide (65 ≤ n) && decide (n ≤ 70)) || (decide (97 ≤ n) && decide (n ≤ 102)))) = true := by kernel_rfl
  simpa using all256 h c
set_option maxHeartbeats 1000000 in
theorem Alpha_c (c : UInt8) (w : World) : Calls Tryz.prog 126 #[.int .u8 (c.toNat : Int)] w fun e w' => e = .returned (.bool (PM.alpha c)) ∧ w' = w := by
  have hc := in_c (bits .or .u8 (c.toNat : Int) 32) 97 122 w
  rw [or_alpha] at hc
  have ha : PM.alpha c = ((decide (65 ≤ c.toNat) && decide (c.toNat ≤ 90)) || (decide (97 ≤ c.toNat) && decide (c.toNat ≤ 122))) := rfl
  have h128 : PM.alpha c = true → (c.toNat : Int) < 128 := by
    intro h
    unfold PM.alpha at h
    simp at h
    omega
  rw [← ha] at hc
  generalize PM.alpha c = A at hc h128 ⊢
  clear ha
  cases A
  · go_enter Tryz.func126, Tryz.ntmps126
    go_wp2_with fail
    refine hc.mono ?_
    rintro e w1 ⟨rfl, rfl⟩
    go_wp2
    go_ret
    exact ⟨rfl, rfl⟩
  · have h1 := h128 rfl
    go_enter Tryz.func126, Tryz.ntmps126
    go_wp2_with fail
    refine hc.mono ?_
    rintro e w1 ⟨rfl, rfl⟩
    go_wp2
    go_ret
    exact ⟨rfl, rfl⟩
/-- A look by runes is a look by bytes, where all that is no ASCII is met. -/
theorem idx_all (p : Nat → Bool) (hp : ∀ x, 128 ≤ x → p x = true) (l : List UInt8) : ∀ f pos, l.length ≤ pos + f → decide (0 ≤ Lib.idxFuncFrom p true (mkS l) f pos) = (l.drop pos).any fun c => p c.toNat := by
  intro f
  induction f with
  | zero =>
    intro pos h
    rw [List.drop_of_length_le (by omega)]
    rfl
  | succ f ih =>
    intro pos h
    by_cases hq : pos < l.length
    · have hps : pos < (mkS l).size := by rw [mkS_size]; exact hq
      rw [List.drop_eq_getElem_cons hq, List.any_cons, Lib.idxFuncFrom, if_pos hps]
      have hg := mkS_get l pos hps
      by_cases ha : (l[pos]).toNat < 128
      · rw [decode_ascii (mkS l) pos hps (by rw [hg]; exact ha), hg]
        show decide (0 ≤ (if p (l[pos]).toNat = true then (pos : Int) else _)) = _
        by_cases ho : p (l[pos]).toNat = true
        · rw [if_pos ho]
          exact (decide_eq_true (by omega)).trans (orT ho).symm
        · rw [if_neg ho]
          have : p (l[pos]).toNat = false := by simpa using ho
          exact (ih (pos + 1) (by omega)).trans (orF this).symm
      · have hd := decode_high (mkS l) pos hps (by rw [hg]; omega)
        have ho : p (Utf8.decode (mkS l) pos).1 = true := hp _ (by have := hd.1; omega)
        have : p (l[pos]).toNat = true := hp _ (by omega)
        rw [if_pos ho]
        exact (decide_eq_true (by omega)).trans (orT this).symm
    · rw [List.drop_of_length_le (by omega), Lib.idxFuncFrom_end _ _ _ _ _ (by rw [mkS_size]; exact hq)]
      rfl
theorem idx_alls (p : Nat → Bool) (hp : ∀ x, 128 ≤ x → p x = true) (l : List UInt8) : decide (0 ≤ Lib.idxFunc p true (mkS l)) = l.any fun c => p c.toNat := by
  unfold Lib.idxFunc
  rw [idx_all p hp l _ 0 (by rw [mkS_size]; omega)]
  rfl
theorem index_one (l : List UInt8) (c : UInt8) : (PM.has l c = true → Lib.index l [c] = ((l.takeWhile (· != c)).length : Int)) ∧ (PM.has l c = false → Lib.index l [c] = -1) := by
  induction l with
  | nil => exact ⟨fun h => by simp [PM.has] at h, fun _ => rfl⟩
  | cons b r ih =>
    unfold PM.has at ih ⊢
    have hp : List.isPrefixOf [c] (b :: r) = (c == b) := by simp [List.isPrefixOf]
    rw [Lib.index, hp]
    by_cases hb : c = b
    · subst hb
      refine ⟨fun _ => ?_, fun h => by simp at h⟩
      rw [if_pos (by simp)]
      simp
    · have hb' : b ≠ c := fun e => hb e.symm
      rw [if_neg (by simpa using hb)]
      refine ⟨fun h => ?_, fun h => ?_⟩
      · have h1 : r.contains c = true := by
          rw [List.contains_cons] at h
          simpa [hb] using h
        have h2 := ih.1 h1
        rw [h2]
        have : (b :: r).takeWhile (· != c) = b :: r.takeWhile (· != c) := by rw [List.takeWhile_cons]; simp [hb']
        rw [this]
        have h3 : ¬ (((r.takeWhile (· != c)).length : Int) = -1) := by omega
        simp only [beq_iff_eq, h3, if_false, List.length_cons]
        omega
      · have h1 : r.contains c = false := by
          rw [List.contains_cons] at h
          simpa [hb] using h
        rw [ih.2 h1]
        rfl
theorem take_tw (l : List UInt8) (c : UInt8) : l.take (l.takeWhile (· != c)).length = l.takeWhile (· != c) := by
  induction l with
  | nil => rfl
  | cons b r ih =>
    rw [List.takeWhile_cons]
    split
    · rw [List.length_cons, List.take_succ_cons, ih]
    · rfl
theorem drop_tw (l : List UInt8) (c : UInt8) : l.drop (l.takeWhile (· != c)).length = l.dropWhile (· != c) := by
  induction l with
  | nil => rfl
  | cons b r ih =>
    rw [List.takeWhile_cons, List.dropWhile_cons]
    split
    · rw [List.length_cons, List.drop_succ_cons, ih]
    · rfl
theorem cut_one (l : List UInt8) (c : UInt8) : Lib.cut l [c] = PM.cut c l := by
  obtain ⟨h1, h2⟩ := index_one l c
  unfold Lib.cut PM.cut
  cases hc : PM.has l c
  · rw [h2 hc]
    rfl
  · rw [h1 hc, if_pos (by omega), if_pos rfl]
    have e : (((l.takeWhile (· != c)).length : Int)).toNat = (l.takeWhile (· != c)).length := by omega
    rw [e, take_tw, ← List.drop_drop, drop_tw]
    rfl
theorem Cut_c (s : List UInt8) (c : UInt8) (d : ByteArray) (hd : d = mkS [c]) (hs : s.length ≤ 1000000000) (w : World) (hg : Gl w) :
    Calls Tryz.prog 62 #[.string (mkS s), .string d] w fun e w' => e = .returned (.tuple #[.string (mkS (PM.cut c s).1), .string (mkS (PM.cut c s).2.1), .bool (PM.cut c s).2.2]) ∧ Below w.heap.size w w' := by
  subst hd
  obtain ⟨m, hm⟩ := hg
  refine (Tryz.strings_Cut (mkS s) (mkS [c]) m w (by rw [mkS_size]; omega) hm).mono ?_
  rintro e w' ⟨rfl, n, rfl⟩
  rw [mkS_data, mkS_data, cut_one]
  exact ⟨rfl, b_drewN (Below.refl _ _) n⟩
def schN (x : Nat) : Bool := decide (128 ≤ x) || PM.schOdd (UInt8.ofNat x)
theorem sch_sep (x : Nat) (hx : x < 128) : decide (0 ≤ Lib.indexByte [43, 45, 46] ((x : Int).toNat.toUInt8)) = PM.has [43, 45, 46] (UInt8.ofNat x) := by
  rw [indexByte_has]
  rfl
set_option maxRecDepth 100000 in
set_option maxHeartbeats 1000000 in
theorem Scheme1_c (x : Nat) (hx : x ≤ 1114111) (w : World) : Calls Tryz.prog 125 #[.int .i32 (x : Int)] w fun e w' => e = .returned (.bool (schN x)) ∧ w' = w := by
  by_cases h1 : 128 ≤ x
  · have h1' : 128 ≤ (x : Int) := by omega
    go_enter Tryz.func125, Tryz.ntmps125
    go_wp2
    go_ret
    exact ⟨ret_bool (by simp [schN, h1]), rfl⟩
  · have h1' : ¬ 128 ≤ (x : Int) := by omega
    have ha := Alpha_c (UInt8.ofNat x)
    have hd := Digit_c (UInt8.ofNat x)
    rw [UInt8.toNat_ofNat_of_lt' (show x < 256 by omega)] at ha hd
    have hs := Tryz.strings_ContainsRune_ascii (mkS [43, 45, 46]) (x : Int) w (by omega) (by omega)
    rw [mkS_data, sch_sep x (by omega)] at hs
    have h128 : (x : Int) < 256 := by omega
    have h0 : 0 ≤ (x : Int) := by omega
    have hn : schN x = (!PM.alpha (UInt8.ofNat x) && (!PM.isDigit (UInt8.ofNat x) && !PM.has [43, 45, 46] (UInt8.ofNat x))) := by
      unfold schN PM.schOdd
      rw [decide_eq_false h1, Bool.false_or, Bool.and_assoc]
    generalize PM.alpha (UInt8.ofNat x) = A1 at ha hn
    generalize PM.isDigit (UInt8.ofNat x) = A2 at hd hn
    generalize PM.has [43, 45, 46] (UInt8.ofNat x) = A3 at hs hn
    have HA := Lib.hid ha
    have HD := Lib.hid hd
    have HS := Lib.hid hs
    have HN := Lib.hid hn
    clear ha hd hs hn h1
    go_enter Tryz.func125, Tryz.ntmps125
    go_wp2_with (first
      | (go_at_call 126; refine (HA.out _).mono ?_; rintro e w1 ⟨rfl, rfl⟩)
      | (go_at_call 127; refine (HD.out _).mono ?_; rintro e w1 ⟨rfl, rfl⟩)
      | (go_at_call 128; refine HS.out.mono ?_; rintro e w1 ⟨rfl, rfl⟩))
    all_goals go_ret
    all_goals exact ⟨ret_bool (by rw [HN.out]; simp [*]), rfl⟩
theorem schOdd_c (s : List UInt8) (w : World) : Calls Tryz.prog 129 #[.string (mkS s), .func (.func 125) #[] #[]] w fun e w' => e = .returned (.bool (s.any PM.schOdd)) ∧ Below w.heap.size w w' := by
  have h := Tryz.strings_ContainsFunc_runes 125 #[] (fun args w => by kernel_rfl) schN (mkS s) w (fun W x hx hb => (Scheme1_c x hx W).mono fun e w' h => ⟨h.1, 0, h.2⟩)
  rw [idx_alls schN (fun x hx => by simp [schN, hx])] at h
  have e : (fun c : UInt8 => schN c.toNat) = PM.schOdd := by
    funext c
    unfold schN
    rw [UInt8.ofNat_toNat]
    by_cases h : 128 ≤ c.toNat
    · rw [decide_eq_true h, Bool.true_or]
      unfold PM.schOdd PM.alpha PM.isDigit PM.has
      have h1 : c ≠ 43 := by rintro rfl; simp at h
      have h2 : c ≠ 45 := by rintro rfl; simp at h
      have h3 : c ≠ 46 := by rintro rfl; simp at h
      simp [h1, h2, h3]
      omega
    · rw [decide_eq_false h, Bool.false_or]
  rwa [e] at h
theorem results_tmp5 {fn : Func} {t u v x y : Tmp} (h : fn.results = #[.tmp t, .tmp u, .tmp v, .tmp x, .tmp y]) (tmps : Array Value) (P : Program) (w : World) :
    (results fn tmps).run P w = .ok (.tuple #[tmps.getD t undef, tmps.getD u undef, tmps.getD v undef, tmps.getD x undef, tmps.getD y undef]) w := by
  simp [results, h]
theorem ret_three {a b c d : List UInt8} {e f : Bool} (h1 : a = c) (h2 : b = d) (h3 : e = f) : Ending.returned (.tuple #[.string (mkS a), .string (mkS b), .bool e]) = .returned (.tuple #[.string (mkS c), .string (mkS d), .bool f]) := by rw [h1, h2, h3]
set_option maxRecDepth 100000 in
set_option maxHeartbeats 1000000 in
theorem Scheme_c (s : List UInt8) (hs : s.length ≤ 1000000) (w : World) (hg : Gl w) : Calls Tryz.prog 98 #[.string (mkS s)] w fun e w' => e = .returned (.tuple #[.string (mkS (PM.scheme s).1), .string (mkS (PM.scheme s).2.1), .bool (PM.scheme s).2.2]) ∧ Below w.heap.size w w' := by
  have hc := fun W hg => Cut_c s 58 ⟨#[58]⟩ rfl (by omega) W hg
  have hn : PM.scheme s = if (!(PM.cut 58 s).2.2 || (PM.cut 58 s).1.isEmpty || !PM.alpha ((PM.cut 58 s).1.headD 0) || (PM.cut 58 s).1.any PM.schOdd) then ([], [], false) else (PM.lower (PM.cut 58 s).1, (PM.cut 58 s).2.1, true) := rfl
  have hl : (PM.cut 58 s).1.length ≤ 1000000 := by
    unfold PM.cut
    split
    · exact Nat.le_trans (List.takeWhile_sublist _).length_le hs
    · exact hs
  generalize (PM.cut 58 s).1 = A at hc hn hl
  generalize (PM.cut 58 s).2.1 = R at hc hn
  generalize (PM.cut 58 s).2.2 = is at hc hn
  have HC := Lib.hid hc
  have HN := Lib.hid hn
  clear hc hn
  have ho := schOdd_c A
  have hlw := Lower_c A (by omega)
  have HL := Lib.hid hlw
  clear hlw
  cases is
  · go_enter Tryz.func98, Tryz.ntmps98
    go_wp2_with fail
    refine (HC.out _ hg).mono ?_
    rintro e w1 ⟨rfl, hb⟩
    go_wp2
    go_ret3
    rw [HN.out]
    exact ⟨rfl, hb⟩
  · cases A with
    | nil =>
      go_enter Tryz.func98, Tryz.ntmps98
      go_wp2_with fail
      refine (HC.out _ hg).mono ?_
      rintro e w1 ⟨rfl, hb⟩
      go_wp2
      go_ret3
      rw [HN.out]
      exact ⟨rfl, hb⟩
    | cons a r =>
      have ha := Alpha_c a
      have hne : (a :: r).isEmpty = false := rfl
      have hz : ∀ (h : 0 < (mkS (a :: r)).size), (mkS (a :: r))[0]'h = a := fun h => by rw [mkS_get]; rfl
      have hpos : (0 : Int) < ((a :: r).length : Int) := by simp
      have hd : (a :: r).headD 0 = a := rfl
      rw [hd] at HN
      generalize a :: r = A at HC HN HL ho hne hz hpos
      generalize A.any PM.schOdd = B at ho HN
      have HO := Lib.hid ho
      clear ho hd
      cases h1 : PM.alpha a
      · rw [h1] at ha
        have HA := Lib.hid ha
        clear ha
        go_enter Tryz.func98, Tryz.ntmps98
        go_wp2_with fail
        refine (HC.out _ hg).mono ?_
        rintro e w1 ⟨rfl, hb⟩
        go_wp2_with fail
        refine (HA.out _).mono ?_
        rintro e w2 ⟨rfl, rfl⟩
        go_wp2
        go_ret3
        rw [HN.out, h1, hne]
        exact ⟨rfl, hb⟩
      · rw [h1] at ha
        have HA := Lib.hid ha
        clear ha
        cases B
        · go_enter Tryz.func98, Tryz.ntmps98
          go_wp2_with fail
          refine (HC.out _ hg).mono ?_
          rintro e w1 ⟨rfl, hb⟩
          go_wp2_with fail
          refine (HA.out _).mono ?_
          rintro e w2 ⟨rfl, rfl⟩
          go_wp2_with fail
          refine (HO.out _).mono ?_
          rintro e w3 ⟨rfl, hb2⟩
          go_wp2_with fail
          refine (HL.out _).mono ?_
          rintro e w4 ⟨rfl, hb3⟩
          go_wp2
          go_ret3
          rw [HN.out, h1, hne]
          exact ⟨rfl, b_then (b_then hb hb2) hb3⟩
        · go_enter Tryz.func98, Tryz.ntmps98
          go_wp2_with fail
          refine (HC.out _ hg).mono ?_
          rintro e w1 ⟨rfl, hb⟩
          go_wp2_with fail
          refine (HA.out _).mono ?_
          rintro e w2 ⟨rfl, rfl⟩
          go_wp2_with fail
          refine (HO.out _).mono ?_
          rintro e w3 ⟨rfl, hb2⟩
          go_wp2
          go_ret3
          rw [HN.out, h1, hne]
          exact ⟨rfl, b_then hb hb2⟩
set_option maxRecDepth 100000 in
set_option maxHeartbeats 1000000 in
theorem Tail_c (s : List UInt8) (hs : s.length ≤ 1000000) (w : World) (hg : Gl w) : Calls Tryz.prog 34 #[.string (mkS s)] w fun e w' => e = .returned (.tuple #[.string (mkS (PM.tail s).1), .string (mkS (PM.tail s).2.1), .string (mkS (PM.tail s).2.2.1), .bool (PM.tail s).2.2.2.1, .bool (PM.tail s).2.2.2.2]) ∧ Below w.heap.size w w' := by
  have hc := fun W hg => Cut_c s 35 ⟨#[35]⟩ rfl (by omega) W hg
  have hl : (PM.cut 35 s).1.length ≤ 1000000 := by
    unfold PM.cut
    split
    · exact Nat.le_trans (List.takeWhile_sublist _).length_le hs
    · exact hs
  have hc2 := fun W hg => Cut_c (PM.cut 35 s).1 63 ⟨#[63]⟩ rfl (by omega) W hg
  go_enter Tryz.func34, Tryz.ntmps34
  go_wp2_with fail
  refine (hc _ hg).mono ?_
  rintro e w1 ⟨rfl, hb⟩
  go_wp2_with fail
  refine (hc2 _ (hg.below hb)).mono ?_
  rintro e w2 ⟨rfl, hb2⟩
  go_wp2
  (try simp only [Exit.inBlock, Exit.then]); refine bodyPost_ret (results_tmp5 rfl _ _ _) rfl ?_
  exact ⟨rfl, b_then hb hb2⟩
end Go.Proofs.YtppbkblnjlbnfaaGreatDoor
