import Derived.Test.YtppbkblnjlbnfaaGreatDoorOq
import Derived.Test.YtppbkblnjlbnfaaGreatDoorJq
import Derived.Test.YtppbkblnjlbnfaaGreatDoorKn
import Derived.Laws.Cover4
set_option linter.unusedVariables false
set_option linter.unusedSimpArgs false
/-! A list of fields as an argument: opened. -/
namespace Go.Proofs.YtppbkblnjlbnfaaGreatDoor
open Go.ChangeShapes Go.WideShapes Go.ChangeAt Go.RowKit
open Go.WideMaps Go.WideElems
open Go.ChangeMaps (open_string shut_string)
set_option maxRecDepth 100000 in
theorem open_fields {H : Type} {enc : TypeId × Value → H} {w : World} {base : Nat} {spare : Nat → Bool} {held : Bool} {r : Reach} {b0 : Nat} {v : Value} {d : DataW H} {p : List MemPlace} (hv : Value.okWide Tryz.prog w r b0 28 v) (h : DataW.Trod enc Tryz.prog w base spare held 28 v d p) :
    ∃ a n k xs, v = .slice a n k ∧ RdFW w a n xs ∧ n ≤ k := by
  obtain ⟨a, n, k, rfl⟩ := okWide_slice Tryz.underlying28 hv
  obtain ⟨fuel, hf⟩ := h
  have h1 : DataW.trod enc Tryz.prog w base spare held fuel 28 [.slice a n k] = some (d, p) := hf
  obtain ⟨a', n', k', xs, e, hr⟩ := fields_cell h1
  have hk : n ≤ k := by
    rcases Go.Deep.open_slice_pairs Tryz.underlying28 Tryz.underlying50 (by kernel_rfl) rfl rfl (by kernel_rfl) (by kernel_rfl) h1 with ⟨hcs, _⟩ | ⟨a, len, cap, m, n, V0, V1, D0, D1, P0, P1, hcs, _, hl, _⟩
    · simp at hcs
      omega
    · simp at hcs
      omega
  cases e
  exact ⟨_, _, _, xs, rfl, hr, hk⟩
end Go.Proofs.YtppbkblnjlbnfaaGreatDoor
/-! Plain law: where a response sends one. -/
namespace PM
def LOC : L := [76, 111, 99, 97, 116, 105, 111, 110]
def allOf (l : Fs) (name : L) : List L := (l.filter fun f => same f.1 name).map (·.2)
def wide (s : L) : L := s.flatMap fun c => if c.toNat < 128 then [c] else [UInt8.ofNat (192 + c.toNat / 64), UInt8.ofNat (128 + c.toNat % 64)]
def rawOf (all : List L) : L × Int := match all with
  | [] => ([], 0)
  | a :: r => if (a :: r).any (fun s => decide (s ≠ a)) then ([], 2) else (wide a, 1)
def rawP (l : Fs) : L × Int := rawOf (allOf l LOC)
def zeroUrl : Url := ⟨[], [], [], ⟨0, [], 0, noSix⟩, 0, [], [], [], [], false, false⟩
def placeOf (x : L × Int) (cur : Url) : Url × Int :=
  if x.2 ≠ 1 then (zeroUrl, x.2) else match resolve cur x.1 with
    | none => (zeroUrl, 2)
    | some u => (inherit u cur, 1)
def placeP (l : Fs) (cur : Url) : Url × Int := placeOf (rawP l) cur
def redirects (n : Int) : Bool := decide (n = 301) || (decide (n = 302) || (decide (n = 303) || (decide (n = 307) || decide (n = 308))))
def webP (u : Url) : Bool := urlMay u && decide (0 < web u.scheme)
theorem rawOf_num (all : List L) : (rawOf all).2 = 0 ∧ all = [] ∨ (rawOf all).2 = 1 ∧ all ≠ [] ∨ (rawOf all).2 = 2 ∧ all ≠ [] := by
  unfold rawOf
  cases all with
  | nil => exact .inl ⟨rfl, rfl⟩
  | cons a r => dsimp only; split <;> simp
theorem placeOf_some {x : L × Int} {cur u : Url} (h : placeOf x cur = (u, 1)) : x.2 = 1 ∧ ∃ v, resolve cur x.1 = some v ∧ u = inherit v cur := by
  unfold placeOf at h
  split at h
  · rename_i hn
    exact absurd (Prod.mk.inj h).2 hn
  · rename_i hn
    split at h
    · cases (Prod.mk.inj h).2
    · rename_i v hv
      exact ⟨by simpa using hn, v, hv, (Prod.mk.inj h).1.symm⟩
theorem placeOf_num (x : L × Int) (cur : Url) (hx : x.2 = 0 ∨ x.2 = 1 ∨ x.2 = 2) : (placeOf x cur).2 = 1 ∨ (placeOf x cur).1 = zeroUrl ∧ ((placeOf x cur).2 = 0 ∧ x.2 = 0 ∨ (placeOf x cur).2 = 2 ∧ x.2 ≠ 0) := by
  unfold placeOf
  split
  · rename_i hn
    right
    refine ⟨rfl, ?_⟩
    rcases hx with h | h | h
    · exact .inl ⟨h, h⟩
    · exact absurd h hn
    · exact .inr ⟨h, by omega⟩
  · rename_i hn
    have h1 : x.2 = 1 := by simpa using hn
    split
    · exact .inr ⟨rfl, .inr ⟨rfl, by rw [h1]; decide⟩⟩
    · exact .inl rfl
/-- PlaceMay. -/
theorem inherit_may {u v : Url} (hu : urlMay u = true) (hv : urlMay v = true) : urlMay (inherit u v) = true := by
  unfold inherit
  split
  · exact hu
  · obtain ⟨q1, q2, q3, q4⟩ := may_qf hu
    obtain ⟨r1, r2, r3, r4⟩ := may_qf hv
    unfold urlMay at hu ⊢
    simp only [Bool.and_eq_true] at hu ⊢
    refine ⟨?_, hu.2⟩
    unfold qf
    have h4 : (v.hasFrag || v.frag.isEmpty) = true := by rcases r4 with h | h <;> simp [h]
    have h3 : (u.hasQuery || u.query.isEmpty) = true := by rcases q3 with h | h <;> simp [h]
    simp [q1, r2, h3, h4]
theorem place_no {l : Fs} {cur : Url} (h : (placeP l cur).2 ≠ 1) : (placeP l cur).1 = zeroUrl ∧ ((placeP l cur).2 = 0 ∧ allOf l LOC = [] ∨ (placeP l cur).2 = 2 ∧ allOf l LOC ≠ []) := by
  have hr := rawOf_num (allOf l LOC)
  have hx : (rawP l).2 = 0 ∨ (rawP l).2 = 1 ∨ (rawP l).2 = 2 := by unfold rawP; rcases hr with h | h | h <;> simp [h.1]
  rcases placeOf_num (rawP l) cur hx with h1 | ⟨h1, h2⟩
  · exact absurd h1 h
  · refine ⟨h1, ?_⟩
    rcases h2 with ⟨h2, h3⟩ | ⟨h2, h3⟩
    · refine .inl ⟨h2, ?_⟩
      unfold rawP at h3
      rcases hr with h | h | h
      · exact h.2
      · rw [h.1] at h3; cases h3
      · rw [h.1] at h3; cases h3
    · refine .inr ⟨h2, ?_⟩
      unfold rawP at h3
      rcases hr with h | h | h
      · exact absurd h.1 h3
      · exact h.2
      · exact h.2
theorem place_yes {l : Fs} {cur : Url} (h : (placeP l cur).2 = 1) (hl : cur.host.six.length = 8) : allOf l LOC ≠ [] ∧ urlMay (placeP l cur).1 = true ∧ (cur.hasFrag = true → (placeP l cur).1.hasFrag = true) ∧ urlMay cur = true := by
  have h0 : placeOf (rawP l) cur = ((placeP l cur).1, 1) := by rw [← h]; rfl
  obtain ⟨h1, v, hv, hu⟩ := placeOf_some h0
  have hm := resolve_may hv hl
  have hc := (join_some hv hl).1
  refine ⟨?_, ?_, ?_, hc⟩
  · intro e
    unfold rawP at h1
    rw [e] at h1
    cases h1
  · rw [hu]
    exact inherit_may hm.1 hc
  · intro hf
    rw [hu]
    unfold inherit
    split
    · assumption
    · exact hf
/-- PlaceStatus. -/
theorem place_status (n : Int) : redirects n = true ↔ n = 301 ∨ n = 302 ∨ n = 303 ∨ n = 307 ∨ n = 308 := by simp [redirects]
/-- PlaceOther. -/
theorem all_app (l m : Fs) (name : L) : allOf (l ++ m) name = allOf l name ++ allOf m name := by simp [allOf]
theorem same_LOC (name : L) : same name [76, 79, 67, 65, 84, 73, 79, 78] = same name LOC := by unfold same; rfl
theorem all_not {name value : L} (h : same name LOC = false) : allOf [(name, value)] LOC = [] := by simp [allOf, h]
theorem all_one {name value : L} (h : same name LOC = true) : allOf [(name, value)] LOC = [value] := by simp [allOf, h]
theorem place_none {l : Fs} {name value : L} (h : same name LOC = false) (cur : Url) : placeP (l ++ [(name, value)]) cur = placeP l cur ∧ placeP ((name, value) :: l) cur = placeP l cur := by
  unfold placeP rawP
  constructor
  · rw [all_app, all_not h, List.append_nil]
  · rw [show (name, value) :: l = [(name, value)] ++ l from rfl, all_app, all_not h, List.nil_append]
theorem place_first {l : Fs} {name value : L} (h : same name LOC = true) (h0 : allOf l LOC = []) (cur : Url) : placeP (l ++ [(name, value)]) cur = placeP ((name, value) :: l) cur ∧ (placeP ((name, value) :: l) cur).2 ≠ 0 := by
  have e1 : allOf (l ++ [(name, value)]) LOC = [value] := by rw [all_app, all_one h, h0]; rfl
  have e2 : allOf ((name, value) :: l) LOC = [value] := by rw [show (name, value) :: l = [(name, value)] ++ l from rfl, all_app, all_one h, h0]; rfl
  refine ⟨by unfold placeP rawP; rw [e1, e2], fun hz => ?_⟩
  rcases Decidable.em ((placeP ((name, value) :: l) cur).2 = 1) with h1 | h1
  · rw [h1] at hz; cases hz
  · rcases (place_no h1).2 with ⟨_, h3⟩ | ⟨h3, _⟩
    · rw [e2] at h3; cases h3
    · rw [h3] at hz; cases hz
theorem place_again {l : Fs} {name value : L} {r : List L} (h : same name LOC = true) (h0 : allOf l LOC = value :: r) (cur : Url) : placeP (l ++ [(name, value)]) cur = placeP l cur ∧ placeP ((name, value) :: l) cur = placeP l cur := by
  have e1 : allOf (l ++ [(name, value)]) LOC = value :: (r ++ [value]) := by rw [all_app, all_one h, h0]; rfl
  have e2 : allOf ((name, value) :: l) LOC = value :: value :: r := by rw [show (name, value) :: l = [(name, value)] ++ l from rfl, all_app, all_one h, h0]; rfl
  unfold placeP rawP
  rw [e1, e2, h0]
  constructor
  · congr 1
    unfold rawOf
    simp
  · congr 1
    unfold rawOf
    simp
theorem place_two {l : Fs} {name value a : L} {r : List L} (h : same name LOC = true) (h0 : allOf l LOC = a :: r) (hne : value ≠ a) (cur : Url) : (placeP (l ++ [(name, value)]) cur).2 = 2 ∧ (placeP ((name, value) :: l) cur).2 = 2 := by
  have e1 : allOf (l ++ [(name, value)]) LOC = a :: (r ++ [value]) := by rw [all_app, all_one h, h0]; rfl
  have e2 : allOf ((name, value) :: l) LOC = value :: a :: r := by rw [show (name, value) :: l = [(name, value)] ++ l from rfl, all_app, all_one h, h0]; rfl
  unfold placeP rawP
  rw [e1, e2]
  have hne2 : a ≠ value := Ne.symm hne
  constructor
  · have : rawOf (a :: (r ++ [value])) = ([], 2) := by unfold rawOf; simp [hne]
    rw [this]; rfl
  · have : rawOf (value :: a :: r) = ([], 2) := by unfold rawOf; simp [hne2]
    rw [this]; rfl
/-- PlaceBytes. -/
theorem raw_one {name : L} (h : same name LOC = true) (s : L) : rawP [(name, s)] = (wide s, 1) := by
  unfold rawP
  rw [all_one h]
  unfold rawOf
  simp
theorem place_bytes {name : L} (h : same name LOC = true) (s : L) (cur : Url) : placeP [(name, s)] cur = match resolve cur (wide s) with
    | none => (zeroUrl, 2)
    | some v => (inherit v cur, 1) := by
  unfold placeP
  rw [raw_one h]
  rfl
/-- PlaceSelf. -/
theorem wide_low {s : L} (h : ∀ c ∈ s, c.toNat < 128) : wide s = s := by
  induction s with
  | nil => rfl
  | cons x r ih =>
    have e : wide (x :: r) = (if x.toNat < 128 then [x] else [UInt8.ofNat (192 + x.toNat / 64), UInt8.ofNat (128 + x.toNat % 64)]) ++ wide r := by simp [wide]
    rw [e, if_pos (h x (by simp)), ih (fun c hc => h c (by simp [hc]))]
    rfl
theorem wide_show {u : Url} (h : urlMay u = true) : wide (showUrl u) = showUrl u := wide_low fun c hc => by
  have := (show_seen h c hc).2
  omega
theorem webP_iff {u : Url} (h : webP u = true) : urlMay u = true ∧ web u.scheme ≠ 0 := by
  unfold webP at h
  simp only [Bool.and_eq_true, decide_eq_true_eq] at h
  exact ⟨h.1, by omega⟩
theorem inherit_back (u : Url) : inherit (bare u) u = u := by rw [inherit_no rfl]; rfl
theorem place_nil {name : L} (hn : same name LOC = true) {cur : Url} (h : webP cur = true) : placeP [(name, [])] cur = (cur, 1) := by
  rw [place_bytes hn, show wide [] = [] from rfl, resolve_nil (webP_iff h).1 (webP_iff h).2]
  dsimp only
  rw [inherit_back]
theorem place_show {name : L} (hn : same name LOC = true) {cur u : Url} (h : urlMay cur = true) (hu : urlMay u = true) (hl : u.host.six.length = 8) : placeP [(name, showUrl u)] cur = (inherit u cur, 1) := by
  rw [place_bytes hn, wide_show hu, resolve_show h hu hl]
/-- PlaceFragment. -/
theorem parseT_flag {sch : L} {x : L × L × L × Bool × Bool} {u : Url} (h : parseT sch x = some u) : u.hasFrag = x.2.2.2.2 := by
  unfold parseT at h
  split at h
  · simp at h
    subst h
    rfl
  · unfold parseWeb at h
    split at h
    · cases h
    · split at h
      · simp at h
        subst h
        rfl
      · cases h
theorem flag_tail (s : L) : (tail s).2.2.2.2 = has s 35 := by
  unfold tail cut
  dsimp only
  split
  · rename_i h; exact h.symm
  · rename_i h; simp at h; exact h.symm
theorem tw_all {p : UInt8 → Bool} {s : L} {c : UInt8} (h : c ∈ s.takeWhile p) : p c = true := by
  induction s with
  | nil => cases h
  | cons x r ih =>
    rw [List.takeWhile_cons] at h
    split at h
    · rename_i hx
      rcases List.mem_cons.1 h with e | e
      · rw [e]; exact hx
      · exact ih e
    · cases h
theorem cut_parts {c : UInt8} {s : L} (h : (cut c s).2.2 = true) : s = (cut c s).1 ++ c :: (cut c s).2.1 := by
  unfold cut at h ⊢
  split
  · rename_i hc
    dsimp only
    have hm : c ∈ s := by simpa [has] using hc
    have e := List.takeWhile_append_dropWhile (p := (· != c)) (l := s)
    cases hd : s.dropWhile (· != c) with
    | nil =>
      exfalso
      rw [hd, List.append_nil] at e
      rw [← e] at hm
      have := tw_all hm
      simp at this
    | cons x r =>
      have hx : x = c := by
        have := dropWhile_head (· != c) s x (by rw [hd]; rfl)
        simpa using this
      rw [hd, hx] at e
      rw [show List.drop 1 (x :: r) = r from rfl]
      exact e.symm
  · rename_i hc
    rw [if_neg hc] at h
    cases h
theorem parse_flag {s : L} {u : Url} (h : urlParse s = some u) : u.hasFrag = has (clean s) 35 := by
  unfold urlParse parseC at h
  split at h
  · cases h
  · rename_i h0
    rw [parseT_flag h, flag_tail]
    have h1 : (scheme (clean s)).2.2 = true := by
      cases e : (scheme (clean s)).2.2
      · rw [e] at h0; simp at h0
      · rfl
    unfold scheme at h1 ⊢
    cases hb : schBad (clean s)
    · rw [if_neg (by simp)]
      dsimp only
      unfold schBad at hb
      simp only [Bool.or_eq_false_iff, Bool.not_eq_false'] at hb
      obtain ⟨⟨⟨c1, c2⟩, c3⟩, c4⟩ := hb
      have hp := cut_parts c1
      have hn : (35 : UInt8) ∉ (cut 58 (clean s)).1 := fun hm => by
        have := List.any_eq_false.1 c4 35 hm
        exact this (by decide)
      conv => rhs; rw [hp]
      simp [has, hn]
    · rw [hb, if_pos rfl] at h1
      cases h1
theorem trim_mem {c : UInt8} (h : blank c = false) (s : L) : c ∈ trim s ↔ c ∈ s := by
  have key : ∀ t : L, c ∈ t.dropWhile blank ↔ c ∈ t := fun t => by
    constructor
    · exact fun hm => (List.dropWhile_sublist _).subset hm
    · intro hm
      rw [← List.takeWhile_append_dropWhile (p := blank) (l := t)] at hm
      rcases List.mem_append.1 hm with h1 | h1
      · have := tw_all h1
        rw [h] at this
        cases this
      · exact h1
  unfold trim
  rw [List.mem_reverse, key, List.mem_reverse, key]
theorem clean_has {c : UInt8} (h : blank c = false) (s : L) : has (clean s) c = has s c := by
  unfold has clean
  have he : isEnd c = false := by
    cases e : isEnd c
    · rfl
    · rw [end_blank c e] at h; cases h
  rw [Bool.eq_iff_iff]
  simp [trim_mem h, he]
theorem wide_has (s : L) : has (wide s) 35 = has s 35 := by
  induction s with
  | nil => rfl
  | cons x r ih =>
    have e : wide (x :: r) = (if x.toNat < 128 then [x] else [UInt8.ofNat (192 + x.toNat / 64), UInt8.ofNat (128 + x.toNat % 64)]) ++ wide r := by simp [wide]
    rw [e]
    unfold has at ih ⊢
    rw [Bool.eq_iff_iff] at ih ⊢
    simp only [List.contains_iff_mem] at ih ⊢
    split
    · simp only [List.mem_append, List.mem_cons, List.not_mem_nil, or_false, ih]
    · rename_i hx
      have h1 : (35 : UInt8) ≠ UInt8.ofNat (192 + x.toNat / 64) := fun he => by
        have := congrArg UInt8.toNat he
        have hx2 := x.toNat_lt
        simp at this
        omega
      have h2 : (35 : UInt8) ≠ UInt8.ofNat (128 + x.toNat % 64) := fun he => by
        have := congrArg UInt8.toNat he
        simp at this
        omega
      have h3 : (35 : UInt8) ≠ x := fun he => by subst he; exact hx (by decide)
      simp only [List.mem_append, List.mem_cons, List.not_mem_nil, or_false, ih, h1, h2, h3, false_or]
theorem resolve_flag {b v : Url} {s : L} (h : resolve b s = some v) : v.hasFrag = has s 35 := by
  rw [resolve_eq] at h
  rw [← clean_has (c := 35) (by decide) s]
  split at h
  · cases h
  · split at h
    · exact parse_flag h
    · split at h
      · cases h
      · rename_i hw
        split at h
        · rename_i h2
          rw [parse_flag h, clean_has (by decide)]
          have hsch : (35 : UInt8) ∉ b.scheme := by rcases web_cases hw with e | e <;> rw [e] <;> decide
          simp [has, hsch]
        · simp at h
          subst h
          exact flag_tail _
theorem place_frag {name a : L} (hn : same name LOC = true) {cur x : Url} (h : placeP [(name, a)] cur = (x, 1)) : (has a 35 = true ∨ x.hasFrag = cur.hasFrag ∧ x.frag = cur.frag) ∧ (has a 35 = true → x.hasFrag = true) := by
  obtain ⟨h1, v, hv, hx⟩ := placeOf_some h
  rw [raw_one hn] at hv
  have hf := resolve_flag hv
  rw [wide_has] at hf
  cases ha : has a 35
  · refine ⟨.inr ?_, fun e => by cases e⟩
    rw [hx, inherit_no (hf.trans ha)]
    exact ⟨rfl, rfl⟩
  · refine ⟨.inl rfl, fun _ => ?_⟩
    rw [hx, inherit_yes (hf.trans ha)]
    exact hf.trans ha
end PM
/-! Contracts: head.All, postmarklaw13.Few, iso.Wide. -/
namespace PM
/-- postmarklaw13.Few. -/
def few13 (l : Fs) : Bool := ((l.take 61).all fun f => small f.1 && small f.2) && decide (l.length ≤ 60)
theorem few13_all {l : Fs} (h : few13 l = true) : l.length ≤ 60 ∧ ∀ f ∈ l, f.1.length ≤ 300 ∧ f.2.length ≤ 300 := by
  unfold few13 small at h
  simp only [Bool.and_eq_true, decide_eq_true_eq, List.all_eq_true] at h
  refine ⟨h.2, fun f hf => h.1 f ?_⟩
  rw [List.take_of_length_le (by omega)]
  exact hf
theorem allOf_take (l : Fs) (name : L) (k : Nat) (h : k < l.length) : allOf (l.take (k + 1)) name = allOf (l.take k) name ++ (if same (l[k]'h).1 name then [(l[k]'h).2] else []) := by
  rw [List.take_succ_eq_append_getElem h, all_app]
  congr 1
  unfold allOf
  cases hs : same (l[k]'h).1 name <;> simp [hs]
theorem allOf_len (l : Fs) (name : L) : (allOf l name).length ≤ l.length := by
  unfold allOf
  rw [List.length_map]
  exact List.length_filter_le _ _
end PM
namespace Go.Proofs.YtppbkblnjlbnfaaGreatDoor
open Go.RowKit
theorem encode_byte (c : UInt8) : Go.Utf8.encode (c.toNat : Int) = mkS (if c.toNat < 128 then [c] else [UInt8.ofNat (192 + c.toNat / 64), UInt8.ofNat (128 + c.toNat % 64)]) := by
  have h := c.toNat_lt
  have hv : Go.Utf8.valid (c.toNat : Int) = true := by
    unfold Go.Utf8.valid
    simp
    omega
  unfold Go.Utf8.encode
  simp only [hv, if_true, Int.toNat_natCast]
  by_cases h1 : c.toNat < 128
  · rw [if_pos h1, if_pos h1]
    simp [mkS]
  · rw [if_neg h1, if_neg h1, if_pos (by omega)]
    simp [mkS]
theorem runes_fold (s : List UInt8) : ∀ r : List UInt8, (s.map fun c => (c.toNat : Int)).foldl (fun r n => r ++ Go.Utf8.encode n) (mkS r) = mkS (r ++ PM.wide s) := by
  induction s with
  | nil => intro r; simp [PM.wide]
  | cons c t ih =>
    intro r
    rw [List.map_cons, List.foldl_cons, encode_byte, mkS_append, ih]
    simp [PM.wide]
theorem runes_wide (s : List UInt8) : Go.runesBytes (s.map fun c => (c.toNat : Int)) = mkS (PM.wide s) := runes_fold s []
/-- Where a field lies. -/
theorem RdFW.fld {w : World} {a : Option Addr} {n : Nat} {l : List (List UInt8 × List UInt8)} (h : RdFW w a n l) (k : Nat) (hk : k < l.length) : ∃ b o, a = some ⟨b, o, none⟩ ∧ b < w.heap.size ∧ w.cell? ⟨b, o + k * 2, none⟩ = some (.string (mkS (l[k]'hk).1)) ∧ w.cell? ⟨b, o + k * 2 + 1, none⟩ = some (.string (mkS (l[k]'hk).2)) := by
  rcases h.at_ with rfl | ⟨b, o, rfl, hlt, hc⟩
  · simp at hk
  · exact ⟨b, o, rfl, hlt, (hc k hk).1, (hc k hk).2⟩
theorem two_range {w : World} {b o : Nat} {x y : Value} (h1 : w.cell? ⟨b, o, none⟩ = some x) (h2 : w.cell? ⟨b, o + 1, none⟩ = some y) : w.rangeAt b o (#[x, y] : Array Value).toList := by
  intro j v hj
  match j with
  | 0 => simpa using (by simpa using hj : x = v) ▸ h1
  | 1 => simpa using (by simpa using hj : y = v) ▸ h2
  | n + 2 => simp at hj
set_option maxRecDepth 100000 in
set_option maxHeartbeats 2000000 in
theorem Few13_c (a : Option Addr) (n c : Nat) (l : List (List UInt8 × List UInt8)) (w : World) (h : RdFW w a n l) :
    Calls Tryz.prog 35 #[.slice a n c] w fun e w' => e = .returned (.bool (PM.few13 l)) ∧ w' = w := by
  have hlen := h.len
  subst hlen
  have HC := Lib.hid (RdFW.fld h)
  clear h
  go_enter Tryz.func35, Tryz.ntmps35
  go_wp2
  go_loop [3] (fun i => ∃ k : Nat, i = .int .i64 k ∧ k ≤ l.length ∧ k ≤ 61 ∧ ((l.take k).all fun f => PM.small f.1 && PM.small f.2) = true) (fun i => 100 - (intOf i).toNat)
  case atStart => exact ⟨0, rfl, by omega, by omega, rfl⟩
  case round =>
    obtain ⟨k, rfl, hk, hk2, hp⟩ := hrel
    have HP := Lib.hid hp
    clear hp
    by_cases hlt : k < l.length
    · have hlt' : (k : Int) < (l.length : Int) := by omega
      by_cases h60 : k ≤ 60
      · have h60' : (k : Int) ≤ 60 := by omega
        obtain ⟨b, o, rfl, hbl, hc1, hc2⟩ := HC.out k hlt
        have hst : ((l.take (k + 1)).all fun f => PM.small f.1 && PM.small f.2) = (PM.small (l[k]'hlt).1 && PM.small (l[k]'hlt).2) := by
          rw [List.take_succ_eq_append_getElem hlt, List.all_append, HP.out]
          simp
        have HS := Lib.hid hst
        clear hst
        have hfin : (PM.small (l[k]'hlt).1 && PM.small (l[k]'hlt).2) = false → PM.few13 l = false := by
          intro hx
          unfold PM.few13
          have : ((l.take 61).all fun f => PM.small f.1 && PM.small f.2) = false := by
            rw [List.all_eq_false]
            refine ⟨l[k]'hlt, ?_, by simpa using hx⟩
            rw [List.mem_take_iff_getElem]
            exact ⟨k, by omega, rfl⟩
          rw [this]
          rfl
        have HF := Lib.hid hfin
        clear hfin hbl
        generalize l[k]'hlt = x at hc1 hc2 HS HF
        obtain ⟨x1, x2⟩ := x
        by_cases hx : x1.length ≤ 300
        · have hx' : ¬ (300 : Int) < (x1.length : Int) := by omega
          by_cases hy : x2.length ≤ 300
          · have hy' : ¬ (300 : Int) < (x2.length : Int) := by omega
            go_wp2
            refine ⟨⟨k + 1, congrArg (Value.int .i64) (by omega), by omega, by omega, ?_⟩, ?_⟩
            · rw [HS.out]
              unfold PM.small
              simp [hx, hy]
            · simp only [intOf]; omega
          · have hy' : (300 : Int) < (x2.length : Int) := by omega
            go_wp2
            go_ret
            exact ⟨ret_bool (HF.out (by unfold PM.small; simp [hy])).symm, rfl⟩
        · have hx' : (300 : Int) < (x1.length : Int) := by omega
          go_wp2
          go_ret
          exact ⟨ret_bool (HF.out (by unfold PM.small; simp [hx])).symm, rfl⟩
      · have h60' : ¬ (k : Int) ≤ 60 := by omega
        have hfin : PM.few13 l = false := by
          unfold PM.few13
          rw [decide_eq_false (by omega), Bool.and_false]
        have h0 : ¬ (l.length : Int) ≤ 60 := by omega
        go_wp2
        go_ret
        exact ⟨rfl, rfl⟩
    · have hlt' : ¬ (k : Int) < (l.length : Int) := by omega
      have hk' : k = l.length := by omega
      subst hk'
      have hfin : PM.few13 l = decide ((l.length : Int) ≤ 60) := by
        have hp := HP.out
        unfold PM.few13
        rw [List.take_of_length_le (by omega)]
        rw [List.take_of_length_le (by omega)] at hp
        rw [hp, Bool.true_and, Bool.eq_iff_iff]
        simp
        omega
      go_wp2
      go_ret
      exact ⟨rfl, rfl⟩
set_option maxRecDepth 100000 in
set_option maxHeartbeats 2000000 in
theorem All_c (a : Option Addr) (n c : Nat) (l : List (List UInt8 × List UInt8)) (name : List UInt8) (w : World) (h : RdFW w a n l) (hn : n ≤ 1000000) (hname : name.length ≤ 1000000) (hl : ∀ f ∈ l, f.1.length ≤ 1000000) :
    Calls Tryz.prog 36 #[.slice a n c, .string (mkS name)] w fun e w' => ∃ v, e = .returned v ∧ w'.ownsRow w.heap.size 9 1 v (PM.allOf l name).length (strs (PM.allOf l name)) ∧ Below w.heap.size w w' := by
  have hlen := h.len
  subst hlen
  have HC := Lib.hid (RdFW.fld h)
  have HL := Lib.hid hl
  clear h hl
  obtain ⟨i0, hi, hz0, hz1, hz2⟩ := info_parts infoText
  go_enter Tryz.func36, Tryz.ntmps36
  go_wp2
  go_loopw [5, 10] (fun v i wr => ∃ k : Nat, i = .int .i64 k ∧ k ≤ l.length ∧ Hid (wr.ownsRow w.heap.size 9 1 v (PM.allOf (l.take k) name).length (strs (PM.allOf (l.take k) name))) ∧ Hid (Below w.heap.size w wr)) (fun _ i _ => l.length - (intOf i).toNat)
  case atStart => exact ⟨0, rfl, by omega, Lib.hid (World.ownsRow_nil _ _ _ _), Lib.hid (Below.refl _ _)⟩
  case round =>
    obtain ⟨k, rfl, hk, HO, HB⟩ := hrel
    by_cases hlt : k < l.length
    · have hlt' : (k : Int) < (l.length : Int) := by omega
      obtain ⟨b, o, rfl, hbl, hc1, hc2⟩ := HC.out k hlt
      have hat := PM.allOf_take l name k hlt
      have hlx := HL.out _ (List.getElem_mem hlt)
      have hln := PM.allOf_len (l.take k) name
      rw [List.length_take] at hln
      generalize l[k]'hlt = x at hc1 hc2 hat hlx
      obtain ⟨x1, x2⟩ := x
      have HR := Lib.hid (two_range (cell_b HB.out hc1) (cell_b HB.out hc2))
      have HAT := Lib.hid hat
      have HLX := Lib.hid hlx
      have HLN := Lib.hid hln
      clear hat hlx hln hc1 hc2
      go_wp2_with (first | go_skip | (refine wpList_load_mg 50 _ rfl (by kernel_rfl) b (o + k * 2) rfl #[.string (mkS x1), .string (mkS x2)] HR.out Tryz.underlying50 rfl (by kernel_rfl) ?_))
      refine (Same_c x1 name (Nat.le_trans HLX.out (by decide)) (Nat.le_trans hname (by decide)) _).mono ?_
      rintro e w1 ⟨rfl, hb1⟩
      have hbx : w1.heap[wr.heap.size]? = some (.cells #[.string (mkS x1), .string (mkS x2)] 50 (0, 0)) := heap_b hb1 (Go.heap_alloc_new _ _)
      have c1 : w1.cell? ⟨wr.heap.size, 1, none⟩ = some (.string (mkS x2)) := by rw [Lib.cell_of_heap hbx]; rfl
      have HB1 := Lib.hid (b_then (b_alloc HB.out _) hb1)
      have HO1 := Lib.hid (own_below (own_alloc HO.out _) hb1)
      clear hb1 hbx
      cases hs : PM.same x1 name
      · have he := HAT.out
        rw [hs] at he
        simp only [Bool.false_eq_true, if_false, List.append_nil] at he
        have HE := Lib.hid he
        clear he hs
        go_wp2
        refine ⟨⟨k + 1, congrArg (Value.int .i64) (by omega), by omega, by rw [HE.out]; exact HO1, HB1⟩, ?_⟩
        simp only [intOf]; omega
      · have he := HAT.out
        rw [hs] at he
        simp only [if_true] at he
        have HE := Lib.hid he
        clear he hs
        have hsz := HB1.out.size
        go_wp2_with (at_builtin; refine wpList_append_own_at _ rfl _ _ 25 rfl w.heap.size 9 i0 (.string ⟨#[]⟩) 1 16 Tryz.underlying25 hi hz0 hz1 hz2 rfl (by decide) _ _ _ rfl (own_alloc HO1.out _) ⟨w1.heap.size, 0, none⟩ 1 1 [.string (mkS x2)] rfl rfl (cell_one_new _ _ _) ?c2 ?c3 ?c4 ?c5 ?_)
        case c2 => intro u hu; simp at hu; subst hu; rfl
        case c3 => unfold maxLen; have := HLN.out; omega
        case c4 => have := HLN.out; omega
        case c5 => simp; omega
        intro v' w3 hown' hgrow _ hat
        have hb3 : Below w.heap.size w w3 := (b_alloc HB1.out _).grown hgrow (by simp; omega) (fun k hk => (HO1.out.lt k hk).1)
        rw [strs_snoc] at hown'
        have HO3 := Lib.hid hown'
        have HB3 := Lib.hid hb3
        clear hown' hgrow hat hb3
        go_wp2
        refine ⟨⟨k + 1, congrArg (Value.int .i64) (by omega), by omega, by rw [HE.out, List.length_append]; exact HO3, HB3⟩, ?_⟩
        simp only [intOf]; omega
    · have hlt' : ¬ (k : Int) < (l.length : Int) := by omega
      have hk' : k = l.length := by omega
      subst hk'
      go_wp2
      go_ret
      have h3 := HO.out
      rw [List.take_of_length_le (Nat.le_refl _)] at h3
      exact ⟨_, rfl, h3, HB.out⟩
theorem infoRune : (Tryz.prog.info? 21).map (fun i => (i.zero, i.size, i.bytes)) = some (some (.int .i32 0), 1, 4) := by kernel_rfl
/-- The runes as far as they are set. -/
def runesTo (s : List UInt8) (k : Nat) : List Value := (s.take k).map (fun c => Value.int .i32 (c.toNat : Int)) ++ List.replicate (s.length - k) (.int .i32 0)
theorem runesTo_len (s : List UInt8) (k : Nat) (h : k ≤ s.length) : (runesTo s k).length = s.length := by
  unfold runesTo
  simp
  omega
theorem runesTo_set (s : List UInt8) (k : Nat) (h : k < s.length) : (runesTo s k).set k (.int .i32 ((s[k]'h).toNat : Int)) = runesTo s (k + 1) := by
  unfold runesTo
  have hl : ((s.take k).map (fun c => Value.int .i32 (c.toNat : Int))).length = k := by simp; omega
  rw [List.set_append_right _ _ (by omega), hl, Nat.sub_self, show s.length - k = (s.length - (k + 1)) + 1 by omega, List.replicate_succ, List.set_cons_zero, List.take_succ_eq_append_getElem h, List.map_append, List.append_assoc]
  rfl
theorem runesTo_full (s : List UInt8) : runesTo s s.length = s.map (fun c => Value.int .i32 (c.toNat : Int)) := by
  unfold runesTo
  rw [Nat.sub_self, List.take_of_length_le (Nat.le_refl _)]
  simp
set_option maxRecDepth 100000 in
set_option maxHeartbeats 2000000 in
theorem Wide_c (s : List UInt8) (hs : s.length ≤ 1000000) (w : World) : Calls Tryz.prog 42 #[.string (mkS s)] w fun e w' => e = .returned (.string (mkS (PM.wide s))) ∧ Below w.heap.size w w' := by
  have hmk := fun W => run_make_row' (P := Tryz.prog) 104 21 (.int .i32 0) 4 Tryz.underlying104 infoRune rfl .i64 .i64 s.length (by omega) (by omega) W
  go_enter Tryz.func42, Tryz.ntmps42
  go_wp2
  clear hmk
  go_loopw [10] (fun i wr => ∃ k : Nat, i = .int .i64 k ∧ k ≤ s.length ∧ Hid (wr.heap[w.heap.size]? = some (.cells (runesTo s k).toArray 21 (0, 0))) ∧ Hid (Below w.heap.size w wr)) (fun i _ => s.length - (intOf i).toNat)
  case atStart => exact ⟨0, rfl, by omega, Lib.hid (by rw [Go.heap_alloc_new, made_eq]; simp [runesTo]), Lib.hid (b_alloc (Below.refl _ _) _)⟩
  case round =>
    obtain ⟨k, rfl, hk, HH, HB⟩ := hrel
    by_cases hlt : k < s.length
    · have hlt' : (k : Int) < (s.length : Int) := by omega
      have hrl := runesTo_len s k hk
      obtain ⟨v0, hcell⟩ : ∃ v0, wr.cell? ⟨w.heap.size, k, none⟩ = some v0 := by
        rw [Lib.cell_of_heap HH.out]
        exact ⟨_, Array.getElem?_eq_getElem (by simp; omega)⟩
      have hfz : wr.frozen? ⟨w.heap.size, k, none⟩ = false := Lib.frozen_of_heap HH.out k
      clear hrl
      go_wp2
      refine ⟨⟨k + 1, congrArg (Value.int .i64) (by omega), by omega, Lib.hid ?_, Lib.hid (b_set HB.out _ (Nat.le_refl _) _)⟩, ?_⟩
      · have hb := (s[k]'hlt).toNat_lt
        have hw : wrap32 ((s[k]'hlt).toNat : Int) = ((s[k]'hlt).toNat : Int) := by unfold wrap32; omega
        rw [setCell_heap HH.out, List.setIfInBounds_toArray, hw, runesTo_set s k hlt]
      · simp only [intOf]; omega
    · have hlt' : ¬ (k : Int) < (s.length : Int) := by omega
      have hk' : k = s.length := by omega
      subst hk'
      have hcv : (convert 104 9 (.slice (some ⟨w.heap.size, 0, none⟩) s.length s.length)).run Tryz.prog wr = .ok (.string (mkS (PM.wide s))) wr := by
        have h := run_convert_runes (P := Tryz.prog) wr 104 9 21 ⟨w.heap.size, 0, none⟩ s.length s.length (s.map fun c => (c.toNat : Int)) (by simp) Tryz.underlying104 Tryz.underlying21 Tryz.underlying9 ?_
        · rw [List.take_of_length_le (by simp), runes_wide] at h
          exact h
        · intro j hj
          rw [List.length_map] at hj
          rw [show (⟨w.heap.size, 0, none⟩ : Addr).add j = ⟨w.heap.size, j, none⟩ by unfold Addr.add; split <;> simp_all, Lib.cell_of_heap HH.out, runesTo_full]
          simp [hj]
      go_wp2
      go_ret
      exact ⟨rfl, HB.out⟩
end Go.Proofs.YtppbkblnjlbnfaaGreatDoor
/-! Contracts: place. -/
namespace PM
def neB (x s : L) : Bool := decide (s ≠ x)
theorem neB_eq (x s : L) : (!(s == x)) = neB x s := by
  unfold neB
  rw [Bool.eq_iff_iff]
  simp
theorem rawOf_ne {A : List L} {x : L} (h0 : 0 < A.length) (hx : A[0]'h0 = x) : rawOf A = if A.any (neB x) then ([], 2) else (wide x, 1) := by
  cases A with
  | nil => simp at h0
  | cons a r =>
    have e : a = x := hx
    subst e
    rfl
/-- What Place tells of what Resolve tells. -/
def afterP (o : Option Url) (cur : Url) : Url × Int := match o with
  | none => (zeroUrl, 2)
  | some u => (inherit u cur, 1)
theorem placeOf_one (s : L) (cur : Url) : placeOf (s, 1) cur = afterP (resolve cur s) cur := by
  cases h : resolve cur s <;> simp [placeOf, afterP, h]
end PM
namespace Go.Proofs.YtppbkblnjlbnfaaGreatDoor
open Go.RowKit
theorem Redirects_c (n : Int) (w : World) : Calls Tryz.prog 31 #[.int .i64 n] w fun e w' => e = .returned (.bool (PM.redirects n)) ∧ w' = w := by
  have hr : PM.redirects n = (decide (n = 301) || (decide (n = 302) || (decide (n = 303) || (decide (n = 307) || decide (n = 308))))) := rfl
  have HR := Lib.hid hr
  clear hr
  go_enter Tryz.func31, Tryz.ntmps31
  go_wp2
  all_goals go_ret
  all_goals refine ⟨ret_bool ?_, rfl⟩
  all_goals (rw [HR.out]; simp_all)
/-- The closure of Raw. -/
theorem Raw1_c (B : Nat) (g o : Nat) (n c : Nat) (x s : List UInt8) (w : World) (hn : 0 < n) (hB : w.cell? ⟨B, 0, none⟩ = some (.slice (some ⟨g, o, none⟩) n c)) (hx : w.cell? ⟨g, o, none⟩ = some (.string (mkS x))) :
    Calls Tryz.prog 69 #[.string (mkS s), .pointer (some ⟨B, 0, none⟩)] w fun e w' => e = .returned (.bool (PM.neB x s)) ∧ w' = w := by
  have hn' : (0 : Int) < n := by omega
  go_enter Tryz.func69, Tryz.ntmps69
  go_wp2
  go_ret
  exact ⟨ret_bool (PM.neB_eq x s), rfl⟩
set_option maxHeartbeats 1000000 in
theorem IndexFuncR_c (B : Nat) (b o c : Nat) (x : List UInt8) (xs : List (List UInt8)) (w : World) (hlen : xs.length * 16 ≤ 140737488355328) (hb0 : b < w.heap.size) (hc : ∀ j (h : j < xs.length), w.cell? ⟨b, o + j, none⟩ = some (.string (mkS (xs[j]'h)))) (hx : ∀ h : 0 < xs.length, xs[0]'h = x) (hB : w.cell? ⟨B, 0, none⟩ = some (.slice (some ⟨b, o, none⟩) xs.length c)) :
    Calls Tryz.prog 83 #[.slice (some ⟨b, o, none⟩) xs.length c, .func (.func 69) #[] #[.pointer (some ⟨B, 0, none⟩)]] w fun e w' => e = .returned (.int .i64 (PM.anyIdx (PM.neB x) xs)) ∧ Below w.heap.size w w' := by
  have Hc := Lib.hid hc
  have HB0 := Lib.hid hB
  have HX := Lib.hid hx
  clear hc hB hx
  go_enter Tryz.func83, Tryz.ntmps83
  go_wp2
  go_loopw [5, 8] (fun _ i wr => ∃ k : Nat, k ≤ xs.length ∧ i = .int .i64 k ∧ (xs.take k).any (PM.neB x) = false ∧ Below w.heap.size w wr) (fun _ i _ => xs.length - (intOf i).toNat)
  case atStart => exact ⟨0, by omega, rfl, rfl, Below.refl _ _⟩
  case round =>
    obtain ⟨k, hk, rfl, hn, hb⟩ := hrel
    have HN := Lib.hid hn
    clear hn
    by_cases hlt : k < xs.length
    · have hck := cell_b hb (Hc.out k hlt)
      have h0 := cell_b hb (Hc.out 0 (by omega))
      rw [HX.out (by omega)] at h0
      have HCB := Lib.hid (cell_b hb HB0.out)
      cases hp : PM.neB x xs[k]
      · go_wp2_with fail
        refine (Raw1_c B b o xs.length c x xs[k] _ (by omega) HCB.out h0).mono ?_
        rw [hp]
        rintro e w1 ⟨rfl, rfl⟩
        go_wp2
        go_roundw
        case rel => exact ⟨k + 1, by omega, by go_num, by rw [List.take_succ_eq_append_getElem hlt, List.any_append, HN.out, List.any_cons, List.any_nil, hp]; rfl, hb⟩
        case measure => simp [intOf]; omega
      · go_wp2_with fail
        refine (Raw1_c B b o xs.length c x xs[k] _ (by omega) HCB.out h0).mono ?_
        rw [hp]
        rintro e w1 ⟨rfl, rfl⟩
        go_wp2
        go_ret
        exact ⟨ret_int (PM.anyIdx_hit _ _ k hlt hp HN.out).symm, hb⟩
    · go_wp2
      go_ret
      have hn := HN.out
      rw [List.take_of_length_le (by omega)] at hn
      exact ⟨ret_int (PM.anyIdx_none _ _ hn).symm, hb⟩
theorem ContainsFuncR_c (B : Nat) (b o c : Nat) (x : List UInt8) (xs : List (List UInt8)) (w : World) (hlen : xs.length * 16 ≤ 140737488355328) (hb0 : b < w.heap.size) (hc : ∀ j (h : j < xs.length), w.cell? ⟨b, o + j, none⟩ = some (.string (mkS (xs[j]'h)))) (hx : ∀ h : 0 < xs.length, xs[0]'h = x) (hB : w.cell? ⟨B, 0, none⟩ = some (.slice (some ⟨b, o, none⟩) xs.length c)) :
    Calls Tryz.prog 54 #[.slice (some ⟨b, o, none⟩) xs.length c, .func (.func 69) #[] #[.pointer (some ⟨B, 0, none⟩)]] w fun e w' => e = .returned (.bool (xs.any (PM.neB x))) ∧ Below w.heap.size w w' := by
  have H := IndexFuncR_c B b o c x xs w hlen hb0 hc hx hB
  clear hc hx hB
  go_enter Tryz.func54, Tryz.ntmps54
  go_wp2_with fail
  refine H.mono ?_
  rintro e w1 ⟨rfl, h1⟩
  go_wp2
  go_ret
  exact ⟨ret_bool (PM.anyIdx_any _ _), h1⟩
set_option maxHeartbeats 2000000 in
theorem Raw_c (a : Option Addr) (n c : Nat) (l : PM.Fs) (w : World) (h : RdFW w a n l) (hn : n ≤ 100000) (hl : ∀ f ∈ l, f.1.length ≤ 1000000 ∧ f.2.length ≤ 1000000) : Calls Tryz.prog 40 #[.slice a n c] w fun e w' => e = .returned (.tuple #[.string (mkS (PM.rawP l).1), .int .i64 (PM.rawP l).2]) ∧ Below w.heap.size w w' := by
  have HR := Lib.hid h
  have HL := Lib.hid hl
  have hr : PM.rawP l = PM.rawOf (PM.allOf l PM.LOC) := rfl
  have HP := Lib.hid hr
  have hal := PM.allOf_len l PM.LOC
  rw [h.len] at hal
  have HAL := Lib.hid hal
  have hat : ∀ s ∈ PM.allOf l PM.LOC, s.length ≤ 1000000 := fun s hs => by
    unfold PM.allOf at hs
    obtain ⟨f, hf, rfl⟩ := List.mem_map.1 hs
    exact (hl f (List.mem_filter.1 hf |>.1)).2
  have HAT := Lib.hid hat
  clear h hl hr hal hat
  obtain ⟨A, hA⟩ : ∃ A, PM.allOf l PM.LOC = A := ⟨_, rfl⟩
  rw [hA] at HP HAL HAT
  have HA := Lib.hid hA
  clear hA
  go_enter Tryz.func40, Tryz.ntmps40
  go_wp2_with fail
  refine (show Calls Tryz.prog 36 #[.slice a n c, .string (mkS PM.LOC)] _ _ from All_c a n c l PM.LOC _ HR.out (by omega) (by decide) (fun f hf => (HL.out f hf).1)).mono ?_
  rw [HA.out]
  rintro e V1 ⟨v, rfl, hown, hb⟩
  obtain ⟨a1, c1, rfl, hrs, -, hcap⟩ := own_cap hown rfl (by have := HAL.out; omega)
  have HRS := Lib.hid hrs
  have HB := Lib.hid hb
  clear hown hb hrs hcap
  by_cases h0 : A = []
  · subst h0
    have h00 : ((([] : List PM.L).length : Int) == 0) = true := rfl
    go_wp2
    go_ret2
    exact ⟨by rw [HP.out]; rfl, b_alloc HB.out _⟩
  have hA0 : 0 < A.length := List.length_pos_iff.2 h0
  have hne : ((A.length : Int) == 0) = false := by
    rw [beq_eq_false_iff_ne]
    omega
  have hA1 : (0 : Int) < A.length := by omega
  obtain ⟨b, o, rfl, hlt, hc⟩ := HRS.out.at_.resolve_left h0
  obtain ⟨x, hx⟩ : ∃ x, A[0]'hA0 = x := ⟨_, rfl⟩
  have hrw := PM.rawOf_ne hA0 hx
  rw [← HP.out] at hrw
  have HRW := Lib.hid hrw
  have HX : Hid (∀ h : 0 < A.length, A[0]'h = x) := Lib.hid fun _ => hx
  have HLX := Lib.hid (HAT.out x (hx ▸ List.getElem_mem hA0))
  have HC := Lib.hid hc
  clear hrw hx hc h0
  go_wp2_with fail
  have hbA := b_alloc (Below.refl V1.heap.size V1) (.cells #[.slice (some ⟨b, o, none⟩) A.length c1] 25)
  refine (ContainsFuncR_c V1.heap.size b o c1 x A _ (by have := HAL.out; omega) (by simp; omega) (fun j hj => cell_b hbA (HC.out j hj)) HX.out (by rw [Lib.cell_of_heap (Go.heap_alloc_new _ _)]; rfl)).mono ?_
  rintro e V2 ⟨rfl, hb⟩
  have HB2 := Lib.hid (b_then (b_alloc HB.out _) hb)
  have cB : V2.cell? ⟨V1.heap.size, 0, none⟩ = some (.slice (some ⟨b, o, none⟩) A.length c1) := by rw [Lib.cell_of_heap (heap_b hb (Go.heap_alloc_new _ _))]; rfl
  have c0 : V2.cell? ⟨b, o, none⟩ = some (.string (mkS x)) := by
    have h := cell_b hb (cell_b hbA (HC.out 0 hA0))
    rw [HX.out hA0] at h
    exact h
  clear hb hbA hlt
  cases hz : A.any (PM.neB x)
  · have he := HRW.out
    rw [hz] at he
    simp only [Bool.false_eq_true, if_false] at he
    have HE := Lib.hid he
    clear he hz
    go_wp2_with fail
    refine (Wide_c x (Nat.le_trans HLX.out (by decide)) _).mono ?_
    rintro e V3 ⟨rfl, hb⟩
    have HB3 := Lib.hid (b_then HB2.out hb)
    clear hb
    go_wp2
    go_ret2
    exact ⟨by rw [HE.out]; rfl, HB3.out⟩
  · have he := HRW.out
    rw [hz] at he
    simp only [if_true] at he
    have HE := Lib.hid he
    clear he hz
    go_wp2
    go_ret2
    exact ⟨by rw [HE.out]; rfl, HB2.out⟩
/-! rest -/
theorem parse_no {o : Option PM.Url} {e : Ending} {w' : World} (h : ParseR o e w') (ho : o = none) : ∃ v : UV, e = .returned (.tuple #[.agg v.cells, .bool false]) ∧ v.pm = uz.pm ∧ v.Ok w' := by
  subst ho
  obtain ⟨v, h1, h2, h3⟩ := h
  have h2' : v.pm = uz.pm := h2
  have hx : v.xs = v.pm.path := rfl
  exact ⟨v, h1, h2', h3 (by rw [hx, h2']; decide)⟩
theorem res_path {b u : PM.Url} {s : List UInt8} (h : PM.resolve b s = some u) (hs : s.length ≤ 3000) (hb : b.path.length ≤ 900) (hx : ∀ x ∈ b.path, x.length ≤ 1000000) : u.path.length ≤ 10000 := by
  rw [PM.resolve_eq] at h
  have hcl := clean_len s
  split at h
  · cases h
  · split at h
    · have := (parse_short h).pn
      omega
    · split at h
      · cases h
      · rename_i h0
        split at h
        · have h1 := (parse_short h).pn
          have h2 : b.scheme.length ≤ 5 := by rcases PM.web_cases h0 with e | e <;> rw [e] <;> decide
          simp at h1
          omega
        · simp at h
          subst h
          have ht := (tail_len3 (PM.clean s)).1
          show (PM.wayP b.path (PM.tail (PM.clean s)).1).length ≤ 10000
          unfold PM.wayP
          split
          · omega
          · split
            · have := (parse_sizes (PM.tail (PM.clean s)).1 (by omega)).1
              omega
            · exact (merge_sizes b.path (PM.tail (PM.clean s)).1 (by omega) hb hx).1
theorem same_self (u : PM.Url) : PM.urlSame u u = true := (PM.urlSame_iff u u).2 rfl
theorem few_path {u : PM.Url} (h : PM.few u = true) : u.path.length ≤ 900 ∧ ∀ x ∈ u.path, x.length ≤ 1000000 := ⟨Nat.le_trans (PM.few_all h).1 (by decide), fun x hx => Nat.le_trans ((PM.few_all h).2.1 x hx) (by decide)⟩
theorem Ok_setRow {v : UV} {W : World} {B g : Nat} (h : v.Ok W) (hf : From B v.a v.xs) (hg : g < B) (cs : Array Value) : v.Ok (W.setRow g cs) :=
  ⟨h.sc, h.us, h.pa, h.n, h.op, h.qu, h.fr, h.xn, h.xl, h.rd.frame (by simp [World.setRow]) fun g' o e hx => by
    have := hf g' o e hx
    simp [World.setRow, Array.getElem?_modify, show g ≠ g' by omega]⟩
theorem hasN_all (l : PM.Fs) (name : PM.L) : PM.hasN l name = decide (0 < (PM.allOf l name).length) := by
  unfold PM.hasN PM.allOf
  rw [List.length_map, Bool.eq_iff_iff, List.any_eq_true, decide_eq_true_eq]
  constructor
  · rintro ⟨f, hf, hs⟩
    have := List.length_pos_of_mem ((List.mem_filter (p := fun f => PM.same f.1 name)).2 ⟨hf, hs⟩)
    omega
  · intro h
    obtain ⟨f, hf⟩ := List.exists_mem_of_length_pos (show 0 < (l.filter fun f => PM.same f.1 name).length by omega)
    exact ⟨f, (List.mem_filter.1 hf).1, (List.mem_filter.1 hf).2⟩
theorem all_mem {l : PM.Fs} {name : PM.L} {n : Nat} (hl : ∀ f ∈ l, f.2.length ≤ n) : ∀ s ∈ PM.allOf l name, s.length ≤ n := fun s hs => by
  unfold PM.allOf at hs
  obtain ⟨f, hf, rfl⟩ := List.mem_map.1 hs
  exact hl f (List.mem_filter.1 hf).1
theorem RdFW.below2 {w W : World} {a : Option Addr} {n : Nat} {xs : List (List UInt8 × List UInt8)} (h : RdFW w a n xs) (hb : Below w.heap.size w W) : RdFW W a n xs := h.below hb
/-- One field in a block of its own. -/
theorem RdFW.one {w : World} {b : Nat} {x y : List UInt8} (h : w.heap[b]? = some (.cells #[.string (mkS x), .string (mkS y)] 50 (0, 0))) : RdFW w (some ⟨b, 0, none⟩) 1 [(x, y)] :=
  ⟨rfl, .inr ⟨b, 0, rfl, h_lt h, fun j hj => by
    obtain rfl : j = 0 := by simp at hj; omega
    exact ⟨by rw [Lib.cell_of_heap h]; rfl, by rw [Lib.cell_of_heap h]; rfl⟩⟩⟩
set_option maxHeartbeats 2000000 in
theorem Get_c (a : Option Addr) (n c : Nat) (l : PM.Fs) (name : List UInt8) (w : World) (h : RdFW w a n l) (hn : n ≤ 10000) (hname : name.length ≤ 1000000) (hl : ∀ f ∈ l, f.1.length ≤ 1000000 ∧ f.2.length ≤ 1000000) :
    Calls Tryz.prog 23 #[.slice a n c, .string (mkS name)] w fun e w' => (∃ j, e = .returned (.tuple #[.string (mkS j), .bool (PM.hasN l name)])) ∧ Below w.heap.size w w' := by
  have HR := Lib.hid h
  have HL := Lib.hid hl
  have hal := PM.allOf_len l name
  rw [h.len] at hal
  have HAL := Lib.hid hal
  have HAT := Lib.hid (all_mem (name := name) fun f hf => (hl f hf).2)
  have HN := Lib.hid (hasN_all l name)
  clear h hl hal
  obtain ⟨A, hA⟩ : ∃ A, PM.allOf l name = A := ⟨_, rfl⟩
  rw [hA] at HAL HAT HN
  have HA := Lib.hid hA
  clear hA
  go_enter Tryz.func23, Tryz.ntmps23
  go_wp2_with fail
  refine (All_c a n c l name _ HR.out (by omega) hname (fun f hf => (HL.out f hf).1)).mono ?_
  rw [HA.out]
  rintro e V1 ⟨v, rfl, hown, hb⟩
  obtain ⟨a1, c1, rfl⟩ := own_form hown
  have HO := Lib.hid hown
  have HB := Lib.hid hb
  clear hown hb
  go_wp2_with fail
  refine (show Calls Tryz.prog 51 #[.slice a1 A.length c1, .string (mkS [44, 32])] _ _ from own_join A A.length rfl [44, 32] _ _ _ HO.out (by have := HAL.out; omega) (fun x hx => Nat.le_trans (HAT.out x hx) (by decide)) (by decide)).mono ?_
  rintro e V2 ⟨rfl, hb⟩
  have HB2 := Lib.hid (b_then HB.out hb)
  clear hb
  go_wp2
  go_ret2
  exact ⟨⟨_, by rw [HN.out]; rfl⟩, HB2.out⟩
set_option maxRecDepth 100000 in
set_option maxHeartbeats 4000000 in
theorem Web18_c (u : UV) (w : World) (hu : u.Ok w) (hg : Gl w) : Calls Tryz.prog 32 #[.agg u.cells] w fun e w' => e = .returned (.bool (PM.webP u.pm)) ∧ Below w.heap.size w w' := by
  have HG := Lib.hid hg
  have OU := Lib.hid hu
  have hw : PM.webP u.pm = (PM.urlMay u.pm && decide (0 < PM.web u.sc)) := rfl
  have HW := Lib.hid hw
  clear hg hu hw
  have HB : Hid (Below w.heap.size w (w.alloc (.cells u.cells 27))) := Lib.hid (b_alloc (Below.refl _ _) _)
  have Hu : Hid ((w.alloc (.cells u.cells 27)).heap[w.heap.size]? = some (.cells u.cells 27 (0, 0))) := Lib.hid ((by have h := Go.heap_alloc_new w (.cells u.cells 27); simpa using h))
  go_enter Tryz.func32, Tryz.ntmps32
  go_upto_region 1 with fail
  generalize w.alloc (.cells u.cells 27) = V0 at HB Hu ⊢
  replace OU := Lib.hid (OU.out.below HB.out)
  obtain ⟨m, hm⟩ : ∃ m, PM.urlMay u.pm = m := ⟨_, rfl⟩
  rw [hm] at HW
  have HM := Lib.hid hm
  clear hm
  go_wp2_with (first | go_skip | (refine wpList_load_g 27 _ rfl (by kernel_rfl) w.heap.size rfl Hu.out Tryz.underlying27 rfl (by kernel_rfl) ?_))
  refine (urlMay_c u _ OU.out (HG.out.below HB.out)).mono ?_
  rw [HM.out]
  rintro e V1 ⟨rfl, hb⟩
  replace HB := Lib.hid (b_then HB.out hb)
  replace Hu := Lib.hid (obj_b hb Hu.out)
  replace OU := Lib.hid (OU.out.below hb)
  clear hb
  cases m
  · go_wp2
    go_ret
    exact ⟨by rw [HW.out]; rfl, HB.out⟩
  have c0 : V1.cell? ⟨w.heap.size, 0, none⟩ = some (.string (mkS u.sc)) := by rw [Lib.cell_of_heap Hu.out]; rfl
  go_wp2_with fail
  refine (Web_c u.sc _).mono ?_
  rintro e V90 ⟨rfl, rfl⟩
  clear c0
  go_wp2
  go_ret
  exact ⟨by rw [HW.out]; rfl, HB.out⟩
theorem zero_pm : uz.pm = PM.zeroUrl := rfl
theorem zero_ok (W : World) : uz.Ok W := ⟨by decide, by decide, by decide, by decide, by decide, by decide, by decide, by decide, by simp [uz], zrd _⟩
set_option maxRecDepth 100000 in
set_option maxHeartbeats 8000000 in
theorem Place_c (a : Option Addr) (n c : Nat) (l : PM.Fs) (cur : UV) (w : World) (h : RdFW w a n l) (hn : n ≤ 100000) (hl : ∀ f ∈ l, f.1.length ≤ 1000000 ∧ f.2.length ≤ 1000000) (hs : (PM.rawP l).1.length ≤ 30000) (hs2 : PM.whole (PM.rawP l).1 = false → (PM.rawP l).1.length ≤ 3000) (hp : ∀ u, PM.resolve cur.pm (PM.rawP l).1 = some u → u.path.length ≤ 10000) (hc : cur.Ok w) (hcn : cur.xs.length ≤ 900) (hg : Gl w) (hT : Lib.Utf8Tabs 2 3 w) :
    Calls Tryz.prog 33 #[.slice a n c, .agg cur.cells] w fun e w' => (∃ v : UV, e = .returned (.tuple #[.agg v.cells, .int .i64 (PM.placeP l cur.pm).2]) ∧ v.pm = (PM.placeP l cur.pm).1 ∧ v.Ok w') ∧ Below w.heap.size w w' := by
  have HG := Lib.hid hg
  have HTB := Lib.hid hT
  have OC := Lib.hid hc
  have HR := Lib.hid h
  have HL := Lib.hid hl
  have hpl : PM.placeP l cur.pm = PM.placeOf (PM.rawP l) cur.pm := rfl
  have hnum : (PM.rawP l).2 = 0 ∨ (PM.rawP l).2 = 1 ∨ (PM.rawP l).2 = 2 := by
    have h := PM.rawOf_num (PM.allOf l PM.LOC)
    unfold PM.rawP
    rcases h with h | h | h <;> simp [h.1]
  have HRW : Hid (∀ W, Below w.heap.size w W → Calls Tryz.prog 40 #[.slice a n c] W fun e w' => e = .returned (.tuple #[.string (mkS (PM.rawP l).1), .int .i64 (PM.rawP l).2]) ∧ Below W.heap.size W w') := Lib.hid fun W hb => Raw_c a n c l W (h.below hb) hn hl
  clear hg hT hc h hl
  obtain ⟨⟨s, k⟩, hsk⟩ : ∃ x, PM.rawP l = x := ⟨_, rfl⟩
  rw [hsk] at HRW hpl hnum hs hs2 hp
  have HPL := Lib.hid hpl
  have HS := Lib.hid hs
  have HS2 := Lib.hid hs2
  have HP := Lib.hid hp
  clear hsk hpl hs hs2 hp
  dsimp only at HRW hnum HS HS2 HP
  rcases hnum with rfl | rfl | rfl
  · skip
    have HB : Hid (Below w.heap.size w ((w.alloc (.cells cur.cells 27)).alloc (.cells #[.string ⟨#[]⟩, .string ⟨#[]⟩, .string ⟨#[]⟩, .int .i64 0, .string ⟨#[]⟩, .int .i64 0, .int .i64 0, .int .i64 0, .int .i64 0, .int .i64 0, .int .i64 0, .int .i64 0, .int .i64 0, .int .i64 0, .int .i64 0, .slice none 0 0, .string ⟨#[]⟩, .string ⟨#[]⟩, .string ⟨#[]⟩, .bool false, .bool false] 27))) := Lib.hid (b_alloc (b_alloc (Below.refl _ _) _) _)
    have Hc : Hid (((w.alloc (.cells cur.cells 27)).alloc (.cells #[.string ⟨#[]⟩, .string ⟨#[]⟩, .string ⟨#[]⟩, .int .i64 0, .string ⟨#[]⟩, .int .i64 0, .int .i64 0, .int .i64 0, .int .i64 0, .int .i64 0, .int .i64 0, .int .i64 0, .int .i64 0, .int .i64 0, .int .i64 0, .slice none 0 0, .string ⟨#[]⟩, .string ⟨#[]⟩, .string ⟨#[]⟩, .bool false, .bool false] 27)).heap[w.heap.size]? = some (.cells cur.cells 27 (0, 0))) := Lib.hid (heap_b (b_alloc (Below.refl _ _) _) (by have h := Go.heap_alloc_new w (.cells cur.cells 27); simpa using h))
    have Hz : Hid (((w.alloc (.cells cur.cells 27)).alloc (.cells #[.string ⟨#[]⟩, .string ⟨#[]⟩, .string ⟨#[]⟩, .int .i64 0, .string ⟨#[]⟩, .int .i64 0, .int .i64 0, .int .i64 0, .int .i64 0, .int .i64 0, .int .i64 0, .int .i64 0, .int .i64 0, .int .i64 0, .int .i64 0, .slice none 0 0, .string ⟨#[]⟩, .string ⟨#[]⟩, .string ⟨#[]⟩, .bool false, .bool false] 27)).heap[w.heap.size + 1]? = some (.cells #[.string ⟨#[]⟩, .string ⟨#[]⟩, .string ⟨#[]⟩, .int .i64 0, .string ⟨#[]⟩, .int .i64 0, .int .i64 0, .int .i64 0, .int .i64 0, .int .i64 0, .int .i64 0, .int .i64 0, .int .i64 0, .int .i64 0, .int .i64 0, .slice none 0 0, .string ⟨#[]⟩, .string ⟨#[]⟩, .string ⟨#[]⟩, .bool false, .bool false] 27 (0, 0))) := Lib.hid ((by have h := Go.heap_alloc_new (w.alloc (.cells cur.cells 27)) (.cells #[.string ⟨#[]⟩, .string ⟨#[]⟩, .string ⟨#[]⟩, .int .i64 0, .string ⟨#[]⟩, .int .i64 0, .int .i64 0, .int .i64 0, .int .i64 0, .int .i64 0, .int .i64 0, .int .i64 0, .int .i64 0, .int .i64 0, .int .i64 0, .slice none 0 0, .string ⟨#[]⟩, .string ⟨#[]⟩, .string ⟨#[]⟩, .bool false, .bool false] 27); simpa using h))
    go_enter Tryz.func33, Tryz.ntmps33
    go_upto_region 1 with fail
    generalize (w.alloc (.cells cur.cells 27)).alloc (.cells #[.string ⟨#[]⟩, .string ⟨#[]⟩, .string ⟨#[]⟩, .int .i64 0, .string ⟨#[]⟩, .int .i64 0, .int .i64 0, .int .i64 0, .int .i64 0, .int .i64 0, .int .i64 0, .int .i64 0, .int .i64 0, .int .i64 0, .int .i64 0, .slice none 0 0, .string ⟨#[]⟩, .string ⟨#[]⟩, .string ⟨#[]⟩, .bool false, .bool false] 27) = V0 at HB Hc Hz ⊢
    generalize hbz : w.heap.size + 1 = bz at Hz ⊢
    have hlw_bz : w.heap.size ≤ bz := by omega
    have hne_z_c : w.heap.size < bz := by omega
    clear hbz
    replace OC := Lib.hid (OC.out.below HB.out)
    go_wp2_with fail
    refine (HRW.out _ HB.out).mono ?_
    rintro e V1 ⟨rfl, hb⟩
    replace HB := Lib.hid (b_then HB.out hb)
    replace Hz := Lib.hid (obj_b hb Hz.out)
    replace Hc := Lib.hid (obj_b hb Hc.out)
    replace OC := Lib.hid (OC.out.below hb)
    clear hb
    go_wp2_with (first | go_skip | (refine wpList_store_row rfl 27 _ _ rfl bz uz.cells rfl rfl 27 _ Hz.out (by kernel_rfl) rfl (agg_one uz) ?_))
    refine bodyPost_ret (results_cell_tmp (fr := (0, 0)) rfl _ _ bz 27 uz.cells _ rfl (heap_setRow Hz.out _) Tryz.underlying27 rfl (by kernel_rfl)) rfl ?_
    exact ⟨⟨uz, by rw [HPL.out]; rfl, by rw [HPL.out]; rfl, zero_ok _⟩, below_setRow HB.out hlw_bz _⟩
  · skip
    have HB : Hid (Below w.heap.size w ((w.alloc (.cells cur.cells 27)).alloc (.cells #[.string ⟨#[]⟩, .string ⟨#[]⟩, .string ⟨#[]⟩, .int .i64 0, .string ⟨#[]⟩, .int .i64 0, .int .i64 0, .int .i64 0, .int .i64 0, .int .i64 0, .int .i64 0, .int .i64 0, .int .i64 0, .int .i64 0, .int .i64 0, .slice none 0 0, .string ⟨#[]⟩, .string ⟨#[]⟩, .string ⟨#[]⟩, .bool false, .bool false] 27))) := Lib.hid (b_alloc (b_alloc (Below.refl _ _) _) _)
    have Hc : Hid (((w.alloc (.cells cur.cells 27)).alloc (.cells #[.string ⟨#[]⟩, .string ⟨#[]⟩, .string ⟨#[]⟩, .int .i64 0, .string ⟨#[]⟩, .int .i64 0, .int .i64 0, .int .i64 0, .int .i64 0, .int .i64 0, .int .i64 0, .int .i64 0, .int .i64 0, .int .i64 0, .int .i64 0, .slice none 0 0, .string ⟨#[]⟩, .string ⟨#[]⟩, .string ⟨#[]⟩, .bool false, .bool false] 27)).heap[w.heap.size]? = some (.cells cur.cells 27 (0, 0))) := Lib.hid (heap_b (b_alloc (Below.refl _ _) _) (by have h := Go.heap_alloc_new w (.cells cur.cells 27); simpa using h))
    have Hz : Hid (((w.alloc (.cells cur.cells 27)).alloc (.cells #[.string ⟨#[]⟩, .string ⟨#[]⟩, .string ⟨#[]⟩, .int .i64 0, .string ⟨#[]⟩, .int .i64 0, .int .i64 0, .int .i64 0, .int .i64 0, .int .i64 0, .int .i64 0, .int .i64 0, .int .i64 0, .int .i64 0, .int .i64 0, .slice none 0 0, .string ⟨#[]⟩, .string ⟨#[]⟩, .string ⟨#[]⟩, .bool false, .bool false] 27)).heap[w.heap.size + 1]? = some (.cells #[.string ⟨#[]⟩, .string ⟨#[]⟩, .string ⟨#[]⟩, .int .i64 0, .string ⟨#[]⟩, .int .i64 0, .int .i64 0, .int .i64 0, .int .i64 0, .int .i64 0, .int .i64 0, .int .i64 0, .int .i64 0, .int .i64 0, .int .i64 0, .slice none 0 0, .string ⟨#[]⟩, .string ⟨#[]⟩, .string ⟨#[]⟩, .bool false, .bool false] 27 (0, 0))) := Lib.hid ((by have h := Go.heap_alloc_new (w.alloc (.cells cur.cells 27)) (.cells #[.string ⟨#[]⟩, .string ⟨#[]⟩, .string ⟨#[]⟩, .int .i64 0, .string ⟨#[]⟩, .int .i64 0, .int .i64 0, .int .i64 0, .int .i64 0, .int .i64 0, .int .i64 0, .int .i64 0, .int .i64 0, .int .i64 0, .int .i64 0, .slice none 0 0, .string ⟨#[]⟩, .string ⟨#[]⟩, .string ⟨#[]⟩, .bool false, .bool false] 27); simpa using h))
    go_enter Tryz.func33, Tryz.ntmps33
    go_upto_region 1 with fail
    generalize (w.alloc (.cells cur.cells 27)).alloc (.cells #[.string ⟨#[]⟩, .string ⟨#[]⟩, .string ⟨#[]⟩, .int .i64 0, .string ⟨#[]⟩, .int .i64 0, .int .i64 0, .int .i64 0, .int .i64 0, .int .i64 0, .int .i64 0, .int .i64 0, .int .i64 0, .int .i64 0, .int .i64 0, .slice none 0 0, .string ⟨#[]⟩, .string ⟨#[]⟩, .string ⟨#[]⟩, .bool false, .bool false] 27) = V0 at HB Hc Hz ⊢
    generalize hbz : w.heap.size + 1 = bz at Hz ⊢
    have hlw_bz : w.heap.size ≤ bz := by omega
    have hne_z_c : w.heap.size < bz := by omega
    clear hbz
    replace OC := Lib.hid (OC.out.below HB.out)
    go_wp2_with fail
    refine (HRW.out _ HB.out).mono ?_
    rintro e V1 ⟨rfl, hb⟩
    replace HB := Lib.hid (b_then HB.out hb)
    replace Hz := Lib.hid (obj_b hb Hz.out)
    replace Hc := Lib.hid (obj_b hb Hc.out)
    replace OC := Lib.hid (OC.out.below hb)
    clear hb
    obtain ⟨o, ho⟩ : ∃ o, PM.resolve cur.pm s = o := ⟨_, rfl⟩
    have hpl2 : PM.placeP l cur.pm = PM.afterP (PM.resolve cur.pm s) cur.pm := HPL.out.trans (PM.placeOf_one s cur.pm)
    rw [ho] at hpl2
    have HPL2 := Lib.hid hpl2
    have HO := Lib.hid ho
    clear hpl2 ho HPL
    cases o with
    | none =>
      go_wp2_with (first | go_skip | (refine wpList_load_g 27 _ rfl (by kernel_rfl) w.heap.size rfl Hc.out Tryz.underlying27 rfl (by kernel_rfl) ?_))
      refine (Resolve2_c cur s _ HS.out HS2.out OC.out hcn (HG.out.below HB.out) (tabs_below HTB.out HB.out)).mono ?_
      rintro e V2 ⟨hp, hb⟩
      obtain ⟨u, rfl, hxp, hxo⟩ := parse_no hp HO.out
      have Pu := Lib.hid hxp
      have Ou := Lib.hid hxo
      clear hp hxp hxo
      replace HB := Lib.hid (b_then HB.out hb)
      replace Hz := Lib.hid (obj_b hb Hz.out)
      replace Hc := Lib.hid (obj_b hb Hc.out)
      replace OC := Lib.hid (OC.out.below hb)
      clear hb
      have HN := Lib.hid (Go.heap_alloc_new V2 (.cells zurl 27))
      unfold zurl at HN 
      go_upto_region 5 with (first | (refine wpList_store_row rfl 27 _ _ rfl V2.heap.size u.cells rfl rfl 27 _ HN.out (by kernel_rfl) rfl (agg_one u) ?_))
      obtain ⟨V3, hV⟩ : ∃ V3, V3 = (V2.alloc (.cells #[.string ⟨#[]⟩, .string ⟨#[]⟩, .string ⟨#[]⟩, .int .i64 0, .string ⟨#[]⟩, .int .i64 0, .int .i64 0, .int .i64 0, .int .i64 0, .int .i64 0, .int .i64 0, .int .i64 0, .int .i64 0, .int .i64 0, .int .i64 0, .slice none 0 0, .string ⟨#[]⟩, .string ⟨#[]⟩, .string ⟨#[]⟩, .bool false, .bool false] 27)).setRow V2.heap.size u.cells := ⟨_, rfl⟩
      have hN : V3.heap[V2.heap.size]? = some (.cells u.cells 27 (0, 0)) := by rw [hV]; exact heap_setRow HN.out _
      have hb : Below V2.heap.size V2 V3 := by rw [hV]; exact below_setRow (b_alloc (Below.refl _ _) _) (Nat.le_refl _) _
      rw [← hV]
      clear hV HN 
      have Hu := Lib.hid hN
      clear hN
      have hlt_ku_Hz : bz < V2.heap.size := h_lt Hz.out
      have hlt_ku_Hc : w.heap.size < V2.heap.size := h_lt Hc.out
      have hlw_ku : w.heap.size ≤ V2.heap.size := HB.out.size
      replace HB := Lib.hid (b_then HB.out hb)
      replace Hz := Lib.hid (obj_b hb Hz.out)
      replace Hc := Lib.hid (obj_b hb Hc.out)
      replace OC := Lib.hid (OC.out.below hb)
      replace Ou := Lib.hid (Ou.out.below hb)
      clear hb
      generalize V2.heap.size = ku at Hu hlt_ku_Hz hlt_ku_Hc hlw_ku ⊢
      (try simp only [Act.put])
      replace HPL : Hid (PM.placeP l cur.pm = (PM.zeroUrl, 2)) := Lib.hid HPL2.out
      go_wp2_with (first | go_skip | (refine wpList_store_row rfl 27 _ _ rfl bz uz.cells rfl rfl 27 _ Hz.out (by kernel_rfl) rfl (agg_one uz) ?_))
      refine bodyPost_ret (results_cell_tmp (fr := (0, 0)) rfl _ _ bz 27 uz.cells _ rfl (heap_setRow Hz.out _) Tryz.underlying27 rfl (by kernel_rfl)) rfl ?_
      exact ⟨⟨uz, by rw [HPL.out]; rfl, by rw [HPL.out]; rfl, zero_ok _⟩, below_setRow HB.out hlw_bz _⟩
    | some p =>
      go_wp2_with (first | go_skip | (refine wpList_load_g 27 _ rfl (by kernel_rfl) w.heap.size rfl Hc.out Tryz.underlying27 rfl (by kernel_rfl) ?_))
      refine (Resolve2_c cur s _ HS.out HS2.out OC.out hcn (HG.out.below HB.out) (tabs_below HTB.out HB.out)).mono ?_
      rintro e V2 ⟨hp, hb⟩
      obtain ⟨u, rfl, hxp, hxo⟩ := parse_ok hp HO.out (HP.out _ HO.out)
      have Pu := Lib.hid hxp
      have Ou := Lib.hid hxo
      clear hp hxp hxo
      replace HB := Lib.hid (b_then HB.out hb)
      replace Hz := Lib.hid (obj_b hb Hz.out)
      replace Hc := Lib.hid (obj_b hb Hc.out)
      replace OC := Lib.hid (OC.out.below hb)
      clear hb
      have HN := Lib.hid (Go.heap_alloc_new V2 (.cells zurl 27))
      unfold zurl at HN 
      go_upto_region 5 with (first | (refine wpList_store_row rfl 27 _ _ rfl V2.heap.size u.cells rfl rfl 27 _ HN.out (by kernel_rfl) rfl (agg_one u) ?_))
      obtain ⟨V3, hV⟩ : ∃ V3, V3 = (V2.alloc (.cells #[.string ⟨#[]⟩, .string ⟨#[]⟩, .string ⟨#[]⟩, .int .i64 0, .string ⟨#[]⟩, .int .i64 0, .int .i64 0, .int .i64 0, .int .i64 0, .int .i64 0, .int .i64 0, .int .i64 0, .int .i64 0, .int .i64 0, .int .i64 0, .slice none 0 0, .string ⟨#[]⟩, .string ⟨#[]⟩, .string ⟨#[]⟩, .bool false, .bool false] 27)).setRow V2.heap.size u.cells := ⟨_, rfl⟩
      have hN : V3.heap[V2.heap.size]? = some (.cells u.cells 27 (0, 0)) := by rw [hV]; exact heap_setRow HN.out _
      have hb : Below V2.heap.size V2 V3 := by rw [hV]; exact below_setRow (b_alloc (Below.refl _ _) _) (Nat.le_refl _) _
      rw [← hV]
      clear hV HN 
      have Hu := Lib.hid hN
      clear hN
      have hlt_ku_Hz : bz < V2.heap.size := h_lt Hz.out
      have hlt_ku_Hc : w.heap.size < V2.heap.size := h_lt Hc.out
      have hlw_ku : w.heap.size ≤ V2.heap.size := HB.out.size
      replace HB := Lib.hid (b_then HB.out hb)
      replace Hz := Lib.hid (obj_b hb Hz.out)
      replace Hc := Lib.hid (obj_b hb Hc.out)
      replace OC := Lib.hid (OC.out.below hb)
      replace Ou := Lib.hid (Ou.out.below hb)
      clear hb
      generalize V2.heap.size = ku at Hu hlt_ku_Hz hlt_ku_Hc hlw_ku ⊢
      (try simp only [Act.put])
      go_wp2_with (first | go_skip | (refine wpList_load_g 27 _ rfl (by kernel_rfl) ku rfl Hu.out Tryz.underlying27 rfl (by kernel_rfl) ?_) | (refine wpList_load_g 27 _ rfl (by kernel_rfl) w.heap.size rfl Hc.out Tryz.underlying27 rfl (by kernel_rfl) ?_))
      refine (Inherit_c u cur _ Ou.out OC.out.fr).mono ?_
      rintro e V4 ⟨v, rfl, hvp, hvo, hvf, -, hb⟩
      have Pv := Lib.hid hvp
      have Ov := Lib.hid hvo
      have hzl := h_lt Hz.out
      have Fv := Lib.hid hvf
      clear hvp hvo hvf
      replace HB := Lib.hid (b_then HB.out hb)
      replace Hz := Lib.hid (obj_b hb Hz.out)
      replace Hc := Lib.hid (obj_b hb Hc.out)
      replace Hu := Lib.hid (obj_b hb Hu.out)
      replace OC := Lib.hid (OC.out.below hb)
      replace Ou := Lib.hid (Ou.out.below hb)
      clear hb
      go_wp2_with (first | go_skip | (refine wpList_store_row rfl 27 _ _ rfl bz v.cells rfl rfl 27 _ Hz.out (by kernel_rfl) rfl (agg_one v) ?_))
      refine bodyPost_ret (results_cell_tmp (fr := (0, 0)) rfl _ _ bz 27 v.cells _ rfl (heap_setRow Hz.out _) Tryz.underlying27 rfl (by kernel_rfl)) rfl ?_
      exact ⟨⟨v, by rw [HPL2.out]; rfl, by rw [HPL2.out, Pv.out, Pu.out]; rfl, Ok_setRow Ov.out Fv.out hzl _⟩, below_setRow HB.out hlw_bz _⟩
  · skip
    have HB : Hid (Below w.heap.size w ((w.alloc (.cells cur.cells 27)).alloc (.cells #[.string ⟨#[]⟩, .string ⟨#[]⟩, .string ⟨#[]⟩, .int .i64 0, .string ⟨#[]⟩, .int .i64 0, .int .i64 0, .int .i64 0, .int .i64 0, .int .i64 0, .int .i64 0, .int .i64 0, .int .i64 0, .int .i64 0, .int .i64 0, .slice none 0 0, .string ⟨#[]⟩, .string ⟨#[]⟩, .string ⟨#[]⟩, .bool false, .bool false] 27))) := Lib.hid (b_alloc (b_alloc (Below.refl _ _) _) _)
    have Hc : Hid (((w.alloc (.cells cur.cells 27)).alloc (.cells #[.string ⟨#[]⟩, .string ⟨#[]⟩, .string ⟨#[]⟩, .int .i64 0, .string ⟨#[]⟩, .int .i64 0, .int .i64 0, .int .i64 0, .int .i64 0, .int .i64 0, .int .i64 0, .int .i64 0, .int .i64 0, .int .i64 0, .int .i64 0, .slice none 0 0, .string ⟨#[]⟩, .string ⟨#[]⟩, .string ⟨#[]⟩, .bool false, .bool false] 27)).heap[w.heap.size]? = some (.cells cur.cells 27 (0, 0))) := Lib.hid (heap_b (b_alloc (Below.refl _ _) _) (by have h := Go.heap_alloc_new w (.cells cur.cells 27); simpa using h))
    have Hz : Hid (((w.alloc (.cells cur.cells 27)).alloc (.cells #[.string ⟨#[]⟩, .string ⟨#[]⟩, .string ⟨#[]⟩, .int .i64 0, .string ⟨#[]⟩, .int .i64 0, .int .i64 0, .int .i64 0, .int .i64 0, .int .i64 0, .int .i64 0, .int .i64 0, .int .i64 0, .int .i64 0, .int .i64 0, .slice none 0 0, .string ⟨#[]⟩, .string ⟨#[]⟩, .string ⟨#[]⟩, .bool false, .bool false] 27)).heap[w.heap.size + 1]? = some (.cells #[.string ⟨#[]⟩, .string ⟨#[]⟩, .string ⟨#[]⟩, .int .i64 0, .string ⟨#[]⟩, .int .i64 0, .int .i64 0, .int .i64 0, .int .i64 0, .int .i64 0, .int .i64 0, .int .i64 0, .int .i64 0, .int .i64 0, .int .i64 0, .slice none 0 0, .string ⟨#[]⟩, .string ⟨#[]⟩, .string ⟨#[]⟩, .bool false, .bool false] 27 (0, 0))) := Lib.hid ((by have h := Go.heap_alloc_new (w.alloc (.cells cur.cells 27)) (.cells #[.string ⟨#[]⟩, .string ⟨#[]⟩, .string ⟨#[]⟩, .int .i64 0, .string ⟨#[]⟩, .int .i64 0, .int .i64 0, .int .i64 0, .int .i64 0, .int .i64 0, .int .i64 0, .int .i64 0, .int .i64 0, .int .i64 0, .int .i64 0, .slice none 0 0, .string ⟨#[]⟩, .string ⟨#[]⟩, .string ⟨#[]⟩, .bool false, .bool false] 27); simpa using h))
    go_enter Tryz.func33, Tryz.ntmps33
    go_upto_region 1 with fail
    generalize (w.alloc (.cells cur.cells 27)).alloc (.cells #[.string ⟨#[]⟩, .string ⟨#[]⟩, .string ⟨#[]⟩, .int .i64 0, .string ⟨#[]⟩, .int .i64 0, .int .i64 0, .int .i64 0, .int .i64 0, .int .i64 0, .int .i64 0, .int .i64 0, .int .i64 0, .int .i64 0, .int .i64 0, .slice none 0 0, .string ⟨#[]⟩, .string ⟨#[]⟩, .string ⟨#[]⟩, .bool false, .bool false] 27) = V0 at HB Hc Hz ⊢
    generalize hbz : w.heap.size + 1 = bz at Hz ⊢
    have hlw_bz : w.heap.size ≤ bz := by omega
    have hne_z_c : w.heap.size < bz := by omega
    clear hbz
    replace OC := Lib.hid (OC.out.below HB.out)
    go_wp2_with fail
    refine (HRW.out _ HB.out).mono ?_
    rintro e V1 ⟨rfl, hb⟩
    replace HB := Lib.hid (b_then HB.out hb)
    replace Hz := Lib.hid (obj_b hb Hz.out)
    replace Hc := Lib.hid (obj_b hb Hc.out)
    replace OC := Lib.hid (OC.out.below hb)
    clear hb
    go_wp2_with (first | go_skip | (refine wpList_store_row rfl 27 _ _ rfl bz uz.cells rfl rfl 27 _ Hz.out (by kernel_rfl) rfl (agg_one uz) ?_))
    refine bodyPost_ret (results_cell_tmp (fr := (0, 0)) rfl _ _ bz 27 uz.cells _ rfl (heap_setRow Hz.out _) Tryz.underlying27 rfl (by kernel_rfl)) rfl ?_
    exact ⟨⟨uz, by rw [HPL.out]; rfl, by rw [HPL.out]; rfl, zero_ok _⟩, below_setRow HB.out hlw_bz _⟩
theorem wide_len (s : List UInt8) : (PM.wide s).length ≤ 2 * s.length := by
  induction s with
  | nil => simp [PM.wide]
  | cons x r ih =>
    have e : PM.wide (x :: r) = (if x.toNat < 128 then [x] else [UInt8.ofNat (192 + x.toNat / 64), UInt8.ofNat (128 + x.toNat % 64)]) ++ PM.wide r := by simp [PM.wide]
    rw [e, List.length_append, List.length_cons]
    split <;> simp <;> omega
theorem raw_len {l : PM.Fs} {m : Nat} (hl : ∀ f ∈ l, f.2.length ≤ m) : (PM.rawP l).1.length ≤ 2 * m := by
  have h := all_mem (name := PM.LOC) hl
  unfold PM.rawP
  cases hA : PM.allOf l PM.LOC with
  | nil => simp [PM.rawOf]
  | cons a r =>
    rw [hA] at h
    have h1 := h a (by simp)
    have h2 := wide_len a
    unfold PM.rawOf
    dsimp only
    split
    · simp
    · show (PM.wide a).length ≤ _
      omega
theorem Place_sm_c (a : Option Addr) (n c : Nat) (l : PM.Fs) (cur : UV) (w : World) (h : RdFW w a n l) (hn : n ≤ 1000) (hl : ∀ f ∈ l, f.1.length ≤ 1000 ∧ f.2.length ≤ 1000) (hc : cur.Ok w) (hcn : cur.xs.length ≤ 900) (hg : Gl w) (hT : Lib.Utf8Tabs 2 3 w) :
    Calls Tryz.prog 33 #[.slice a n c, .agg cur.cells] w fun e w' => (∃ v : UV, e = .returned (.tuple #[.agg v.cells, .int .i64 (PM.placeP l cur.pm).2]) ∧ v.pm = (PM.placeP l cur.pm).1 ∧ v.Ok w') ∧ Below w.heap.size w w' := by
  have hr := raw_len (m := 1000) fun f hf => (hl f hf).2
  exact Place_c a n c l cur w h (by omega) (fun f hf => ⟨Nat.le_trans (hl f hf).1 (by decide), Nat.le_trans (hl f hf).2 (by decide)⟩) (by omega) (fun _ => by omega) (fun u hu => res_path hu (by omega) hcn hc.xl) hc hcn hg hT
theorem few13_ok {l : PM.Fs} {w : World} {a : Option Addr} {n : Nat} (h : PM.few13 l = true) (hr : RdFW w a n l) : n ≤ 60 ∧ ∀ f ∈ l, f.1.length ≤ 1000 ∧ f.2.length ≤ 1000 := by
  obtain ⟨h1, h2⟩ := PM.few13_all h
  exact ⟨by rw [← hr.len]; exact h1, fun f hf => ⟨Nat.le_trans (h2 f hf).1 (by decide), Nat.le_trans (h2 f hf).2 (by decide)⟩⟩
end Go.Proofs.YtppbkblnjlbnfaaGreatDoor
/-! Contract: postmarklaw18.awake. -/
namespace Go.Proofs.YtppbkblnjlbnfaaGreatDoor
open Go.RowKit
def k18c : PM.Url := ⟨[104, 116, 116, 112], [], [], ⟨1, [97, 46, 111, 114, 103], 0, [0, 0, 0, 0, 0, 0, 0, 0]⟩, -1, [[98]], [], [], [99], false, true⟩
def k18u : PM.Url := ⟨[104, 116, 116, 112], [], [], ⟨1, [97, 46, 111, 114, 103], 0, [0, 0, 0, 0, 0, 0, 0, 0]⟩, -1, [[120]], [], [], [99], false, true⟩
def l18 : PM.Fs := [([108, 111, 99, 97, 116, 105, 111, 110], [47, 120])]
theorem k18_parse : PM.urlParse [104, 116, 116, 112, 58, 47, 47, 97, 46, 111, 114, 103, 47, 98, 35, 99] = some k18c := by kernel_rfl
theorem k18_raw : PM.rawP l18 = ([47, 120], 1) := by kernel_rfl
theorem k18_place : PM.placeP l18 k18c = (k18u, 1) := by kernel_rfl
theorem k18_res : PM.resolve k18c [47, 120] = some { k18u with frag := [], hasFrag := false } := by kernel_rfl
theorem k18_show : PM.showUrl k18u = [104, 116, 116, 112, 58, 47, 47, 97, 46, 111, 114, 103, 47, 120, 35, 99] := by kernel_rfl
theorem k18_web : PM.webP k18c = true := by kernel_rfl
theorem place18 (a : Option Addr) (c : Nat) (cur : UV) (w : World) (h : RdFW w a 1 l18) (hp : cur.pm = k18c) (hc : cur.Ok w) (hg : Gl w) (hT : Lib.Utf8Tabs 2 3 w) : Calls Tryz.prog 33 #[.slice a 1 c, .agg cur.cells] w fun e w' => (∃ v : UV, e = .returned (.tuple #[.agg v.cells, .int .i64 1]) ∧ v.pm = k18u ∧ v.Ok w') ∧ Below w.heap.size w w' := by
  have hx : cur.xs = cur.pm.path := rfl
  have h := Place_c a 1 c l18 cur w h (by decide) (by decide) (by rw [k18_raw]; decide) (by rw [k18_raw]; decide) (by rw [k18_raw, hp]; intro u hu; rw [show (([47, 120], 1) : PM.L × Int).1 = [47, 120] from rfl, k18_res] at hu; cases hu; decide) hc (by rw [hx, hp]; decide) hg hT
  rw [hp, k18_place] at h
  exact h
theorem raw18 (a : Option Addr) (c : Nat) (w : World) (h : RdFW w a 1 l18) : Calls Tryz.prog 40 #[.slice a 1 c] w fun e w' => e = .returned (.tuple #[.string ⟨#[47, 120]⟩, .int .i64 1]) ∧ Below w.heap.size w w' := by
  have h := Raw_c a 1 c l18 w h (by decide) (by decide)
  rw [k18_raw] at h
  exact h
set_option maxRecDepth 100000 in
set_option maxHeartbeats 4000000 in
theorem awake18_c (w : World) (hg : Gl w) (hT : Lib.Utf8Tabs 2 3 w) : Calls Tryz.prog 30 #[] w fun e w' => e = .returned (.bool true) ∧ Below w.heap.size w w' := by
  have HG := Lib.hid hg
  have HTB := Lib.hid hT
  have HP1 : Hid (∀ W, Gl W → Lib.Utf8Tabs 2 3 W → Calls Tryz.prog 45 #[.string ⟨#[104, 116, 116, 112, 58, 47, 47, 97, 46, 111, 114, 103, 47, 98, 35, 99]⟩] W fun e w' => (∃ v : UV, e = .returned (.tuple #[.agg v.cells, .bool true]) ∧ v.pm = k18c ∧ v.Ok w') ∧ Below W.heap.size W w') := Lib.hid fun W => known_c [104, 116, 116, 112, 58, 47, 47, 97, 46, 111, 114, 103, 47, 98, 35, 99] k18c (by decide) k18_parse (by decide) W
  have HB : Hid (Below w.heap.size w w) := Lib.hid (Below.refl _ _)
  clear hg hT
  go_enter Tryz.func30, Tryz.ntmps30
  go_wp2_with fail
  refine (HP1.out _ (HG.out.below HB.out) (tabs_below HTB.out HB.out)).mono ?_
  rintro e V1 ⟨⟨b, rfl, hup, huo⟩, hb⟩
  have Pb := Lib.hid hup
  have Ob := Lib.hid huo
  clear hup huo
  replace HB := Lib.hid (b_then HB.out hb)
  clear hb
  have HN := Lib.hid (Go.heap_alloc_new V1 (.cells zurl 27))
  unfold zurl at HN 
  go_upto_region 2 with (first | (refine wpList_store_row rfl 27 _ _ rfl V1.heap.size b.cells rfl rfl 27 _ HN.out (by kernel_rfl) rfl (agg_one b) ?_))
  obtain ⟨V2, hV⟩ : ∃ V2, V2 = (V1.alloc (.cells #[.string ⟨#[]⟩, .string ⟨#[]⟩, .string ⟨#[]⟩, .int .i64 0, .string ⟨#[]⟩, .int .i64 0, .int .i64 0, .int .i64 0, .int .i64 0, .int .i64 0, .int .i64 0, .int .i64 0, .int .i64 0, .int .i64 0, .int .i64 0, .slice none 0 0, .string ⟨#[]⟩, .string ⟨#[]⟩, .string ⟨#[]⟩, .bool false, .bool false] 27)).setRow V1.heap.size b.cells := ⟨_, rfl⟩
  have hN : V2.heap[V1.heap.size]? = some (.cells b.cells 27 (0, 0)) := by rw [hV]; exact heap_setRow HN.out _
  have hb : Below V1.heap.size V1 V2 := by rw [hV]; exact below_setRow (b_alloc (Below.refl _ _) _) (Nat.le_refl _) _
  rw [← hV]
  clear hV HN 
  have Hb := Lib.hid hN
  clear hN
  have hlw_bb : w.heap.size ≤ V1.heap.size := HB.out.size
  replace HB := Lib.hid (b_then HB.out hb)
  replace Ob := Lib.hid (Ob.out.below hb)
  clear hb
  generalize V1.heap.size = bb at Hb hlw_bb ⊢
  (try simp only [Act.put])
  go_upto_region 3 with fail
  have hb : Below V2.heap.size V2 (V2.alloc (.cells #[.string ⟨#[108, 111, 99, 97, 116, 105, 111, 110]⟩, .string ⟨#[47, 120]⟩] 50)) := b_alloc (Below.refl _ _) _
  have hN : (V2.alloc (.cells #[.string ⟨#[108, 111, 99, 97, 116, 105, 111, 110]⟩, .string ⟨#[47, 120]⟩] 50)).heap[V2.heap.size]? = some (.cells #[.string ⟨#[108, 111, 99, 97, 116, 105, 111, 110]⟩, .string ⟨#[47, 120]⟩] 50 (0, 0)) := Go.heap_alloc_new _ _
  have HF := Lib.hid hN
  clear hN
  replace HB := Lib.hid (b_then HB.out hb)
  replace Hb := Lib.hid (obj_b hb Hb.out)
  replace Ob := Lib.hid (Ob.out.below hb)
  clear hb
  generalize V2.alloc (.cells #[.string ⟨#[108, 111, 99, 97, 116, 105, 111, 110]⟩, .string ⟨#[47, 120]⟩] 50) = V3 at HB Hb Ob HF ⊢
  generalize V2.heap.size = bl at HF ⊢
  go_wp2_with (first | go_skip | (refine wpList_load_g 27 _ rfl (by kernel_rfl) bb rfl Hb.out Tryz.underlying27 rfl (by kernel_rfl) ?_))
  refine (place18 _ _ b _ (RdFW.one HF.out) Pb.out Ob.out (HG.out.below HB.out) (tabs_below HTB.out HB.out)).mono ?_
  rintro e V4 ⟨⟨u, rfl, hup, huo⟩, hb⟩
  have Pu := Lib.hid hup
  have Ou := Lib.hid huo
  clear hup huo
  replace HB := Lib.hid (b_then HB.out hb)
  replace Hb := Lib.hid (obj_b hb Hb.out)
  replace HF := Lib.hid (obj_b hb HF.out)
  replace Ob := Lib.hid (Ob.out.below hb)
  clear hb
  have HN := Lib.hid (Go.heap_alloc_new V4 (.cells zurl 27))
  unfold zurl at HN 
  go_upto_region 4 with (first | (refine wpList_store_row rfl 27 _ _ rfl V4.heap.size u.cells rfl rfl 27 _ HN.out (by kernel_rfl) rfl (agg_one u) ?_))
  obtain ⟨V5, hV⟩ : ∃ V5, V5 = (V4.alloc (.cells #[.string ⟨#[]⟩, .string ⟨#[]⟩, .string ⟨#[]⟩, .int .i64 0, .string ⟨#[]⟩, .int .i64 0, .int .i64 0, .int .i64 0, .int .i64 0, .int .i64 0, .int .i64 0, .int .i64 0, .int .i64 0, .int .i64 0, .int .i64 0, .slice none 0 0, .string ⟨#[]⟩, .string ⟨#[]⟩, .string ⟨#[]⟩, .bool false, .bool false] 27)).setRow V4.heap.size u.cells := ⟨_, rfl⟩
  have hN : V5.heap[V4.heap.size]? = some (.cells u.cells 27 (0, 0)) := by rw [hV]; exact heap_setRow HN.out _
  have hb : Below V4.heap.size V4 V5 := by rw [hV]; exact below_setRow (b_alloc (Below.refl _ _) _) (Nat.le_refl _) _
  rw [← hV]
  clear hV HN 
  have Hu := Lib.hid hN
  clear hN
  have hlt_bu_Hb : bb < V4.heap.size := h_lt Hb.out
  have hlt_bu_HF : bl < V4.heap.size := h_lt HF.out
  have hlw_bu : w.heap.size ≤ V4.heap.size := HB.out.size
  replace HB := Lib.hid (b_then HB.out hb)
  replace Hb := Lib.hid (obj_b hb Hb.out)
  replace HF := Lib.hid (obj_b hb HF.out)
  replace Ob := Lib.hid (Ob.out.below hb)
  replace Ou := Lib.hid (Ou.out.below hb)
  clear hb
  generalize V4.heap.size = bu at Hu hlt_bu_Hb hlt_bu_HF hlw_bu ⊢
  (try simp only [Act.put])
  go_wp2_with fail
  refine (raw18 _ _ _ (RdFW.one HF.out)).mono ?_
  rintro e V6 ⟨rfl, hb⟩
  clear HF
  replace HB := Lib.hid (b_then HB.out hb)
  replace Hb := Lib.hid (obj_b hb Hb.out)
  replace Hu := Lib.hid (obj_b hb Hu.out)
  replace Ob := Lib.hid (Ob.out.below hb)
  replace Ou := Lib.hid (Ou.out.below hb)
  clear hb
  go_wp2_with (first | go_skip | (refine wpList_load_g 27 _ rfl (by kernel_rfl) bu rfl Hu.out Tryz.underlying27 rfl (by kernel_rfl) ?_) | (refine wpList_load_g 27 _ rfl (by kernel_rfl) bb rfl Hb.out Tryz.underlying27 rfl (by kernel_rfl) ?_))
  refine (showUrl_c u _ Ou.out (HG.out.below HB.out)).mono ?_
  rw [Pu.out, k18_show]
  rintro e V7 ⟨rfl, hb⟩
  replace HB := Lib.hid (b_then HB.out hb)
  replace Hb := Lib.hid (obj_b hb Hb.out)
  replace Hu := Lib.hid (obj_b hb Hu.out)
  replace Ob := Lib.hid (Ob.out.below hb)
  replace Ou := Lib.hid (Ou.out.below hb)
  clear hb
  go_wp2_with fail
  refine (Redirects_c 308 _).mono ?_
  rintro e V20 ⟨rfl, rfl⟩
  go_wp2_with fail
  refine (Redirects_c 304 _).mono ?_
  rintro e V21 ⟨rfl, rfl⟩
  have r1 : PM.redirects 308 = true := rfl
  have r2 : PM.redirects 304 = false := rfl
  go_wp2_with (first | go_skip | (refine wpList_load_g 27 _ rfl (by kernel_rfl) bb rfl Hb.out Tryz.underlying27 rfl (by kernel_rfl) ?_))
  refine (Web18_c b _ Ob.out (HG.out.below HB.out)).mono ?_
  rw [Pb.out, k18_web]
  rintro e V8 ⟨rfl, hb⟩
  replace HB := Lib.hid (b_then HB.out hb)
  replace Hb := Lib.hid (obj_b hb Hb.out)
  replace Hu := Lib.hid (obj_b hb Hu.out)
  replace Ob := Lib.hid (Ob.out.below hb)
  replace Ou := Lib.hid (Ou.out.below hb)
  clear hb
  go_wp2
  go_ret
  exact ⟨rfl, HB.out⟩
end Go.Proofs.YtppbkblnjlbnfaaGreatDoor
