import Derived.Test.YtppbkblnjlbnfaaGreatDoorOr
import Derived.Test.YtppbkblnjlbnfaaGreatDoorP7
import Derived.Shelf.Spec.SlicesGrow
import Derived.Test.YtppbkblnjlbnfaaGreatDoorC22
import Derived.Test.YtppbkblnjlbnfaaGreatDoorPf
import Derived.Test.YtppbkblnjlbnfaaGreatDoorTz
import Derived.Test.YtppbkblnjlbnfaaGreatDoorKn
import Derived.Test.YtppbkblnjlbnfaaGreatDoorP15
set_option linter.unusedVariables false
set_option linter.unusedSimpArgs false
/-! Plain law: addresses beside others. -/
namespace PM
def mergeP (base : List L) (s : L) : List L := norm (base.dropLast ++ pathSplit s)
def inherit (u v : Url) : Url := if u.hasFrag then u else { u with frag := v.frag, hasFrag := v.hasFrag }
def whole (s : L) : Bool := (scheme (clean s)).2.2
def two47 (s : L) : Bool := List.isPrefixOf [47, 47] s
def wayP (base : List L) (t : L) : List L := if t = [] then base else if List.isPrefixOf [47] t then pathParse t else mergeP base t
def qOn (s : L) : Bool := (tail s).2.2.2.1 || !(tail s).1.isEmpty
def beside (b : Url) (s : L) : Url :=
  { b with path := wayP b.path (tail s).1, query := if qOn s then encode 2 (tail s).2.1 else b.query, hasQuery := if qOn s then (tail s).2.2.2.1 else b.hasQuery, frag := encode 1 (tail s).2.2.1, hasFrag := (tail s).2.2.2.2 }
def resolveC (b : Url) (s : L) : Option Url :=
  if !urlMay b then none else if whole s then urlParse s else if web b.scheme = 0 then none else if two47 s then urlParse (b.scheme ++ 58 :: s) else some (beside b s)
def resolve (b : Url) (ref : L) : Option Url := resolveC b (clean ref)
theorem dropWhile_head (p : UInt8 → Bool) (s : L) (h : UInt8) (e : (s.dropWhile p).head? = some h) : p h = false := by
  induction s with
  | nil => simp at e
  | cons x r ih =>
    rw [List.dropWhile_cons] at e
    split at e
    · exact ih e
    · rename_i hx
      simp at e
      subst e
      simpa using hx
theorem dropWhile_self (p : UInt8 → Bool) (s : L) (e : ∀ h, s.head? = some h → p h = false) : s.dropWhile p = s := by
  cases s with
  | nil => rfl
  | cons x r => rw [List.dropWhile_cons, if_neg (by rw [e x rfl]; simp)]
theorem trim_self (s : L) (h1 : ∀ h, s.head? = some h → blank h = false) (h2 : ∀ h, s.getLast? = some h → blank h = false) : trim s = s := by
  unfold trim
  rw [dropWhile_self blank s h1, dropWhile_self blank s.reverse (by intro h e; rw [List.head?_reverse] at e; exact h2 h e), List.reverse_reverse]
theorem trim_last (s : L) (h : UInt8) (e : (trim s).getLast? = some h) : blank h = false := by
  unfold trim at e
  rw [List.getLast?_reverse] at e
  exact dropWhile_head _ _ _ e
theorem dropWhile_suffix' (p : UInt8 → Bool) (s : L) : ∃ a, s = a ++ s.dropWhile p := ⟨s.takeWhile p, (List.takeWhile_append_dropWhile ..).symm⟩
theorem trim_head (s : L) (h : UInt8) (e : (trim s).head? = some h) : blank h = false := by
  unfold trim at e
  obtain ⟨a, ha⟩ := dropWhile_suffix' blank (s.dropWhile blank).reverse
  have : s.dropWhile blank = ((s.dropWhile blank).reverse.dropWhile blank).reverse ++ a.reverse := by
    rw [← List.reverse_append, ← ha, List.reverse_reverse]
  have h2 : (s.dropWhile blank).head? = some h := by
    rw [this]
    cases hc : ((s.dropWhile blank).reverse.dropWhile blank).reverse with
    | nil => rw [hc] at e; simp at e
    | cons x r => rw [hc] at e; simpa using e
  exact dropWhile_head _ _ _ h2
theorem end_blank (c : UInt8) (h : isEnd c = true) : blank c = true := by
  unfold isEnd at h
  simp at h
  rcases h with (rfl | rfl) | rfl <;> decide
theorem filter_head (p : UInt8 → Bool) (s : L) (h : ∀ c, s.head? = some c → p c = true) : (s.filter p).head? = s.head? := by
  cases s with
  | nil => rfl
  | cons x r => rw [List.filter_cons, if_pos (h x rfl)]; rfl
theorem filter_last (p : UInt8 → Bool) (s : L) (h : ∀ c, s.getLast? = some c → p c = true) : (s.filter p).getLast? = s.getLast? := by
  rw [List.getLast?_eq_head?_reverse, List.getLast?_eq_head?_reverse, ← List.filter_reverse]
  exact filter_head p _ (by intro c e; exact h c (by rw [List.getLast?_eq_head?_reverse]; exact e))
theorem notEnd (c : UInt8) (h : blank c = false) : (!isEnd c) = true := by
  cases he : isEnd c
  · rfl
  · rw [end_blank c he] at h; cases h
theorem clean_head (s : L) (h : UInt8) (e : (clean s).head? = some h) : blank h = false := by
  unfold clean at e
  rw [filter_head _ _ fun c hc => notEnd c (trim_head s c hc)] at e
  exact trim_head s h e
theorem clean_last (s : L) (h : UInt8) (e : (clean s).getLast? = some h) : blank h = false := by
  unfold clean at e
  rw [filter_last _ _ fun c hc => notEnd c (trim_last s c hc)] at e
  exact trim_last s h e
theorem clean_ends (s : L) : ∀ c ∈ clean s, isEnd c = false := by
  intro c hc
  unfold clean at hc
  simpa using (List.mem_filter.1 hc).2
theorem clean_of {s : L} (h1 : ∀ h, s.head? = some h → blank h = false) (h2 : ∀ h, s.getLast? = some h → blank h = false) (h3 : ∀ c ∈ s, isEnd c = false) : clean s = s := by
  unfold clean
  rw [trim_self s h1 h2, List.filter_eq_self.2]
  intro c hc
  rw [h3 c hc]
  rfl
theorem clean_clean (s : L) : clean (clean s) = clean s := clean_of (clean_head s) (clean_last s) (clean_ends s)
theorem whole_clean (s : L) : whole (clean s) = whole s := by unfold whole; rw [clean_clean]
theorem parse_clean (s : L) : urlParse (clean s) = urlParse s := by unfold urlParse; rw [clean_clean]
theorem resolve_eq (b : Url) (s : L) : resolve b s = if !urlMay b then none else if whole s then urlParse s else if web b.scheme = 0 then none else if two47 (clean s) then urlParse (b.scheme ++ 58 :: clean s) else some (beside b (clean s)) := by
  unfold resolve resolveC
  rw [whole_clean, parse_clean]
theorem clean_len2 (s : L) : (clean s).length ≤ s.length := by
  unfold clean trim
  refine Nat.le_trans (List.length_filter_le _ _) ?_
  rw [List.length_reverse]
  refine Nat.le_trans (List.dropWhile_sublist _).length_le ?_
  rw [List.length_reverse]
  exact (List.dropWhile_sublist _).length_le
theorem norm_may {l : List L} (hn : l ≠ []) (hl : ∀ s ∈ l, ready 3 s = true ∧ has s 47 = false) : pathMay (norm l) = true := by
  have h := normGo_ok l hl [] (by simp)
  unfold norm pathMay
  have h3 : (normGo [] l).any segOdd = false := by
    rw [List.any_eq_false]
    intro x hx
    obtain ⟨a, b, c⟩ := h.1 x hx
    unfold segOdd
    simp [a, b, c]
  rw [h3]
  cases hx : normGo [] l with
  | nil => exact absurd hx (h.2 hn)
  | cons _ _ => rfl
theorem split_segs (s : L) : pathSplit s ≠ [] ∧ ∀ x ∈ pathSplit s, ready 3 x = true ∧ has x 47 = false := by
  unfold pathSplit
  have hm := splitB_mem 47 (encode 3 (unslash s))
  exact ⟨hm.1, fun x hx => ⟨(ready_iff 3 x).2 fun c hc => (encode_mem (hm.2 x hx c hc).1).1, has_no 47 x fun c hc => (hm.2 x hx c hc).2⟩⟩
theorem merge_may {l : List L} (h : pathMay l = true) (s : L) : pathMay (mergeP l s) = true := by
  have h1 := split_segs s
  have h2 := pathMay_segs h
  refine norm_may ?_ fun x hx => ?_
  · intro e
    exact h1.1 (List.append_eq_nil_iff.1 e).2
  · rcases List.mem_append.1 hx with hx | hx
    · have := h2.2 x (List.dropLast_subset _ hx)
      exact ⟨this.1, this.2.1⟩
    · exact h1.2 x hx
theorem way_may {l : List L} (h : pathMay l = true) (t : L) : pathMay (wayP l t) = true := by
  unfold wayP
  split
  · exact h
  · split
    · exact pathParse_may t
    · exact merge_may h t
theorem beside_may {b : Url} (h : urlMay b = true) (hw : web b.scheme ≠ 0) (s : L) : urlMay (beside b s) = true := by
  obtain ⟨h1, h2, h3, h4, h5, h6, h7, h8⟩ := may_web h hw
  obtain ⟨q1, q2, q3, q4⟩ := may_qf h
  have hpos : 0 < web b.scheme := by have := web_nonneg b.scheme; omega
  have hth := tail_has s
  have a1 : ready 2 (beside b s).query = true := by
    unfold beside
    dsimp only
    split
    · exact ready_encode _ _
    · exact q1
  have a2 : ((beside b s).hasQuery || (beside b s).query.isEmpty) = true := by
    unfold beside
    dsimp only
    split
    · rcases hth.1 with e | e
      · rw [e]; rfl
      · rw [e]; simp [encode]
    · rcases q3 with e | e <;> simp [e]
  have a3 : ((beside b s).hasFrag || (beside b s).frag.isEmpty) = true := by
    unfold beside
    dsimp only
    rcases hth.2 with e | e
    · rw [e]; rfl
    · rw [e]; simp [encode]
  have a4 : ready 1 (beside b s).frag = true := ready_encode _ _
  unfold urlMay
  have hs : (beside b s).scheme = b.scheme := rfl
  rw [hs, opq_of_web hw]
  unfold qf
  rw [a1, a2, a3, a4]
  unfold mayWeb
  show (true && (true && (true && true)) && (if false = true then _ else (decide (0 < web b.scheme) && (hostMay b.host && (ready 4 b.user && (ready 4 b.pass && (pathMay (wayP b.path (tail s).1) && (b.opaque_.isEmpty && (decide (-1 ≤ b.port) && (decide (b.port ≤ 65535) && decide (b.port ≠ web b.scheme)))))))))))  = true
  rw [decide_eq_true hpos, h1, h2, h3, way_may h4, h5, decide_eq_true h6, decide_eq_true h7, decide_eq_true h8]
  rfl
theorem parseT_scheme {sch : L} {x : L × L × L × Bool × Bool} {u : Url} (h : parseT sch x = some u) : u.scheme = sch := by
  unfold parseT at h
  split at h
  · simp at h
    subst h
    rfl
  · unfold parseWeb at h
    split at h
    · cases h
    · split at h
      · simp at h
        subst h
        rfl
      · cases h
theorem parse_not {s : L} (h : whole s = false) : urlParse s = none := by
  unfold urlParse parseC
  unfold whole at h
  rw [h]
  rfl
theorem parse_whole {s : L} {u : Url} (h : urlParse s = some u) : whole s = true := by
  cases hw : whole s
  · rw [parse_not hw] at h; cases h
  · rfl
theorem web_seen {s : L} (h : web s ≠ 0) : (∀ c ∈ s, blank c = false) ∧ s ≠ [] := by
  rcases web_cases h with e | e <;> rw [e] <;> decide
theorem front_clean {sch s : L} (h : web sch ≠ 0) (hs : clean s = s) (hn : s ≠ []) : clean (sch ++ 58 :: s) = sch ++ 58 :: s := by
  obtain ⟨h1, h2⟩ := web_seen h
  refine clean_of ?_ ?_ ?_
  · intro c e
    cases sch with
    | nil => exact absurd rfl h2
    | cons x r => simp at e; subst e; exact h1 x (by simp)
  · intro c e
    refine clean_last s c ?_
    rw [hs]
    have : sch ++ 58 :: s = (sch ++ [58]) ++ s := by simp
    rw [this, List.getLast?_append] at e
    cases hl : s.getLast? with
    | none => exact absurd (List.getLast?_eq_none_iff.1 hl) hn
    | some y => rw [hl] at e; simpa using e
  · intro c hc
    simp only [List.mem_append, List.mem_cons] at hc
    rcases hc with hc | rfl | hc
    · have := h1 c hc
      cases he : isEnd c
      · rfl
      · rw [end_blank c he] at this; cases this
    · decide
    · exact clean_ends s c (by rw [hs]; exact hc)
theorem front_scheme {sch s : L} {u : Url} (h : web sch ≠ 0) (hs : clean s = s) (hn : s ≠ []) (hp : urlParse (sch ++ 58 :: s) = some u) : u.scheme = sch := by
  unfold urlParse at hp
  rw [front_clean h hs hn] at hp
  unfold parseC at hp
  rw [scheme_of (by rcases web_cases h with e | e; exact .inl e; exact .inr (.inl e))] at hp
  split at hp
  · cases hp
  · exact parseT_scheme hp
theorem two47_ne {s : L} (h : two47 s = true) : s ≠ [] ∧ 1 < s.length := by
  unfold two47 at h
  cases s with
  | nil => simp at h
  | cons x r =>
    cases r with
    | nil => simp [List.isPrefixOf] at h
    | cons y r => exact ⟨by simp, by simp⟩
/-- JoinMay. -/
theorem join_none {b : Url} {s : L} (h : resolve b s = none) : urlMay b = false ∨ whole s = true ∨ web b.scheme = 0 ∨ 1 < s.length := by
  rw [resolve_eq] at h
  cases hm : urlMay b
  · exact .inl rfl
  · cases hw : whole s
    · by_cases h0 : web b.scheme = 0
      · exact .inr (.inr (.inl h0))
      · refine .inr (.inr (.inr ?_))
        rw [hm, hw, if_neg (by simp), if_neg (by simp), if_neg h0] at h
        split at h
        · rename_i h2
          have := clean_len2 s
          have := (two47_ne h2).2
          omega
        · cases h
    · exact .inr (.inl rfl)
theorem resolve_may {b u : Url} {s : L} (h : resolve b s = some u) (hl : b.host.six.length = 8) : urlMay u = true ∧ u.host.six.length = 8 := by
  rw [resolve_eq] at h
  cases hm : urlMay b
  · rw [hm] at h; cases h
  · rw [hm, if_neg (by simp)] at h
    split at h
    · exact parse_may h
    · split at h
      · cases h
      · rename_i h0
        split at h
        · exact parse_may h
        · simp at h
          subst h
          exact ⟨beside_may hm h0 _, hl⟩
theorem join_some {b u : Url} {s : L} (h : resolve b s = some u) (hl : b.host.six.length = 8) : urlMay b = true ∧ urlMay u = true ∧ (whole s = true → urlParse s = some u ∧ ∀ c, urlMay c = true → resolve c s = some u) ∧ (whole s = false → u.scheme = b.scheme ∧ urlParse s = none) := by
  have hmay := (resolve_may h hl).1
  rw [resolve_eq] at h
  cases hm : urlMay b
  · rw [hm] at h; cases h
  · rw [hm, if_neg (by simp)] at h
    refine ⟨rfl, hmay, fun hw => ?_, fun hw => ⟨?_, parse_not hw⟩⟩
    · rw [if_pos hw] at h
      refine ⟨h, fun c hc => ?_⟩
      rw [resolve_eq, hc, if_neg (by simp), if_pos hw, h]
    · rw [hw, if_neg (by simp)] at h
      split at h
      · cases h
      · rename_i h0
        split at h
        · rename_i h2
          exact front_scheme h0 (clean_clean s) (two47_ne h2).1 h
        · simp at h
          subst h
          rfl
theorem whole_show {u : Url} (h : urlMay u = true) (hl : u.host.six.length = 8) : whole (showUrl u) = true := parse_whole (parse_show h hl)
theorem whole_nil : whole [] = false := by decide
theorem beside_nil (b : Url) : beside b [] = bare b := rfl
theorem resolve_nil {b : Url} (h : urlMay b = true) (hw : web b.scheme ≠ 0) : resolve b [] = some (bare b) := by
  rw [resolve_eq, h, if_neg (by simp), whole_nil, if_neg (by simp), if_neg hw]
  rfl
theorem resolve_show {b u : Url} (h : urlMay b = true) (hu : urlMay u = true) (hl : u.host.six.length = 8) : resolve b (showUrl u) = some u := by
  rw [resolve_eq, h, if_neg (by simp), if_pos (whole_show hu hl), parse_show hu hl]
/-- A text that begins by something that is neither blank nor a letter. -/
theorem clean_cons {c : UInt8} (hc : blank c = false) (s : L) : ∃ r, clean (c :: s) = c :: r := by
  have h1 : (c :: s).dropWhile blank = c :: s := by rw [List.dropWhile_cons, if_neg (by rw [hc]; simp)]
  have h2 : ∃ r, trim (c :: s) = c :: r := by
    unfold trim
    rw [h1, List.reverse_cons]
    have h3 : ((s.reverse ++ [c]).dropWhile blank) = s.reverse.dropWhile blank ++ [c] := by
      rw [List.dropWhile_append]
      split
      · rename_i he
        rw [List.isEmpty_iff.1 he, List.dropWhile_cons, if_neg (by rw [hc]; simp)]
        rfl
      · rfl
    rw [h3]
    exact ⟨(s.reverse.dropWhile blank).reverse, by simp⟩
  obtain ⟨r, hr⟩ := h2
  unfold clean
  rw [hr, List.filter_cons, if_pos (notEnd c hc)]
  exact ⟨_, rfl⟩
theorem whole_cons {c : UInt8} (hc : blank c = false) (ha : alpha c = false) (s : L) : whole (c :: s) = false := by
  obtain ⟨r, hr⟩ := clean_cons hc s
  unfold whole
  rw [hr]
  unfold scheme
  have : schBad (c :: r) = true := by
    unfold schBad
    by_cases h58 : c = 58
    · subst h58
      have e : cut 58 ((58 : UInt8) :: r) = ([], r, true) := by
        have := cut_hit 58 [] r (by simp)
        simpa using this
      rw [e]
      rfl
    · cases hh : has (c :: r) 58
      · have e : cut 58 (c :: r) = (c :: r, [], false) := by unfold cut; rw [hh]; rfl
        rw [e]
        rfl
      · have e : (cut 58 (c :: r)).1 = c :: r.takeWhile (· != 58) := by
          unfold cut
          rw [if_pos hh]
          dsimp only
          rw [List.takeWhile_cons, if_pos (by simpa using h58)]
        rw [e]
        simp [ha]
  rw [this]
  rfl
theorem resolve_mark {b : Url} (h : urlMay b = true) (hw : web b.scheme ≠ 0) {c : UInt8} (hc : blank c = false) (ha : alpha c = false) (s : L) (h47 : c ≠ 47) : ∃ r, clean (c :: s) = c :: r ∧ resolve b (c :: s) = some (beside b (c :: r)) := by
  obtain ⟨r, hr⟩ := clean_cons hc s
  refine ⟨r, hr, ?_⟩
  rw [resolve_eq, h, if_neg (by simp), whole_cons hc ha, if_neg (by simp), if_neg hw, hr]
  have : two47 (c :: r) = false := by unfold two47; simp [List.isPrefixOf, Ne.symm h47]
  rw [this, if_neg (by simp)]
/-- JoinSelf: a number sign. -/
theorem resolve_frag {b : Url} (h : urlMay b = true) (hw : web b.scheme ≠ 0) (f : L) : ∃ z, resolve b (35 :: f) = some z ∧ bare z = bare b ∧ z.hasFrag = true ∧ z.path = b.path := by
  obtain ⟨r, hr, e⟩ := resolve_mark h hw (c := 35) (by decide) (by decide) f (by decide)
  refine ⟨_, e, ?_⟩
  have e1 : cut 35 ((35 : UInt8) :: r) = ([], r, true) := by have := cut_hit 35 [] r (by simp); simpa using this
  have e2 : tail ((35 : UInt8) :: r) = ([], [], r, false, true) := by unfold tail; rw [e1]; rfl
  unfold beside qOn
  rw [e2]
  exact ⟨rfl, rfl, rfl⟩
/-- JoinQuery. -/
theorem resolve_query {b : Url} (h : urlMay b = true) (hw : web b.scheme ≠ 0) (q : L) : ∃ z, resolve b (63 :: q) = some z ∧ z = { bare b with query := z.query, hasQuery := true, frag := z.frag, hasFrag := z.hasFrag } := by
  obtain ⟨r, hr, e⟩ := resolve_mark h hw (c := 63) (by decide) (by decide) q (by decide)
  refine ⟨_, e, ?_⟩
  have e1 : (tail ((63 : UInt8) :: r)).1 = [] ∧ (tail ((63 : UInt8) :: r)).2.2.2.1 = true := by
    have e0 : ∃ x, (cut 35 ((63 : UInt8) :: r)).1 = 63 :: x := by
      unfold cut
      split
      · dsimp only
        rw [List.takeWhile_cons, if_pos (by decide)]
        exact ⟨_, rfl⟩
      · exact ⟨_, rfl⟩
    obtain ⟨x, hx⟩ := e0
    have e3 : cut 63 ((63 : UInt8) :: x) = ([], x, true) := by have := cut_hit 63 [] x (by simp); simpa using this
    unfold tail
    rw [hx, e3]
    exact ⟨rfl, rfl⟩
  unfold beside qOn wayP
  rw [e1.1, e1.2]
  rfl
theorem resolve_top {b : Url} (h : urlMay b = true) (hw : web b.scheme ≠ 0) : resolve b [47] = some { bare b with path := [[]], query := [], hasQuery := false } := by
  rw [resolve_eq, h, if_neg (by simp), show whole [47] = false by decide, if_neg (by simp), if_neg hw]
  rfl
/-- JoinPath. -/
theorem resolve_path {b : Url} (h : urlMay b = true) (hw : web b.scheme ≠ 0) {s : L} (hwh : whole s = false) (hs : ∀ c ∈ s, 32 < c.toNat ∧ c ≠ 63 ∧ c ≠ 35) (hn : s ≠ []) (h2 : two47 s = false) : resolve b s = some { bare b with path := if List.isPrefixOf [47] s then pathParse s else mergeP b.path s, query := [], hasQuery := false } := by
  have hb : ∀ c ∈ s, blank c = false := fun c hc => by have := (hs c hc).1; unfold blank; simp; omega
  have hc : clean s = s := clean_of (fun c e => hb c (List.mem_of_mem_head? e)) (fun c e => hb c (List.mem_of_getLast? e)) fun c hc => by
    cases he : isEnd c
    · rfl
    · have := hb c hc; rw [end_blank c he] at this; cases this
  have ht : tail s = (s, [], [], false, false) := by
    unfold tail
    rw [cut_none 35 s fun c hc => (hs c hc).2.2]
    dsimp only
    rw [cut_none 63 s fun c hc => (hs c hc).2.1]
  rw [resolve_eq, h, if_neg (by simp), hwh, if_neg (by simp), if_neg hw, hc, h2, if_neg (by simp)]
  unfold beside qOn wayP
  rw [ht, if_neg hn]
  have : (false || !s.isEmpty) = true := by cases s with
    | nil => exact absurd rfl hn
    | cons _ _ => rfl
  dsimp only
  rw [this]
  rfl
theorem door_path {b : Url} (h : urlMay b = true) (hw : web b.scheme ≠ 0) (s : L) : door (beside b s) = door b := by
  unfold door
  rw [beside_may h hw, h]
  rfl
theorem door_way {b x : Url} (h : urlMay b = true) (hx : urlMay x = true) (e1 : x.scheme = b.scheme) (e2 : x.host = b.host) (e3 : x.port = b.port) : door x = door b := by
  unfold door
  rw [h, hx, e1, e2, e3]
/-- JoinInherit. -/
theorem inherit_yes {u : Url} (h : u.hasFrag = true) (v : Url) : inherit u v = u := by unfold inherit; rw [if_pos h]
theorem inherit_no {u : Url} (h : u.hasFrag = false) (v : Url) : inherit u v = { u with frag := v.frag, hasFrag := v.hasFrag } := by unfold inherit; rw [h]; rfl
theorem inherit_bare (u v : Url) : bare (inherit u v) = bare u := by
  unfold inherit
  split <;> rfl
theorem inherit_twice {u v : Url} (h : u.hasFrag = false) (hv : v.hasFrag = true) (w : Url) : inherit (inherit u v) w = inherit u v := inherit_yes (by rw [inherit_no h]; exact hv) w
end PM
/-! Contracts: slices.Grow, slices.Concat of two lists of texts, path.Merge. -/
namespace Go.Proofs.YtppbkblnjlbnfaaGreatDoor
open Go.RowKit
def growRen : Go.Shelf.Ren := ⟨fun | 4 => 163 | n => n, fun | 22 => 25 | 25 => 9 | 20 => 20 | n => n, fun n => n⟩
theorem growLays : Go.Proofs.Lays8.n4 Tryz.prog growRen := {
  mixed := by kernel_rfl
  f4 := ⟨"slices.Grow[[]string,string]", by kernel_rfl, Tryz.func163.trans (congrArg some (by kernel_rfl))⟩
  t0 := Tryz.underlying0
  a0 := Tryz.isAgg0
  z0 := Tryz.sizeOf0
  v0 := Tryz.zeroValue0
  t3 := Tryz.underlying3
  a3 := Tryz.isAgg3
  z3 := Tryz.sizeOf3
  v3 := Tryz.zeroValue3
  t4 := Tryz.underlying4
  a4 := Tryz.isAgg4
  z4 := Tryz.sizeOf4
  v4 := Tryz.zeroValue4
  t9 := Tryz.underlying9
  a9 := Tryz.isAgg9
  z9 := Tryz.sizeOf9
  v9 := Tryz.zeroValue9
  t20 := Tryz.underlying20
  a20 := Tryz.isAgg20
  z20 := Tryz.sizeOf20
  v20 := Tryz.zeroValue20
  t22 := Tryz.underlying25
  a22 := Tryz.isAgg25
  z22 := Tryz.sizeOf25
  v22 := Tryz.zeroValue25
}
theorem Grow_c (n : Nat) (h0 : 0 < n) (hn : n * 16 ≤ 140737488355328) (w : World) : Calls Tryz.prog 163 #[.slice none 0 0, .int .i64 n] w fun e w' => ∃ v, e = .returned v ∧ w'.ownsRow w.heap.size 9 1 v 0 [] ∧ Below w.heap.size w w' := by
  obtain ⟨i0, hi, hz0, hz1, hz2⟩ := info_parts infoText
  have h := Go.Proofs.Any8.slices_Grow_grow growLays i0 (.string ⟨#[]⟩) hi hz0 (by omega) none 0 0 n [] w (Nat.le_refl _) (by omega) (by rw [hz2]; omega) (by omega) (by simp) (fun _ => rfl) (fun a ha => by cases ha)
  refine h.mono ?_
  rintro e w' ⟨rfl, rfl⟩
  refine ⟨_, rfl, ?_, b_alloc (b_drew (Below.refl _ _)) _⟩
  have hge : 0 + n ≤ grownCap w (0 + n) 0 (growRen.t 25) := grownCap_ge w _ _ _
  have hle := grownCap_le_maxLen w (0 + n) 0 (growRen.t 25) (by unfold maxLen; omega)
  obtain ⟨G, hG⟩ : ∃ G, G = grownCap w (0 + n) 0 (growRen.t 25) := ⟨_, rfl⟩
  rw [← hG] at hge hle ⊢
  refine ⟨rfl, .inr ⟨w.heap.size, G, _, rfl, Nat.le_refl _, Go.heap_alloc_new w.drew _, Nat.zero_le _, hle, ?_, rfl⟩⟩
  have hz : ∀ k, (Builtin.zeroCells (Value.string { data := #[] }).cells k).size = k := fun k => by simp [Builtin.zeroCells, Value.cells]
  rw [Array.size_append, Array.size_append, hz, hz]
  simp
  omega
/-- A list of texts at an address. -/
structure RdA (w : World) (g o : Nat) (xs : List (List UInt8)) : Prop where
  lt : g < w.heap.size
  at_ : ∀ j (h : j < xs.length), w.cell? ⟨g, o + j, none⟩ = some (.string (mkS (xs[j]'h)))
theorem RdA.below {w W : World} {g o : Nat} {xs : List (List UInt8)} (h : RdA w g o xs) (hb : Below w.heap.size w W) : RdA W g o xs := ⟨Nat.lt_of_lt_of_le h.lt hb.size, fun j hj => cell_b hb (h.at_ j hj)⟩
theorem RdA.news {w : World} {g o : Nat} {xs : List (List UInt8)} (h : RdA w g o xs) : ∀ j u, (strs xs)[j]? = some u → w.cell? ((⟨g, o, none⟩ : Addr).add j) = some u := by
  intro j u hj
  have e : (⟨g, o, none⟩ : Addr).add j = ⟨g, o + j, none⟩ := by unfold Addr.add; split <;> simp_all
  unfold strs at hj
  rw [List.getElem?_map] at hj
  obtain ⟨x, hx, rfl⟩ := Option.map_eq_some_iff.1 hj
  obtain ⟨hl, rfl⟩ := List.getElem?_eq_some_iff.1 hx
  rw [e]
  exact h.at_ j hl
theorem strs_one (xs : List (List UInt8)) : ∀ u ∈ strs xs, u.oneCell' = true := by
  intro u hu
  unfold strs at hu
  obtain ⟨x, _, rfl⟩ := List.mem_map.1 hu
  rfl
theorem strs_app (xs ys : List (List UInt8)) : strs (xs ++ ys) = strs xs ++ strs ys := by simp [strs]
set_option maxRecDepth 100000 in
set_option maxHeartbeats 4000000 in
theorem Concat_c (g g1 o1 c1 g2 o2 c2 : Nat) (xs ys : List (List UInt8)) (w : World) (hn : 0 < xs.length + ys.length) (hN : xs.length + ys.length ≤ 1000000)
    (hg : w.heap[g]? = some (.cells #[.slice (some ⟨g1, o1, none⟩) xs.length c1, .slice (some ⟨g2, o2, none⟩) ys.length c2] 25 (0, 0))) (hx : RdA w g1 o1 xs) (hy : RdA w g2 o2 ys) :
    Calls Tryz.prog 132 #[.slice (some ⟨g, 0, none⟩) 2 2] w fun e w' => ∃ v, e = .returned v ∧ w'.ownsRow w.heap.size 9 1 v (xs ++ ys).length (strs (xs ++ ys)) ∧ Below w.heap.size w w' := by
  obtain ⟨i0, hi, hz0, hz1, hz2⟩ := info_parts infoText
  have HX := Lib.hid hx
  have HY := Lib.hid hy
  have HGB := Lib.hid hg
  have HN := Lib.hid hN
  have HN0 := Lib.hid hn
  have q0 : w.cell? ⟨g, 0, none⟩ = some (.slice (some ⟨g1, o1, none⟩) xs.length c1) := by rw [Lib.cell_of_heap hg]; rfl
  have q1 : w.cell? ⟨g, 1, none⟩ = some (.slice (some ⟨g2, o2, none⟩) ys.length c2) := by rw [Lib.cell_of_heap hg]; rfl
  have hlt := h_lt hg
  clear hx hy hg
  obtain ⟨n1, hn1⟩ : ∃ n1, n1 = xs.length := ⟨_, rfl⟩
  obtain ⟨n2, hn2⟩ : ∃ n2, n2 = ys.length := ⟨_, rfl⟩
  rw [← hn1] at q0
  rw [← hn2] at q1
  rw [← hn1, ← hn2] at hn hN
  have HL1 := Lib.hid hn1
  have HL2 := Lib.hid hn2
  clear hn1 hn2
  go_enter Tryz.func132, Tryz.ntmps132
  go_wp2_with fail
  go_loopw [3, 11] (fun s i wr => wr = w ∧ ((i = .int .i64 0 ∧ s = .int .i64 0) ∨ (i = .int .i64 1 ∧ s = .int .i64 n1) ∨ (i = .int .i64 2 ∧ s = .int .i64 ((n1 + n2 : Nat) : Int)))) (fun _ i _ => 4 - (intOf i).toNat)
  case atStart => exact ⟨rfl, .inl ⟨rfl, rfl⟩⟩
  case round =>
    obtain ⟨rfl, hrel⟩ := hrel
    rcases hrel with ⟨rfl, rfl⟩ | ⟨rfl, rfl⟩ | ⟨rfl, rfl⟩
    · have h1 : ¬ ((n1 : Int) < 0) := by omega
      go_wp2
      exact ⟨⟨True.intro, .inr (.inl ⟨rfl, congrArg (Value.int .i64) (by omega)⟩)⟩, by simp only [intOf]; omega⟩
    · have h1 : ¬ ((n1 : Int) + (n2 : Int) < 0) := by omega
      go_wp2
      exact ⟨⟨True.intro, .inr (.inr ⟨rfl, congrArg (Value.int .i64) (by omega)⟩)⟩, by simp only [intOf]; omega⟩
    · go_wp2_with fail
      refine (Grow_c (n1 + n2) hn (by omega) _).mono ?_
      rintro e V1 ⟨v, rfl, hown, hb⟩
      have HO := Lib.hid hown
      have HB := Lib.hid hb
      clear hown hb q0 q1
      go_wp2_with fail
      obtain ⟨W0, hW0⟩ : ∃ W0, W0 = wr := ⟨_, rfl⟩
      subst hW0
      go_loopw [6, 27] (fun v i wq => Hid (Below W0.heap.size W0 wq) ∧ ((i = .int .i64 0 ∧ Hid (wq.ownsRow W0.heap.size 9 1 v 0 [])) ∨ (i = .int .i64 1 ∧ Hid (wq.ownsRow W0.heap.size 9 1 v n1 (strs xs))) ∨ (i = .int .i64 2 ∧ Hid (wq.ownsRow W0.heap.size 9 1 v (n1 + n2) (strs xs ++ strs ys))))) (fun _ i _ => 4 - (intOf i).toNat)
      case atStart => exact ⟨HB, .inl ⟨rfl, HO⟩⟩
      case round =>
      obtain ⟨HB, hrel⟩ := hrel
      have HGQ := Lib.hid (heap_b HB.out HGB.out)
      rcases hrel with ⟨rfl, HO⟩ | ⟨rfl, HO⟩ | ⟨rfl, HO⟩
      · have q0 : wr.cell? ⟨g, 0, none⟩ = some (.slice (some ⟨g1, o1, none⟩) n1 c1) := by rw [Lib.cell_of_heap HGQ.out]; rw [HL1.out]; rfl
        go_wp2_with (at_builtin; refine wpList_append_own_at _ rfl _ _ 25 rfl W0.heap.size 9 i0 (.string ⟨#[]⟩) 1 16 Tryz.underlying25 hi hz0 hz1 hz2 rfl (by decide) _ _ _ rfl HO.out ⟨g1, o1, none⟩ n1 c1 (strs xs) rfl (by simp [strs]; have := HL1.out; omega) ((HX.out.below HB.out).news) (strs_one _) ?c3 ?c4 ?c5 ?_)
        case c3 => unfold maxLen; omega
        case c4 => omega
        case c5 => exact HB.out.size
        intro v' w3 hown' hgrow _ hat
        have hb3 : Below W0.heap.size W0 w3 := HB.out.grown hgrow HB.out.size (fun k hk => (HO.out.lt k hk).1)
        have HO3 := Lib.hid hown'
        have HB3 := Lib.hid hb3
        clear hown' hgrow hat hb3 q0
        go_wp2
        exact ⟨⟨HB3, .inr (.inl ⟨rfl, HO3⟩)⟩, by simp only [intOf]; omega⟩
      · have q1 : wr.cell? ⟨g, 1, none⟩ = some (.slice (some ⟨g2, o2, none⟩) n2 c2) := by rw [Lib.cell_of_heap HGQ.out]; rw [HL2.out]; rfl
        go_wp2_with (at_builtin; refine wpList_append_own_at _ rfl _ _ 25 rfl W0.heap.size 9 i0 (.string ⟨#[]⟩) 1 16 Tryz.underlying25 hi hz0 hz1 hz2 rfl (by decide) _ _ _ rfl HO.out ⟨g2, o2, none⟩ n2 c2 (strs ys) rfl (by simp [strs]; have := HL2.out; omega) ((HY.out.below HB.out).news) (strs_one _) ?c3 ?c4 ?c5 ?_)
        case c3 => unfold maxLen; omega
        case c4 => omega
        case c5 => exact HB.out.size
        intro v' w3 hown' hgrow _ hat
        have hb3 : Below W0.heap.size W0 w3 := HB.out.grown hgrow HB.out.size (fun k hk => (HO.out.lt k hk).1)
        have HO3 := Lib.hid hown'
        have HB3 := Lib.hid hb3
        clear hown' hgrow hat hb3 q1
        go_wp2
        exact ⟨⟨HB3, .inr (.inr ⟨rfl, HO3⟩)⟩, by simp only [intOf]; omega⟩
      · go_wp2
        go_ret
        exact ⟨_, rfl, by rw [strs_app, List.length_append, ← HL1.out, ← HL2.out]; exact HO.out, HB.out⟩
end Go.Proofs.YtppbkblnjlbnfaaGreatDoor
/-! Contract: path.Merge. -/
namespace Go.Proofs.YtppbkblnjlbnfaaGreatDoor
open Go.RowKit
set_option maxRecDepth 100000 in
set_option maxHeartbeats 4000000 in
theorem Merge_c (xs : List (List UInt8)) (s : List UInt8) (a : Option Addr) (n c : Nat) (hx : xs ≠ []) (hM : ∀ x ∈ xs, x.length ≤ 1000000) (hN : xs.length ≤ 10000) (hs : s.length ≤ 30000) (hcap : n ≤ c) (w : World) (hR : RdS w a n xs) (hg : Gl w) :
    Calls Tryz.prog 101 #[.slice a n c, .string (mkS s)] w fun e w' => ∃ v, e = .returned v ∧ w'.ownsRow w.heap.size 9 1 v (PM.mergeP xs s).length (strs (PM.mergeP xs s)) ∧ Below w.heap.size w w' := by
  have hlen := hR.len
  obtain ⟨b, o, rfl, hlt, hat⟩ := hR.at_.resolve_left hx
  obtain ⟨ys, hys⟩ : ∃ ys, ys = xs.dropLast := ⟨_, rfl⟩
  obtain rfl : n = ys.length + 1 := by rw [hys]; have : 0 < xs.length := List.length_pos_iff.2 hx; simp; omega
  have hRA : RdA w b o ys := by subst hys; exact ⟨hlt, fun j hj => by rw [hat j (by simp at hj; omega), List.getElem_dropLast]⟩
  have HRA := Lib.hid hRA
  obtain ⟨ps, hps⟩ : ∃ ps, ps = PM.pathSplit s := ⟨_, rfl⟩
  have hyM : ∀ x ∈ ys, x.length ≤ 1000000 := by subst hys; exact fun x hx => hM x (List.dropLast_subset _ hx)
  have hyN : ys.length ≤ 9999 := by omega
  have hsp := pathSplit_len s
  have hsp0 := List.length_pos_iff.2 (PM.split_segs s).1
  have hPS := fun W h => PathSplit_c s (by omega) W h
  rw [← hps] at hsp hsp0 hPS
  have HMP : Hid (PM.mergeP xs s = PM.norm (ys ++ ps)) := Lib.hid (by rw [hys, hps]; rfl)
  have HYM : Hid (∀ x ∈ ys ++ ps, x.length ≤ 1000000000) := Lib.hid (fun x hx => by rcases List.mem_append.1 hx with h | h; have := hyM x h; omega; have := hsp.2 x h; omega)
  have HPN : Hid (ps.length ≤ 90001) := Lib.hid (by have := hsp.1; omega)
  have HP0 := Lib.hid hsp0
  have HPS := Lib.hid hPS
  have HG := Lib.hid hg
  have HB : Hid (Below w.heap.size w w) := Lib.hid (Below.refl _ _)
  clear hat hRA hM hg hsp hsp0 hx hR hyM hPS hys hps hlen hN
  have hw64 : IntKind.i64.wrap (ys.length : Int) = ys.length := by rw [IntKind.wrap_i64]; omega
  have hm0 : max (0 : Int) (ys.length : Int) = ys.length := by omega
  have hm00 : (0 : Int) ≤ ys.length := by omega
  have hmc : (ys.length : Int) ≤ c := by omega
  go_enter Tryz.func101, Tryz.ntmps101
  go_wp2_with fail
  refine wp_region_noPanic ?_
  refine wp_region_held_drew (S := fun W' => Below w.heap.size w W') (by kernel_rfl) (b_drew (Below.refl _ _)) (fun hS0 => ?_)
  refine wpAnyH_take (i := 0) (v := ?_) rfl (by kernel_rfl) (by kernel_rfl) (by kernel_rfl) (fun _ _ _ h => h) (Or.inl ⟨by kernel_rfl, fun W hW => ?_⟩) (by assumption) ?_
  rotate_left
  · go_simp
    try with_reducible rfl
  (try simp only [List.getElem_toArray, List.getElem_cons_zero, List.getElem_cons_succ, Act.put, List.setIfInBounds_toArray, List.set_cons_zero, List.set_cons_succ])
  refine wpAnyH_take (i := 1) (v := ?_) rfl (by kernel_rfl) (by kernel_rfl) (by kernel_rfl) (fun _ _ _ h => h) (Or.inl ⟨by kernel_rfl, fun W hW => ?_⟩) (by assumption) ?_
  rotate_left
  · go_simp
    try with_reducible rfl
  (try simp only [List.getElem_toArray, List.getElem_cons_zero, List.getElem_cons_succ, Act.put, List.setIfInBounds_toArray, List.set_cons_zero, List.set_cons_succ])
  refine wpAnyH_take (i := 2) (v := ?_) rfl (by kernel_rfl) (by kernel_rfl) (by kernel_rfl) (fun _ _ _ h => h) (Or.inl ⟨by kernel_rfl, fun W hW => ?_⟩) (by assumption) ?_
  rotate_left
  · go_simp
    try with_reducible rfl
  (try simp only [List.getElem_toArray, List.getElem_cons_zero, List.getElem_cons_succ, Act.put, List.setIfInBounds_toArray, List.set_cons_zero, List.set_cons_succ])
  refine wpAnyH_take (i := 3) (v := ?_) rfl (by kernel_rfl) (by kernel_rfl) (by kernel_rfl) (fun _ _ _ h => h) (Or.inl ⟨by kernel_rfl, fun W hW => ?_⟩) (by assumption) ?_
  rotate_left
  · go_simp
    try with_reducible rfl
  (try simp only [List.getElem_toArray, List.getElem_cons_zero, List.getElem_cons_succ, Act.put, List.setIfInBounds_toArray, List.set_cons_zero, List.set_cons_succ])
  refine wpAnyH_take (i := 4) (v := ?_) rfl (by kernel_rfl) (by kernel_rfl) (by kernel_rfl) (fun _ _ _ h => h) (Or.inl ⟨by kernel_rfl, fun W hW => ?_⟩) (by assumption) ?_
  rotate_left
  · go_simp
    try with_reducible rfl
  (try simp only [List.getElem_toArray, List.getElem_cons_zero, List.getElem_cons_succ, Act.put, List.setIfInBounds_toArray, List.set_cons_zero, List.set_cons_succ])
  refine wpAnyH_take (i := 5) (v := ?_) rfl (by kernel_rfl) (by kernel_rfl) (by kernel_rfl) (fun _ _ _ h => h) (Or.inl ⟨by kernel_rfl, fun W hW => ?_⟩) (by assumption) ?_
  rotate_left
  · go_simp
    try with_reducible rfl
  (try simp only [List.getElem_toArray, List.getElem_cons_zero, List.getElem_cons_succ, Act.put, List.setIfInBounds_toArray, List.set_cons_zero, List.set_cons_succ])
  refine wpAnyH_take (i := 6) (v := ?_) rfl (by kernel_rfl) (by kernel_rfl) (by kernel_rfl) (fun _ _ _ h => h) (Or.inl ⟨by kernel_rfl, fun W hW => ?_⟩) (by assumption) ?_
  rotate_left
  · go_simp
    try with_reducible rfl
  (try simp only [List.getElem_toArray, List.getElem_cons_zero, List.getElem_cons_succ, Act.put, List.setIfInBounds_toArray, List.set_cons_zero, List.set_cons_succ])
  refine wpAnyH_ready (rs := [7]) (by kernel_rfl) (by simp) ?_
  refine AllReadyH.cons rfl (fun K hK => ?_) AllReadyH.nil
  go_simp
  refine (HPS.out _ (HG.out.below hS0)).mono ?_
  rintro e U1 ⟨B, rfl, hB, hb, hRS⟩
  have hSn := b_then hS0 hb
  clear hb hS0
  have HRS := Lib.hid hRS
  have HBW : Hid (w.heap.size ≤ B) := Lib.hid hB
  clear hRS hB
  refine hK.out _ _ hSn (fun _ => ?_)
  clear hK K
  (try simp only [List.getElem_toArray, List.getElem_cons_zero, List.getElem_cons_succ, Act.put, List.setIfInBounds_toArray, List.set_cons_zero, List.set_cons_succ])
  refine wpAnyH_ready (rs := [8]) (by kernel_rfl) (by simp) ?_
  refine AllReadyH.cons rfl (fun K hK => ?_) AllReadyH.nil
  go_simp
  have hg2 := Go.heap_alloc_new U1 (.cells #[.slice (some ⟨b, o, none⟩) ys.length c, .slice (some ⟨B, 0, none⟩) ps.length ps.length] 25)
  have hSa : Below w.heap.size w (U1.alloc (.cells #[.slice (some ⟨b, o, none⟩) ys.length c, .slice (some ⟨B, 0, none⟩) ps.length ps.length] 25)) := b_alloc hSn _
  have hx2 := HRA.out.below hSa
  have hy2 : RdA (U1.alloc (.cells #[.slice (some ⟨b, o, none⟩) ys.length c, .slice (some ⟨B, 0, none⟩) ps.length ps.length] 25)) B 0 ps := by
    obtain ⟨b', o', e, hl, hc⟩ := (HRS.out.below (b_alloc (Below.refl _ _) _)).at_.resolve_left (List.length_pos_iff.1 HP0.out)
    cases e
    exact ⟨hl, hc⟩
  have HG2 : Hid ((U1.alloc (.cells #[.slice (some ⟨b, o, none⟩) ys.length c, .slice (some ⟨B, 0, none⟩) ps.length ps.length] 25)).heap[U1.heap.size]? = some (.cells #[.slice (some ⟨b, o, none⟩) ys.length c, .slice (some ⟨B, 0, none⟩) ps.length ps.length] 25 (0, 0))) := Lib.hid hg2
  have HX2 := Lib.hid hx2
  have HY2 := Lib.hid hy2
  clear hg2 hx2 hy2 hSn
  refine hK.out _ _ hSa (fun _ => ?_)
  clear hK K
  (try simp only [List.getElem_toArray, List.getElem_cons_zero, List.getElem_cons_succ, Act.put, List.setIfInBounds_toArray, List.set_cons_zero, List.set_cons_succ])
  refine wpAnyH_ready (rs := [9]) (by kernel_rfl) (by simp) ?_
  refine AllReadyH.cons rfl (fun K hK => ?_) AllReadyH.nil
  go_simp
  refine (Concat_c U1.heap.size b o c B 0 ps.length ys ps _ (by have := HP0.out; omega) (by have := HPN.out; omega) HG2.out HX2.out HY2.out).mono ?_
  rintro e U2 ⟨v2, rfl, hown, hb⟩
  obtain ⟨a2, c2, rfl, hR2, -⟩ := own_rdS hown rfl (by have := HPN.out; simp; omega)
  have hR3 : RdS U2 a2 (ys.length + ps.length) (ys ++ ps) := by rw [← List.length_append]; exact hR2
  have HR2 := Lib.hid hR3
  have hSn := b_then hSa hb
  clear hown hR2 hR3 hb
  refine hK.out _ _ hSn (fun _ => ?_)
  clear hK K
  (try simp only [List.getElem_toArray, List.getElem_cons_zero, List.getElem_cons_succ, Act.put, List.setIfInBounds_toArray, List.set_cons_zero, List.set_cons_succ])
  refine wpAnyH_ready (rs := [10]) (by kernel_rfl) (by simp) ?_
  refine AllReadyH.cons rfl (fun K hK => ?_) AllReadyH.nil
  go_simp
  refine (Norm_c (ys ++ ps) HYM.out (by have := HPN.out; simp; omega) _ _ _ _ HR2.out).mono ?_
  rintro e U3 ⟨v3, rfl, hown, hb⟩
  have hS3 := b_then hSn hb
  have HO3 := Lib.hid hown
  have HBB : Hid (w.heap.size ≤ U2.heap.size) := Lib.hid hSn.size
  clear hown hb
  refine hK.out _ _ hS3 (fun _ => ?_)
  clear hK K
  (try simp only [List.getElem_toArray, List.getElem_cons_zero, List.getElem_cons_succ, Act.put, List.setIfInBounds_toArray, List.set_cons_zero, List.set_cons_succ])
  refine wpAnyH_take (i := 11) (v := ?_) rfl (by kernel_rfl) (by kernel_rfl) (by kernel_rfl) (fun _ _ _ h => h) (Or.inl ⟨by kernel_rfl, fun W hW => ?_⟩) (by assumption) ?_
  rotate_left
  · go_simp
    try with_reducible rfl
  (try simp only [List.getElem_toArray, List.getElem_cons_zero, List.getElem_cons_succ, Act.put, List.setIfInBounds_toArray, List.set_cons_zero, List.set_cons_succ])
  refine wpAnyH_done (by kernel_rfl) ?_ _
  refine NoPanic.normal ?_
  go_wp2
  go_ret
  exact ⟨v3, rfl, by rw [HMP.out]; exact ownsRow_mono HO3.out HBB.out, hS3⟩
end Go.Proofs.YtppbkblnjlbnfaaGreatDoor
/-! Contracts: join's work. -/
namespace Go.Proofs.YtppbkblnjlbnfaaGreatDoor
open Go.RowKit
/-- An address that is worked at, and what is told. -/
structure XV where
  u : UV
  t : List UInt8
  y : List UInt8
  z : List UInt8
  q : Bool
  f : Bool
def XV.cells (x : XV) : Array Value := #[.string (mkS x.u.sc), .string (mkS x.u.us), .string (mkS x.u.pa), .int .i64 x.u.k, .string (mkS x.u.n), .int .i64 x.u.m, .int .i64 x.u.s0, .int .i64 x.u.s1, .int .i64 x.u.s2, .int .i64 x.u.s3, .int .i64 x.u.s4, .int .i64 x.u.s5, .int .i64 x.u.s6, .int .i64 x.u.s7, .int .i64 x.u.port, .slice x.u.a x.u.pn x.u.pc, .string (mkS x.u.op), .string (mkS x.u.qu), .string (mkS x.u.fr), .bool x.u.hq, .bool x.u.hf, .string (mkS x.t), .string (mkS x.y), .string (mkS x.z), .bool x.q, .bool x.f]
/-- Where the path lies: not in block b, and it has room. -/
structure Off (b : Nat) (u : UV) : Prop where
  off : ∀ g o, u.a = some ⟨g, o, none⟩ → u.xs ≠ [] → g ≠ b
  cap : u.pn ≤ u.pc
/-- The work lies at block b. -/
structure XAt (b : Nat) (x : XV) (W : World) : Prop where
  at_ : W.heap[b]? = some (.cells x.cells 102 (0, 0))
  ok : x.u.Ok W
  of : Off b x.u
theorem XAt.below {b : Nat} {x : XV} {W W' : World} (h : XAt b x W) (hb : Below W.heap.size W W') : XAt b x W' := ⟨heap_b hb h.at_, h.ok.below hb, h.of⟩
/-- A store into block b leaves a path that lies elsewhere. -/
theorem Ok_set {u : UV} {b : Nat} {W : World} (h : u.Ok W) (hf : ∀ g o, u.a = some ⟨g, o, none⟩ → u.xs ≠ [] → g ≠ b) (k : Nat) (v : Value) : u.Ok (W.setCell ⟨b, k, none⟩ v) :=
  ⟨h.sc, h.us, h.pa, h.n, h.op, h.qu, h.fr, h.xn, h.xl, h.rd.frame (by simp [World.setCell]) fun g o e hx => heap_set_other rfl _ _ _ (fun e2 => hf g o e hx e2.symm)⟩
def wayV (u : UV) (a : Option Addr) (n c : Nat) (l : List (List UInt8)) : UV := { u with a := a, pn := n, pc := c, xs := l }
theorem own_cap {W : World} {B : Nat} {v : Value} {n : Nat} {xs : List (List UInt8)} (h : W.ownsRow B 9 1 v n (strs xs)) (hn : xs.length = n) (hs : n * 16 ≤ 140737488355328) : ∃ a c, v = .slice a n c ∧ RdS W a n xs ∧ From B a xs ∧ n ≤ c := by
  obtain ⟨a, c, e, h1, h2⟩ := own_rdS h hn hs
  refine ⟨a, c, e, h1, h2, ?_⟩
  rcases h.2 with ⟨rfl, rfl⟩ | ⟨g, cap, cur, rfl, _, _, hc, _⟩
  · exact Nat.zero_le _
  · cases e
    exact hc
/-- All other blocks are as they were. -/
def Kp (b : Nat) (W W' : World) : Prop := ∀ g o, g ≠ b → W.heap[g]? = some o → W'.heap[g]? = some o
/-- What way leaves. -/
def WayR (b : Nat) (x : XV) (W : World) (e : Ending) (w' : World) : Prop := e = .returned (.tuple #[]) ∧ ∃ u : UV, XAt b { x with u := u } w' ∧ u.pm = { x.u.pm with path := PM.wayP x.u.pm.path x.t } ∧ (Below b W w' ∧ Kp b W w' ∧ ∀ B, B ≤ W.heap.size → From B x.u.a x.u.xs → From B u.a u.xs)
theorem HasP1_c (s : List UInt8) (w : World) : Calls Tryz.prog 72 #[.string (mkS s), .string ⟨#[47]⟩] w fun e w' => e = .returned (.bool (List.isPrefixOf [47] s)) ∧ w' = w := by
  have h := Tryz.strings_HasPrefix (mkS s) (mkS [47]) w
  rw [mkS_data, mkS_data] at h
  exact h
theorem HasP2_c (s : List UInt8) (w : World) : Calls Tryz.prog 72 #[.string (mkS s), .string ⟨#[47, 47]⟩] w fun e w' => e = .returned (.bool (PM.two47 s)) ∧ w' = w := by
  have h := Tryz.strings_HasPrefix (mkS s) (mkS [47, 47]) w
  rw [mkS_data, mkS_data] at h
  exact h
theorem step_mem (out : List (List UInt8)) (s : List UInt8) (last : Bool) (x : List UInt8) (h : x ∈ PM.normStep out s last) : x ∈ out ∨ x = [] ∨ x = s := by
  unfold PM.normStep at h
  split at h
  · rcases List.mem_append.1 h with h | h
    · exact .inl h
    · exact .inr (.inr (by simpa using h))
  · rcases List.mem_append.1 h with h | h
    · split at h
      · exact .inl (List.dropLast_subset _ h)
      · exact .inl h
    · cases last
      · simp at h
      · exact .inr (.inl (by simpa using h))
theorem norm_mem (l : List (List UInt8)) : ∀ out x, x ∈ PM.normGo out l → x ∈ out ∨ x = [] ∨ x ∈ l := by
  induction l with
  | nil => intro out x h; exact .inl h
  | cons s r ih =>
    intro out x h
    cases r with
    | nil =>
      rcases step_mem out s true x h with h | h | h
      · exact .inl h
      · exact .inr (.inl h)
      · exact .inr (.inr (by simp [h]))
    | cons t r =>
      rcases ih _ x h with h | h | h
      · rcases step_mem out s false x h with h | h | h
        · exact .inl h
        · exact .inr (.inl h)
        · exact .inr (.inr (by simp [h]))
      · exact .inr (.inl h)
      · exact .inr (.inr (by simp only [List.mem_cons] at h ⊢; exact .inr h))
theorem parse_sizes (s : List UInt8) (hs : s.length ≤ 3000) : (PM.pathParse s).length ≤ 9001 ∧ ∀ x ∈ PM.pathParse s, x.length ≤ 1000000 := by
  have h := pathSplit_len s
  have hc := normGo_cnt (PM.pathSplit s) []
  refine ⟨by have : (PM.pathParse s).length ≤ 0 + (PM.pathSplit s).length := hc; omega, fun x hx => ?_⟩
  rcases norm_mem _ _ x hx with h1 | h1 | h1
  · simp at h1
  · rw [h1]; simp
  · have := h.2 x h1; omega
theorem merge_sizes (xs : List (List UInt8)) (s : List UInt8) (hs : s.length ≤ 3000) (hn : xs.length ≤ 900) (hx : ∀ x ∈ xs, x.length ≤ 1000000) : (PM.mergeP xs s).length ≤ 10000 ∧ ∀ x ∈ PM.mergeP xs s, x.length ≤ 1000000 := by
  have h := pathSplit_len s
  have hc := normGo_cnt (xs.dropLast ++ PM.pathSplit s) []
  refine ⟨by have : (PM.mergeP xs s).length ≤ 0 + (xs.dropLast ++ PM.pathSplit s).length := hc; simp at this; omega, fun x hx2 => ?_⟩
  rcases norm_mem _ _ x hx2 with h1 | h1 | h1
  · simp at h1
  · rw [h1]; simp
  · rcases List.mem_append.1 h1 with h1 | h1
    · exact hx x (List.dropLast_subset _ h1)
    · have := h.2 x h1; omega
/-- A new path is stored. -/
theorem way_store {b : Nat} {x : XV} {V W : World} (hx : XAt b x V) (hb : Below V.heap.size V W) (a : Option Addr) (n c : Nat) (l : List (List UInt8)) (hr : RdS W a n l) (hf : From V.heap.size a l) (hc : n ≤ c) (hl : l.length ≤ 10000 ∧ ∀ s ∈ l, s.length ≤ 1000000) :
    XAt b { x with u := wayV x.u a n c l } (W.setCell ⟨b, 15, none⟩ (.slice a n c)) ∧ (Below b V (W.setCell ⟨b, 15, none⟩ (.slice a n c)) ∧ Kp b V (W.setCell ⟨b, 15, none⟩ (.slice a n c)) ∧ ∀ B, B ≤ V.heap.size → From B x.u.a x.u.xs → From B a l) := by
  have hlt := h_lt hx.at_
  refine ⟨⟨setCell_heap (heap_b hb hx.at_) 15 _, ?_, ⟨fun g o e hxs => ?_, hc⟩⟩, (hb.mono (Nat.le_of_lt hlt)).setCell (p := ⟨b, 15, none⟩) (Nat.le_refl _) _, (fun g o hg h => heap_set_other (heap_b hb h) _ _ _ hg.symm), fun B hB _ g o e hx => Nat.le_trans hB (hf g o e hx)⟩
  · have h := hx.ok
    exact ⟨h.sc, h.us, h.pa, h.n, h.op, h.qu, h.fr, hl.1, hl.2, hr.frame (by simp [World.setCell]) fun g o e hxs => heap_set_other rfl _ _ _ (fun e2 => by have := hf g o e hxs; omega)⟩
  · have := hf g o e hxs
    omega
set_option maxRecDepth 100000 in
set_option maxHeartbeats 4000000 in
theorem way_c (b : Nat) (x : XV) (W : World) (hx : XAt b x W) (hxs : x.u.xs ≠ []) (ht : x.t.length ≤ 3000) (hN : x.u.xs.length ≤ 900) (hg : Gl W) : Calls Tryz.prog 73 #[.pointer (some ⟨b, 0, none⟩)] W fun e w' => WayR b x W e w' := by
  have HX := Lib.hid hx
  have HG := Lib.hid hg
  have HT := Lib.hid ht
  have HXS := Lib.hid hxs
  have HN := Lib.hid hN
  clear hg hx hxs hN ht
  have hb0 : b < W.heap.size := h_lt HX.out.at_
  have c21 : W.cell? ⟨b, 21, none⟩ = some (.string (mkS x.t)) := by rw [Lib.cell_of_heap HX.out.at_]; rfl
  have c15 : W.cell? ⟨b, 15, none⟩ = some (.slice x.u.a x.u.pn x.u.pc) := by rw [Lib.cell_of_heap HX.out.at_]; rfl
  have f15 := Lib.frozen_of_heap HX.out.at_ 15
  go_enter Tryz.func73, Tryz.ntmps73
  cases hE : (x.t == [])
  rotate_left
  · have he : x.t = [] := by simpa using hE
    have HE := Lib.hid he
    clear he
    go_wp2
    go_end0
    exact ⟨rfl, x.u, HX.out, by rw [HE.out]; rfl, Below.refl _ _, (fun _ _ _ h => h), fun _ _ h => h⟩
  have hne : x.t ≠ [] := by simpa using hE
  have HNE := Lib.hid hne
  clear hne
  obtain ⟨p, hp⟩ : ∃ p, List.isPrefixOf [47] x.t = p := ⟨_, rfl⟩
  have HP := Lib.hid hp
  clear hp
  go_wp2_with fail
  refine (HasP1_c x.t _).mono ?_
  rw [HP.out]
  rintro e V1 ⟨rfl, rfl⟩
  cases p
  rotate_left
  · clear c15 f15
    go_wp2_with fail
    refine (PathParse_c x.t (Nat.le_trans HT.out (by decide)) _ HG.out).mono ?_
    rintro e V2 ⟨v, rfl, hown, hb⟩
    obtain ⟨a, c, rfl, hr, hf, hcap⟩ := own_cap hown rfl (by have := (parse_sizes x.t HT.out).1; omega)
    have hw := way_store HX.out hb a _ c _ hr hf hcap ⟨Nat.le_trans (parse_sizes x.t HT.out).1 (by decide), (parse_sizes x.t HT.out).2⟩
    have hat := heap_b hb HX.out.at_
    have c15 : V2.cell? ⟨b, 15, none⟩ = some (.slice x.u.a x.u.pn x.u.pc) := by rw [Lib.cell_of_heap hat]; rfl
    have f15 := Lib.frozen_of_heap hat 15
    have HW := Lib.hid hw
    clear hown hr hf hcap hw hat hb c21
    go_wp2
    go_end0
    exact ⟨rfl, _, HW.out.1, by unfold PM.wayP; rw [if_neg HNE.out, if_pos HP.out]; rfl, HW.out.2⟩
  go_wp2_with fail
  go_region_law (go_simp; go_at_call 101; refine (Merge_c x.u.xs x.t x.u.a x.u.pn x.u.pc HXS.out HX.out.ok.xl (Nat.le_trans HN.out (by decide)) (Nat.le_trans HT.out (by decide)) HX.out.of.cap _ (HX.out.ok.rd.below (b_drew (Below.refl _ _))) (HG.out.below (b_drew (Below.refl _ _)))).mono ?_; rintro e V2 ⟨v, rfl, hown, hb⟩; obtain ⟨a, c, rfl, hr, hf, hcap⟩ := own_cap hown rfl (by have := (merge_sizes x.u.xs x.t HT.out HN.out HX.out.ok.xl).1; omega); have hb1 : Below V1.heap.size V1 V2 := b_then (b_drew (Below.refl _ _)) hb; have hw := way_store HX.out hb1 a _ c _ hr hf hcap (merge_sizes x.u.xs x.t HT.out HN.out HX.out.ok.xl); have hat := heap_b hb1 HX.out.at_; have c15b : V2.cell? ⟨b, 15, none⟩ = some (.slice x.u.a x.u.pn x.u.pc) := (Lib.cell_of_heap hat 15).trans rfl; have f15b := Lib.frozen_of_heap hat 15; have HW := Lib.hid hw; clear hown hr hf hcap hw hat hb hb1)
  all_goals (try go_wp2)
  all_goals go_end0
  all_goals exact ⟨rfl, _, HW.out.1, by unfold PM.wayP; rw [if_neg HNE.out, if_neg (by rw [HP.out]; simp)]; rfl, HW.out.2⟩
def tailV (x : XV) : UV := { x.u with qu := if x.q || !x.t.isEmpty then PM.encode 2 x.y else x.u.qu, hq := if x.q || !x.t.isEmpty then x.q else x.u.hq, fr := PM.encode 1 x.z, hf := x.f }
def midV (x : XV) : UV := { x.u with qu := PM.encode 2 x.y, hq := x.q }
def endV (x : XV) : UV := { x.u with fr := PM.encode 1 x.z, hf := x.f }
/-- Two cells are stored. -/
theorem tail_store {b : Nat} {x : XV} {V W : World} (hx : XAt b x V) (hb : Below V.heap.size V W) (u : UV) (i j : Nat) (v1 v2 : Value) (hu : ((x.cells.setIfInBounds i v1).setIfInBounds j v2) = ({ x with u := u } : XV).cells) (ha : u.a = x.u.a) (hn : u.pn = x.u.pn) (hc : u.pc = x.u.pc) (hx2 : u.xs = x.u.xs) (hs : u.sc = x.u.sc ∧ u.us = x.u.us ∧ u.pa = x.u.pa ∧ u.n = x.u.n ∧ u.op = x.u.op) (hq : u.qu.length ≤ 1000000) (hf : u.fr.length ≤ 1000000) :
    XAt b { x with u := u } ((W.setCell ⟨b, i, none⟩ v1).setCell ⟨b, j, none⟩ v2) ∧ (Below b V ((W.setCell ⟨b, i, none⟩ v1).setCell ⟨b, j, none⟩ v2) ∧ Kp b V ((W.setCell ⟨b, i, none⟩ v1).setCell ⟨b, j, none⟩ v2)) := by
  have hlt := h_lt hx.at_
  obtain ⟨s1, s2, s3, s4, s5⟩ := hs
  have hok := Ok_set (Ok_set (hx.ok.below hb) hx.of.off i v1) hx.of.off j v2
  refine ⟨⟨?_, ⟨by rw [s1]; exact hok.sc, by rw [s2]; exact hok.us, by rw [s3]; exact hok.pa, by rw [s4]; exact hok.n, by rw [s5]; exact hok.op, hq, hf, by rw [hx2]; exact hok.xn, by rw [hx2]; exact hok.xl, by rw [ha, hn, hx2]; exact hok.rd⟩, ⟨by show ∀ g o, u.a = _ → u.xs ≠ [] → _; rw [ha, hx2]; exact hx.of.off, by show u.pn ≤ u.pc; rw [hn, hc]; exact hx.of.cap⟩⟩, ?_, fun g o hg h => heap_set_other (heap_set_other (heap_b hb h) _ _ _ hg.symm) _ _ _ hg.symm⟩
  · rw [← hu]
    exact setCell_heap (setCell_heap (heap_b hb hx.at_) i v1) j v2
  · exact ((hb.mono (Nat.le_of_lt hlt)).setCell (p := ⟨b, i, none⟩) (Nat.le_refl _) _).setCell (p := ⟨b, j, none⟩) (Nat.le_refl _) _
def TailR (b : Nat) (x : XV) (W : World) (e : Ending) (w' : World) : Prop := e = .returned (.tuple #[]) ∧ XAt b { x with u := tailV x } w' ∧ (Below b W w' ∧ Kp b W w')
theorem tail_done {b : Nat} {u : UV} {t y z : List UInt8} {q f : Bool} {W : World} (h : XAt b { (⟨(if q || !t.isEmpty then midV ⟨u, t, y, z, q, f⟩ else u), t, y, z, q, f⟩ : XV) with u := endV ⟨(if q || !t.isEmpty then midV ⟨u, t, y, z, q, f⟩ else u), t, y, z, q, f⟩ } W) : XAt b { (⟨u, t, y, z, q, f⟩ : XV) with u := tailV ⟨u, t, y, z, q, f⟩ } W := by
  have e : endV ⟨(if q || !t.isEmpty then midV ⟨u, t, y, z, q, f⟩ else u), t, y, z, q, f⟩ = tailV ⟨u, t, y, z, q, f⟩ := by
    unfold endV tailV midV
    dsimp only
    cases (q || !t.isEmpty) <;> rfl
  rw [← e]
  exact h
set_option maxRecDepth 100000 in
set_option maxHeartbeats 4000000 in
theorem tail_c (b : Nat) (u : UV) (t y z : List UInt8) (q f : Bool) (W : World) (hx : XAt b ⟨u, t, y, z, q, f⟩ W) (hy : y.length ≤ 3000) (hz : z.length ≤ 3000) : Calls Tryz.prog 74 #[.pointer (some ⟨b, 0, none⟩)] W fun e w' => TailR b ⟨u, t, y, z, q, f⟩ W e w' := by
  have HX := Lib.hid hx
  have HEY : Hid (∀ W, Calls Tryz.prog 102 #[.string (mkS y), .int .i64 2] W fun e w' => e = .returned (.string (mkS (PM.encode 2 y))) ∧ Below W.heap.size W w') := Lib.hid fun W => Encode_c y 2 (by simp) W (by omega)
  have HEZ : Hid (∀ W, Calls Tryz.prog 102 #[.string (mkS z), .int .i64 1] W fun e w' => e = .returned (.string (mkS (PM.encode 1 z))) ∧ Below W.heap.size W w') := Lib.hid fun W => Encode_c z 1 (by simp) W (by omega)
  have hley : (PM.encode 2 y).length ≤ 1000000 := Nat.le_trans (PM.encode_len 2 y) (by omega)
  have hlez : (PM.encode 1 z).length ≤ 1000000 := Nat.le_trans (PM.encode_len 1 z) (by omega)
  have HLY := Lib.hid hley
  have HLZ := Lib.hid hlez
  clear hx hy hz hley hlez
  go_enter Tryz.func74, Tryz.ntmps74
  have hb0 : b < W.heap.size := h_lt HX.out.at_
  cases q
  rotate_left
  · have c21 : W.cell? ⟨b, 21, none⟩ = some (.string (mkS t)) := (Lib.cell_of_heap HX.out.at_ 21).trans rfl
    have c22 : W.cell? ⟨b, 22, none⟩ = some (.string (mkS y)) := (Lib.cell_of_heap HX.out.at_ 22).trans rfl
    have c24 : W.cell? ⟨b, 24, none⟩ = some (.bool true) := (Lib.cell_of_heap HX.out.at_ 24).trans rfl
    have c17 : W.cell? ⟨b, 17, none⟩ = some (.string (mkS u.qu)) := (Lib.cell_of_heap HX.out.at_ 17).trans rfl
    have c19 : W.cell? ⟨b, 19, none⟩ = some (.bool u.hq) := (Lib.cell_of_heap HX.out.at_ 19).trans rfl
    go_wp2_with fail
    go_cut [] (fun wr => ∃ W9 : World, W9 = wr ∧ Hid (XAt b ⟨midV ⟨u, t, y, z, true, f⟩, t, y, z, true, f⟩ wr) ∧ Hid (Below b W wr ∧ Kp b W wr))
    case first =>
      go_region_law (go_simp; go_at_call 102; refine (HEY.out _).mono ?_; rintro e w2 ⟨rfl, hb⟩; have hb1 : Below W.heap.size W w2 := b_then (b_drew (Below.refl _ _)) hb; have hat := heap_b hb1 HX.out.at_; have d17 : w2.cell? ⟨b, 17, none⟩ = some (.string (mkS u.qu)) := (Lib.cell_of_heap hat 17).trans rfl; have e17 := Lib.frozen_of_heap hat 17; have d19 : w2.cell? ⟨b, 19, none⟩ = some (.bool u.hq) := (Lib.cell_of_heap hat 19).trans rfl; have e19 := Lib.frozen_of_heap hat 19; have d24 : w2.cell? ⟨b, 24, none⟩ = some (.bool true) := (Lib.cell_of_heap hat 24).trans rfl; have e24 := Lib.frozen_of_heap hat 24; have HW := Lib.hid (tail_store HX.out hb1 (midV ⟨u, t, y, z, true, f⟩) 17 19 (.string (mkS (PM.encode 2 y))) (.bool true) rfl rfl rfl rfl rfl ⟨rfl, rfl, rfl, rfl, rfl⟩ HLY.out HX.out.ok.fr); clear hat hb hb1)
      all_goals (try go_wp2)
      all_goals (go_meet; exact ⟨_, rfl, Lib.hid HW.out.1, Lib.hid HW.out.2⟩)
    case rest =>
      obtain ⟨W9, rfl, HX9, HB9⟩ := hcut
      clear HEY HX hb0 c21 c22 c24 c17 c19
      have hlt : b < W9.heap.size := h_lt HX9.out.at_
      have k23 : W9.cell? ⟨b, 23, none⟩ = some (.string (mkS z)) := (Lib.cell_of_heap HX9.out.at_ 23).trans rfl
      have k25 : W9.cell? ⟨b, 25, none⟩ = some (.bool f) := (Lib.cell_of_heap HX9.out.at_ 25).trans rfl
      have k18 : W9.cell? ⟨b, 18, none⟩ = some (.string (mkS (midV ⟨u, t, y, z, true, f⟩).fr)) := (Lib.cell_of_heap HX9.out.at_ 18).trans rfl
      have k20 : W9.cell? ⟨b, 20, none⟩ = some (.bool (midV ⟨u, t, y, z, true, f⟩).hf) := (Lib.cell_of_heap HX9.out.at_ 20).trans rfl
      go_wp2_with fail
      go_region_law (go_simp; go_at_call 102; refine (HEZ.out _).mono ?_; rintro e w3 ⟨rfl, hb⟩; have hb1 : Below W9.heap.size W9 w3 := b_then (b_drew (Below.refl _ _)) hb; have hat := heap_b hb1 HX9.out.at_; have d18 : w3.cell? ⟨b, 18, none⟩ = some (.string (mkS (midV ⟨u, t, y, z, true, f⟩).fr)) := (Lib.cell_of_heap hat 18).trans rfl; have e18 := Lib.frozen_of_heap hat 18; have d20 : w3.cell? ⟨b, 20, none⟩ = some (.bool (midV ⟨u, t, y, z, true, f⟩).hf) := (Lib.cell_of_heap hat 20).trans rfl; have e20 := Lib.frozen_of_heap hat 20; have d25 : w3.cell? ⟨b, 25, none⟩ = some (.bool f) := (Lib.cell_of_heap hat 25).trans rfl; have e25 := Lib.frozen_of_heap hat 25; have HW := Lib.hid (tail_store HX9.out hb1 (endV ⟨midV ⟨u, t, y, z, true, f⟩, t, y, z, true, f⟩) 18 20 (.string (mkS (PM.encode 1 z))) (.bool f) rfl rfl rfl rfl rfl ⟨rfl, rfl, rfl, rfl, rfl⟩ HX9.out.ok.qu HLZ.out); clear hat hb hb1)
      all_goals (try go_wp2)
      all_goals go_end0
      all_goals exact ⟨rfl, tail_done HW.out.1, HB9.out.1.trans HW.out.2.1, fun g o hg h => HW.out.2.2 g o hg (HB9.out.2 g o hg h)⟩
  cases t with
  | nil =>
    have c24 : W.cell? ⟨b, 24, none⟩ = some (.bool false) := (Lib.cell_of_heap HX.out.at_ 24).trans rfl
    have c21 : W.cell? ⟨b, 21, none⟩ = some (.string (mkS [])) := (Lib.cell_of_heap HX.out.at_ 21).trans rfl
    have hlt : b < W.heap.size := h_lt HX.out.at_
    have k23 : W.cell? ⟨b, 23, none⟩ = some (.string (mkS z)) := (Lib.cell_of_heap HX.out.at_ 23).trans rfl
    have k25 : W.cell? ⟨b, 25, none⟩ = some (.bool f) := (Lib.cell_of_heap HX.out.at_ 25).trans rfl
    have k18 : W.cell? ⟨b, 18, none⟩ = some (.string (mkS (u).fr)) := (Lib.cell_of_heap HX.out.at_ 18).trans rfl
    have k20 : W.cell? ⟨b, 20, none⟩ = some (.bool (u).hf) := (Lib.cell_of_heap HX.out.at_ 20).trans rfl
    go_wp2_with fail
    go_region_law (go_simp; go_at_call 102; refine (HEZ.out _).mono ?_; rintro e w3 ⟨rfl, hb⟩; have hb1 : Below W.heap.size W w3 := b_then (b_drew (Below.refl _ _)) hb; have hat := heap_b hb1 HX.out.at_; have d18 : w3.cell? ⟨b, 18, none⟩ = some (.string (mkS (u).fr)) := (Lib.cell_of_heap hat 18).trans rfl; have e18 := Lib.frozen_of_heap hat 18; have d20 : w3.cell? ⟨b, 20, none⟩ = some (.bool (u).hf) := (Lib.cell_of_heap hat 20).trans rfl; have e20 := Lib.frozen_of_heap hat 20; have d25 : w3.cell? ⟨b, 25, none⟩ = some (.bool f) := (Lib.cell_of_heap hat 25).trans rfl; have e25 := Lib.frozen_of_heap hat 25; have HW := Lib.hid (tail_store HX.out hb1 (endV ⟨u, [], y, z, false, f⟩) 18 20 (.string (mkS (PM.encode 1 z))) (.bool f) rfl rfl rfl rfl rfl ⟨rfl, rfl, rfl, rfl, rfl⟩ HX.out.ok.qu HLZ.out); clear hat hb hb1)
    all_goals (try go_wp2)
    all_goals go_end0
    all_goals exact ⟨rfl, tail_done HW.out.1, (show Below b W W ∧ Kp b W W from ⟨Below.refl b W, fun _ _ _ h => h⟩).1.trans HW.out.2.1, fun g o hg h => HW.out.2.2 g o hg ((show Below b W W ∧ Kp b W W from ⟨Below.refl b W, fun _ _ _ h => h⟩).2 g o hg h)⟩
  | cons c r =>
    have c21 : W.cell? ⟨b, 21, none⟩ = some (.string (mkS (c :: r))) := (Lib.cell_of_heap HX.out.at_ 21).trans rfl
    have hE : (c :: r == ([] : List UInt8)) = false := by simp
    have c22 : W.cell? ⟨b, 22, none⟩ = some (.string (mkS y)) := (Lib.cell_of_heap HX.out.at_ 22).trans rfl
    have c24 : W.cell? ⟨b, 24, none⟩ = some (.bool false) := (Lib.cell_of_heap HX.out.at_ 24).trans rfl
    have c17 : W.cell? ⟨b, 17, none⟩ = some (.string (mkS u.qu)) := (Lib.cell_of_heap HX.out.at_ 17).trans rfl
    have c19 : W.cell? ⟨b, 19, none⟩ = some (.bool u.hq) := (Lib.cell_of_heap HX.out.at_ 19).trans rfl
    go_wp2_with fail
    go_cut [] (fun wr => ∃ W9 : World, W9 = wr ∧ Hid (XAt b ⟨midV ⟨u, c :: r, y, z, false, f⟩, c :: r, y, z, false, f⟩ wr) ∧ Hid (Below b W wr ∧ Kp b W wr))
    case first =>
      go_region_law (go_simp; go_at_call 102; refine (HEY.out _).mono ?_; rintro e w2 ⟨rfl, hb⟩; have hb1 : Below W.heap.size W w2 := b_then (b_drew (Below.refl _ _)) hb; have hat := heap_b hb1 HX.out.at_; have d17 : w2.cell? ⟨b, 17, none⟩ = some (.string (mkS u.qu)) := (Lib.cell_of_heap hat 17).trans rfl; have e17 := Lib.frozen_of_heap hat 17; have d19 : w2.cell? ⟨b, 19, none⟩ = some (.bool u.hq) := (Lib.cell_of_heap hat 19).trans rfl; have e19 := Lib.frozen_of_heap hat 19; have d24 : w2.cell? ⟨b, 24, none⟩ = some (.bool false) := (Lib.cell_of_heap hat 24).trans rfl; have e24 := Lib.frozen_of_heap hat 24; have HW := Lib.hid (tail_store HX.out hb1 (midV ⟨u, c :: r, y, z, false, f⟩) 17 19 (.string (mkS (PM.encode 2 y))) (.bool false) rfl rfl rfl rfl rfl ⟨rfl, rfl, rfl, rfl, rfl⟩ HLY.out HX.out.ok.fr); clear hat hb hb1)
      all_goals (try go_wp2)
      all_goals (go_meet; exact ⟨_, rfl, Lib.hid HW.out.1, Lib.hid HW.out.2⟩)
    case rest =>
      obtain ⟨W9, rfl, HX9, HB9⟩ := hcut
      clear HEY HX hb0 c21 c22 c24 c17 c19
      have hlt : b < W9.heap.size := h_lt HX9.out.at_
      have k23 : W9.cell? ⟨b, 23, none⟩ = some (.string (mkS z)) := (Lib.cell_of_heap HX9.out.at_ 23).trans rfl
      have k25 : W9.cell? ⟨b, 25, none⟩ = some (.bool f) := (Lib.cell_of_heap HX9.out.at_ 25).trans rfl
      have k18 : W9.cell? ⟨b, 18, none⟩ = some (.string (mkS (midV ⟨u, c :: r, y, z, false, f⟩).fr)) := (Lib.cell_of_heap HX9.out.at_ 18).trans rfl
      have k20 : W9.cell? ⟨b, 20, none⟩ = some (.bool (midV ⟨u, c :: r, y, z, false, f⟩).hf) := (Lib.cell_of_heap HX9.out.at_ 20).trans rfl
      go_wp2_with fail
      go_region_law (go_simp; go_at_call 102; refine (HEZ.out _).mono ?_; rintro e w3 ⟨rfl, hb⟩; have hb1 : Below W9.heap.size W9 w3 := b_then (b_drew (Below.refl _ _)) hb; have hat := heap_b hb1 HX9.out.at_; have d18 : w3.cell? ⟨b, 18, none⟩ = some (.string (mkS (midV ⟨u, c :: r, y, z, false, f⟩).fr)) := (Lib.cell_of_heap hat 18).trans rfl; have e18 := Lib.frozen_of_heap hat 18; have d20 : w3.cell? ⟨b, 20, none⟩ = some (.bool (midV ⟨u, c :: r, y, z, false, f⟩).hf) := (Lib.cell_of_heap hat 20).trans rfl; have e20 := Lib.frozen_of_heap hat 20; have d25 : w3.cell? ⟨b, 25, none⟩ = some (.bool f) := (Lib.cell_of_heap hat 25).trans rfl; have e25 := Lib.frozen_of_heap hat 25; have HW := Lib.hid (tail_store HX9.out hb1 (endV ⟨midV ⟨u, c :: r, y, z, false, f⟩, c :: r, y, z, false, f⟩) 18 20 (.string (mkS (PM.encode 1 z))) (.bool f) rfl rfl rfl rfl rfl ⟨rfl, rfl, rfl, rfl, rfl⟩ HX9.out.ok.qu HLZ.out); clear hat hb hb1)
      all_goals (try go_wp2)
      all_goals go_end0
      all_goals exact ⟨rfl, tail_done HW.out.1, HB9.out.1.trans HW.out.2.1, fun g o hg h => HW.out.2.2 g o hg (HB9.out.2 g o hg h)⟩
end Go.Proofs.YtppbkblnjlbnfaaGreatDoor
/-! Contracts: join.Whole, join.Inherit, join.Resolve. -/
namespace Go.Proofs.YtppbkblnjlbnfaaGreatDoor
open Go.RowKit
theorem Clone2_c (a : Option Addr) (n c : Nat) (xs : List (List UInt8)) (w : World) (h : RdS w a n xs) :
    Calls Tryz.prog 50 #[.slice a n c] w fun e w' => ∃ a' c', e = .returned (.slice a' n c') ∧ RdS w' a' n xs ∧ From w.heap.size a' xs ∧ n ≤ c' ∧ Below w.heap.size w w' := by
  have hlen := h.len
  rcases h.at_ with rfl | ⟨b, o, rfl, hlt, hc⟩
  · have hn : n = 0 := by simpa using hlen.symm
    subst hn
    cases a with
    | none =>
      refine (Tryz.slices_Clone_string_nil 0 c w).mono ?_
      rintro e w' ⟨rfl, rfl⟩
      exact ⟨none, 0, rfl, h.below (Below.refl _ _), fun g o e => by simp at e, Nat.le_refl _, Below.refl _ _⟩
    | some p =>
      refine (Tryz.slices_Clone_string_zero p c w).mono ?_
      rintro e w' ⟨v', rfl, ho, _, hb⟩
      obtain ⟨a', c', rfl, hr, hf, hcap⟩ := own_cap (xs := []) ho rfl (by decide)
      exact ⟨a', c', rfl, hr, hf, hcap, hb⟩
  · refine (Tryz.slices_Clone_string b o n c (xs.map mkS) w (by simp; omega) h.small ?_).mono ?_
    · intro j hj
      rw [List.length_map] at hj
      rw [hc j hj]
      simp [List.getD, hj]
    · rintro e w' ⟨v', rfl, ho, _, hb⟩
      have ho' : w'.ownsRow w.heap.size 9 1 v' n (strs xs) := by
        have e1 : ((xs.map mkS).take n).map Value.string = strs xs := by
          rw [List.take_of_length_le (by simp; omega)]
          simp [strs]
        rw [← e1]
        exact ho
      obtain ⟨a', c', rfl, hr, hf, hcap⟩ := own_cap ho' hlen h.small
      exact ⟨a', c', rfl, hr, hf, hcap, hb⟩
theorem Ok_row {v : UV} {W : World} {B g : Nat} (h : v.Ok W) (hf : From B v.a v.xs) (hg : g < B) (cs : Array Value) : v.Ok (W.setRow g cs) :=
  ⟨h.sc, h.us, h.pa, h.n, h.op, h.qu, h.fr, h.xn, h.xl, h.rd.frame (by simp [World.setRow]) fun g' o e hx => by
    have := hf g' o e hx
    simp [World.setRow, Array.getElem?_modify, show g ≠ g' by omega]⟩
set_option maxRecDepth 100000 in
set_option maxHeartbeats 8000000 in
theorem Whole_c (s : List UInt8) (hs : s.length ≤ 100000) (w : World) (hg : Gl w) (hT : Lib.Utf8Tabs 2 3 w) : Calls Tryz.prog 71 #[.string (mkS s)] w fun e w' => e = .returned (.bool (PM.whole s)) ∧ Below w.heap.size w w' := by
  have hcl := clean_len s
  have hC := fun W h => Clean_c s (by omega) W h
  have hS := fun W h => Scheme_c (PM.clean s) (by omega) W h
  have hw : PM.whole s = (PM.scheme (PM.clean s)).2.2 := rfl
  rw [hw]
  generalize PM.scheme (PM.clean s) = X at hS ⊢
  have HC := Lib.hid hC
  have HS := Lib.hid hS
  have HG := Lib.hid hg
  have HTB := Lib.hid hT
  have HB : Hid (Below w.heap.size w w) := Lib.hid (Below.refl _ _)
  clear hC hS hg hT hcl hw hs
  go_enter Tryz.func71, Tryz.ntmps71
  go_wp2_with fail
  refine (HC.out _ (tabs_below HTB.out HB.out)).mono ?_
  rintro e V1 ⟨rfl, hb⟩
  replace HB := Lib.hid (b_then HB.out hb)
  clear hb
  go_wp2_with fail
  refine (HS.out _ (HG.out.below HB.out)).mono ?_
  rintro e V2 ⟨rfl, hb⟩
  replace HB := Lib.hid (b_then HB.out hb)
  clear hb
  go_wp2
  go_ret
  exact ⟨rfl, HB.out⟩
set_option maxRecDepth 100000 in
set_option maxHeartbeats 8000000 in
theorem Bare2_c (u : UV) (w : World) (hu : u.Ok w) : Calls Tryz.prog 39 #[.agg u.cells] w fun e w' => ∃ v : UV, e = .returned (.agg v.cells) ∧ v.pm = PM.bare u.pm ∧ v.Ok w' ∧ From w.heap.size v.a v.xs ∧ v.pn ≤ v.pc ∧ Below w.heap.size w w' := by
  have HT := Lib.hid (TwoAt.new u w)
  unfold UV.cells
  have HU := Lib.hid hu
  clear hu
  go_enter Tryz.func39, Tryz.ntmps39
  go_upto_region 1 with fail
  generalize ((w.alloc (.cells #[.string (mkS u.sc), .string (mkS u.us), .string (mkS u.pa), .int .i64 u.k, .string (mkS u.n), .int .i64 u.m, .int .i64 u.s0, .int .i64 u.s1, .int .i64 u.s2, .int .i64 u.s3, .int .i64 u.s4, .int .i64 u.s5, .int .i64 u.s6, .int .i64 u.s7, .int .i64 u.port, .slice u.a u.pn u.pc, .string (mkS u.op), .string (mkS u.qu), .string (mkS u.fr), .bool u.hq, .bool u.hf] 27)).alloc (.cells #[.string ⟨#[]⟩, .string ⟨#[]⟩, .string ⟨#[]⟩, .int .i64 0, .string ⟨#[]⟩, .int .i64 0, .int .i64 0, .int .i64 0, .int .i64 0, .int .i64 0, .int .i64 0, .int .i64 0, .int .i64 0, .int .i64 0, .int .i64 0, .slice none 0 0, .string ⟨#[]⟩, .string ⟨#[]⟩, .string ⟨#[]⟩, .bool false, .bool false] 27)) = V0 at HT ⊢
  obtain ⟨c0, c1, c2, c3, c4, c5, c6, c7, c8, c9, c10, c11, c12, c13, c14, c15, c16, c17, c18, c19, c20⟩ := UrlAt.of_heap HT.out.one
  go_wp2_with fail
  refine (Clone2_c u.a u.pn u.pc u.xs _ (HU.out.rd.below HT.out.be)).mono ?_
  rintro e V1 ⟨a', c', rfl, hr, hfr, hcap, hb1⟩
  have hz : w.heap.size + 2 ≤ V0.heap.size := by have := h_lt HT.out.two; omega
  replace HT := Lib.hid (HT.out.below hb1)
  clear c0 c1 c2 c3 c4 c5 c6 c7 c8 c9 c10 c11 c12 c13 c14 c15 c16 c17 c18 c19 c20 hb1
  obtain ⟨c0, c1, c2, c3, c4, c5, c6, c7, c8, c9, c10, c11, c12, c13, c14, c15, c16, c17, c18, c19, c20⟩ := UrlAt.of_heap HT.out.one
  have f15 := Lib.frozen_of_heap HT.out.one 15
  have f18 := Lib.frozen_of_heap HT.out.one 18
  have f20 := Lib.frozen_of_heap HT.out.one 20
  go_upto_region 3 with fail
  obtain ⟨V2, hV2⟩ : ∃ V2, V2 = ((V1.setCell ⟨w.heap.size, 15, none⟩ (.slice a' u.pn c')).setCell ⟨w.heap.size, 18, none⟩ (.string ⟨#[]⟩)).setCell ⟨w.heap.size, 20, none⟩ (.bool false) := ⟨_, rfl⟩
  let v : UV := { u with a := a', pc := c', fr := [], hf := false }
  have h2 : TwoAt v zurl w V2 := by
    rw [hV2]
    refine ⟨setCell_heap (setCell_heap (setCell_heap HT.out.one _ _) _ _) _ _, ?_, b_set (b_set (b_set HT.out.be _ (Nat.le_refl _) _) _ (Nat.le_refl _) _) _ (Nat.le_refl _) _⟩
    exact heap_set_other (heap_set_other (heap_set_other HT.out.two _ _ _ (by omega)) _ _ _ (by omega)) _ _ _ (by omega)
  have hvr : RdS V2 a' u.pn u.xs := by
    rw [hV2]
    refine hr.frame (by simp [World.setCell]) fun g o e hx => ?_
    have hg := hfr g o e hx
    rw [heap_set_other (heap_set_other (heap_set_other rfl _ _ _ (by omega)) _ _ _ (by omega)) _ _ _ (by omega)]
  rw [← hV2]
  clear hV2 c0 c1 c2 c3 c4 c5 c6 c7 c8 c9 c10 c11 c12 c13 c14 c15 c16 c17 c18 c19 c20 f15 f18 f20 HT
  go_wp2_with (first
    | (refine wpList_load_row rfl 27 _ rfl w.heap.size rfl 27 _ (0, 0) _ h2.one Tryz.underlying27 rfl (by kernel_rfl) ?_)
    | (refine wpList_store_row rfl 27 _ _ rfl (w.heap.size + 1) v.cells rfl rfl 27 _ h2.two (by kernel_rfl) rfl (agg_one v) ?_))
  refine bodyPost_ret (results_cell_row (fr := (0, 0)) rfl _ _ (w.heap.size + 1) 27 v.cells _ rfl (heap_setRow h2.two _) Tryz.underlying27 rfl (by kernel_rfl)) rfl ?_
  refine ⟨v, rfl, rfl, ⟨HU.out.sc, HU.out.us, HU.out.pa, HU.out.n, HU.out.op, HU.out.qu, by simp [v], HU.out.xn, HU.out.xl, ?_⟩, fun g o e hx => by have := hfr g o e hx; omega, hcap, below_setRow h2.be (by omega) _⟩
  refine hvr.frame (by simp [World.setRow]) fun g o e hx => ?_
  have hg := hfr g o e hx
  simp [World.setRow, Array.getElem?_modify, show w.heap.size + 1 ≠ g by omega]
theorem inh_ok {x : UV} {W : World} {b : Nat} (h : x.Ok W) (hf : ∀ g o, x.a = some ⟨g, o, none⟩ → x.xs ≠ [] → g ≠ b) (f : List UInt8) (hl : f.length ≤ 1000000) (c : Bool) (v1 v2 : Value) : ({ x with fr := f, hf := c } : UV).Ok ((W.setCell ⟨b, 18, none⟩ v1).setCell ⟨b, 20, none⟩ v2).drew := by
  have h2 := (Ok_set (Ok_set h hf 18 v1) hf 20 v2).below (b_drew (Below.refl _ _))
  exact ⟨h2.sc, h2.us, h2.pa, h2.n, h2.op, h2.qu, hl, h2.xn, h2.xl, h2.rd⟩
set_option maxRecDepth 100000 in
set_option maxHeartbeats 8000000 in
theorem Inherit_c (u v : UV) (w : World) (hu : u.Ok w) (hv : v.fr.length ≤ 1000000) : Calls Tryz.prog 43 #[.agg u.cells, .agg v.cells] w fun e w' => ∃ x : UV, e = .returned (.agg x.cells) ∧ x.pm = PM.inherit u.pm v.pm ∧ x.Ok w' ∧ From w.heap.size x.a x.xs ∧ x.pn ≤ x.pc ∧ Below w.heap.size w w' := by
  have OU := Lib.hid hu
  have HV := Lib.hid hv
  clear hu hv
  have HB : Hid (Below w.heap.size w (((w.alloc (.cells u.cells 27)).alloc (.cells v.cells 27)).alloc (.cells #[.string ⟨#[]⟩, .string ⟨#[]⟩, .string ⟨#[]⟩, .int .i64 0, .string ⟨#[]⟩, .int .i64 0, .int .i64 0, .int .i64 0, .int .i64 0, .int .i64 0, .int .i64 0, .int .i64 0, .int .i64 0, .int .i64 0, .int .i64 0, .slice none 0 0, .string ⟨#[]⟩, .string ⟨#[]⟩, .string ⟨#[]⟩, .bool false, .bool false] 27))) := Lib.hid (b_alloc (b_alloc (b_alloc (Below.refl _ _) _) _) _)
  have Hu : Hid ((((w.alloc (.cells u.cells 27)).alloc (.cells v.cells 27)).alloc (.cells #[.string ⟨#[]⟩, .string ⟨#[]⟩, .string ⟨#[]⟩, .int .i64 0, .string ⟨#[]⟩, .int .i64 0, .int .i64 0, .int .i64 0, .int .i64 0, .int .i64 0, .int .i64 0, .int .i64 0, .int .i64 0, .int .i64 0, .int .i64 0, .slice none 0 0, .string ⟨#[]⟩, .string ⟨#[]⟩, .string ⟨#[]⟩, .bool false, .bool false] 27)).heap[w.heap.size]? = some (.cells u.cells 27 (0, 0))) := Lib.hid (heap_b (b_alloc (b_alloc (Below.refl _ _) _) _) (by have h := Go.heap_alloc_new w (.cells u.cells 27); simpa using h))
  have Hv : Hid ((((w.alloc (.cells u.cells 27)).alloc (.cells v.cells 27)).alloc (.cells #[.string ⟨#[]⟩, .string ⟨#[]⟩, .string ⟨#[]⟩, .int .i64 0, .string ⟨#[]⟩, .int .i64 0, .int .i64 0, .int .i64 0, .int .i64 0, .int .i64 0, .int .i64 0, .int .i64 0, .int .i64 0, .int .i64 0, .int .i64 0, .slice none 0 0, .string ⟨#[]⟩, .string ⟨#[]⟩, .string ⟨#[]⟩, .bool false, .bool false] 27)).heap[w.heap.size + 1]? = some (.cells v.cells 27 (0, 0))) := Lib.hid (heap_b (b_alloc (Below.refl _ _) _) (by have h := Go.heap_alloc_new (w.alloc (.cells u.cells 27)) (.cells v.cells 27); simpa using h))
  have Hz : Hid ((((w.alloc (.cells u.cells 27)).alloc (.cells v.cells 27)).alloc (.cells #[.string ⟨#[]⟩, .string ⟨#[]⟩, .string ⟨#[]⟩, .int .i64 0, .string ⟨#[]⟩, .int .i64 0, .int .i64 0, .int .i64 0, .int .i64 0, .int .i64 0, .int .i64 0, .int .i64 0, .int .i64 0, .int .i64 0, .int .i64 0, .slice none 0 0, .string ⟨#[]⟩, .string ⟨#[]⟩, .string ⟨#[]⟩, .bool false, .bool false] 27)).heap[w.heap.size + 1 + 1]? = some (.cells #[.string ⟨#[]⟩, .string ⟨#[]⟩, .string ⟨#[]⟩, .int .i64 0, .string ⟨#[]⟩, .int .i64 0, .int .i64 0, .int .i64 0, .int .i64 0, .int .i64 0, .int .i64 0, .int .i64 0, .int .i64 0, .int .i64 0, .int .i64 0, .slice none 0 0, .string ⟨#[]⟩, .string ⟨#[]⟩, .string ⟨#[]⟩, .bool false, .bool false] 27 (0, 0))) := Lib.hid ((by have h := Go.heap_alloc_new ((w.alloc (.cells u.cells 27)).alloc (.cells v.cells 27)) (.cells #[.string ⟨#[]⟩, .string ⟨#[]⟩, .string ⟨#[]⟩, .int .i64 0, .string ⟨#[]⟩, .int .i64 0, .int .i64 0, .int .i64 0, .int .i64 0, .int .i64 0, .int .i64 0, .int .i64 0, .int .i64 0, .int .i64 0, .int .i64 0, .slice none 0 0, .string ⟨#[]⟩, .string ⟨#[]⟩, .string ⟨#[]⟩, .bool false, .bool false] 27); simpa using h))
  go_enter Tryz.func43, Tryz.ntmps43
  go_upto_region 1 with fail
  generalize ((w.alloc (.cells u.cells 27)).alloc (.cells v.cells 27)).alloc (.cells #[.string ⟨#[]⟩, .string ⟨#[]⟩, .string ⟨#[]⟩, .int .i64 0, .string ⟨#[]⟩, .int .i64 0, .int .i64 0, .int .i64 0, .int .i64 0, .int .i64 0, .int .i64 0, .int .i64 0, .int .i64 0, .int .i64 0, .int .i64 0, .slice none 0 0, .string ⟨#[]⟩, .string ⟨#[]⟩, .string ⟨#[]⟩, .bool false, .bool false] 27) = V0 at HB Hu Hv Hz ⊢
  generalize hbz : w.heap.size + 1 + 1 = bz at Hz ⊢
  have hlw_bz : w.heap.size ≤ bz := by omega
  generalize hbv : w.heap.size + 1 = bv at Hv ⊢
  have hlw_bv : w.heap.size ≤ bv := by omega
  have hne_v_u : w.heap.size < bv := by omega
  have hne_z_u : w.heap.size < bz := by omega
  have hne_z_v : bv < bz := by omega
  clear hbz hbv
  have c15 : V0.cell? ⟨w.heap.size, 15, none⟩ = some (.slice u.a u.pn u.pc) := by rw [Lib.cell_of_heap Hu.out]; rfl
  go_wp2_with fail
  refine (Clone2_c u.a u.pn u.pc u.xs _ (OU.out.rd.below HB.out)).mono ?_
  rintro e V1 ⟨a', c', rfl, hr, hfr, hcap, hb⟩
  have HR := Lib.hid hr
  have hlz : bz < V0.heap.size := h_lt Hz.out
  have HFR : Hid (From (bz + 1) a' u.xs) := Lib.hid (fun g o e hx => by have := hfr g o e hx; omega)
  have HCAP := Lib.hid hcap
  clear hr hfr hcap c15
  replace HB := Lib.hid (b_then HB.out hb)
  replace Hz := Lib.hid (obj_b hb Hz.out)
  replace Hv := Lib.hid (obj_b hb Hv.out)
  replace Hu := Lib.hid (obj_b hb Hu.out)
  clear hb
  have ff := Lib.frozen_of_heap Hu.out 15
  have dd : V1.cell? ⟨w.heap.size, 15, none⟩ = some (.slice u.a u.pn u.pc) := by rw [Lib.cell_of_heap Hu.out]; rfl
  go_upto_region 2 with fail
  clear ff dd
  obtain ⟨V2, hV⟩ : ∃ V2, V2 = V1.setCell ⟨w.heap.size, 15, none⟩ (.slice a' u.pn c') := ⟨_, rfl⟩
  rw [← hV]
  replace Hu := Lib.hid (show V2.heap[w.heap.size]? = some (.cells (wayV u a' u.pn c' u.xs).cells 27 (0, 0)) from by rw [hV]; exact setCell_heap Hu.out 15 _)
  replace Hz := Lib.hid (show V2.heap[bz]? = some (.cells _ 27 (0, 0)) from by rw [hV]; exact heap_set_other Hz.out _ _ _ (by omega))
  replace Hv := Lib.hid (show V2.heap[bv]? = some (.cells _ 27 (0, 0)) from by rw [hV]; exact heap_set_other Hv.out _ _ _ (by omega))
  replace HB := Lib.hid (show Below w.heap.size w V2 from by rw [hV]; exact b_set HB.out _ (Nat.le_refl _) _)
  have HXO : Hid ((wayV u a' u.pn c' u.xs).Ok V2) := Lib.hid (by rw [hV]; exact Ok_set (⟨OU.out.sc, OU.out.us, OU.out.pa, OU.out.n, OU.out.op, OU.out.qu, OU.out.fr, OU.out.xn, OU.out.xl, HR.out⟩ : (wayV u a' u.pn c' u.xs).Ok V1) (fun g o e hx => by have h : From (bz + 1) a' u.xs := HFR.out; have := h g o e hx; omega) 15 _)
  clear hV
  have c20 : V2.cell? ⟨w.heap.size, 20, none⟩ = some (.bool u.hf) := by rw [Lib.cell_of_heap Hu.out]; rfl
  cases hh : u.hf
  rotate_left
  · have HH := Lib.hid hh
    go_wp2_with (first | (refine wpList_load_g 27 _ rfl (by kernel_rfl) w.heap.size rfl Hu.out Tryz.underlying27 rfl (by kernel_rfl) ?_) | (refine wpList_store_row rfl 27 _ _ rfl bz (wayV u a' u.pn c' u.xs).cells rfl rfl 27 _ Hz.out (by kernel_rfl) rfl (agg_one (wayV u a' u.pn c' u.xs)) ?_))
    refine bodyPost_ret (results_cell_row (fr := (0, 0)) rfl _ _ bz 27 (wayV u a' u.pn c' u.xs).cells _ rfl (heap_setRow Hz.out _) Tryz.underlying27 rfl (by kernel_rfl)) rfl ?_
    exact ⟨(wayV u a' u.pn c' u.xs), rfl, by unfold PM.inherit; first | rw [if_pos (show u.pm.hasFrag = true from HH.out)]; rfl | (rw [if_neg (by rw [show u.pm.hasFrag = false from HH.out]; simp)]; rfl), Ok_row HXO.out HFR.out (Nat.lt_succ_self _) _, (fun g o e hx => by have h : From (bz + 1) a' u.xs := HFR.out; have := h g o e hx; omega), HCAP.out, below_setRow HB.out (by omega) _⟩
  have HH := Lib.hid hh
  go_upto_region 3 with fail
  clear c20 hh
  go_cut [] (fun wr => ∃ W9 : World, W9 = wr ∧ Hid (wr.heap[w.heap.size]? = some (.cells ({ wayV u a' u.pn c' u.xs with fr := v.fr, hf := v.hf } : UV).cells 27 (0, 0))) ∧ Hid (wr.heap[bz]? = some (.cells #[.string ⟨#[]⟩, .string ⟨#[]⟩, .string ⟨#[]⟩, .int .i64 0, .string ⟨#[]⟩, .int .i64 0, .int .i64 0, .int .i64 0, .int .i64 0, .int .i64 0, .int .i64 0, .int .i64 0, .int .i64 0, .int .i64 0, .int .i64 0, .slice none 0 0, .string ⟨#[]⟩, .string ⟨#[]⟩, .string ⟨#[]⟩, .bool false, .bool false] 27 (0, 0))) ∧ Hid (({ wayV u a' u.pn c' u.xs with fr := v.fr, hf := v.hf } : UV).Ok wr) ∧ Hid (Below w.heap.size w wr))
  case first =>
    have y18 : V2.cell? ⟨bv, 18, none⟩ = some (.string (mkS v.fr)) := by rw [Lib.cell_of_heap Hv.out]; rfl
    have y20 : V2.cell? ⟨bv, 20, none⟩ = some (.bool v.hf) := by rw [Lib.cell_of_heap Hv.out]; rfl
    have d18 : V2.cell? ⟨w.heap.size, 18, none⟩ = some (.string (mkS u.fr)) := by rw [Lib.cell_of_heap Hu.out]; rfl
    have d20 : V2.cell? ⟨w.heap.size, 20, none⟩ = some (.bool u.hf) := by rw [Lib.cell_of_heap Hu.out]; rfl
    have e18 := Lib.frozen_of_heap Hu.out 18
    have e20 := Lib.frozen_of_heap Hu.out 20
    go_region_law (fail)
    all_goals (try go_wp2)
    all_goals (go_meet; refine ⟨_, rfl, Lib.hid ?_, Lib.hid ?_, Lib.hid ?_, Lib.hid ?_⟩)
    all_goals first | exact setCell_heap (setCell_heap (obj_b (b_drewN (Below.refl _ _) _) Hu.out) 18 _) 20 _ | exact heap_set_other (heap_set_other (obj_b (b_drewN (Below.refl _ _) _) Hz.out) _ _ _ (by omega)) _ _ _ (by omega) | exact b_set (b_set (b_drewN HB.out _) _ (Nat.le_refl _) _) _ (Nat.le_refl _) _ | skip
    all_goals exact inh_ok HXO.out (fun g o e hx => by have h : From (bz + 1) a' u.xs := HFR.out; have := h g o e hx; omega) v.fr HV.out v.hf _ _
  case rest =>
    obtain ⟨W9, rfl, Hu, Hz, HXO, HB⟩ := hcut
    go_wp2_with (first | (refine wpList_load_g 27 _ rfl (by kernel_rfl) w.heap.size rfl Hu.out Tryz.underlying27 rfl (by kernel_rfl) ?_) | (refine wpList_store_row rfl 27 _ _ rfl bz ({ wayV u a' u.pn c' u.xs with fr := v.fr, hf := v.hf } : UV).cells rfl rfl 27 _ Hz.out (by kernel_rfl) rfl (agg_one ({ wayV u a' u.pn c' u.xs with fr := v.fr, hf := v.hf } : UV)) ?_))
    refine bodyPost_ret (results_cell_row (fr := (0, 0)) rfl _ _ bz 27 ({ wayV u a' u.pn c' u.xs with fr := v.fr, hf := v.hf } : UV).cells _ rfl (heap_setRow Hz.out _) Tryz.underlying27 rfl (by kernel_rfl)) rfl ?_
    exact ⟨({ wayV u a' u.pn c' u.xs with fr := v.fr, hf := v.hf } : UV), rfl, by unfold PM.inherit; first | rw [if_pos (show u.pm.hasFrag = true from HH.out)]; rfl | (rw [if_neg (by rw [show u.pm.hasFrag = false from HH.out]; simp)]; rfl), Ok_row HXO.out HFR.out (Nat.lt_succ_self _) _, (fun g o e hx => by have h : From (bz + 1) a' u.xs := HFR.out; have := h g o e hx; omega), HCAP.out, below_setRow HB.out (by omega) _⟩
def newX (u : UV) : XV := ⟨u, [], [], [], false, false⟩
theorem bd_work (u : UV) (w : World) : (Instr.build 102 #[(0, .agg u.cells)]).run Tryz.prog w = .ok (.agg (newX u).cells) w := run_build w 102 _ _ (by kernel_rfl)
theorem wpList_work {ops : Array Oper} {rest : List Oper} {o : Oper} {t : Act} {w : World} {Q : Exit → Act → World → Prop} (hgd : o.guard = none) (x : Operand) (ho : o.op = .build 102 #[(0, x)]) (u : UV) (hx : t.eval x = .agg u.cells)
    (h : wpList Tryz.prog ops Q rest (t.put o.dst (.agg (newX u).cells)) w) : wpList Tryz.prog ops Q (o :: rest) t w :=
  wpList_plain hgd fun _ hK => by
    have hb := bd_work u w
    unfold Oper.wp execOp
    simp only [ho, List.map_toArray, List.map_cons, List.map_nil, hx, Sem.run_bind, Sem.run_pure, hb, Result.andThen_ok]
    exact hK _ _ h
@[go_sem] theorem bd_uzJ (w : World) : (Instr.build 27 #[]).run Tryz.prog w = .ok (.agg uz.cells) w := run_build w 27 _ _ (by kernel_rfl)
theorem x_url {W : World} {b : Nat} {x : XV} (h : W.heap[b]? = some (.cells x.cells 102 (0, 0))) : W.rangeAt b 0 x.u.cells.toList := by
  intro j v hj
  rw [Lib.cell_of_heap h, Nat.zero_add]
  have e : x.cells.toList = x.u.cells.toList ++ [.string (mkS x.t), .string (mkS x.y), .string (mkS x.z), .bool x.q, .bool x.f] := rfl
  rw [← Array.getElem?_toList, e, List.getElem?_append_left (List.getElem?_eq_some_iff.1 hj).1]
  exact hj
theorem tail_len3 (s : List UInt8) : (PM.tail s).1.length ≤ s.length ∧ (PM.tail s).2.1.length ≤ s.length ∧ (PM.tail s).2.2.1.length ≤ s.length := by
  have h1 := cut_len' 35 s
  have h2 := cut_len' 63 (PM.cut 35 s).1
  unfold PM.tail
  exact ⟨by show (PM.cut 63 (PM.cut 35 s).1).1.length ≤ _; omega, by show (PM.cut 63 (PM.cut 35 s).1).2.1.length ≤ _; omega, h1.2⟩
theorem five_store {b : Nat} {x : UV} {V : World} (hx : XAt b (newX x) V) (t y z : List UInt8) (q f : Bool) :
    XAt b ⟨x, t, y, z, q, f⟩ (((((V.setCell ⟨b, 21, none⟩ (.string (mkS t))).setCell ⟨b, 22, none⟩ (.string (mkS y))).setCell ⟨b, 23, none⟩ (.string (mkS z))).setCell ⟨b, 24, none⟩ (.bool q)).setCell ⟨b, 25, none⟩ (.bool f)) ∧ Below b V (((((V.setCell ⟨b, 21, none⟩ (.string (mkS t))).setCell ⟨b, 22, none⟩ (.string (mkS y))).setCell ⟨b, 23, none⟩ (.string (mkS z))).setCell ⟨b, 24, none⟩ (.bool q)).setCell ⟨b, 25, none⟩ (.bool f)) ∧ Kp b V (((((V.setCell ⟨b, 21, none⟩ (.string (mkS t))).setCell ⟨b, 22, none⟩ (.string (mkS y))).setCell ⟨b, 23, none⟩ (.string (mkS z))).setCell ⟨b, 24, none⟩ (.bool q)).setCell ⟨b, 25, none⟩ (.bool f)) := by
  have ho : ∀ g o, x.a = some ⟨g, o, none⟩ → x.xs ≠ [] → g ≠ b := hx.of.off
  refine ⟨⟨setCell_heap (setCell_heap (setCell_heap (setCell_heap (setCell_heap hx.at_ 21 _) 22 _) 23 _) 24 _) 25 _, Ok_set (Ok_set (Ok_set (Ok_set (Ok_set (show x.Ok V from hx.ok) ho 21 _) ho 22 _) ho 23 _) ho 24 _) ho 25 _, hx.of⟩, ?_, ?_⟩
  · exact (((((Below.refl b V).setCell (p := ⟨b, 21, none⟩) (Nat.le_refl _) _).setCell (p := ⟨b, 22, none⟩) (Nat.le_refl _) _).setCell (p := ⟨b, 23, none⟩) (Nat.le_refl _) _).setCell (p := ⟨b, 24, none⟩) (Nat.le_refl _) _).setCell (p := ⟨b, 25, none⟩) (Nat.le_refl _) _
  · exact fun g o hg h => heap_set_other (heap_set_other (heap_set_other (heap_set_other (heap_set_other h _ _ _ hg.symm) _ _ _ hg.symm) _ _ _ hg.symm) _ _ _ hg.symm) _ _ _ hg.symm
theorem tail_pm {b : PM.Url} {c : List UInt8} {u1 x : UV} {t y z : List UInt8} {q f : Bool} (htl : PM.tail c = (t, y, z, q, f)) (hx : x.pm = PM.bare b) (hu : u1.pm = { x.pm with path := PM.wayP x.pm.path t }) : (tailV ⟨u1, t, y, z, q, f⟩).pm = PM.beside b c := by
  have h1 : (tailV ⟨u1, t, y, z, q, f⟩).pm = { u1.pm with query := if q || !t.isEmpty then PM.encode 2 y else u1.pm.query, hasQuery := if q || !t.isEmpty then q else u1.pm.hasQuery, frag := PM.encode 1 z, hasFrag := f } := rfl
  rw [h1, hu, hx]
  unfold PM.beside PM.qOn
  rw [htl]
  rfl
set_option maxRecDepth 100000 in
set_option maxHeartbeats 16000000 in
theorem Resolve2_c (b : UV) (s : List UInt8) (w : World) (hs : s.length ≤ 30000) (hs2 : PM.whole s = false → s.length ≤ 3000) (hb0 : b.Ok w) (hn : b.xs.length ≤ 900) (hg : Gl w) (hT : Lib.Utf8Tabs 2 3 w) : Calls Tryz.prog 41 #[.agg b.cells, .string (mkS s)] w fun e w' => ParseR (PM.resolve b.pm s) e w' ∧ Below w.heap.size w w' := by
  have HG := Lib.hid hg
  have HTB := Lib.hid hT
  have OB := Lib.hid hb0
  have HN := Lib.hid hn
  have HC : Hid (∀ W, Lib.Utf8Tabs 2 3 W → Calls Tryz.prog 70 #[.string (mkS s)] W fun e w' => e = .returned (.string (mkS (PM.clean s))) ∧ Below W.heap.size W w') := Lib.hid fun W h => Clean_c s (by omega) W h
  have hcl := clean_len s
  have hr : PM.resolve b.pm s = PM.resolveC b.pm (PM.clean s) := rfl
  rw [hr]
  have hwc : PM.whole (PM.clean s) = false → (PM.clean s).length ≤ 3000 := fun h => Nat.le_trans hcl (hs2 (by rw [← PM.whole_clean]; exact h))
  obtain ⟨c, hc⟩ : ∃ c, PM.clean s = c := ⟨_, rfl⟩
  rw [hc] at hcl HC hwc ⊢
  have HCL : Hid (c.length ≤ 30000) := Lib.hid (by omega)
  have HWC := Lib.hid hwc
  clear hg hT hb0 hn hs hcl hr hc hs2 hwc
  have hrc : PM.resolveC b.pm c = if !PM.urlMay b.pm then none else if PM.whole c then PM.urlParse c else if PM.web b.pm.scheme = 0 then none else if PM.two47 c then PM.urlParse (b.pm.scheme ++ 58 :: c) else some (PM.beside b.pm c) := rfl
  have HR := Lib.hid hrc
  clear hrc
  have HB : Hid (Below w.heap.size w ((w.alloc (.cells b.cells 27)).alloc (.cells #[.string ⟨#[]⟩, .string ⟨#[]⟩, .string ⟨#[]⟩, .int .i64 0, .string ⟨#[]⟩, .int .i64 0, .int .i64 0, .int .i64 0, .int .i64 0, .int .i64 0, .int .i64 0, .int .i64 0, .int .i64 0, .int .i64 0, .int .i64 0, .slice none 0 0, .string ⟨#[]⟩, .string ⟨#[]⟩, .string ⟨#[]⟩, .bool false, .bool false] 27))) := Lib.hid (b_alloc (b_alloc (Below.refl _ _) _) _)
  have Hb : Hid (((w.alloc (.cells b.cells 27)).alloc (.cells #[.string ⟨#[]⟩, .string ⟨#[]⟩, .string ⟨#[]⟩, .int .i64 0, .string ⟨#[]⟩, .int .i64 0, .int .i64 0, .int .i64 0, .int .i64 0, .int .i64 0, .int .i64 0, .int .i64 0, .int .i64 0, .int .i64 0, .int .i64 0, .slice none 0 0, .string ⟨#[]⟩, .string ⟨#[]⟩, .string ⟨#[]⟩, .bool false, .bool false] 27)).heap[w.heap.size]? = some (.cells b.cells 27 (0, 0))) := Lib.hid (heap_b (b_alloc (Below.refl _ _) _) (by have h := Go.heap_alloc_new w (.cells b.cells 27); simpa using h))
  have Hz : Hid (((w.alloc (.cells b.cells 27)).alloc (.cells #[.string ⟨#[]⟩, .string ⟨#[]⟩, .string ⟨#[]⟩, .int .i64 0, .string ⟨#[]⟩, .int .i64 0, .int .i64 0, .int .i64 0, .int .i64 0, .int .i64 0, .int .i64 0, .int .i64 0, .int .i64 0, .int .i64 0, .int .i64 0, .slice none 0 0, .string ⟨#[]⟩, .string ⟨#[]⟩, .string ⟨#[]⟩, .bool false, .bool false] 27)).heap[w.heap.size + 1]? = some (.cells #[.string ⟨#[]⟩, .string ⟨#[]⟩, .string ⟨#[]⟩, .int .i64 0, .string ⟨#[]⟩, .int .i64 0, .int .i64 0, .int .i64 0, .int .i64 0, .int .i64 0, .int .i64 0, .int .i64 0, .int .i64 0, .int .i64 0, .int .i64 0, .slice none 0 0, .string ⟨#[]⟩, .string ⟨#[]⟩, .string ⟨#[]⟩, .bool false, .bool false] 27 (0, 0))) := Lib.hid ((by have h := Go.heap_alloc_new (w.alloc (.cells b.cells 27)) (.cells #[.string ⟨#[]⟩, .string ⟨#[]⟩, .string ⟨#[]⟩, .int .i64 0, .string ⟨#[]⟩, .int .i64 0, .int .i64 0, .int .i64 0, .int .i64 0, .int .i64 0, .int .i64 0, .int .i64 0, .int .i64 0, .int .i64 0, .int .i64 0, .slice none 0 0, .string ⟨#[]⟩, .string ⟨#[]⟩, .string ⟨#[]⟩, .bool false, .bool false] 27); simpa using h))
  go_enter Tryz.func41, Tryz.ntmps41
  go_upto_region 1 with fail
  generalize (w.alloc (.cells b.cells 27)).alloc (.cells #[.string ⟨#[]⟩, .string ⟨#[]⟩, .string ⟨#[]⟩, .int .i64 0, .string ⟨#[]⟩, .int .i64 0, .int .i64 0, .int .i64 0, .int .i64 0, .int .i64 0, .int .i64 0, .int .i64 0, .int .i64 0, .int .i64 0, .int .i64 0, .slice none 0 0, .string ⟨#[]⟩, .string ⟨#[]⟩, .string ⟨#[]⟩, .bool false, .bool false] 27) = V0 at HB Hb Hz ⊢
  generalize hbz : w.heap.size + 1 = bz at Hz ⊢
  have hlw_bz : w.heap.size ≤ bz := by omega
  have hne_z_b : w.heap.size < bz := by omega
  clear hbz
  have OB2 := Lib.hid (OB.out.below HB.out)
  clear OB
  go_wp2_with fail
  refine (HC.out _ (tabs_below HTB.out HB.out)).mono ?_
  rintro e V1 ⟨rfl, hb⟩
  replace HB := Lib.hid (b_then HB.out hb)
  replace Hz := Lib.hid (obj_b hb Hz.out)
  replace Hb := Lib.hid (obj_b hb Hb.out)
  replace OB2 := Lib.hid (OB2.out.below hb)
  clear hb
  clear HC
  obtain ⟨m, hm⟩ : ∃ m, PM.urlMay b.pm = m := ⟨_, rfl⟩
  have HM := Lib.hid hm
  rw [hm] at HR
  clear hm
  obtain ⟨p, hp⟩ : ∃ p, PM.whole c = p := ⟨_, rfl⟩
  have HP := Lib.hid hp
  rw [hp] at HR
  clear hp
  go_wp2_with (first | go_skip | (refine wpList_load_g 27 _ rfl (by kernel_rfl) w.heap.size rfl Hb.out Tryz.underlying27 rfl (by kernel_rfl) ?_))
  refine (urlMay_c b _ OB2.out (HG.out.below HB.out)).mono ?_
  rw [HM.out]
  rintro e V2 ⟨rfl, hb⟩
  replace HB := Lib.hid (b_then HB.out hb)
  replace Hz := Lib.hid (obj_b hb Hz.out)
  replace Hb := Lib.hid (obj_b hb Hb.out)
  replace OB2 := Lib.hid (OB2.out.below hb)
  clear hb
  cases m
  · skip
    go_wp2_with (first | go_skip | (refine wpList_store_row rfl 27 _ _ rfl bz uz.cells rfl rfl 27 _ Hz.out (by kernel_rfl) rfl (agg_one uz) ?_))
    refine bodyPost_ret (results_cell_tmp (fr := (0, 0)) rfl _ _ bz 27 uz.cells _ rfl (heap_setRow Hz.out _) Tryz.underlying27 rfl (by kernel_rfl)) rfl ?_
    exact ⟨by rw [HR.out]; exact ⟨uz, rfl, rfl, fun _ => ⟨by decide, by decide, by decide, by decide, by decide, by decide, by decide, by decide, by simp [uz], zrd _⟩⟩, below_setRow HB.out hlw_bz _⟩
  go_wp2_with fail
  refine (Whole_c c (Nat.le_trans HCL.out (by decide)) _ (HG.out.below HB.out) (tabs_below HTB.out HB.out)).mono ?_
  rw [HP.out]
  rintro e V3 ⟨rfl, hb⟩
  replace HB := Lib.hid (b_then HB.out hb)
  replace Hz := Lib.hid (obj_b hb Hz.out)
  replace Hb := Lib.hid (obj_b hb Hb.out)
  replace OB2 := Lib.hid (OB2.out.below hb)
  clear hb
  cases p
  rotate_left
  · skip
    have hlt : bz < V3.heap.size := h_lt Hz.out
    have HLT := Lib.hid hlt
    clear hlt
    go_wp2_with fail
    refine (UrlParseF_c c (Nat.le_trans HCL.out (by decide)) _ (HG.out.below HB.out) (tabs_below HTB.out HB.out)).mono ?_
    unfold ParseRF
    rintro e V4 ⟨⟨v, rfl, hvp, hvf, hvo⟩, hb⟩
    replace HB := Lib.hid (b_then HB.out hb)
    replace Hz := Lib.hid (obj_b hb Hz.out)
    replace Hb := Lib.hid (obj_b hb Hb.out)
    replace OB2 := Lib.hid (OB2.out.below hb)
    clear hb
    have VP := Lib.hid hvp
    have VO := Lib.hid hvo
    clear hvp hvo
    have hbz2 : From (bz + 1) v.a v.xs := fun g o e hx => by have := hvf g o e hx; have := HLT.out; omega
    have HVF := Lib.hid hbz2
    clear hvf hbz2
    go_wp2_with (first | go_skip | (refine wpList_store_row rfl 27 _ _ rfl bz v.cells rfl rfl 27 _ Hz.out (by kernel_rfl) rfl (agg_one v) ?_))
    refine bodyPost_ret (results_cell_tmp (fr := (0, 0)) rfl _ _ bz 27 v.cells _ rfl (heap_setRow Hz.out _) Tryz.underlying27 rfl (by kernel_rfl)) rfl ?_
    exact ⟨by rw [HR.out]; exact ⟨v, rfl, VP.out, fun h => Ok_row (VO.out h) HVF.out (Nat.lt_succ_self _) _⟩, below_setRow HB.out hlw_bz _⟩
  replace HCL : Hid (c.length ≤ 3000) := Lib.hid (HWC.out HP.out)
  clear HWC
  obtain ⟨c0, c1, c2, c3, c4, c5, c6, c7, c8, c9, c10, c11, c12, c13, c14, c15, c16, c17, c18, c19, c20⟩ := UrlAt.of_heap Hb.out
  go_wp2_with fail
  refine (Web_c b.sc _).mono ?_
  rintro e V50 ⟨rfl, rfl⟩
  clear c0 c1 c2 c3 c4 c5 c6 c7 c8 c9 c10 c11 c12 c13 c14 c15 c16 c17 c18 c19 c20
  by_cases hw : PM.web b.sc = 0
  · have hw2 : (PM.web b.sc == 0) = true := by simpa using hw
    have HW := Lib.hid hw
    clear hw
    replace HR : Hid (PM.resolveC b.pm c = none) := Lib.hid (by rw [HR.out, if_neg (by simp), if_neg (by simp), if_pos (show PM.web b.pm.scheme = 0 from HW.out)])
    go_wp2_with (first | go_skip | (refine wpList_store_row rfl 27 _ _ rfl bz uz.cells rfl rfl 27 _ Hz.out (by kernel_rfl) rfl (agg_one uz) ?_))
    refine bodyPost_ret (results_cell_tmp (fr := (0, 0)) rfl _ _ bz 27 uz.cells _ rfl (heap_setRow Hz.out _) Tryz.underlying27 rfl (by kernel_rfl)) rfl ?_
    exact ⟨by rw [HR.out]; exact ⟨uz, rfl, rfl, fun _ => ⟨by decide, by decide, by decide, by decide, by decide, by decide, by decide, by decide, by simp [uz], zrd _⟩⟩, below_setRow HB.out hlw_bz _⟩
  have hw2 : (PM.web b.sc == 0) = false := by simpa using hw
  have HW := Lib.hid hw
  clear hw
  obtain ⟨r, hr⟩ : ∃ r, PM.two47 c = r := ⟨_, rfl⟩
  have HRR := Lib.hid hr
  rw [hr] at HR
  clear hr
  replace HR : Hid (PM.resolveC b.pm c = if r then PM.urlParse (b.pm.scheme ++ 58 :: c) else some (PM.beside b.pm c)) := Lib.hid (by rw [HR.out, if_neg (by simp), if_neg (by simp), if_neg (show PM.web b.pm.scheme ≠ 0 from HW.out)])
  have HSC : Hid (b.sc.length ≤ 5) := Lib.hid (by rcases PM.web_cases HW.out with e | e <;> rw [e] <;> decide)
  go_wp2_with fail
  refine (HasP2_c c _).mono ?_
  rw [HRR.out]
  rintro e V51 ⟨rfl, rfl⟩
  clear hw2
  cases r
  rotate_left
  · have hlt : bz < V51.heap.size := h_lt Hz.out
    have HLT := Lib.hid hlt
    clear hlt
    replace HR : Hid (PM.resolveC b.pm c = PM.urlParse (b.sc ++ 58 :: c)) := Lib.hid (HR.out.trans (if_pos rfl))
    have c0 : V51.cell? ⟨w.heap.size, 0, none⟩ = some (.string (mkS b.sc)) := by rw [Lib.cell_of_heap Hb.out]; rfl
    have l1 : ¬ 9223372036854775807 < b.sc.length + 1 := by have := HSC.out; omega
    have l2 : ¬ 9223372036854775807 < b.sc.length + 1 + c.length := by have := HSC.out; have := HCL.out; omega
    have he : mkS b.sc ++ { data := #[58] } ++ mkS c = mkS (b.sc ++ 58 :: c) := by
      show mkS b.sc ++ mkS [58] ++ mkS c = _
      rw [mkS_append, mkS_append]
      simp
    have HE := Lib.hid he
    clear he
    go_wp2_with fail
    rw [HE.out]
    refine (UrlParseF_c (b.sc ++ 58 :: c) (by have := HSC.out; have := HCL.out; simp; omega) _ (HG.out.below HB.out) (tabs_below HTB.out HB.out)).mono ?_
    unfold ParseRF
    rintro e V52 ⟨⟨v, rfl, hvp, hvf, hvo⟩, hb⟩
    clear c0 l1 l2
    replace HB := Lib.hid (b_then HB.out hb)
    replace Hz := Lib.hid (obj_b hb Hz.out)
    replace Hb := Lib.hid (obj_b hb Hb.out)
    replace OB2 := Lib.hid (OB2.out.below hb)
    clear hb
    have VP := Lib.hid hvp
    have VO := Lib.hid hvo
    clear hvp hvo
    have hbz2 : From (bz + 1) v.a v.xs := fun g o e hx => by have := hvf g o e hx; have := HLT.out; omega
    have HVF := Lib.hid hbz2
    clear hvf hbz2
    go_wp2_with (first | go_skip | (refine wpList_store_row rfl 27 _ _ rfl bz v.cells rfl rfl 27 _ Hz.out (by kernel_rfl) rfl (agg_one v) ?_))
    refine bodyPost_ret (results_cell_tmp (fr := (0, 0)) rfl _ _ bz 27 v.cells _ rfl (heap_setRow Hz.out _) Tryz.underlying27 rfl (by kernel_rfl)) rfl ?_
    exact ⟨by rw [HR.out]; exact ⟨v, rfl, VP.out, fun h => Ok_row (VO.out h) HVF.out (Nat.lt_succ_self _) _⟩, below_setRow HB.out hlw_bz _⟩
  replace HR : Hid (PM.resolveC b.pm c = some (PM.beside b.pm c)) := Lib.hid (HR.out.trans (if_neg (by simp)))
  have HBW : Hid (PM.urlMay b.pm = true ∧ PM.web b.pm.scheme ≠ 0) := Lib.hid ⟨HM.out, HW.out⟩
  have hlz : bz < V51.heap.size := h_lt Hz.out
  have HLZ := Lib.hid hlz
  clear hlz
  go_wp2_with (first | go_skip | (refine wpList_load_g 27 _ rfl (by kernel_rfl) w.heap.size rfl Hb.out Tryz.underlying27 rfl (by kernel_rfl) ?_))
  refine (Bare2_c b _ OB2.out).mono ?_
  rintro e V3 ⟨x, rfl, hxp, hxo, hxf, hcap, hb⟩
  replace HB := Lib.hid (b_then HB.out hb)
  replace Hz := Lib.hid (obj_b hb Hz.out)
  replace Hb := Lib.hid (obj_b hb Hb.out)
  replace OB2 := Lib.hid (OB2.out.below hb)
  clear hb
  have XP := Lib.hid hxp
  have XO := Lib.hid hxo
  have hoff : Off V3.heap.size x := ⟨fun g o e hx => by
      obtain ⟨b', o', e', hl, _⟩ := hxo.rd.at_.resolve_left hx
      rw [e] at e'
      cases e'
      omega, hcap⟩
  have HOFF := Lib.hid hoff
  have hxf2 : From (bz + 1) x.a x.xs := fun g o e hx => by have := hxf g o e hx; have : bz < V51.heap.size := HLZ.out; omega
  have XF := Lib.hid hxf2
  clear hxp hxo hxf hcap hoff OB2 hxf2
  go_upto_region 11 with (first | go_skip | (refine wpList_work rfl _ rfl x rfl ?_))
  obtain ⟨V4, hV⟩ : ∃ V4, V4 = V3.alloc (.cells (newX x).cells 102) := ⟨_, rfl⟩
  rw [← hV]
  have hb : Below V3.heap.size V3 V4 := by rw [hV]; exact b_alloc (Below.refl _ _) _
  have hxa : XAt V3.heap.size (newX x) V4 := ⟨by rw [hV]; exact Go.heap_alloc_new _ _, XO.out.below hb, HOFF.out⟩
  have HXA := Lib.hid hxa
  clear hV hxa XO HOFF
  have hltz : bz < V3.heap.size := h_lt Hz.out
  have hlb : w.heap.size < V3.heap.size := h_lt Hb.out
  replace HB := Lib.hid (b_then HB.out hb)
  replace Hz := Lib.hid (obj_b hb Hz.out)
  replace Hb := Lib.hid (obj_b hb Hb.out)
  clear hb
  generalize V3.heap.size = bw at HXA hltz hlb ⊢
  obtain ⟨t, y, z, q, f, htl⟩ : ∃ t y z q f, PM.tail c = (t, y, z, q, f) := ⟨_, _, _, _, _, rfl⟩
  have HTL := Lib.hid htl
  have hT := fun W h => Tail_c c (Nat.le_trans HCL.out (by decide)) W h
  rw [htl] at hT
  have HT := Lib.hid hT
  have htlen : t.length ≤ 3000 ∧ y.length ≤ 3000 ∧ z.length ≤ 3000 := by
    have h := tail_len3 c
    rw [htl] at h
    have := HCL.out
    exact ⟨Nat.le_trans h.1 this, Nat.le_trans h.2.1 this, Nat.le_trans h.2.2 this⟩
  have HTN := Lib.hid htlen
  clear htl hT htlen
  go_wp2_with fail
  refine (HT.out _ (HG.out.below HB.out)).mono ?_
  rintro e V5 ⟨rfl, hb⟩
  replace HXA := Lib.hid (HXA.out.below hb)
  replace HB := Lib.hid (b_then HB.out hb)
  replace Hz := Lib.hid (obj_b hb Hz.out)
  replace Hb := Lib.hid (obj_b hb Hb.out)
  clear hb
  have c21 : V5.cell? ⟨bw, 21, none⟩ = some (.string (mkS [])) := (Lib.cell_of_heap HXA.out.at_ 21).trans rfl
  have f21 := Lib.frozen_of_heap HXA.out.at_ 21
  have c22 : V5.cell? ⟨bw, 22, none⟩ = some (.string (mkS [])) := (Lib.cell_of_heap HXA.out.at_ 22).trans rfl
  have f22 := Lib.frozen_of_heap HXA.out.at_ 22
  have c23 : V5.cell? ⟨bw, 23, none⟩ = some (.string (mkS [])) := (Lib.cell_of_heap HXA.out.at_ 23).trans rfl
  have f23 := Lib.frozen_of_heap HXA.out.at_ 23
  have c24 : V5.cell? ⟨bw, 24, none⟩ = some (.bool false) := (Lib.cell_of_heap HXA.out.at_ 24).trans rfl
  have f24 := Lib.frozen_of_heap HXA.out.at_ 24
  have c25 : V5.cell? ⟨bw, 25, none⟩ = some (.bool false) := (Lib.cell_of_heap HXA.out.at_ 25).trans rfl
  have f25 := Lib.frozen_of_heap HXA.out.at_ 25
  go_upto_region 12 with fail
  clear c21 f21 c22 f22 c23 f23 c24 f24 c25 f25
  obtain ⟨V6, hV⟩ : ∃ V6, V6 = ((((V5.setCell ⟨bw, 21, none⟩ (.string (mkS t))).setCell ⟨bw, 22, none⟩ (.string (mkS y))).setCell ⟨bw, 23, none⟩ (.string (mkS z))).setCell ⟨bw, 24, none⟩ (.bool q)).setCell ⟨bw, 25, none⟩ (.bool f) := ⟨_, rfl⟩
  rw [← hV]
  have h5 := five_store HXA.out t y z q f
  rw [← hV] at h5
  clear hV
  replace HXA := Lib.hid h5.1
  replace Hz := Lib.hid (h5.2.2 _ _ (by omega) Hz.out)
  replace HB : Hid (Below w.heap.size w V6) := Lib.hid (HB.out.trans (h5.2.1.mono (Nat.le_of_lt hlb)))
  clear h5 Hb
  have hmf : ∀ (fn : Fn) (first cap : Array Value) (w : World), (Instr.makeFunc fn first cap).run Tryz.prog w = .ok (.func fn first cap) w := fun _ _ _ _ => rfl
  go_wp2_with fail
  obtain ⟨V7, hV⟩ : ∃ V7, V7 = V6.alloc (.cells #[.func (Fn.func 73) #[.pointer (some ⟨bw, 0, none⟩)] #[], .func (Fn.func 74) #[.pointer (some ⟨bw, 0, none⟩)] #[]] 1) := ⟨_, rfl⟩
  rw [← hV]
  have hfs : V7.heap[V6.heap.size]? = some (.cells #[.func (Fn.func 73) #[.pointer (some ⟨bw, 0, none⟩)] #[], .func (Fn.func 74) #[.pointer (some ⟨bw, 0, none⟩)] #[]] 1 (0, 0)) := by rw [hV]; exact Go.heap_alloc_new _ _
  have hb : Below V6.heap.size V6 V7 := by rw [hV]; exact b_alloc (Below.refl _ _) _
  have hbs : bw < V6.heap.size := h_lt HXA.out.at_
  replace HXA := Lib.hid (HXA.out.below hb)
  replace Hz := Lib.hid (obj_b hb Hz.out)
  replace HB := Lib.hid (b_then HB.out hb)
  have HFS := Lib.hid hfs
  clear hV hfs hb hmf
  generalize V6.heap.size = bs at HFS hbs ⊢
  have hxs : x.xs = b.xs := by
    have h := congrArg PM.Url.path XP.out
    exact h
  have hxne : x.xs ≠ [] := by rw [hxs]; exact (PM.pathMay_segs (PM.may_web HBW.out.1 HBW.out.2).2.2.2.1).1
  have HXNE := Lib.hid hxne
  have HXN : Hid (x.xs.length ≤ 900) := Lib.hid (by rw [hxs]; exact HN.out)
  clear hxs hxne
  go_loopw [74] (fun i wr => Hid (Below w.heap.size w wr) ∧ Hid (wr.heap[bz]? = some (.cells #[.string ⟨#[]⟩, .string ⟨#[]⟩, .string ⟨#[]⟩, .int .i64 0, .string ⟨#[]⟩, .int .i64 0, .int .i64 0, .int .i64 0, .int .i64 0, .int .i64 0, .int .i64 0, .int .i64 0, .int .i64 0, .int .i64 0, .int .i64 0, .slice none 0 0, .string ⟨#[]⟩, .string ⟨#[]⟩, .string ⟨#[]⟩, .bool false, .bool false] 27 (0, 0))) ∧ Hid (wr.heap[bs]? = some (.cells #[.func (Fn.func 73) #[.pointer (some ⟨bw, 0, none⟩)] #[], .func (Fn.func 74) #[.pointer (some ⟨bw, 0, none⟩)] #[]] 1 (0, 0))) ∧ ((i = .int .i64 0 ∧ Hid (XAt bw ⟨x, t, y, z, q, f⟩ wr)) ∨ (i = .int .i64 1 ∧ ∃ u1 : UV, Hid (XAt bw ⟨u1, t, y, z, q, f⟩ wr) ∧ Hid (u1.pm = { x.pm with path := PM.wayP x.pm.path t }) ∧ Hid (From (bz + 1) u1.a u1.xs)) ∨ (i = .int .i64 2 ∧ ∃ u1 : UV, Hid (XAt bw ⟨tailV ⟨u1, t, y, z, q, f⟩, t, y, z, q, f⟩ wr) ∧ Hid (u1.pm = { x.pm with path := PM.wayP x.pm.path t }) ∧ Hid (From (bz + 1) u1.a u1.xs)))) (fun i _ => 4 - (intOf i).toNat)
  case atStart => exact ⟨HB, Hz, HFS, .inl ⟨rfl, HXA⟩⟩
  case round =>
    obtain ⟨HB, Hz, HFS, hrel⟩ := hrel
    rcases hrel with ⟨rfl, HXA⟩ | ⟨rfl, u1, HXA, HPM, HFR⟩ | ⟨rfl, u1, HXA, HPM, HFR⟩
    · have q0 : wr.cell? ⟨bs, 0, none⟩ = some (.func (Fn.func 73) #[.pointer (some ⟨bw, 0, none⟩)] #[]) := by rw [Lib.cell_of_heap HFS.out]; rfl
      have hltw : bz + 1 ≤ wr.heap.size := h_lt Hz.out
      have HLTW := Lib.hid hltw
      clear hltw
      go_wp2_with fail
      refine (way_c bw ⟨x, t, y, z, q, f⟩ _ HXA.out HXNE.out HTN.out.1 HXN.out (HG.out.below HB.out)).mono ?_
      rintro e V8 ⟨rfl, u1, hxa, hpm, hbe, hkp, hfr⟩
      have H1 := Lib.hid hxa
      have H2 := Lib.hid hpm
      have H3 := Lib.hid (hfr (bz + 1) HLTW.out XF.out)
      have H4 := Lib.hid (hkp _ _ (by omega) Hz.out)
      have H5 := Lib.hid (hkp _ _ (by omega) HFS.out)
      have H6 : Hid (Below w.heap.size w V8) := Lib.hid (HB.out.trans (hbe.mono (Nat.le_of_lt hlb)))
      clear hxa hpm hbe hkp hfr q0
      go_wp2
      exact ⟨⟨H6, H4, H5, .inr (.inl ⟨rfl, u1, H1, H2, H3⟩)⟩, by simp only [intOf]; omega⟩
    · have q1 : wr.cell? ⟨bs, 1, none⟩ = some (.func (Fn.func 74) #[.pointer (some ⟨bw, 0, none⟩)] #[]) := by rw [Lib.cell_of_heap HFS.out]; rfl
      go_wp2_with fail
      refine (tail_c bw u1 t y z q f _ HXA.out HTN.out.2.1 HTN.out.2.2).mono ?_
      rintro e V9 ⟨rfl, hxa, hbe, hkp⟩
      have H1 := Lib.hid hxa
      have H4 := Lib.hid (hkp _ _ (by omega) Hz.out)
      have H5 := Lib.hid (hkp _ _ (by omega) HFS.out)
      have H6 : Hid (Below w.heap.size w V9) := Lib.hid (HB.out.trans (hbe.mono (Nat.le_of_lt hlb)))
      clear hxa hbe hkp q1
      go_wp2
      exact ⟨⟨H6, H4, H5, .inr (.inr ⟨rfl, u1, H1, HPM, HFR⟩)⟩, by simp only [intOf]; omega⟩
    · go_wp2_with (first | go_skip | (refine wpList_load_mg 27 _ rfl (by kernel_rfl) bw 0 rfl (tailV ⟨u1, t, y, z, q, f⟩).cells (x_url HXA.out.at_) Tryz.underlying27 rfl (by kernel_rfl) ?_) | (refine wpList_store_row rfl 27 _ _ rfl bz (tailV ⟨u1, t, y, z, q, f⟩).cells rfl rfl 27 _ Hz.out (by kernel_rfl) rfl (agg_one (tailV ⟨u1, t, y, z, q, f⟩)) ?_))
      refine bodyPost_ret (results_cell_tmp (fr := (0, 0)) rfl _ _ bz 27 (tailV ⟨u1, t, y, z, q, f⟩).cells _ rfl (heap_setRow Hz.out _) Tryz.underlying27 rfl (by kernel_rfl)) rfl ?_
      exact ⟨by rw [HR.out]; exact ⟨(tailV ⟨u1, t, y, z, q, f⟩), rfl, tail_pm HTL.out XP.out HPM.out, fun h => Ok_row HXA.out.ok HFR.out (Nat.lt_succ_self _) _⟩, below_setRow HB.out hlw_bz _⟩
theorem Resolve_c (b : UV) (s : List UInt8) (w : World) (hs : s.length ≤ 3000) (hb0 : b.Ok w) (hn : b.xs.length ≤ 900) (hg : Gl w) (hT : Lib.Utf8Tabs 2 3 w) : Calls Tryz.prog 41 #[.agg b.cells, .string (mkS s)] w fun e w' => ParseR (PM.resolve b.pm s) e w' ∧ Below w.heap.size w w' := Resolve2_c b s w (by omega) (fun _ => hs) hb0 hn hg hT
end Go.Proofs.YtppbkblnjlbnfaaGreatDoor
/-! Contract: postmarklaw11.awake. -/
namespace Go.Proofs.YtppbkblnjlbnfaaGreatDoor
open Go.RowKit
def k11b : PM.Url := ⟨[104, 116, 116, 112], [], [], ⟨1, [97, 46, 111, 114, 103], 0, [0, 0, 0, 0, 0, 0, 0, 0]⟩, -1, [[98], [99], [100]], [], [], [101], false, true⟩
def k11u : PM.Url := ⟨[104, 116, 116, 112], [], [], ⟨1, [97, 46, 111, 114, 103], 0, [0, 0, 0, 0, 0, 0, 0, 0]⟩, -1, [[98], [120]], [], [121], [], true, false⟩
def k11v : PM.Url := ⟨[104, 116, 116, 112], [], [], ⟨1, [97, 46, 111, 114, 103], 0, [0, 0, 0, 0, 0, 0, 0, 0]⟩, -1, [[98], [120]], [], [121], [101], true, true⟩
theorem k11b_parse : PM.urlParse [104, 116, 116, 112, 58, 47, 47, 97, 46, 111, 114, 103, 47, 98, 47, 99, 47, 100, 35, 101] = some k11b := by kernel_rfl
theorem k11_res : PM.resolve k11b [46, 46, 47, 120, 63, 121] = some k11u := by kernel_rfl
theorem k11_inh : PM.inherit k11u k11b = k11v := by kernel_rfl
theorem k11_s1 : PM.showUrl k11u = [104, 116, 116, 112, 58, 47, 47, 97, 46, 111, 114, 103, 47, 98, 47, 120, 63, 121] := by kernel_rfl
theorem k11_s2 : PM.showUrl k11v = [104, 116, 116, 112, 58, 47, 47, 97, 46, 111, 114, 103, 47, 98, 47, 120, 63, 121, 35, 101] := by kernel_rfl
theorem k11_w1 : PM.whole [120, 58, 121] = true := by kernel_rfl
theorem k11_w2 : PM.whole [47, 120, 58, 121] = false := by kernel_rfl
theorem parse_ok {o : Option PM.Url} {e : Ending} {w' : World} {p : PM.Url} (h : ParseR o e w') (ho : o = some p) (hl : p.path.length ≤ 10000) : ∃ v : UV, e = .returned (.tuple #[.agg v.cells, .bool true]) ∧ v.pm = p ∧ v.Ok w' := by
  subst ho
  obtain ⟨v, h1, h2, h3⟩ := h
  have h2' : v.pm = p := h2
  have hx : v.xs = v.pm.path := rfl
  exact ⟨v, h1, h2', h3 (by rw [hx, h2']; exact hl)⟩
theorem res11 (b : UV) (w : World) (hp : b.pm = k11b) (hb0 : b.Ok w) (hg : Gl w) (hT : Lib.Utf8Tabs 2 3 w) : Calls Tryz.prog 41 #[.agg b.cells, .string ⟨#[46, 46, 47, 120, 63, 121]⟩] w fun e w' => (∃ v : UV, e = .returned (.tuple #[.agg v.cells, .bool true]) ∧ v.pm = k11u ∧ v.Ok w') ∧ Below w.heap.size w w' := by
  have hx : b.xs = b.pm.path := rfl
  have h := Resolve_c b [46, 46, 47, 120, 63, 121] w (by decide) hb0 (by rw [hx, hp]; decide) hg hT
  exact (show Calls Tryz.prog 41 #[.agg b.cells, .string (mkS [46, 46, 47, 120, 63, 121])] w _ from h).mono fun e w' h => ⟨parse_ok h.1 (by rw [hp]; exact k11_res) (by decide), h.2⟩
theorem whole11 (l : List UInt8) (a : ByteArray) (t : Bool) (ha : mkS l = a) (hl : l.length ≤ 100000) (ht : PM.whole l = t) (w : World) (hg : Gl w) (hT : Lib.Utf8Tabs 2 3 w) : Calls Tryz.prog 71 #[.string a] w fun e w' => e = .returned (.bool t) ∧ Below w.heap.size w w' := by
  have h := Whole_c l hl w hg hT
  rw [ha, ht] at h
  exact h
end Go.Proofs.YtppbkblnjlbnfaaGreatDoor
