import Derived.Test.YtppbkblnjlbnfaaGreatDoorMay
set_option linter.unusedVariables false
set_option linter.unusedSimpArgs false
/-! Plain law: origins. -/
namespace PM
structure Origin where
  opq : Bool
  sch : L
  host : Host
  port : Int
def noOrigin : Origin := ⟨true, [], noHost, 0⟩
/-- An address that has an origin, and nothing else. -/
def front (o : Origin) : Url := ⟨o.sch, [], [], o.host, o.port, [[]], [], [], [], false, false⟩
/-- An address of the web that may be. -/
def isW (u : Url) : Bool := urlMay u && !decide (web u.scheme = 0)
def originOf (u : Url) : Origin := if isW u then ⟨false, u.scheme, u.host, u.port⟩ else noOrigin
def hostEq (a b : Host) : Bool := decide (a.kind = b.kind) && (decide (a.name = b.name) && (decide (a.num = b.num) && decide (a.six = b.six)))
def originEq (a b : Origin) : Bool := decide (a.opq = b.opq) && (decide (a.sch = b.sch) && (hostEq a.host b.host && decide (a.port = b.port)))
def originMay (o : Origin) : Bool := if o.opq then originEq o noOrigin else originEq (originOf (front o)) o
def originSame (a b : Origin) : Bool := originMay a && (!a.opq && originEq a b)
def nul : L := [110, 117, 108, 108]
def trimSlash (s : L) : L := if s.getLast? = some 47 then s.dropLast else s
def originShow (o : Origin) : L := if !originMay o || o.opq then nul else trimSlash (showUrl (front o))
def both (a b : Url) : Bool := originSame (originOf a) (originOf b)
def localhost : L := [108, 111, 99, 97, 108, 104, 111, 115, 116]
def inner (n : Int) : Bool := decide (0 ≤ n) && (decide (n ≤ 4294967295) && decide (n / 16777216 = 127))
def hostLocal (h : Host) : Bool := if hostMay h then (if h.kind = 1 then (decide (h.name = localhost) || List.isSuffixOf (46 :: localhost) h.name) else if h.kind = 2 then inner h.num else decide (h.six = [0, 0, 0, 0, 0, 0, 0, 1])) else false
def trust (u : Url) : Bool := urlMay u && (decide (u.scheme = https) || (decide (u.scheme = http) && hostLocal u.host))
theorem hostEq_iff (a b : Host) : hostEq a b = true ↔ a = b := by
  obtain ⟨k, n, m, x⟩ := a
  obtain ⟨k', n', m', x'⟩ := b
  unfold hostEq
  simp
theorem originEq_iff (a b : Origin) : originEq a b = true ↔ a = b := by
  obtain ⟨q, s, h, p⟩ := a
  obtain ⟨q', s', h', p'⟩ := b
  unfold originEq
  simp [hostEq_iff]
theorem originEq_comm (a b : Origin) : originEq a b = originEq b a := by
  rw [Bool.eq_iff_iff, originEq_iff, originEq_iff]
  exact eq_comm
theorem originEq_refl (a : Origin) : originEq a a = true := (originEq_iff a a).2 rfl
theorem isW_iff (u : Url) : isW u = true ↔ urlMay u = true ∧ web u.scheme ≠ 0 := by
  unfold isW
  simp
theorem front_may {u : Url} (h : isW u = true) : isW (front ⟨false, u.scheme, u.host, u.port⟩) = true := by
  obtain ⟨h, hw⟩ := (isW_iff u).1 h
  obtain ⟨h1, h2, h3, h4, h5, h6, h7, h8⟩ := may_web h hw
  have hpos : 0 < web u.scheme := by have := web_nonneg u.scheme; omega
  rw [isW_iff]
  refine ⟨?_, hw⟩
  unfold urlMay front
  dsimp only
  rw [opq_of_web hw]
  unfold mayWeb qf
  dsimp only
  rw [decide_eq_true hpos, h1, decide_eq_true h6, decide_eq_true h7, decide_eq_true h8]
  rfl
theorem originMay_open {o : Origin} (h : o.opq = false) : originMay o = isW (front o) := by
  obtain ⟨q, s, ho, p⟩ := o
  dsimp only at h
  subst h
  unfold originMay originOf
  dsimp only
  cases hw : isW (front ⟨false, s, ho, p⟩)
  · rfl
  · rw [if_neg (by simp), if_pos rfl]
    exact originEq_refl _
theorem may_of (u : Url) : originMay (originOf u) = true := by
  unfold originOf
  cases h : isW u
  · rfl
  · rw [if_pos rfl, originMay_open rfl]
    exact front_may h
theorem originOf_front {o : Origin} (h : o.opq = false) (hm : originMay o = true) : originOf (front o) = o := by
  unfold originMay at hm
  rw [h] at hm
  exact (originEq_iff _ _).1 hm
theorem opq_of (u : Url) : (originOf u).opq = !isW u := by
  unfold originOf
  cases isW u <;> rfl
theorem both_iff (a b : Url) : both a b = true ↔ isW a = true ∧ originOf a = originOf b := by
  unfold both originSame
  rw [may_of, opq_of, Bool.true_and, Bool.not_not, Bool.and_eq_true, originEq_iff]
theorem both_eq (a b : Url) : both a b = (isW a && originEq (originOf a) (originOf b)) := by
  rw [Bool.eq_iff_iff, both_iff, Bool.and_eq_true, originEq_iff]
theorem isW_of_eq {a b : Url} (e : originOf a = originOf b) : isW a = isW b := by
  have := congrArg Origin.opq e
  rw [opq_of, opq_of] at this
  simpa using this
theorem both_self (a : Url) : both a a = isW a := by
  rw [both_eq, originEq_refl, Bool.and_true]
theorem both_comm (a b : Url) : both a b = both b a := by
  rw [Bool.eq_iff_iff, both_iff, both_iff]
  constructor
  · rintro ⟨h, e⟩; exact ⟨by rw [← isW_of_eq e]; exact h, e.symm⟩
  · rintro ⟨h, e⟩; exact ⟨by rw [← isW_of_eq e]; exact h, e.symm⟩
theorem both_trans {a b : Url} (h : both a b = true) (c : Url) : both b c = both a c := by
  obtain ⟨hw, e⟩ := (both_iff a b).1 h
  rw [both_eq, both_eq, ← isW_of_eq e, e]
theorem origin_each (a b c : Url) : (both a a == isW a) && ((both a b == both b a) && ((!both a b || (isW a && (both b c == both a c))) && originMay (originOf a))) = true := by
  rw [both_self, both_comm b a, may_of]
  cases h : both a b
  · simp
  · rw [both_trans h, ((both_iff a b).1 h).1]
    simp
theorem originOf_w {u : Url} (h : isW u = true) : originOf u = ⟨false, u.scheme, u.host, u.port⟩ := by
  unfold originOf
  rw [if_pos h]
theorem trust_w {u : Url} (h : trust u = true) : isW u = true := by
  unfold trust at h
  simp only [Bool.and_eq_true, Bool.or_eq_true, decide_eq_true_eq] at h
  rw [isW_iff]
  refine ⟨h.1, ?_⟩
  rcases h.2 with e | ⟨e, _⟩
  · rw [e]; decide
  · rw [e]; decide
theorem trust_both {u v : Url} (h : both u v = true) : trust u = trust v := by
  obtain ⟨hw, e⟩ := (both_iff u v).1 h
  have hv : isW v = true := by rw [← isW_of_eq e]; exact hw
  rw [originOf_w hw, originOf_w hv] at e
  simp only [Origin.mk.injEq, true_and] at e
  obtain ⟨e1, e2, e3⟩ := e
  unfold trust
  rw [((isW_iff u).1 hw).1, ((isW_iff v).1 hv).1, e1, e2]
theorem trust_https {u : Url} (h : u.scheme = https) : trust u = urlMay u := by
  unfold trust
  rw [h]
  simp
theorem origin_port {u : Url} (h : isW u = true) (a : Url) (ha : isW a = true → originOf a = originOf u → False) : both u a = false := by
  cases e : both u a
  · rfl
  · obtain ⟨_, e⟩ := (both_iff u a).1 e
    exact (ha (by rw [← isW_of_eq e]; exact h) e.symm).elim
theorem both_port {u : Url} (h : isW u = true) (p : Int) : both u { u with port := p } = decide (p = u.port) := by
  by_cases e : p = u.port
  · subst e
    rw [decide_eq_true rfl]
    show both u u = true
    rw [both_self, h]
  · rw [decide_eq_false e]
    refine origin_port h _ fun ha ea => e ?_
    rw [originOf_w ha, originOf_w h] at ea
    simpa using ea
theorem both_host {u : Url} (h : isW u = true) (x : Host) : both u { u with host := x } = hostEq x u.host := by
  rw [Bool.eq_iff_iff, hostEq_iff]
  constructor
  · intro e
    obtain ⟨_, e⟩ := (both_iff _ _).1 e
    have ha : isW { u with host := x } = true := by rw [← isW_of_eq e]; exact h
    rw [originOf_w ha, originOf_w h] at e
    simp only [Origin.mk.injEq, true_and] at e
    exact e.1.symm
  · rintro rfl
    show both u u = true
    rw [both_self, h]
theorem both_other {u : Url} (h : isW u = true) {us : L} {pa : List L} (h4 : ready 4 us = true) (hp : pathMay pa = true) : both u { u with user := us, path := pa } = true := by
  obtain ⟨hm, hw⟩ := (isW_iff u).1 h
  obtain ⟨h1, h2, h3, _, h5, h6, h7, h8⟩ := may_web hm hw
  have hpos : 0 < web u.scheme := by have := web_nonneg u.scheme; omega
  have hq : qf u = true := by unfold urlMay at hm; exact (Bool.and_eq_true _ _ ▸ hm).1
  have ha : isW { u with user := us, path := pa } = true := by
    rw [isW_iff]
    refine ⟨?_, hw⟩
    unfold urlMay
    dsimp only
    rw [opq_of_web hw]
    have : qf { u with user := us, path := pa } = true := hq
    rw [this]
    unfold mayWeb
    dsimp only
    rw [decide_eq_true hpos, h1, h4, h3, hp, h5, decide_eq_true h6, decide_eq_true h7, decide_eq_true h8]
    rfl
  rw [both_iff, originOf_w h, originOf_w ha]
  exact ⟨h, rfl⟩
theorem both_scheme {u : Url} (h : isW u = true) {s : L} (hs : s ≠ u.scheme) : both u { u with scheme := s } = false := by
  refine origin_port h _ fun ha ea => hs ?_
  rw [originOf_w ha, originOf_w h] at ea
  simpa using ea
theorem web_eq {u : Url} (h : isW u = true) : u.scheme = http ∨ u.scheme = https := web_cases ((isW_iff u).1 h).2
/-- The door of an origin. -/
def odoor (o : Origin) : L := if o.port = -1 then hostShow o.host else hostShow o.host ++ 58 :: digs o.port.toNat
theorem front_door {o : Origin} (h : isW (front o) = true) : door (front o) = odoor o := by
  obtain ⟨hm, hw⟩ := (isW_iff _).1 h
  have hw' : web o.sch ≠ 0 := hw
  unfold door odoor
  rw [hm]
  show (if (false || decide (web o.sch = 0)) = true then [] else if o.port = -1 then hostShow o.host else hostShow o.host ++ 58 :: digs o.port.toNat) = _
  rw [decide_eq_false hw', if_neg (by simp)]
theorem front_show {o : Origin} (h : isW (front o) = true) : showUrl (front o) = (o.sch ++ 58 :: 47 :: 47 :: odoor o) ++ [47] := by
  obtain ⟨hm, hw⟩ := (isW_iff _).1 h
  rw [show_body hm, body_web hm hw, front_door h]
  have e1 : userinfo (front o) = [] := rfl
  have e2 : pathShow (front o).path = [47] := rfl
  have e3 : when (front o).hasQuery [[63], (front o).query] ++ when (front o).hasFrag [[35], (front o).frag] = [] := rfl
  rw [e1, e2, e3]
  show o.sch ++ 58 :: (47 :: 47 :: (([] ++ odoor o) ++ [47]) ++ []) = _
  simp
theorem originShow_eq {o : Origin} (h : originMay o = true) (hq : o.opq = false) : originShow o = o.sch ++ 58 :: 47 :: 47 :: odoor o := by
  unfold originShow
  rw [h, hq, if_neg (by simp), front_show (by rw [← originMay_open hq]; exact h)]
  unfold trimSlash
  rw [if_pos (by rw [List.getLast?_append]; rfl), List.dropLast_concat]
theorem originShow_no {o : Origin} (h : o.opq = true ∨ originMay o = false) : originShow o = nul := by
  unfold originShow
  rw [if_pos]
  rcases h with h | h <;> simp [h]
theorem show_nul {o : Origin} (h : originMay o = true) (hq : o.opq = false) : originShow o ≠ nul := by
  rw [originShow_eq h hq]
  intro e
  have : (58 : UInt8) ∈ nul := by rw [← e]; simp
  revert this
  decide
theorem originShow_inj {a b : Origin} (ha : originMay a = true) (qa : a.opq = false) (hb : originMay b = true) (qb : b.opq = false) (la : a.host.six.length = 8) (lb : b.host.six.length = 8) (e : originShow a = originShow b) : a = b := by
  have fa : isW (front a) = true := by rw [← originMay_open qa]; exact ha
  have fb : isW (front b) = true := by rw [← originMay_open qb]; exact hb
  rw [originShow_eq ha qa, originShow_eq hb qb] at e
  have e2 : showUrl (front a) = showUrl (front b) := by rw [front_show fa, front_show fb, e]
  have := (show_apart ((isW_iff _).1 fa).1 ((isW_iff _).1 fb).1 la lb).1 e2
  rw [← originOf_front qa ha, ← originOf_front qb hb, this]
theorem of_six {u : Url} (h : u.host.six.length = 8) : (originOf u).host.six.length = 8 := by
  unfold originOf
  split
  · exact h
  · rfl
theorem show_both {u v : Url} (hu : isW u = true) (lu : u.host.six.length = 8) (lv : v.host.six.length = 8) : decide (originShow (originOf u) = originShow (originOf v)) = both u v := by
  rw [Bool.eq_iff_iff, both_iff, decide_eq_true_eq]
  have qu : (originOf u).opq = false := by rw [opq_of, hu]; rfl
  constructor
  · intro e
    refine ⟨hu, ?_⟩
    cases hv : isW v
    · have qv : (originOf v).opq = true := by rw [opq_of, hv]; rfl
      rw [originShow_no (.inl qv)] at e
      exact absurd e (show_nul (may_of u) qu)
    · have qv : (originOf v).opq = false := by rw [opq_of, hv]; rfl
      exact originShow_inj (may_of u) qu (may_of v) qv (of_six lu) (of_six lv) e
  · rintro ⟨_, e⟩
    rw [e]
theorem odoor_all (o : Origin) : ∀ c ∈ odoor o, Plainb c ∨ c = 58 ∨ c = 91 ∨ c = 93 := by
  intro c hc
  unfold odoor at hc
  split at hc
  · exact hostShow_all _ c hc
  · simp only [List.mem_append, List.mem_cons] at hc
    rcases hc with h | rfl | h
    · exact hostShow_all _ c h
    · exact .inr (.inl rfl)
    · exact .inl (digs_plainb _ c h)
theorem odoor_no {o : Origin} {d : UInt8} (h1 : ¬ Plainb d) (h2 : d ≠ 58) (h3 : d ≠ 91) (h4 : d ≠ 93) : ∀ c ∈ odoor o, c ≠ d := by
  intro c hc
  rcases odoor_all o c hc with h | rfl | rfl | rfl
  · exact h.ne d h1
  · exact h2.symm
  · exact h3.symm
  · exact h4.symm
theorem odoor_seen (o : Origin) : ∀ c ∈ odoor o, Seen c := by
  intro c hc
  rcases odoor_all o c hc with h | rfl | rfl | rfl
  · exact h.fine.seen
  · unfold Seen; decide
  · unfold Seen; decide
  · unfold Seen; decide
/-- The text of an origin is parsed to its front. -/
theorem parse_origin {o : Origin} (h : isW (front o) = true) (hl : o.host.six.length = 8) : urlParse (o.sch ++ 58 :: 47 :: 47 :: odoor o) = some (front o) := by
  obtain ⟨hm0, hw0⟩ := (isW_iff _).1 h
  have hw : web o.sch ≠ 0 := hw0
  obtain ⟨hm, _, _, _, _, hp1, hp2, hp3⟩ := may_web hm0 hw0
  have hsc := web_cases hw
  have hss : ∀ c ∈ o.sch, Seen c := by
    rcases hsc with e | e
    · rw [e]; unfold Seen; decide
    · rw [e]; unfold Seen; decide
  have hall : ∀ c ∈ o.sch ++ 58 :: 47 :: 47 :: odoor o, Seen c := by
    intro c hc
    simp only [List.mem_append, List.mem_cons] at hc
    rcases hc with hc | rfl | rfl | rfl | hc
    · exact hss c hc
    · unfold Seen; decide
    · unfold Seen; decide
    · unfold Seen; decide
    · exact odoor_seen o c hc
  have ho := opq_of_web hw
  have hpos : 0 < web o.sch := by have := web_nonneg o.sch; omega
  have hno : ∀ c ∈ 47 :: 47 :: odoor o, c ≠ 63 ∧ c ≠ 35 := by
    intro c hc
    simp only [List.mem_cons] at hc
    rcases hc with rfl | rfl | hc
    · decide
    · decide
    · exact ⟨odoor_no (notP _ (by decide) (by decide) (by decide)) (by decide) (by decide) (by decide) c hc, odoor_no (notP _ (by decide) (by decide) (by decide)) (by decide) (by decide) (by decide) c hc⟩
  have h47 : ∀ c ∈ odoor o, c ≠ 47 := odoor_no (notP _ (by decide) (by decide) (by decide)) (by decide) (by decide) (by decide)
  have h64 : ∀ c ∈ odoor o, c ≠ 64 := odoor_no (notP _ (by decide) (by decide) (by decide)) (by decide) (by decide) (by decide)
  have htl : tail (47 :: 47 :: odoor o) = (47 :: 47 :: odoor o, [], [], false, false) := by
    have := tail_of (b := 47 :: 47 :: odoor o) (q := []) (f := []) (hq := false) (hf := false) hno (by simp) (.inr rfl) (.inr rfl)
    simpa [when] using this
  unfold urlParse
  rw [clean_seen hall]
  unfold parseC
  rw [scheme_of (by rcases hsc with e | e; exact .inl e; exact .inr (.inl e))]
  dsimp only
  rw [htl, ho, decide_eq_true hpos]
  simp only [Bool.not_true, Bool.or_false, Bool.or_self, Bool.false_eq_true, if_false]
  unfold parseT
  rw [ho]
  simp only [Bool.false_eq_true, if_false]
  unfold parseWeb
  simp only [unslash2]
  have hwh : where_ (odoor o) = odoor o := by
    have := List.takeWhile_append_of_pos (p := (· != (47 : UInt8))) (l₁ := odoor o) (l₂ := []) (by intro c hc; simpa using h47 c hc)
    unfold where_
    simpa using this
  have hdr : (odoor o).dropWhile (· != 47) = [] := by
    have := List.dropWhile_append_of_pos (p := (· != (47 : UInt8))) (l₁ := odoor o) (l₂ := []) (by intro c hc; simpa using h47 c hc)
    simpa using this
  have hat : hasAt (odoor o) = false := at_none h64
  rw [hwh, hdr]
  unfold userOf passOf doorOf
  rw [hat]
  simp only [Bool.false_eq_true, if_false]
  have hpp : pathParse [] = [[]] := by decide
  have hhp := hostParse_show o.host hm hl
  rw [hpp]
  obtain ⟨⟨d1, d2⟩, d3⟩ := door_parts (h := o.host) hm
  by_cases hp : o.port = -1
  · have e : odoor o = hostShow o.host := by unfold odoor; rw [if_pos hp]
    rw [e, d1, d2, hhp]
    simp only [portOf, if_true]
    unfold front
    rw [hp]
    rfl
  · have e : odoor o = hostShow o.host ++ 58 :: digs o.port.toNat := by unfold odoor; rw [if_neg hp]
    obtain ⟨d4, d5⟩ := d3 (digs o.port.toNat)
    rw [e, d4, d5, hhp]
    have hp1' : -1 ≤ o.port := hp1
    have hp2' : o.port ≤ 65535 := hp2
    have hp3' : o.port ≠ web o.sch := hp3
    have hpo : portOf o.sch (digs o.port.toNat) = some o.port := by
      unfold portOf
      rw [if_neg (digs_ne _), read_digs _ 65535 (by omega) (by decide)]
      dsimp only
      have e : ((o.port.toNat : Nat) : Int) = o.port := by omega
      rw [e, if_neg hp3']
    rw [hpo]
    rfl
end PM
/-! Plain law: what an address tells. -/
namespace PM
def stripOrigin (u : Url) : L := if isW u then originShow (originOf u) ++ [47] else []
def stripFull (u : Url) : L := if isW u then showUrl (open_ u) else []
def stripCap (u : Url) : L := if (stripFull u).length ≤ 4096 then stripFull u else stripOrigin u
/-- What is told at a level; whether something is. -/
def stripAt (u : Url) (k : Int) : L := if k = 1 then stripOrigin u else if k = 2 then stripCap u else []
def meet (a b : Int) : Int := if a < 0 ∨ b < 0 ∨ 3 ≤ a ∨ 3 ≤ b then 0 else min a b
theorem isW_open {u : Url} (h : isW u = true) : isW (open_ u) = true := by
  obtain ⟨hm, hw⟩ := (isW_iff u).1 h
  exact (isW_iff _).2 ⟨urlMay_open hm, hw⟩
theorem door_odoor {u : Url} (h : isW u = true) : door u = odoor (originOf u) := by
  obtain ⟨hm, hw⟩ := (isW_iff u).1 h
  rw [originOf_w h]
  unfold door odoor
  rw [hm]
  dsimp only
  rw [decide_eq_false hw, if_neg (by simp)]
theorem oshow {u : Url} (h : isW u = true) : originShow (originOf u) = u.scheme ++ 58 :: 47 :: 47 :: odoor (originOf u) := by
  rw [originShow_eq (may_of u) (by rw [opq_of, h]; rfl), originOf_w h]
theorem full_origin {u : Url} (h : isW u = true) : ∃ r, stripFull u = stripOrigin u ++ r := by
  obtain ⟨hm, hw⟩ := (isW_iff u).1 h
  unfold stripFull stripOrigin
  rw [if_pos h, if_pos h, oshow h, show_body (urlMay_open hm), body_web (urlMay_open hm) hw, door_open hm, door_odoor h]
  have e1 : userinfo (open_ u) = [] := rfl
  rw [e1]
  obtain ⟨hne, _⟩ := pathMay_segs (may_web hm hw).2.2.2.1
  have hp : ∃ t, pathShow (open_ u).path = 47 :: t := by
    show ∃ t, pathShow u.path = 47 :: t
    cases hp : u.path with
    | nil => exact absurd hp hne
    | cons s r => rw [pathShow_join]; exact ⟨_, rfl⟩
  obtain ⟨t, ht⟩ := hp
  rw [ht]
  exact ⟨t ++ (when (open_ u).hasQuery [[63], (open_ u).query] ++ when (open_ u).hasFrag [[35], (open_ u).frag]), by show u.scheme ++ _ = _; simp [List.append_assoc]⟩
theorem origin_ne {u : Url} (h : isW u = true) : stripOrigin u ≠ [] := by
  unfold stripOrigin
  rw [if_pos h]
  simp
theorem cap_ne {u : Url} (h : isW u = true) : stripCap u ≠ [] := by
  unfold stripCap
  obtain ⟨r, e⟩ := full_origin h
  split
  · rw [e]
    have := origin_ne h
    simp [this]
  · exact origin_ne h
theorem strip_no {u : Url} (h : isW u = false) (k : Int) : stripAt u k = [] := by
  unfold stripAt stripCap stripFull stripOrigin
  rw [h]
  simp
theorem origin_le {u : Url} (h : isW u = true) : (stripOrigin u).length ≤ (stripFull u).length := by
  obtain ⟨r, e⟩ := full_origin h
  rw [e]
  simp
theorem origin_take {u : Url} (h : isW u = true) : (stripFull u).take (stripOrigin u).length = stripOrigin u := by
  obtain ⟨r, e⟩ := full_origin h
  rw [e]
  simp
theorem origin_le_cap {u : Url} (h : isW u = true) : (stripOrigin u).length ≤ (stripCap u).length := by
  unfold stripCap
  split
  · exact origin_le h
  · exact Nat.le_refl _
/-- StripMeet. -/
theorem strip_meet (u : Url) (a b : Int) : ((!decide (stripAt u (meet a b) ≠ [])) || (decide (stripAt u a ≠ []) && (decide (stripAt u b ≠ []) && (decide ((stripAt u (meet a b)).length ≤ (stripAt u a).length) && (decide ((stripAt u (meet a b)).length ≤ (stripAt u b).length) && (decide (stripAt u (meet a b) = stripAt u a) || decide (stripAt u (meet a b) = stripAt u b))))))) = true ∧ (decide (stripAt u a ≠ []) && decide (stripAt u b ≠ [])) = decide (stripAt u (meet a b) ≠ []) := by
  cases h : isW u
  · rw [strip_no h, strip_no h, strip_no h]
    exact ⟨rfl, rfl⟩
  · have e0 : ∀ k : Int, k ≠ 1 → k ≠ 2 → stripAt u k = [] := fun k h1 h2 => by unfold stripAt; rw [if_neg h1, if_neg h2]
    have e1 : stripAt u 1 = stripOrigin u := rfl
    have e2 : stripAt u 2 = stripCap u := rfl
    have n1 := origin_ne h
    have n2 := cap_ne h
    have hl := origin_le_cap h
    by_cases ha : a = 1 ∨ a = 2
    · by_cases hb : b = 1 ∨ b = 2
      · have hm : meet a b = min a b := by unfold meet; rw [if_neg (by omega)]
        rw [hm]
        rcases ha with rfl | rfl <;> rcases hb with rfl | rfl <;>
          simp only [show min (1 : Int) 1 = 1 from rfl, show min (1 : Int) 2 = 1 from rfl, show min (2 : Int) 1 = 1 from rfl, show min (2 : Int) 2 = 2 from rfl, e1, e2] <;> simp [n1, n2, hl]
      · have hm : meet a b ≠ 1 ∧ meet a b ≠ 2 := by unfold meet; split <;> omega
        rw [e0 b (by omega) (by omega), e0 (meet a b) hm.1 hm.2]
        simp
    · have hm : meet a b ≠ 1 ∧ meet a b ≠ 2 := by unfold meet; split <;> omega
      rw [e0 a (by omega) (by omega), e0 (meet a b) hm.1 hm.2]
      simp
theorem origin_blind {u v : Url} (h : both u v = true) : stripOrigin u = stripOrigin v := by
  obtain ⟨hw, e⟩ := (both_iff u v).1 h
  unfold stripOrigin
  rw [← isW_of_eq e, e]
theorem origin_both {u v : Url} (hu : isW u = true) (hv : isW v = true) (lu : u.host.six.length = 8) (lv : v.host.six.length = 8) : decide (stripOrigin u = stripOrigin v) = both u v := by
  rw [← show_both hu lu lv]
  unfold stripOrigin
  rw [if_pos hu, if_pos hv, decide_eq_decide]
  constructor
  · intro e; exact List.append_cancel_right e
  · intro e; rw [e]
def blindW (u v : Url) : Url := { u with user := v.user, pass := v.pass, frag := v.frag, hasFrag := v.hasFrag }
theorem blind_w {u v : Url} (hu : isW u = true) (hv : isW v = true) : isW (blindW u v) = true := by
  obtain ⟨hm, hw⟩ := (isW_iff u).1 hu
  obtain ⟨hmv, hwv⟩ := (isW_iff v).1 hv
  obtain ⟨h1, h2, h3, h4, h5, h6, h7, h8⟩ := may_web hm hw
  obtain ⟨g1, g2, g3, g4, g5, g6, g7, g8⟩ := may_web hmv hwv
  have hpos : 0 < web u.scheme := by have := web_nonneg u.scheme; omega
  obtain ⟨q1, q2, q3, q4⟩ := may_qf hm
  obtain ⟨p1, p2, p3, p4⟩ := may_qf hmv
  rw [isW_iff]
  refine ⟨?_, hw⟩
  unfold urlMay blindW
  dsimp only
  rw [opq_of_web hw]
  unfold mayWeb qf
  dsimp only
  rw [decide_eq_true hpos, h1, g2, g3, h4, h5, decide_eq_true h6, decide_eq_true h7, decide_eq_true h8, q1, p2]
  have a1 : (u.hasQuery || u.query.isEmpty) = true := by rcases q3 with e | e <;> simp [e]
  have a2 : (v.hasFrag || v.frag.isEmpty) = true := by rcases p4 with e | e <;> simp [e]
  rw [a1, a2]
  rfl
theorem blind_full {u v : Url} (hu : isW u = true) (hv : isW v = true) : stripFull (blindW u v) = stripFull u ∧ stripCap (blindW u v) = stripCap u := by
  have hw := blind_w hu hv
  have e1 : stripFull (blindW u v) = stripFull u := by
    unfold stripFull
    rw [if_pos hw, if_pos hu]
    rfl
  have e2 : stripOrigin (blindW u v) = stripOrigin u := by
    unfold stripOrigin
    rw [if_pos hw, if_pos hu, originOf_w hw, originOf_w hu]
    rfl
  refine ⟨e1, ?_⟩
  unfold stripCap
  rw [e1, e2]
def withQ (u : Url) (q : L) : Url := { u with query := q, hasQuery := true }
theorem query_full {u : Url} {q : L} (hu : isW u = true) (hv : isW (withQ u q) = true) (lu : u.host.six.length = 8) : stripOrigin u = stripOrigin (withQ u q) ∧ decide (stripFull u = stripFull (withQ u q)) = (u.hasQuery && decide (u.query = q)) := by
  constructor
  · unfold stripOrigin
    rw [if_pos hu, if_pos hv, originOf_w hu, originOf_w hv]
    rfl
  · unfold stripFull
    rw [if_pos hu, if_pos hv, Bool.eq_iff_iff, decide_eq_true_eq, show_apart ((isW_iff _).1 (isW_open hu)).1 ((isW_iff _).1 (isW_open hv)).1 lu lu]
    obtain ⟨s, us, pa, ho, p, l, o, qq, f, hq, hf⟩ := u
    unfold withQ open_ bare
    simp [and_comm]
theorem odoor_len {o : Origin} (h : isW (front o) = true) (hl : o.host.six.length = 8) (h3 : (sixShow o.host.six).length ≤ 3000) (h4 : (fourShow o.host.num).length ≤ 100) (h5 : (digs o.port.toNat).length ≤ 20) : (odoor o).length ≤ 3100 := by
  obtain ⟨hm0, hw0⟩ := (isW_iff _).1 h
  have hm : hostMay o.host = true := (may_web hm0 hw0).1
  have hh : (hostShow o.host).length ≤ 3002 := by
    unfold hostShow
    rw [if_pos hm]
    split
    · rename_i hk
      unfold hostMay at hm
      rw [if_pos hk] at hm
      unfold fits at hm
      simp only [Bool.and_eq_true, Bool.not_eq_true', decide_eq_false_iff_not] at hm
      omega
    · split
      · omega
      · simp
        omega
  unfold odoor
  split
  · omega
  · simp
    omega
/-- What is told is parsed to an address of the same origin, without a user, and a fragment. -/
theorem strip_safe {u : Url} (h : isW u = true) (lu : u.host.six.length = 8) {k : Int} (hk : k = 1 ∨ k = 2) : ∃ x, urlParse (stripAt u k) = some x ∧ x.user = [] ∧ x.pass = [] ∧ x.hasFrag = false ∧ both u x = true := by
  have ho : ∃ x, urlParse (stripOrigin u) = some x ∧ x.user = [] ∧ x.pass = [] ∧ x.hasFrag = false ∧ both u x = true := by
    have qo : (originOf u).opq = false := by rw [opq_of, h]; rfl
    have hf : isW (front (originOf u)) = true := by rw [← originMay_open qo]; exact may_of u
    have e : stripOrigin u = showUrl (front (originOf u)) := by
      rw [front_show hf]
      unfold stripOrigin
      rw [if_pos h, originShow_eq (may_of u) qo]
    refine ⟨_, by rw [e]; exact parse_show ((isW_iff _).1 hf).1 (of_six lu), rfl, rfl, rfl, ?_⟩
    rw [both_iff, originOf_front qo (may_of u)]
    exact ⟨h, rfl⟩
  have hfu : ∃ x, urlParse (stripFull u) = some x ∧ x.user = [] ∧ x.pass = [] ∧ x.hasFrag = false ∧ both u x = true := by
    unfold stripFull
    rw [if_pos h]
    have hw := isW_open h
    refine ⟨_, parse_show ((isW_iff _).1 hw).1 lu, rfl, rfl, rfl, ?_⟩
    rw [both_iff, originOf_w h, originOf_w hw]
    exact ⟨h, rfl⟩
  rcases hk with rfl | rfl
  · exact ho
  · show ∃ x, urlParse (stripCap u) = some x ∧ _
    unfold stripCap
    split
    · exact hfu
    · exact ho
theorem strip_len {u : Url} (h : isW u = true) (lu : u.host.six.length = 8) (h3 : (sixShow u.host.six).length ≤ 3000) (h4 : (fourShow u.host.num).length ≤ 100) (h5 : (digs u.port.toNat).length ≤ 20) : (stripOrigin u).length ≤ 4096 ∧ (stripCap u).length ≤ 4096 := by
  have qo : (originOf u).opq = false := by rw [opq_of, h]; rfl
  have hf : isW (front (originOf u)) = true := by rw [← originMay_open qo]; exact may_of u
  have hs : u.scheme.length ≤ 5 := by rcases web_eq h with e | e <;> rw [e] <;> decide
  have h1 : (stripOrigin u).length ≤ 4096 := by
    unfold stripOrigin
    rw [if_pos h, oshow h]
    have := odoor_len hf (of_six lu) (by rw [originOf_w h]; exact h3) (by rw [originOf_w h]; exact h4) (by rw [originOf_w h]; exact h5)
    simp
    omega
  refine ⟨h1, ?_⟩
  unfold stripCap
  split
  · assumption
  · exact h1
end PM
/-! Plain law: taints, and what tells who asks. -/
namespace PM
structure Req where
  url : Url
  method : L
  heads : List (L × L)
  body : Bool
  origin : Origin
  mode : Int
  redirect : Int
  policy : Int
  referrer : L
  tainted : Bool
  cross : Bool
  count : Int
def taintOf (was : Bool) (o : Origin) (cur next : Url) : Bool := was || (!both cur next && !originSame o (originOf cur))
def creds (u : Url) : Bool := !(u.user ++ u.pass).isEmpty
def GET : L := [71, 69, 84]
def HEAD : L := [72, 69, 65, 68]
def home (q : Req) : Bool := originSame q.origin (originOf q.url)
def crossed (q : Req) : Bool := q.cross || (decide (q.mode = 1) && !home q)
def plainM (m : L) : Bool := decide (m = GET) || decide (m = HEAD)
def quiet (q : Req) : Bool := plainM q.method && (!decide (q.mode = 1) || !crossed q)
def down (q : Req) : Bool := !q.origin.opq && (decide (q.origin.sch = https) && !decide (q.url.scheme = https))
def hide (q : Req) : Bool := if q.policy = 1 then true else if q.policy = 0 ∨ q.policy = 2 ∨ q.policy = 5 ∨ q.policy = 7 then down q else if q.policy = 3 then !home q else false
def sends (q : Req) : L × Bool := if quiet q then ([], false) else if q.tainted || (!decide (q.mode = 1) && hide q) then (nul, true) else (originShow q.origin, true)
theorem taint_stays (o : Origin) (cur next : Url) : (taintOf true o cur next && ((!taintOf false o cur next || (!both cur next && !originSame o (originOf cur))) && (taintOf false o cur next || (both cur next || originSame o (originOf cur))))) = true := by
  unfold taintOf
  cases both cur next <;> cases originSame o (originOf cur) <;> rfl
theorem creds_eq (u : Url) : creds u = (!u.user.isEmpty || !u.pass.isEmpty) := by
  unfold creds
  cases u.user <;> cases u.pass <;> rfl
theorem sends_no {q : Req} (h : quiet q = true) : sends q = ([], false) := by unfold sends; rw [if_pos h]
theorem sends_yes {q : Req} (h : quiet q = false) : sends q = (if q.tainted || (!decide (q.mode = 1) && hide q) then nul else originShow q.origin, true) := by
  unfold sends
  rw [if_neg (by simp [h])]
  split <;> rfl
/-- TaintNull. -/
theorem taint_null (q : Req) (h : (sends q).2 = true) : (decide ((sends q).1 = nul) || (decide ((sends q).1 = originShow q.origin) && !q.tainted)) = true ∧ (home q && (!q.cross && decide (q.method = GET))) = false ∧ quiet q = false := by
  cases hq : quiet q
  · refine ⟨?_, ?_, rfl⟩
    · rw [sends_yes hq]
      cases q.tainted <;> cases decide (q.mode = 1) <;> cases hide q <;> simp
    · cases hh : (home q && (!q.cross && decide (q.method = GET)))
      · rfl
      · simp only [Bool.and_eq_true, Bool.not_eq_true', decide_eq_true_eq] at hh
        obtain ⟨h1, h2, h3⟩ := hh
        unfold quiet crossed plainM at hq
        rw [h1, h2, h3] at hq
        cases decide (q.mode = 1) <;> simp at hq
  · rw [sends_no hq] at h
    cases h
/-- TaintCors. -/
theorem taint_cors (q k : Req) (hk : k = { q with policy := k.policy }) (hm : q.mode = 1) : sends q = sends k ∧ (home q = false → (sends q).2 = true → crossed q = true) ∧ (home q = false → (sends q).2 = true) ∧ (plainM q.method = false → (sends q).2 = true) ∧ ((sends q).2 = true → q.tainted = true → (sends q).1 = nul) ∧ ((sends q).2 = true → q.tainted = false → (sends q).1 = originShow q.origin) := by
  have hqk : quiet k = quiet q := by rw [hk]; rfl
  have e : sends q = sends k := by
    cases hq : quiet q
    · rw [sends_yes hq, sends_yes (by rw [hqk]; exact hq), hk]
      dsimp only
      rw [decide_eq_true hm]
      simp
    · rw [sends_no hq, sends_no (by rw [hqk]; exact hq)]
  have hc : home q = false → crossed q = true := by
    intro h
    unfold crossed
    rw [decide_eq_true hm, h]
    simp
  have hy : quiet q = false → (sends q).2 = true := fun h => by rw [sends_yes h]
  refine ⟨e, fun h _ => hc h, ?_, ?_, ?_, ?_⟩
  · intro h
    refine hy ?_
    unfold quiet
    rw [hc h, decide_eq_true hm]
    simp
  · intro h
    refine hy ?_
    unfold quiet
    rw [h]
    rfl
  · intro h ht
    cases hq : quiet q
    · rw [sends_yes hq, ht]
      rfl
    · rw [sends_no hq] at h
      cases h
  · intro h ht
    cases hq : quiet q
    · rw [sends_yes hq, ht, decide_eq_true hm]
      rfl
    · rw [sends_no hq] at h
      cases h
/-- TaintPolicy. -/
theorem taint_policy (q : Req) (hm : plainM q.method = false) (h1 : q.mode ≠ 1) (ht : q.tainted = false) : sends q = (if hide q then nul else originShow q.origin, true) := by
  have hq : quiet q = false := by unfold quiet; rw [hm]; rfl
  rw [sends_yes hq, ht, decide_eq_false h1]
  cases hide q <;> rfl
end PM
/-! Plain law: what changes on the way. -/
namespace PM
abbrev Fs := List (L × L)
def hasN (l : Fs) (name : L) : Bool := l.any fun f => same f.1 name
def dropN (l : Fs) (names : List L) : Fs := l.filter fun f => !(names.any fun s => same s f.1)
def cEnc : L := [67, 111, 110, 116, 101, 110, 116, 45, 69, 110, 99, 111, 100, 105, 110, 103]
def cLang : L := [67, 111, 110, 116, 101, 110, 116, 45, 76, 97, 110, 103, 117, 97, 103, 101]
def cLoc : L := [67, 111, 110, 116, 101, 110, 116, 45, 76, 111, 99, 97, 116, 105, 111, 110]
def cType : L := [67, 111, 110, 116, 101, 110, 116, 45, 84, 121, 112, 101]
def bodies : List L := [cEnc, cLang, cLoc, cType]
def auth : L := [65, 117, 116, 104, 111, 114, 105, 122, 97, 116, 105, 111, 110]
def POST : L := [80, 79, 83, 84]
def plainH (l : Fs) : Bool := !(bodies.any fun s => hasN l s)
def rewrites (st : Int) (m : L) : Bool := if st = 301 ∨ st = 302 then decide (m = POST) else if st = 303 then !decide (m = GET) && !decide (m = HEAD) else false
def own (q : Req) (names : List L) : Req := { q with heads := dropN q.heads names }
def change (q : Req) (st : Int) : Req := if rewrites st q.method then { own q bodies with method := GET, body := false } else own q []
def i64 (n : Int) : Int := (n + 9223372036854775808) % 18446744073709551616 - 9223372036854775808
def away (q : Req) (next : Url) : Req := { (if both q.url next then own q [] else own q [auth]) with tainted := taintOf q.tainted q.origin q.url next, cross := crossed q, url := next, count := i64 (q.count + 1) }
def named (p q : Req) : Bool := urlSame p.url q.url && (decide (p.heads = q.heads) && (decide (p.method = q.method) && (decide (p.body = q.body) && (originEq p.origin q.origin && (decide (p.mode = q.mode) && (decide (p.redirect = q.redirect) && (decide (p.policy = q.policy) && (decide (p.referrer = q.referrer) && (decide (p.tainted = q.tainted) && (decide (p.cross = q.cross) && decide (p.count = q.count)))))))))))
theorem named_iff (p q : Req) : named p q = true ↔ p = q := by
  obtain ⟨u, m, h, b, o, mo, re, po, rf, ta, cr, co⟩ := p
  obtain ⟨u', m', h', b', o', mo', re', po', rf', ta', cr', co'⟩ := q
  unfold named
  simp [urlSame_iff, originEq_iff]
  intro _
  constructor
  · rintro ⟨h2, h3, h4⟩
    exact ⟨h3, h2, h4⟩
  · rintro ⟨h2, h3, h4⟩
    exact ⟨h3, h2, h4⟩
theorem dropN_nil (l : Fs) : dropN l [] = l := by
  unfold dropN
  simp
theorem own_nil (q : Req) : own q [] = q := by
  unfold own
  rw [dropN_nil]
theorem same_comm (a b : L) : same a b = same b a := by
  unfold same
  rw [Bool.eq_iff_iff, beq_iff_eq, beq_iff_eq]
  exact eq_comm
theorem hasN_drop (l : Fs) (names : List L) (s : L) (h : s ∈ names) : hasN (dropN l names) s = false := by
  unfold hasN dropN
  rw [List.any_eq_false]
  intro f hf
  rw [List.mem_filter] at hf
  intro e
  have : (names.any fun s => same s f.1) = true := List.any_eq_true.2 ⟨s, h, by rw [same_comm]; exact e⟩
  rw [this] at hf
  simp at hf
theorem plainH_drop (l : Fs) : plainH (dropN l bodies) = true := by
  unfold plainH
  rw [Bool.not_eq_true', List.any_eq_false]
  intro s hs
  rw [hasN_drop l bodies s hs]
  decide
theorem dropN_drop (l : Fs) (names : List L) : dropN (dropN l names) names = dropN l names := by
  unfold dropN
  rw [List.filter_filter]
  congr 1
  funext f
  simp
theorem rew_get (st : Int) : rewrites st GET = false := by
  unfold rewrites
  split
  · rfl
  · split <;> rfl
theorem rew_head (st : Int) : rewrites st HEAD = false := by
  unfold rewrites
  split
  · rfl
  · split <;> rfl
/-- MethodLost. -/
theorem method_lost (q : Req) (st t : Int) : (rewrites st q.method = false → change q st = q) ∧ (rewrites st q.method = true → (change q st).method = GET ∧ (change q st).body = false ∧ plainH (change q st).heads = true ∧ change (change q st) t = change q st ∧ q.method ≠ GET ∧ q.method ≠ HEAD) := by
  refine ⟨fun h => by unfold change; rw [h, if_neg (by simp), own_nil], fun h => ?_⟩
  have e : change q st = { own q bodies with method := GET, body := false } := by unfold change; rw [if_pos h]
  refine ⟨by rw [e], by rw [e], by rw [e]; exact plainH_drop _, ?_, fun hm => ?_, fun hm => ?_⟩
  · have : rewrites t (change q st).method = false := by rw [e]; exact rew_get t
    unfold change at this ⊢
    rw [if_pos h] at this ⊢
    rw [this, if_neg (by simp), own_nil]
  · rw [hm, rew_get] at h; cases h
  · rw [hm, rew_head] at h; cases h
theorem lower_lower (s : L) : lower (lower s) = lower s := by
  unfold lower
  rw [List.map_map]
  apply List.map_congr_left
  intro c _
  show low (low c) = low c
  unfold low
  split
  · rename_i h
    simp at h
    have : (c + 32).toNat = c.toNat + 32 := by
      rw [UInt8.toNat_add]
      have : (32 : UInt8).toNat = 32 := rfl
      omega
    rw [if_neg (by simp; omega)]
  · rfl
theorem same_of {s t : L} (h : lower s = lower t) (x : L) : same x s = same x t := by
  unfold same
  rw [h]
theorem hasN_of {s t : L} (h : lower s = lower t) (l : Fs) : hasN l s = hasN l t := by
  unfold hasN
  congr 1
  funext f
  exact same_of h _
theorem hasN_nil (l : Fs) (s : L) : hasN (dropN l []) s = hasN l s := by rw [dropN_nil]
def authL : L := [97, 117, 116, 104, 111, 114, 105, 122, 97, 116, 105, 111, 110]
theorem auth_low : lower auth = lower authL := by decide
/-- MethodAway. -/
theorem method_away (q : Req) (a b : Url) : dropN (away (away q a) b).heads [auth] = dropN q.heads [auth] ∧ (both q.url a = false → hasN (away q a).heads authL = false ∧ hasN (away (away q a) b).heads authL = false) ∧ (both q.url a = true → (away q a).heads = q.heads) ∧ (away q a).url = a ∧ (away q a).count = i64 (q.count + 1) ∧ (away q a).method = q.method ∧ (away q a).body = q.body ∧ (away q a).policy = q.policy := by
  have h1 : ∀ q : Req, ∀ a, (away q a).heads = if both q.url a then q.heads else dropN q.heads [auth] := fun q a => by
    unfold away
    dsimp only
    split
    · rw [own_nil]
    · rfl
  have h2 : ∀ q : Req, ∀ a, dropN (away q a).heads [auth] = dropN q.heads [auth] := fun q a => by
    rw [h1]
    split
    · rfl
    · rw [dropN_drop]
  refine ⟨by rw [h2, h2], fun h => ?_, fun h => by rw [h1, if_pos h], rfl, rfl, ?_, ?_, ?_⟩
  · have g : (away q a).heads = dropN q.heads [auth] := by rw [h1, h, if_neg (by simp)]
    have g2 : hasN (dropN q.heads [auth]) authL = false := by rw [← hasN_of auth_low]; exact hasN_drop _ _ _ (by simp)
    refine ⟨by rw [g]; exact g2, ?_⟩
    rw [h1, g]
    split
    · exact g2
    · rw [dropN_drop]; exact g2
  · unfold away; dsimp only; split <;> rfl
  · unfold away; dsimp only; split <;> rfl
  · unfold away; dsimp only; split <;> rfl
/-- MethodTaint. -/
theorem method_taint (q : Req) (a : Url) : (q.tainted = true → (away q a).tainted = true) ∧ (q.cross = true → (away q a).cross = true) ∧ (away q a).cross = crossed q ∧ ((away q a).tainted = true → q.tainted = false → both q.url a = false) ∧ (away q a).origin = q.origin ∧ (away q a).mode = q.mode ∧ (away q a).redirect = q.redirect ∧ (away q a).referrer = q.referrer := by
  refine ⟨fun h => ?_, fun h => ?_, rfl, fun h ht => ?_, ?_, ?_, ?_, ?_⟩
  · show taintOf q.tainted q.origin q.url a = true
    unfold taintOf
    rw [h]
    rfl
  · show crossed q = true
    unfold crossed
    rw [h]
    rfl
  · have h' : taintOf q.tainted q.origin q.url a = true := h
    unfold taintOf at h'
    rw [ht] at h'
    cases hb : both q.url a
    · rfl
    · rw [hb] at h'
      simp at h'
  all_goals (unfold away; dsimp only; split <;> rfl)
end PM
