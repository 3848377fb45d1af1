import Derived.Test.YtppbkblnjlbnfaaGreatDoorParse
/-! Plain law: what is shown is parsed to the same address. -/
set_option linter.unusedVariables false
namespace PM
theorem dropWhile_no {p : UInt8 → Bool} {s : L} (h : ∀ c ∈ s, p c = false) : s.dropWhile p = s := by
  cases s with
  | nil => rfl
  | cons x r => rw [List.dropWhile_cons, h x (by simp)]; rfl
theorem clean_seen {s : L} (h : ∀ c ∈ s, Seen c) : clean s = s := by
  have hb : ∀ c ∈ s, blank c = false := fun c hc => by have := h c hc; unfold blank; unfold Seen at this; simp; omega
  have ht : trim s = s := by
    unfold trim
    rw [dropWhile_no hb, dropWhile_no (fun c hc => hb c (by simpa using hc)), List.reverse_reverse]
  unfold clean
  rw [ht, List.filter_eq_self]
  intro c hc
  have := h c hc
  unfold Seen at this
  unfold isEnd
  have h1 : c ≠ 9 := by rintro rfl; simp at this
  have h2 : c ≠ 10 := by rintro rfl; simp at this
  have h3 : c ≠ 13 := by rintro rfl; simp at this
  simp [h1, h2, h3]
theorem Fine.seen {c : UInt8} (h : Fine c) : Seen c := ⟨h.1, h.2.1⟩
theorem scheme_five {u : Url} (h : urlMay u = true) : u.scheme = http ∨ u.scheme = https ∨ u.scheme = about ∨ u.scheme = data ∨ u.scheme = blob := by
  by_cases hw : web u.scheme = 0
  · exact .inr (.inr (opq_cases (may_opq h hw).1))
  · rcases web_cases hw with h | h
    · exact .inl h
    · exact .inr (.inl h)
theorem scheme_of {s r : L} (h : s = http ∨ s = https ∨ s = about ∨ s = data ∨ s = blob) : scheme (s ++ 58 :: r) = (s, r, true) := by
  have hc : cut 58 (s ++ 58 :: r) = (s, r, true) := cut_hit 58 s r (by rcases h with rfl | rfl | rfl | rfl | rfl <;> decide)
  unfold scheme schBad
  rw [hc]
  rcases h with rfl | rfl | rfl | rfl | rfl <;> simp only [] <;> rw [if_neg (by decide)] <;> rfl
theorem tail_of {b q f : L} {hq hf : Bool} (hb : ∀ c ∈ b, c ≠ 63 ∧ c ≠ 35) (hqs : ∀ c ∈ q, c ≠ 35) (h1 : hq = true ∨ q = []) (h2 : hf = true ∨ f = []) :
    tail (b ++ (when hq [[63], q] ++ when hf [[35], f])) = (b, q, f, hq, hf) := by
  have e1 : cut 35 (b ++ (when hq [[63], q] ++ when hf [[35], f])) = (b ++ when hq [[63], q], f, hf) := by
    have hno : ∀ x ∈ b ++ when hq [[63], q], x ≠ 35 := by
      intro x hx
      rcases List.mem_append.1 hx with hx | hx
      · exact (hb x hx).2
      · obtain ⟨_, s, hs, hx2⟩ := mem_when hx
        simp only [List.mem_cons, List.not_mem_nil, or_false] at hs
        rcases hs with e | e
        · rw [e] at hx2
          have : x = 35 → False := by rintro rfl; simp at hx2
          exact this
        · rw [e] at hx2
          exact hqs x hx2
    cases hf
    · have : f = [] := by simpa using h2
      subst this
      have e : b ++ (when hq [[63], q] ++ when false [[35], []]) = b ++ when hq [[63], q] := by simp [when]
      rw [e, cut_none 35 _ hno]
    · have e : b ++ (when hq [[63], q] ++ when true [[35], f]) = (b ++ when hq [[63], q]) ++ 35 :: f := by simp [when]
      rw [e, cut_hit 35 _ _ hno]
  have e2 : cut 63 (b ++ when hq [[63], q]) = (b, q, hq) := by
    have hno : ∀ x ∈ b, x ≠ 63 := fun x hx => (hb x hx).1
    cases hq
    · have : q = [] := by simpa using h1
      subst this
      have e : b ++ when false [[63], []] = b := by simp [when]
      rw [e, cut_none 63 _ hno]
    · have e : b ++ when true [[63], q] = b ++ 63 :: q := by simp [when]
      rw [e, cut_hit 63 _ _ hno]
  unfold tail
  rw [e1]
  dsimp only
  rw [e2]
/-- A name, and a password, as they are shown. -/
def userinfo (u : Url) : L := u.user ++ (when (!u.pass.isEmpty) [[58], u.pass] ++ when (!u.user.isEmpty || !u.pass.isEmpty) [[64]])
def body (u : Url) : L := u.opaque_ ++ (when (isWeb u) [[47, 47], u.user] ++ (when (!u.pass.isEmpty) [[58], u.pass] ++ (when (!u.user.isEmpty || !u.pass.isEmpty) [[64]] ++ when (isWeb u) [door u, pathShow u.path])))
theorem show_body {u : Url} (h : urlMay u = true) : showUrl u = u.scheme ++ 58 :: (body u ++ (when u.hasQuery [[63], u.query] ++ when u.hasFrag [[35], u.frag])) := by
  rw [showUrl_may h]
  unfold body
  have : when true [u.scheme, [58], u.opaque_] = u.scheme ++ 58 :: u.opaque_ := by simp [when]
  rw [this]
  simp only [List.append_assoc, List.cons_append]
theorem body_web {u : Url} (h : urlMay u = true) (hw : web u.scheme ≠ 0) : body u = 47 :: 47 :: ((userinfo u ++ door u) ++ pathShow u.path) := by
  unfold body userinfo
  rw [(may_web h hw).2.2.2.2.1, (isWeb_iff u).2 hw]
  simp [when]
theorem body_opq {u : Url} (h : urlMay u = true) (hw : web u.scheme = 0) : body u = u.opaque_ := by
  have := may_opq' h hw
  have hi : isWeb u = false := by
    cases hi : isWeb u
    · rfl
    · exact absurd hw ((isWeb_iff u).1 hi)
  unfold body
  rw [this.2.2.2.2.1, this.2.2.2.2.2.1, hi]
  simp [when]
/-- What a byte of a door is. -/
theorem door_all (u : Url) : ∀ c ∈ door u, Plainb c ∨ c = 58 ∨ c = 91 ∨ c = 93 := by
  intro c hc
  unfold door at hc
  split at hc
  · simp at hc
  · split at hc
    · exact hostShow_all _ c hc
    · simp only [List.mem_append, List.mem_cons] at hc
      rcases hc with h | rfl | h
      · exact hostShow_all _ c h
      · exact .inr (.inl rfl)
      · exact .inl (digs_plainb _ c h)
theorem door_no {u : Url} {d : UInt8} (h1 : ¬ Plainb d) (h2 : d ≠ 58) (h3 : d ≠ 91) (h4 : d ≠ 93) : ∀ c ∈ door u, c ≠ d := by
  intro c hc
  rcases door_all u c hc with h | rfl | rfl | rfl
  · exact h.ne d h1
  · exact h2.symm
  · exact h3.symm
  · exact h4.symm
theorem userinfo_all {u : Url} (h : urlMay u = true) (hw : web u.scheme ≠ 0) : ∀ c ∈ userinfo u, (Fine c ∧ c ≠ 63) ∧ c ≠ 47 := by
  have hm := may_web h hw
  intro c hc
  unfold userinfo at hc
  simp only [List.mem_append] at hc
  rcases hc with hc | hc | hc
  · have := ready4 hm.2.1 c hc; exact ⟨this.1, this.2.1⟩
  · obtain ⟨_, s, hs, hc⟩ := mem_when hc
    simp only [List.mem_cons, List.not_mem_nil, or_false] at hs
    rcases hs with rfl | rfl
    · simp at hc; subst hc; exact ⟨⟨⟨by decide, by decide, by decide⟩, by decide⟩, by decide⟩
    · have := ready4 hm.2.2.1 c hc; exact ⟨this.1, this.2.1⟩
  · obtain ⟨_, s, hs, hc⟩ := mem_when hc
    simp only [List.mem_cons, List.not_mem_nil, or_false] at hs
    subst hs
    simp at hc; subst hc; exact ⟨⟨⟨by decide, by decide, by decide⟩, by decide⟩, by decide⟩
theorem notP (d : UInt8) (h : (decide (48 ≤ d.toNat) && decide (d.toNat ≤ 57)) = false) (h' : (decide (97 ≤ d.toNat) && decide (d.toNat ≤ 122)) = false) (h'' : (decide (d.toNat = 45) || decide (d.toNat = 46) || decide (d.toNat = 95)) = false) : ¬ Plainb d := by
  simp at h h' h''
  unfold Plainb
  omega
theorem body_no {u : Url} (h : urlMay u = true) : ∀ c ∈ body u, Seen c ∧ c ≠ 63 ∧ c ≠ 35 := by
  intro c hc
  by_cases hw : web u.scheme = 0
  · rw [body_opq h hw] at hc
    have := may_opq' h hw
    exact ⟨ready1 this.1 c hc, this.2.1 c hc⟩
  · rw [body_web h hw] at hc
    simp only [List.mem_cons, List.mem_append] at hc
    rcases hc with rfl | rfl | (hc | hc) | hc
    · exact ⟨⟨by decide, by decide⟩, by decide, by decide⟩
    · exact ⟨⟨by decide, by decide⟩, by decide, by decide⟩
    · have := (userinfo_all h hw c hc).1; exact ⟨this.1.seen, this.2, this.1.2.2⟩
    · have := door_fine u c hc
      exact ⟨this.seen, door_no (d := 63) (notP _ (by decide) (by decide) (by decide)) (by decide) (by decide) (by decide) c hc, this.2.2⟩
    · have := pathShow_fine (may_web h hw).2.2.2.1 c hc
      exact ⟨this.1.seen, this.2, this.1.2.2⟩
theorem show_seen {u : Url} (h : urlMay u = true) : ∀ c ∈ showUrl u, Seen c := by
  have hq := may_qf h
  intro c hc
  rw [show_body h] at hc
  simp only [List.mem_append, List.mem_cons] at hc
  rcases hc with hc | rfl | hc | hc | hc
  · exact (scheme_fine h c hc).seen
  · exact ⟨by decide, by decide⟩
  · exact (body_no h c hc).1
  · obtain ⟨_, s, hs, hc⟩ := mem_when hc
    simp only [List.mem_cons, List.not_mem_nil, or_false] at hs
    rcases hs with rfl | rfl
    · simp at hc; subst hc; exact ⟨by decide, by decide⟩
    · exact (ready2 hq.1 c hc).seen
  · obtain ⟨_, s, hs, hc⟩ := mem_when hc
    simp only [List.mem_cons, List.not_mem_nil, or_false] at hs
    rcases hs with rfl | rfl
    · simp at hc; subst hc; exact ⟨by decide, by decide⟩
    · exact ready1 hq.2.1 c hc
theorem where_of {a p : L} (h : ∀ c ∈ a, c ≠ 47) (hp : p.head? = some 47) : where_ (a ++ p) = a ∧ (a ++ p).dropWhile (· != 47) = p := by
  unfold where_
  rw [List.takeWhile_append_of_pos (by intro x hx; simpa using h x hx), List.dropWhile_append_of_pos (by intro x hx; simpa using h x hx)]
  cases p with
  | nil => simp at hp
  | cons x r =>
    have : x = 47 := by simpa using hp
    subst this
    simp
theorem at_hit {a b : L} (h : ∀ c ∈ b, c ≠ 64) : hasAt (a ++ 64 :: b) = true ∧ behindAt (a ++ 64 :: b) = b ∧ aheadAt (a ++ 64 :: b) = a := by
  have e : (a ++ 64 :: b).reverse = b.reverse ++ 64 :: a.reverse := by simp
  refine ⟨by simp [hasAt, has], ?_, ?_⟩
  · unfold behindAt
    rw [e, List.takeWhile_append_of_pos (by intro x hx; simpa using h x (by simpa using hx))]
    simp
  · unfold aheadAt
    rw [e, List.dropWhile_append_of_pos (by intro x hx; simpa using h x (by simpa using hx))]
    simp
theorem at_none {b : L} (h : ∀ c ∈ b, c ≠ 64) : hasAt b = false := has_no 64 b h
theorem users_of {u : Url} (h : urlMay u = true) (hw : web u.scheme ≠ 0) : userOf (userinfo u ++ door u) = u.user ∧ passOf (userinfo u ++ door u) = u.pass ∧ doorOf (userinfo u ++ door u) = door u := by
  have hm := may_web h hw
  have hd : ∀ c ∈ door u, c ≠ 64 := door_no (notP _ (by decide) (by decide) (by decide)) (by decide) (by decide) (by decide)
  have hu : ∀ c ∈ u.user, c ≠ 58 := fun c hc => (ready4 hm.2.1 c hc).2.2.1
  by_cases hp : u.pass = []
  · by_cases hus : u.user = []
    · have e : userinfo u = [] := by unfold userinfo; rw [hp, hus]; rfl
      rw [e, List.nil_append]
      unfold userOf passOf doorOf
      rw [at_none hd, hus, hp]
      exact ⟨rfl, rfl, rfl⟩
    · have e : userinfo u ++ door u = u.user ++ 64 :: door u := by
        unfold userinfo
        rw [hp]
        simp [when, hus]
      obtain ⟨h1, h2, h3⟩ := at_hit (a := u.user) hd
      unfold userOf passOf doorOf
      rw [e, h1, h2, h3, cut_none 58 _ hu, hp]
      exact ⟨encode_ready hm.2.1, rfl, rfl⟩
  · have e : userinfo u ++ door u = (u.user ++ 58 :: u.pass) ++ 64 :: door u := by
      unfold userinfo
      simp [when, hp]
    obtain ⟨h1, h2, h3⟩ := at_hit (a := u.user ++ 58 :: u.pass) hd
    unfold userOf passOf doorOf
    rw [e, h1, h2, h3, cut_hit 58 _ _ hu]
    exact ⟨encode_ready hm.2.1, encode_ready hm.2.2.1, rfl⟩
/-- Where the look for a port begins lies within a host's text; behind it there is no colon. -/
theorem doorAt_of {h : Host} (hm : hostMay h = true) (e : L) : ∃ k, doorAt (hostShow h ++ e) = k ∧ k ≤ (hostShow h).length ∧ ∀ c ∈ (hostShow h).drop k, c ≠ 58 := by
  have hne := hostShow_ne hm
  have hs : hostShow h = (if h.kind = 1 then h.name else if h.kind = 2 then fourShow h.num else 91 :: (sixShow h.six ++ [93])) := by unfold hostShow; rw [if_pos hm]
  have hpl : (∀ c ∈ hostShow h, Plainb c) → ∃ k, doorAt (hostShow h ++ e) = k ∧ k ≤ (hostShow h).length ∧ ∀ c ∈ (hostShow h).drop k, c ≠ 58 := by
    intro hp
    refine ⟨0, ?_, by omega, fun c hc => (hp c (by simpa using hc)).ne 58 (notP _ (by decide) (by decide) (by decide))⟩
    unfold doorAt
    rw [if_neg]
    intro e1
    cases hx : hostShow h with
    | nil => exact hne hx
    | cons x r =>
      rw [hx] at e1 hp
      have : x = 91 := by simpa using e1
      subst this
      have := hp 91 (by simp)
      simp [Plainb] at this
  by_cases h1 : h.kind = 1
  · apply hpl
    rw [hs, if_pos h1]
    unfold hostMay at hm
    rw [if_pos h1] at hm
    simp only [Bool.and_eq_true] at hm
    exact fits_plainb hm.1
  · by_cases h2 : h.kind = 2
    · apply hpl
      rw [hs, if_neg h1, if_pos h2]
      exact fourShow_plainb _
    · rw [hs, if_neg h1, if_neg h2]
      have hx : ∀ c ∈ sixShow h.six, c ≠ 93 := by
        intro c hc e
        have := sixShow_all _ c hc
        subst e
        revert this
        decide
      refine ⟨1 + (sixShow h.six).length, ?_, by simp; omega, ?_⟩
      · unfold doorAt
        rw [if_pos (by simp), if_pos (by simp [has])]
        rw [List.findIdx_eq (by simp; omega)]
        refine ⟨?_, fun j hj => ?_⟩
        · simp
          rw [List.getElem_cons]
          simp
        · cases j with
          | zero => simp
          | succ j =>
            have hj' : j < (sixShow h.six).length := by omega
            have := hx _ (List.getElem_mem hj')
            simp [hj', this]
      · intro c hc
        rw [Nat.add_comm, List.drop_succ_cons, List.drop_left] at hc
        simp at hc
        subst hc
        decide
theorem door_parts {h : Host} (hm : hostMay h = true) : (doorName (hostShow h) = hostShow h ∧ doorPort (hostShow h) = []) ∧ ∀ p, doorName (hostShow h ++ 58 :: p) = hostShow h ∧ doorPort (hostShow h ++ 58 :: p) = p := by
  constructor
  · obtain ⟨k, hk, hle, hno⟩ := doorAt_of hm []
    rw [List.append_nil] at hk
    unfold doorName doorPort
    rw [hk, has_no 58 _ hno]
    exact ⟨rfl, rfl⟩
  · intro p
    obtain ⟨k, hk, hle, hno⟩ := doorAt_of hm (58 :: p)
    have hd : (hostShow h ++ 58 :: p).drop k = (hostShow h).drop k ++ 58 :: p := List.drop_append_of_le_length hle
    have ht : (hostShow h ++ 58 :: p).take k = (hostShow h).take k := List.take_append_of_le_length hle
    have hh : has ((hostShow h).drop k ++ 58 :: p) 58 = true := by simp [has]
    unfold doorName doorPort
    rw [hk, hd, if_pos hh, if_pos hh, ht, List.takeWhile_append_of_pos (by intro x hx; simpa using hno x hx), List.dropWhile_append_of_pos (by intro x hx; simpa using hno x hx)]
    simp
theorem normGo_no (l : List L) (h : ∀ s ∈ l, dots s = 0) : ∀ out, normGo out l = out ++ l := by
  induction l with
  | nil => intro out; simp [normGo]
  | cons s r ih =>
    intro out
    cases r with
    | nil => rw [normGo, normStep, if_pos (h s (by simp))]
    | cons t r =>
      rw [normGo, ih (fun x hx => h x (by simp only [List.mem_cons] at hx ⊢; exact .inr hx)), normStep, if_pos (h s (by simp))]
      simp
theorem pathShow_join (s : L) (r : List L) : pathShow (s :: r) = 47 :: joinBy [47] (s :: r) := by
  induction r generalizing s with
  | nil => rw [joinBy_one]; simp [pathShow]
  | cons t r ih =>
    have := ih t
    rw [joinBy_two]
    unfold pathShow at this ⊢
    rw [List.flatMap_cons, this]
    simp
theorem pathParse_show {l : List L} (h : pathMay l = true) : pathParse (pathShow l) = l := by
  obtain ⟨hne, hs⟩ := pathMay_segs h
  cases l with
  | nil => exact absurd rfl hne
  | cons s r =>
    have hno : ∀ x ∈ (s :: r), ∀ y ∈ x, y ≠ (47 : UInt8) := by
      intro x hx y hy e
      subst e
      have := (hs x hx).2.1
      simp [has] at this
      exact this hy
    unfold pathParse pathSplit
    rw [pathShow_join]
    show norm (splitB 47 (encode 3 (joinBy [47] (s :: r)))) = _
    have hr : ready 3 (joinBy [47] (s :: r)) = true := by
      rw [ready_iff]
      intro c hc
      rcases mem_joinBy hc with hc | ⟨x, hx, hc⟩
      · simp at hc; subst hc; decide
      · exact ready_all (hs x hx).1 hc
    rw [encode_ready hr, splitB_join 47 _ hno (by simp)]
    unfold norm
    rw [normGo_no _ (fun x hx => (hs x hx).2.2)]
    rfl
/-- What is shown is parsed to the same address. -/
theorem parse_show {u : Url} (h : urlMay u = true) (hl : u.host.six.length = 8) : urlParse (showUrl u) = some u := by
  have hq := may_qf h
  unfold urlParse
  rw [clean_seen (show_seen h), show_body h]
  unfold parseC
  rw [scheme_of (scheme_five h)]
  dsimp only
  rw [tail_of (fun c hc => (body_no h c hc).2) (fun c hc => (ready2 hq.1 c hc).2.2) hq.2.2.1 hq.2.2.2]
  by_cases hw : web u.scheme = 0
  · have ho := (may_opq h hw).1
    have hm := may_opq' h hw
    rw [ho, hw]
    simp only [Bool.not_true, Bool.or_true, Bool.or_self, Bool.false_eq_true, if_false]
    unfold parseT
    rw [ho, if_pos rfl]
    unfold parseOpq
    dsimp only
    rw [body_opq h hw, encode_ready hm.1, encode_ready hq.1, encode_ready hq.2.1]
    obtain ⟨s, us, pa, ho', p, l, o, q, f, hq', hf'⟩ := u
    dsimp only at *
    rw [hm.2.2.1, hm.2.2.2.1, hm.2.2.2.2.1, hm.2.2.2.2.2.1, hm.2.2.2.2.2.2]
  · have hm := may_web h hw
    have ho : opq u.scheme = false := opq_of_web hw
    have hpos : 0 < web u.scheme := by have := web_nonneg u.scheme; omega
    rw [ho, decide_eq_true hpos]
    simp only [Bool.not_true, Bool.or_false, Bool.or_self, Bool.false_eq_true, if_false]
    unfold parseT
    rw [ho]
    simp only [Bool.false_eq_true, if_false]
    unfold parseWeb
    rw [body_web h hw]
    simp only [unslash2]
    obtain ⟨hne, _⟩ := pathMay_segs hm.2.2.2.1
    have hph : (pathShow u.path).head? = some 47 := by
      cases hp : u.path with
      | nil => exact absurd hp hne
      | cons s r => rw [pathShow_join]; rfl
    have hwh : ∀ c ∈ userinfo u ++ door u, c ≠ 47 := by
      intro c hc
      rcases List.mem_append.1 hc with hc | hc
      · exact (userinfo_all h hw c hc).2
      · exact door_no (notP _ (by decide) (by decide) (by decide)) (by decide) (by decide) (by decide) c hc
    obtain ⟨w1, w2⟩ := where_of hwh hph
    obtain ⟨u1, u2, u3⟩ := users_of h hw
    rw [w1, w2, u1, u2, u3, pathParse_show hm.2.2.2.1, encode_ready hq.1, encode_ready hq.2.1]
    have hdoor : door u = if u.port = -1 then hostShow u.host else hostShow u.host ++ 58 :: digs u.port.toNat := by
      unfold door
      rw [h]
      simp only [Bool.not_true, Bool.false_or, decide_eq_true_eq, if_neg hw]
    obtain ⟨⟨d1, d2⟩, d3⟩ := door_parts hm.1
    by_cases hp : u.port = -1
    · rw [hdoor, if_pos hp, d1, d2, hostParse_show _ hm.1 hl]
      simp only [portOf, if_true]
      obtain ⟨s, us, pa, ho', p, l, o, q, f, hq', hf'⟩ := u
      dsimp only at *
      rw [hp, hm.2.2.2.2.1]
    · obtain ⟨d4, d5⟩ := d3 (digs u.port.toNat)
      rw [hdoor, if_neg hp, d4, d5, hostParse_show _ hm.1 hl]
      have hpo : portOf u.scheme (digs u.port.toNat) = some u.port := by
        unfold portOf
        rw [if_neg (digs_ne _), read_digs _ 65535 (by omega) (by decide)]
        dsimp only
        have e : ((u.port.toNat : Nat) : Int) = u.port := by omega
        rw [e, if_neg hm.2.2.2.2.2.2.2]
      rw [hpo]
      obtain ⟨s, us, pa, ho', p, l, o, q, f, hq', hf'⟩ := u
      dsimp only at *
      rw [hm.2.2.2.2.1]
/-- Two addresses that may be are shown as one just if they are the same. -/
theorem show_apart {u v : Url} (hu : urlMay u = true) (hv : urlMay v = true) (lu : u.host.six.length = 8) (lv : v.host.six.length = 8) : showUrl u = showUrl v ↔ u = v := by
  constructor
  · intro e
    have h1 := parse_show hu lu
    rw [e, parse_show hv lv] at h1
    exact (Option.some.inj h1).symm
  · rintro rfl; rfl
/-- Two doors are one just if host and port are the same. -/
theorem door_apart {u v : Url} (hu : urlMay u = true) (hv : urlMay v = true) (wu : web u.scheme ≠ 0) (wv : web v.scheme ≠ 0) (lu : u.host.six.length = 8) (lv : v.host.six.length = 8) : door u = door v ↔ u.host = v.host ∧ u.port = v.port := by
  have key : ∀ u : Url, urlMay u = true → web u.scheme ≠ 0 → u.host.six.length = 8 → hostParse (doorName (door u)) = some u.host ∧ doorPort (door u) = (if u.port = -1 then [] else digs u.port.toNat) ∧ -1 ≤ u.port ∧ u.port ≤ 65535 := by
    intro u h hw hl
    have hm := may_web h hw
    have hdoor : door u = if u.port = -1 then hostShow u.host else hostShow u.host ++ 58 :: digs u.port.toNat := by
      unfold door
      rw [h]
      simp only [Bool.not_true, Bool.false_or, decide_eq_true_eq, if_neg hw]
    obtain ⟨⟨d1, d2⟩, d3⟩ := door_parts hm.1
    by_cases hp : u.port = -1
    · rw [hdoor, if_pos hp, d1, d2, if_pos hp]
      exact ⟨hostParse_show _ hm.1 hl, rfl, hm.2.2.2.2.2.1, hm.2.2.2.2.2.2.1⟩
    · obtain ⟨d4, d5⟩ := d3 (digs u.port.toNat)
      rw [hdoor, if_neg hp, d4, d5, if_neg hp]
      exact ⟨hostParse_show _ hm.1 hl, rfl, hm.2.2.2.2.2.1, hm.2.2.2.2.2.2.1⟩
  constructor
  · intro e
    obtain ⟨a1, a2, a3, a4⟩ := key u hu wu lu
    obtain ⟨b1, b2, b3, b4⟩ := key v hv wv lv
    rw [e, b1] at a1
    rw [e, b2] at a2
    refine ⟨(Option.some.inj a1).symm, ?_⟩
    by_cases hp : u.port = -1
    · rw [if_pos hp] at a2
      by_cases hp' : v.port = -1
      · rw [hp, hp']
      · rw [if_neg hp'] at a2
        exact absurd a2 (digs_ne _)
    · rw [if_neg hp] at a2
      by_cases hp' : v.port = -1
      · rw [if_pos hp'] at a2
        exact absurd a2.symm (digs_ne _)
      · rw [if_neg hp'] at a2
        have := digs_inj (by omega) (by omega) a2
        omega
  · rintro ⟨e1, e2⟩
    unfold door
    rw [hu, hv, e1, e2]
    simp [wu, wv]
/-- A door is a host's text, and more, if there is a port. -/
theorem door_front {u : Url} (h : urlMay u = true) (hw : web u.scheme ≠ 0) : (u.port = -1 → door u = hostShow u.host) ∧ ∃ r, door u = hostShow u.host ++ r := by
  have hdoor : door u = if u.port = -1 then hostShow u.host else hostShow u.host ++ 58 :: digs u.port.toNat := by
    unfold door
    rw [h]
    simp only [Bool.not_true, Bool.false_or, decide_eq_true_eq, if_neg hw]
  refine ⟨fun hp => by rw [hdoor, if_pos hp], ?_⟩
  rw [hdoor]
  split
  · exact ⟨[], by simp⟩
  · exact ⟨_, rfl⟩
end PM
