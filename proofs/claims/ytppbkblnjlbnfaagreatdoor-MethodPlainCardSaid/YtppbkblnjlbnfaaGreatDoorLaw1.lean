import Derived.Test.YtppbkblnjlbnfaaGreatDoorSpec
/-! Plain laws of what is shown: bytes, parts. -/
set_option linter.unusedVariables false
namespace PM
theorem u8_ne (c : UInt8) (n : Nat) (hn : n < 256) : c.toNat ≠ n ↔ c ≠ UInt8.ofNat n := by
  constructor
  · rintro h rfl; exact h (by simp [Nat.mod_eq_of_lt hn])
  · intro h e; exact h (by rw [← e]; simp)
theorem u8_ext {a b : UInt8} (h : a.toNat = b.toNat) : a = b := UInt8.toNat_inj.1 h
/-- A byte that is seen, and no number sign. -/
def Fine (c : UInt8) : Prop := 32 < c.toNat ∧ c.toNat < 127 ∧ c ≠ 35
/-- A byte that is seen. -/
def Seen (c : UInt8) : Prop := 32 < c.toNat ∧ c.toNat < 127
/-- A byte of a name, a number or a piece. -/
def Plainb (c : UInt8) : Prop := (48 ≤ c.toNat ∧ c.toNat ≤ 57) ∨ (97 ≤ c.toNat ∧ c.toNat ≤ 122) ∨ c.toNat = 45 ∨ c.toNat = 46 ∨ c.toNat = 95
theorem Plainb.fine {c : UInt8} (h : Plainb c) : Fine c := by
  unfold Plainb at h
  refine ⟨by omega, by omega, ?_⟩
  rintro rfl
  simp at h
theorem Plainb.ne {c : UInt8} (h : Plainb c) (d : UInt8) (hd : ¬ Plainb d) : c ≠ d := by
  rintro rfl; exact hd h
theorem ready_all {k : Int} {s : L} (h : ready k s = true) {c : UInt8} (hc : c ∈ s) : inSet k c = false := (ready_iff k s).1 h c hc
theorem in1_of {c : UInt8} (h : in1 c = false) : Seen c ∧ c ≠ 34 ∧ c ≠ 60 ∧ c ≠ 62 ∧ c ≠ 96 := by
  unfold in1 has at h
  simp only [Bool.or_eq_false_iff] at h
  have h0 := in0_range c h.1
  have h1 := h.2
  simp at h1
  obtain ⟨a, b, c', d, e⟩ := h1
  have : c.toNat ≠ 32 := (u8_ne c 32 (by decide)).2 a
  exact ⟨⟨by omega, by omega⟩, b, c', d, e⟩
theorem in2_of {c : UInt8} (h : in2 c = false) : Seen c ∧ c ≠ 34 ∧ c ≠ 35 ∧ c ≠ 39 ∧ c ≠ 60 ∧ c ≠ 62 := by
  unfold in2 has at h
  simp only [Bool.or_eq_false_iff] at h
  have h0 := in0_range c h.1
  have h1 := h.2
  simp at h1
  obtain ⟨a, b, c', d, e, f⟩ := h1
  have : c.toNat ≠ 32 := (u8_ne c 32 (by decide)).2 a
  exact ⟨⟨by omega, by omega⟩, b, c', d, e, f⟩
theorem in3_of {c : UInt8} (h : in3 c = false) : in2 c = false ∧ c ≠ 63 ∧ c ≠ 94 ∧ c ≠ 96 ∧ c ≠ 123 ∧ c ≠ 125 := by
  unfold in3 has at h
  simp only [Bool.or_eq_false_iff] at h
  have h1 := h.2
  simp at h1
  exact ⟨h.1, h1⟩
theorem in4_of {c : UInt8} (h : in4 c = false) : in3 c = false ∧ c ≠ 47 ∧ c ≠ 58 ∧ c ≠ 59 ∧ c ≠ 61 ∧ c ≠ 64 ∧ c ≠ 91 ∧ c ≠ 92 ∧ c ≠ 93 ∧ c ≠ 124 := by
  unfold in4 has at h
  simp only [Bool.or_eq_false_iff] at h
  have h1 := h.2
  simp at h1
  exact ⟨h.1, h1⟩
theorem ready1 {s : L} (h : ready 1 s = true) : ∀ c ∈ s, Seen c := fun c hc => (in1_of (ready_all h hc)).1
theorem ready2 {s : L} (h : ready 2 s = true) : ∀ c ∈ s, Fine c := fun c hc => by
  have := in2_of (c := c) (ready_all h hc)
  exact ⟨this.1.1, this.1.2, this.2.2.1⟩
theorem ready3 {s : L} (h : ready 3 s = true) : ∀ c ∈ s, Fine c ∧ c ≠ 63 := fun c hc => by
  have h3 := in3_of (c := c) (ready_all h hc)
  have := in2_of h3.1
  exact ⟨⟨this.1.1, this.1.2, this.2.2.1⟩, h3.2.1⟩
theorem ready4 {s : L} (h : ready 4 s = true) : ∀ c ∈ s, (Fine c ∧ c ≠ 63) ∧ c ≠ 47 ∧ c ≠ 58 ∧ c ≠ 64 ∧ c ≠ 91 ∧ c ≠ 93 := fun c hc => by
  have h4 := in4_of (c := c) (ready_all h hc)
  have h3 := in3_of h4.1
  have := in2_of h3.1
  obtain ⟨_, a, b, _, _, d, e, _, f, _⟩ := h4
  exact ⟨⟨⟨this.1.1, this.1.2, this.2.2.1⟩, h3.2.1⟩, a, b, d, e, f⟩
theorem encode_ready {k : Int} {s : L} (h : ready k s = true) : encode k s = s := by simpa [ready] using h
/-! digits -/
theorem dig_nat (m : Nat) : (dig m).toNat = 48 + m % 10 := by
  unfold dig
  have : 48 + m % 10 < 256 := by omega
  simp [Nat.mod_eq_of_lt this]
theorem rdigF_all (f : Nat) : ∀ m, ∀ c ∈ rdigF f m, 48 ≤ c.toNat ∧ c.toNat ≤ 57 := by
  induction f with
  | zero => intro m c h; simp [rdigF] at h
  | succ f ih =>
    intro m c h
    unfold rdigF at h
    split at h
    · simp at h; subst h; rw [dig_nat]; omega
    · rcases List.mem_cons.1 h with rfl | h
      · rw [dig_nat]; omega
      · exact ih _ _ h
theorem digs_all (m : Nat) : ∀ c ∈ digs m, 48 ≤ c.toNat ∧ c.toNat ≤ 57 := fun c h => rdigF_all 20 m c (by simpa [digs, rdig] using h)
theorem digs_ne (m : Nat) : digs m ≠ [] := by
  unfold digs rdig
  rw [rdigF]
  split <;> simp
theorem digs_plainb (m : Nat) : ∀ c ∈ digs m, Plainb c := fun c h => .inl (digs_all m c h)
theorem mem_joinBy {s : L} {xs : List L} {c : UInt8} (h : c ∈ joinBy s xs) : c ∈ s ∨ ∃ x ∈ xs, c ∈ x := by
  unfold joinBy at h
  rw [List.intercalate] at h
  induction xs with
  | nil => simp at h
  | cons x r ih =>
    cases r with
    | nil => simp at h; exact .inr ⟨x, by simp, h⟩
    | cons y r =>
      simp only [List.intersperse_cons_cons, List.flatten_cons, List.mem_append] at h
      rcases h with h | h | h
      · exact .inr ⟨x, by simp, h⟩
      · exact .inl h
      · rcases ih h with h | ⟨z, hz, h⟩
        · exact .inl h
        · exact .inr ⟨z, by simp only [List.mem_cons] at hz ⊢; exact .inr hz, h⟩
theorem fourShow_plainb (n : Int) : ∀ c ∈ fourShow n, Plainb c := by
  intro c h
  unfold fourShow at h
  split at h
  · simp at h
  · rcases mem_joinBy h with h | ⟨x, hx, h⟩
    · simp at h; subst h; simp [Plainb]
    · simp only [fourList, List.mem_cons, List.not_mem_nil, or_false] at hx
      rcases hx with rfl | rfl | rfl | rfl <;> exact digs_plainb _ c h
theorem hexl_all : ∀ n, n < 16 → (48 ≤ (hexl n).toNat ∧ (hexl n).toNat ≤ 57) ∨ (97 ≤ (hexl n).toNat ∧ (hexl n).toNat ≤ 102) := by decide
theorem hexs_all (n : Nat) : ∀ c ∈ hexs n, (48 ≤ c.toNat ∧ c.toNat ≤ 57) ∨ (97 ≤ c.toNat ∧ c.toNat ≤ 102) := by
  induction n using Nat.strongRecOn with
  | _ n ih =>
    intro c h
    by_cases hn : n > 15
    · rw [hexs_big n hn, List.mem_append] at h
      rcases h with h | h
      · exact ih (n / 16) (by omega) c h
      · simp at h; subst h; exact hexl_all _ (by omega)
    · rw [hexs_small n hn] at h
      simp at h; subst h; exact hexl_all _ (by omega)
theorem hexs_ne (n : Nat) : hexs n ≠ [] := by
  by_cases hn : n > 15
  · rw [hexs_big n hn]; simp
  · rw [hexs_small n hn]; simp
theorem sixJoin_all (p : List Int) : ∀ c ∈ sixJoin p, ((48 ≤ c.toNat ∧ c.toNat ≤ 57) ∨ (97 ≤ c.toNat ∧ c.toNat ≤ 102)) ∨ c = 58 := by
  intro c h
  rcases mem_joinBy h with h | ⟨x, hx, h⟩
  · simp at h; exact .inr h
  · simp only [List.mem_map] at hx
    obtain ⟨n, _, rfl⟩ := hx
    exact .inl (hexs_all _ c h)
theorem sixShow_all (p : List Int) : ∀ c ∈ sixShow p, ((48 ≤ c.toNat ∧ c.toNat ≤ 57) ∨ (97 ≤ c.toNat ∧ c.toNat ≤ 102)) ∨ c = 58 := by
  intro c h
  unfold sixShow at h
  split at h
  · split at h
    · exact sixJoin_all _ c h
    · simp only [List.mem_append, List.mem_cons] at h
      rcases h with h | h | h | h
      · exact sixJoin_all _ c h
      · exact .inr h
      · exact .inr h
      · exact sixJoin_all _ c h
  · simp at h
theorem fits_plainb {s : L} (h : fits s = true) : ∀ c ∈ s, Plainb c := by
  intro c hc
  unfold fits at h
  simp only [Bool.and_eq_true, Bool.not_eq_true'] at h
  have := List.any_eq_false.1 h.2 c hc
  unfold odd oddN at this
  simp at this
  unfold Plainb
  omega
/-- What a byte of a host's text is. -/
theorem hostShow_all (h : Host) : ∀ c ∈ hostShow h, Plainb c ∨ c = 58 ∨ c = 91 ∨ c = 93 := by
  intro c hc
  unfold hostShow at hc
  split at hc
  · rename_i hm
    unfold hostMay at hm
    split at hc
    · rename_i hk
      rw [if_pos hk] at hm
      simp only [Bool.and_eq_true] at hm
      exact .inl (fits_plainb hm.1 c hc)
    · split at hc
      · exact .inl (fourShow_plainb _ c hc)
      · simp only [List.mem_cons, List.mem_append, List.not_mem_nil, or_false] at hc
        rcases hc with rfl | hc | rfl
        · exact .inr (.inr (.inl rfl))
        · rcases sixShow_all _ c hc with h | h
          · exact .inl (by unfold Plainb; omega)
          · exact .inr (.inl h)
        · exact .inr (.inr (.inr rfl))
  · simp at hc
theorem hostShow_fine (h : Host) : ∀ c ∈ hostShow h, Fine c := fun c hc => by
  rcases hostShow_all h c hc with h | rfl | rfl | rfl
  · exact h.fine
  · exact ⟨by decide, by decide, by decide⟩
  · exact ⟨by decide, by decide, by decide⟩
  · exact ⟨by decide, by decide, by decide⟩
theorem door_fine (u : Url) : ∀ c ∈ door u, Fine c := by
  intro c hc
  unfold door at hc
  split at hc
  · simp at hc
  · split at hc
    · exact hostShow_fine _ c hc
    · simp only [List.mem_append, List.mem_cons] at hc
      rcases hc with h | rfl | h
      · exact hostShow_fine _ c h
      · exact ⟨by decide, by decide, by decide⟩
      · exact (digs_plainb _ c h).fine
theorem pathMay_segs {l : List L} (h : pathMay l = true) : l ≠ [] ∧ ∀ s ∈ l, ready 3 s = true ∧ has s 47 = false ∧ dots s = 0 := by
  unfold pathMay at h
  simp only [Bool.and_eq_true, Bool.not_eq_true'] at h
  refine ⟨by rintro rfl; simp at h, fun s hs => ?_⟩
  have := List.any_eq_false.1 h.2 s hs
  unfold segOdd at this
  simp only [Bool.not_eq_true, Bool.or_eq_false_iff] at this
  obtain ⟨a, b, c⟩ := this
  exact ⟨by simpa using a, b, by simpa using c⟩
theorem pathShow_fine {l : List L} (h : pathMay l = true) : ∀ c ∈ pathShow l, Fine c ∧ c ≠ 63 := by
  intro c hc
  unfold pathShow at hc
  obtain ⟨s, hs, hc⟩ := List.mem_flatMap.1 hc
  rcases List.mem_cons.1 hc with rfl | hc
  · exact ⟨⟨by decide, by decide, by decide⟩, by decide⟩
  · exact ready3 ((pathMay_segs h).2 s hs).1 c hc
/-! parts -/
theorem web_cases {s : L} (h : web s ≠ 0) : s = http ∨ s = https := by
  unfold web at h
  split at h
  · exact .inl ‹_›
  · split at h
    · exact .inr ‹_›
    · exact absurd rfl h
theorem web_nonneg (s : L) : 0 ≤ web s := by
  unfold web
  split
  · decide
  · split <;> decide
theorem opq_cases {s : L} (h : opq s = true) : s = about ∨ s = data ∨ s = blob := by
  simpa [opq] using h
theorem opq_of_web {s : L} (h : web s ≠ 0) : opq s = false := by
  cases ho : opq s
  · rfl
  · exact absurd (web_opq s ho) h
theorem may_qf {u : Url} (h : urlMay u = true) : ready 2 u.query = true ∧ ready 1 u.frag = true ∧ (u.hasQuery = true ∨ u.query = []) ∧ (u.hasFrag = true ∨ u.frag = []) := by
  unfold urlMay qf at h
  simp only [Bool.and_eq_true, Bool.or_eq_true, List.isEmpty_iff] at h
  exact h.1
theorem may_web {u : Url} (h : urlMay u = true) (hw : web u.scheme ≠ 0) : hostMay u.host = true ∧ ready 4 u.user = true ∧ ready 4 u.pass = true ∧ pathMay u.path = true ∧ u.opaque_ = [] ∧ -1 ≤ u.port ∧ u.port ≤ 65535 ∧ u.port ≠ web u.scheme := by
  unfold urlMay mayWeb at h
  rw [opq_of_web hw] at h
  simp only [Bool.and_eq_true, Bool.false_eq_true, if_false, List.isEmpty_iff, decide_eq_true_eq] at h
  exact h.2.2
theorem may_opq {u : Url} (h : urlMay u = true) (hw : web u.scheme = 0) : opq u.scheme = true ∧ mayOpq u = true := by
  unfold urlMay at h
  cases ho : opq u.scheme
  · rw [ho] at h
    unfold mayWeb at h
    simp [hw] at h
  · rw [ho] at h
    simp only [Bool.and_eq_true, if_true] at h
    exact ⟨rfl, h.2⟩
theorem may_opq' {u : Url} (h : urlMay u = true) (hw : web u.scheme = 0) : ready 1 u.opaque_ = true ∧ (∀ c ∈ u.opaque_, c ≠ 63 ∧ c ≠ 35) ∧ u.port = -1 ∧ u.host = noHost ∧ u.user = [] ∧ u.pass = [] ∧ u.path = [] := by
  have := (may_opq h hw).2
  unfold mayOpq isNoHost has at this
  simp only [Bool.and_eq_true, Bool.not_eq_true', Bool.or_eq_false_iff, decide_eq_true_eq, List.isEmpty_iff] at this
  obtain ⟨a, ⟨b, c⟩, d, ⟨e1, e2, e3, e4⟩, f, g, i⟩ := this
  refine ⟨a, fun x hx => ⟨?_, ?_⟩, d, ?_, f, g, i⟩
  · rintro rfl; simp [hx] at b
  · rintro rfl; simp [hx] at c
  · cases hh : u.host
    rw [hh] at e1 e2 e3 e4
    dsimp only at e1 e2 e3 e4
    subst e1 e2 e3 e4
    rfl
theorem ready_nil (k : Int) : ready k [] = true := rfl
theorem urlMay_bare {u : Url} (h : urlMay u = true) : urlMay (bare u) = true := by
  unfold urlMay qf at h ⊢
  simp only [Bool.and_eq_true] at h ⊢
  exact ⟨⟨h.1.1, ready_nil 1, h.1.2.2.1, rfl⟩, h.2⟩
theorem urlMay_open {u : Url} (h : urlMay u = true) : urlMay (open_ u) = true := by
  by_cases hw : web u.scheme = 0
  · have := may_opq' h hw
    have e : open_ u = bare u := by
      unfold open_
      have h1 : (bare u).user = [] := this.2.2.2.2.1
      have h2 : (bare u).pass = [] := this.2.2.2.2.2.1
      rw [show ([] : L) = (bare u).user from h1.symm]
      conv => lhs; rw [show (bare u).user = (bare u).pass from h1.trans h2.symm]
      cases hb : bare u
      rw [hb] at h1 h2
      dsimp only at h1 h2 ⊢
      subst h1 h2
      rfl
    rw [e]
    exact urlMay_bare h
  · have hb := urlMay_bare h
    unfold urlMay at hb ⊢
    rw [show opq (open_ u).scheme = false from opq_of_web hw]
    rw [show opq (bare u).scheme = false from opq_of_web hw] at hb
    simp only [Bool.and_eq_true, Bool.false_eq_true, if_false] at hb ⊢
    refine ⟨hb.1, ?_⟩
    have hm := hb.2
    unfold mayWeb at hm ⊢
    simp only [Bool.and_eq_true] at hm ⊢
    obtain ⟨a, b, c, d, e⟩ := hm
    exact ⟨a, b, ready_nil 4, ready_nil 4, e⟩
theorem door_bare {u : Url} (h : urlMay u = true) : door (bare u) = door u := by
  unfold door
  rw [urlMay_bare h, h]
  rfl
theorem door_open {u : Url} (h : urlMay u = true) : door (open_ u) = door u := by
  unfold door
  rw [urlMay_open h, h]
  rfl
theorem showUrl_may {u : Url} (h : urlMay u = true) : showUrl u = when true [u.scheme, [58], u.opaque_] ++ (when (isWeb u) [[47, 47], u.user] ++ (when (!u.pass.isEmpty) [[58], u.pass] ++ (when (!u.user.isEmpty || !u.pass.isEmpty) [[64]] ++
  (when (isWeb u) [door u, pathShow u.path] ++ (when u.hasQuery [[63], u.query] ++ when u.hasFrag [[35], u.frag]))))) := by
  unfold showUrl
  rw [h]
  rfl
/-- ShowParts, the text: what is shown is what is shown without a fragment, and that. -/
theorem show_frag {u : Url} (h : urlMay u = true) : showUrl u = if u.hasFrag then showUrl (bare u) ++ ([35] ++ u.frag) else showUrl (bare u) := by
  rw [showUrl_may h, showUrl_may (urlMay_bare h), door_bare h]
  have e1 : isWeb (bare u) = isWeb u := rfl
  rw [e1]
  show when true [u.scheme, [58], u.opaque_] ++ _ = if u.hasFrag = true then (when true [u.scheme, [58], u.opaque_] ++ (when (isWeb u) [[47, 47], u.user] ++ (when (!u.pass.isEmpty) [[58], u.pass] ++ (when (!u.user.isEmpty || !u.pass.isEmpty) [[64]] ++
  (when (isWeb u) [door u, pathShow u.path] ++ (when u.hasQuery [[63], u.query] ++ when false [[35], []])))))) ++ ([35] ++ u.frag) else (when true [u.scheme, [58], u.opaque_] ++ (when (isWeb u) [[47, 47], u.user] ++ (when (!u.pass.isEmpty) [[58], u.pass] ++ (when (!u.user.isEmpty || !u.pass.isEmpty) [[64]] ++
  (when (isWeb u) [door u, pathShow u.path] ++ (when u.hasQuery [[63], u.query] ++ when false [[35], []]))))))
  cases u.hasFrag
  · rfl
  · simp [when]
/-- ShowParts, the front. -/
theorem show_scheme {u : Url} (h : urlMay u = true) : ∃ r, showUrl u = u.scheme ++ 58 :: r := by
  rw [showUrl_may h]
  refine ⟨u.opaque_ ++ (when (isWeb u) [[47, 47], u.user] ++ (when (!u.pass.isEmpty) [[58], u.pass] ++ (when (!u.user.isEmpty || !u.pass.isEmpty) [[64]] ++
  (when (isWeb u) [door u, pathShow u.path] ++ (when u.hasQuery [[63], u.query] ++ when u.hasFrag [[35], u.frag]))))), ?_⟩
  simp [when]
theorem isWeb_iff (u : Url) : isWeb u = true ↔ web u.scheme ≠ 0 := by
  unfold isWeb
  have := web_nonneg u.scheme
  simp
  omega
/-- ShowOpen: what is shown without a user begins so. -/
theorem show_open_web {u : Url} (h : urlMay u = true) (hw : web u.scheme ≠ 0) : ∃ r, showUrl (open_ u) = (u.scheme ++ [58, 47, 47]) ++ (door u ++ r) := by
  rw [showUrl_may (urlMay_open h), door_open h]
  have ho : (open_ u).opaque_ = [] := (may_web h hw).2.2.2.2.1
  have hi : isWeb (open_ u) = true := (isWeb_iff u).2 hw
  rw [ho, hi]
  refine ⟨pathShow u.path ++ (when u.hasQuery [[63], u.query] ++ when false [[35], []]), ?_⟩
  show when true [u.scheme, [58], []] ++ (when true [[47, 47], []] ++ (when (![].isEmpty) [[58], []] ++ (when (![].isEmpty || ![].isEmpty) [[64]] ++ (when true [door u, pathShow u.path] ++ (when u.hasQuery [[63], u.query] ++ when false [[35], []]))))) = _
  simp [when]
theorem scheme_fine {u : Url} (h : urlMay u = true) : ∀ c ∈ u.scheme, Fine c := by
  have : u.scheme = http ∨ u.scheme = https ∨ u.scheme = about ∨ u.scheme = data ∨ u.scheme = blob := by
    by_cases hw : web u.scheme = 0
    · exact .inr (.inr (opq_cases (may_opq h hw).1))
    · rcases web_cases hw with h | h
      · exact .inl h
      · exact .inr (.inl h)
  have hf : ∀ l : L, l.all (fun c => decide (32 < c.toNat) && decide (c.toNat < 127) && decide (c ≠ 35)) = true → ∀ c ∈ l, Fine c := by
    intro l hl c hc
    have := List.all_eq_true.1 hl c hc
    simp only [Bool.and_eq_true, decide_eq_true_eq] at this
    exact ⟨this.1.1, this.1.2, this.2⟩
  rcases this with e | e | e | e | e <;> rw [e] <;> exact hf _ (by decide)
theorem mem_when {is : Bool} {parts : List L} {c : UInt8} (h : c ∈ when is parts) : is = true ∧ ∃ s ∈ parts, c ∈ s := by
  unfold when at h
  split at h
  · exact ⟨‹_›, List.mem_flatten.1 h⟩
  · simp at h
/-- ShowOpen: its bytes. -/
theorem show_open_fine {u : Url} (h : urlMay u = true) : ∀ c ∈ showUrl (open_ u), Fine c := by
  intro c hc
  rw [showUrl_may (urlMay_open h)] at hc
  have hq := may_qf h
  simp only [List.mem_append] at hc
  have h58 : Fine 58 := ⟨by decide, by decide, by decide⟩
  have h47 : Fine 47 := ⟨by decide, by decide, by decide⟩
  have h63 : Fine 63 := ⟨by decide, by decide, by decide⟩
  have h64 : Fine 64 := ⟨by decide, by decide, by decide⟩
  have hop : ∀ c ∈ u.opaque_, Fine c := by
    intro c hc
    by_cases hw : web u.scheme = 0
    · have := may_opq' h hw
      have hs := ready1 this.1 c hc
      exact ⟨hs.1, hs.2, (this.2.1 c hc).2⟩
    · rw [(may_web h hw).2.2.2.2.1] at hc
      simp at hc
  rcases hc with hc | hc | hc | hc | hc | hc | hc
  · obtain ⟨_, s, hs, hc⟩ := mem_when hc
    simp only [List.mem_cons, List.not_mem_nil, or_false] at hs
    rcases hs with rfl | rfl | rfl
    · exact scheme_fine h c hc
    · simp at hc; subst hc; exact h58
    · exact hop c hc
  · obtain ⟨_, s, hs, hc⟩ := mem_when hc
    simp only [List.mem_cons, List.not_mem_nil, or_false] at hs
    rcases hs with rfl | rfl
    · simp at hc; subst hc; exact h47
    · exact absurd hc (by simp [open_])
  · obtain ⟨h1, _⟩ := mem_when hc
    simp [open_] at h1
  · obtain ⟨h1, _⟩ := mem_when hc
    simp [open_] at h1
  · obtain ⟨h1, s, hs, hc⟩ := mem_when hc
    have hw : web u.scheme ≠ 0 := (isWeb_iff u).1 h1
    simp only [List.mem_cons, List.not_mem_nil, or_false] at hs
    rcases hs with rfl | rfl
    · exact door_fine _ c hc
    · exact (pathShow_fine (may_web h hw).2.2.2.1 c hc).1
  · obtain ⟨_, s, hs, hc⟩ := mem_when hc
    simp only [List.mem_cons, List.not_mem_nil, or_false] at hs
    rcases hs with rfl | rfl
    · simp at hc; subst hc; exact h63
    · exact ready2 hq.1 c hc
  · obtain ⟨h1, _⟩ := mem_when hc
    simp [open_, bare] at h1
theorem fourShow_ne {n : Int} (h0 : 0 ≤ n) (h1 : n ≤ 4294967295) : fourShow n ≠ [] := by
  unfold fourShow
  rw [if_neg (by omega)]
  unfold joinBy fourList
  have := digs_ne (n.toNat / 16777216 % 256)
  simp [List.intercalate]
theorem hostShow_ne {h : Host} (hm : hostMay h = true) : hostShow h ≠ [] := by
  unfold hostShow
  rw [if_pos hm]
  unfold hostMay at hm
  split
  · rename_i hk
    rw [if_pos hk] at hm
    intro e
    rw [e] at hm
    revert hm
    simp [fits]
  · rename_i hk
    rw [if_neg hk] at hm
    split
    · rename_i hk2
      rw [if_pos hk2] at hm
      intro e
      rw [e] at hm
      simp at hm
    · simp
theorem door_ne {u : Url} (h : urlMay u = true) (hw : web u.scheme ≠ 0) : door u ≠ [] := by
  have := hostShow_ne (may_web h hw).1
  unfold door
  rw [h]
  simp only [Bool.not_true, Bool.false_or, decide_eq_true_eq, if_neg hw]
  split
  · exact this
  · simp
theorem open_open (u : Url) : open_ (open_ u) = open_ u := rfl
theorem open_bare (u : Url) : open_ (bare u) = open_ u := rfl
theorem urlSame_iff (a b : Url) : urlSame a b = true ↔ a = b := by
  unfold urlSame
  simp only [Bool.and_eq_true, decide_eq_true_eq]
  constructor
  · rintro ⟨h1, h2, h3, ⟨⟨⟨h4, h5⟩, h6⟩, h7⟩, h8, h9, h10, h11, h12, h13, h14⟩
    obtain ⟨s, us, pa, ⟨k, n, m, x⟩, p, l, o, q, f, hq, hf⟩ := a
    obtain ⟨s', us', pa', ⟨k', n', m', x'⟩, p', l', o', q', f', hq', hf'⟩ := b
    dsimp only at *
    subst h1 h2 h3 h4 h5 h6 h7 h8 h9 h10 h11 h12 h13 h14
    rfl
  · rintro rfl
    simp
end PM
