/-! What the program's functions compute, in plain words: bytes are lists, nothing of the machine. -/
namespace PM
abbrev L := List UInt8
def isDigit (c : UInt8) : Bool := decide (48 ≤ (c.toNat : Int)) && decide ((c.toNat : Int) ≤ 57)
def plain (l : L) : Bool := l.all isDigit && !l.isEmpty
def in0 (c : UInt8) : Bool := decide (c.toNat < 32) || decide (126 < c.toNat)
def has (l : L) (c : UInt8) : Bool := l.contains c
def in1 (c : UInt8) : Bool := in0 c || has [32, 34, 60, 62, 96] c
def in2 (c : UInt8) : Bool := in0 c || has [32, 34, 35, 39, 60, 62] c
def in3 (c : UInt8) : Bool := in2 c || has [63, 94, 96, 123, 125] c
def in4 (c : UInt8) : Bool := in3 c || has [47, 58, 59, 61, 64, 91, 92, 93, 124] c
def inSet (k : Int) (c : UInt8) : Bool := if k = 1 then in1 c else if k = 2 then in2 c else if k = 3 then in3 c else in4 c
def hexd (n : Nat) : UInt8 := [48, 49, 50, 51, 52, 53, 54, 55, 56, 57, 65, 66, 67, 68, 69, 70].getD n 0
def encByte (k : Int) (c : UInt8) : L := if inSet k c then [37, hexd (c.toNat / 16), hexd (c.toNat % 16)] else [c]
def encode (k : Int) (s : L) : L := s.flatMap (encByte k)
def ready (k : Int) (s : L) : Bool := encode k s == s
theorem encByte_len (k : Int) (c : UInt8) : (encByte k c).length ≤ 3 := by unfold encByte; split <;> simp
theorem encode_len (k : Int) (s : L) : (encode k s).length ≤ 3 * s.length := by
  induction s with
  | nil => simp [encode]
  | cons c r ih =>
    have := encByte_len k c
    simp only [encode, List.flatMap_cons, List.length_append, List.length_cons] at *
    omega
theorem encode_snoc (k : Int) (s : L) (c : UInt8) : encode k (s ++ [c]) = encode k s ++ encByte k c := by simp [encode]
def low (c : UInt8) : UInt8 := if decide (65 ≤ (c.toNat : Int)) && decide ((c.toNat : Int) ≤ 90) then c + 32 else c
def lower (s : L) : L := s.map low
def same (a b : L) : Bool := lower a == lower b
/-- How many dots a text is, n being there already; 0: none. -/
def dotsF : Nat → L → Nat → Nat
  | 0, _, _ => 0
  | f + 1, s, n =>
    match s with
    | [] => n
    | c :: r =>
      if c = 46 then (if n + 1 > 2 then 0 else dotsF f r (n + 1))
      else if decide (3 ≤ s.length) && same (s.take 3) [37, 50, 101] then (if n + 1 > 2 then 0 else dotsF f (s.drop 3) (n + 1))
      else 0
def dots (s : L) : Nat := dotsF (s.length + 1) s 0
def segOdd (s : L) : Bool := !ready 3 s || (has s 47 || decide (0 < dots s))
def pathMay (l : List L) : Bool := !l.isEmpty && !l.any segOdd
/-- The first place of what p holds of; -1. -/
def anyIdx (p : L → Bool) (xs : List L) : Int := if xs.any p then (xs.findIdx p : Int) else -1
theorem anyIdx_hit (p : L → Bool) (xs : List L) (k : Nat) (hk : k < xs.length) (h : p xs[k] = true) (hn : (xs.take k).any p = false) : anyIdx p xs = k := by
  unfold anyIdx
  rw [if_pos (List.any_eq_true.2 ⟨xs[k], List.getElem_mem _, h⟩)]
  have : xs.findIdx p = k := by
    rw [List.findIdx_eq hk]
    refine ⟨h, fun j hj => ?_⟩
    have hjt : j < (xs.take k).length := by simp; omega
    have := List.any_eq_false.1 hn (xs.take k)[j] (List.getElem_mem hjt)
    simpa using this
  rw [this]
theorem anyIdx_none (p : L → Bool) (xs : List L) (h : xs.any p = false) : anyIdx p xs = -1 := by simp [anyIdx, h]
theorem anyIdx_any (p : L → Bool) (xs : List L) : decide (0 ≤ anyIdx p xs) = xs.any p := by
  unfold anyIdx
  cases xs.any p <;> simp
def pathShow (l : List L) : L := l.flatMap (47 :: ·)
/-- A digit. -/
def dig (m : Nat) : UInt8 := UInt8.ofNat (48 + m % 10)
/-- A number's digits, the last one ahead. -/
def rdigF : Nat → Nat → L
  | 0, _ => []
  | f + 1, m => if m / 10 = 0 then [dig m] else dig m :: rdigF f (m / 10)
def rdig (m : Nat) : L := rdigF 20 m
def digs (m : Nat) : L := (rdig m).reverse
/-- What stands behind the last dot. -/
def afterDot (l : L) : L := (l.reverse.takeWhile (· != 46)).reverse
theorem afterDot_hit (a b : L) (h : ∀ x ∈ b, x ≠ 46) : afterDot (a ++ 46 :: b) = b := by
  unfold afterDot
  have : (a ++ 46 :: b).reverse = b.reverse ++ (46 :: a.reverse) := by simp
  rw [this, List.takeWhile_append_of_pos (by intro x hx; simpa using h x (by simpa using hx))]
  simp
theorem afterDot_none (l : L) (h : ∀ x ∈ l, x ≠ 46) : afterDot l = l := by
  unfold afterDot
  have := List.takeWhile_append_of_pos (p := (· != 46)) (l₁ := l.reverse) (l₂ := []) (by intro x hx; simpa using h x (by simpa using hx))
  simp only [List.append_nil, List.takeWhile_nil] at this
  rw [this, List.reverse_reverse]
def looks (l : L) : Bool := plain (afterDot l)
def joinBy (c : L) (xs : List L) : L := c.intercalate xs
def fourList (m : Nat) : List L := [digs (m / 16777216 % 256), digs (m / 65536 % 256), digs (m / 256 % 256), digs (m % 256)]
def fourShow (n : Int) : L := if n < 0 ∨ 4294967295 < n then [] else joinBy [46] (fourList n.toNat)
def hexl (n : Nat) : UInt8 := [48, 49, 50, 51, 52, 53, 54, 55, 56, 57, 97, 98, 99, 100, 101, 102].getD n 0
def hexs (n : Nat) : L := if n > 15 then hexs (n / 16) ++ [hexl (n % 16)] else [hexl (n % 16)]
termination_by n
decreasing_by omega
theorem hexs_big (n : Nat) (h : n > 15) : hexs n = hexs (n / 16) ++ [hexl (n % 16)] := by rw [hexs]; simp [h]
theorem hexs_small (n : Nat) (h : ¬ n > 15) : hexs n = [hexl (n % 16)] := by rw [hexs]; simp [h]
/-- How long the row of noughts is at the front. -/
def zeros (p : List Int) : Nat := (p.takeWhile (· == 0)).length
def runStep (p : List Int) (s : Nat × Nat) (i : Nat) : Nat × Nat := if zeros (p.drop i) > s.2 then (i, zeros (p.drop i)) else s
def runTo (p : List Int) (k : Nat) : Nat × Nat := (List.range k).foldl (runStep p) (0, 1)
theorem runTo_succ (p : List Int) (k : Nat) : runTo p (k + 1) = runStep p (runTo p k) k := by simp [runTo, List.range_succ]
theorem zeros_hit (p : List Int) (j : Nat) (hj : j < p.length) (h : ∀ t, t < j → p.getD t 0 = 0) (hn : p.getD j 0 ≠ 0) : zeros p = j := by
  induction p generalizing j with
  | nil => simp at hj
  | cons x r ih =>
    rcases j with _ | j
    · have : x ≠ 0 := by simpa using hn
      simp [zeros, this]
    · have h0 : x = 0 := by simpa using h 0 (by omega)
      have := ih j (by simpa using hj) (fun t ht => by simpa using h (t + 1) (by omega)) (by simpa using hn)
      subst h0
      simp only [zeros, List.takeWhile_cons, beq_self_eq_true, if_true, List.length_cons] at this ⊢
      omega
theorem zeros_all (p : List Int) (h : ∀ t, t < p.length → p.getD t 0 = 0) : zeros p = p.length := by
  induction p with
  | nil => rfl
  | cons x r ih =>
    have h0 : x = 0 := by simpa using h 0 (by simp)
    have := ih (fun t ht => by simpa using h (t + 1) (by simpa using ht))
    subst h0
    simp only [zeros, List.takeWhile_cons, beq_self_eq_true, if_true, List.length_cons] at this ⊢
    omega
def run (p : List Int) : Nat × Nat := if (runTo p 8).2 < 2 then (0, 0) else runTo p 8
theorem zeros_le (p : List Int) : zeros p ≤ p.length := by unfold zeros; exact (List.takeWhile_sublist _).length_le
theorem runTo_le (p : List Int) (h : p.length = 8) (k : Nat) (hk : k ≤ 8) : (runTo p k).1 + (runTo p k).2 ≤ 8 := by
  induction k with
  | zero => simp [runTo]
  | succ k ih =>
    have := ih (by omega)
    rw [runTo_succ, runStep]
    split
    · have := zeros_le (p.drop k)
      simp [h] at this
      show k + zeros (p.drop k) ≤ 8
      omega
    · exact this
theorem run_le (p : List Int) (h : p.length = 8) : (run p).1 + (run p).2 ≤ 8 := by
  unfold run
  split
  · simp
  · exact runTo_le p h 8 (by omega)
def sixJoin (p : List Int) : L := joinBy [58] (p.map fun n => hexs n.toNat)
def sixMay (p : List Int) : Bool := p.all fun n => decide (0 ≤ n) && decide (n ≤ 65535)
def sixShow (p : List Int) : L :=
  if sixMay p then (if (run p).2 = 0 then sixJoin p else sixJoin (p.take (run p).1) ++ 58 :: 58 :: sixJoin (p.drop ((run p).1 + (run p).2))) else []
def hasDD : L → Bool
  | [] => false
  | b :: r => List.isPrefixOf [46, 46] (b :: r) || hasDD r
def oddN (x : Nat) : Bool := decide (128 ≤ x) || (decide (x ≠ 46) && decide (x ≠ 45) && decide (x ≠ 95) && !(decide (48 ≤ x) && decide (x ≤ 57)) && (decide (x < 97) || decide (122 < x)))
def odd (c : UInt8) : Bool := oddN c.toNat
def fits (s : L) : Bool := !s.isEmpty && !decide (100 < s.length) && !looks s && !hasDD (46 :: (s ++ [46])) && !s.any odd
structure Host where
  kind : Int
  name : L
  num : Int
  six : List Int
def noSix : List Int := [0, 0, 0, 0, 0, 0, 0, 0]
def hostMay (h : Host) : Bool :=
  if h.kind = 1 then fits h.name && (decide (h.num = 0) && decide (h.six = noSix))
  else if h.kind = 2 then !(fourShow h.num).isEmpty && (h.name.isEmpty && decide (h.six = noSix))
  else if h.kind = 3 then sixMay h.six && (h.name.isEmpty && decide (h.num = 0))
  else false
def hostShow (h : Host) : L :=
  if hostMay h then (if h.kind = 1 then h.name else if h.kind = 2 then fourShow h.num else 91 :: (sixShow h.six ++ [93])) else []
def http : L := [104, 116, 116, 112]
def https : L := [104, 116, 116, 112, 115]
def web (s : L) : Int := if s = http then 80 else if s = https then 443 else 0
def about : L := [97, 98, 111, 117, 116]
def data : L := [100, 97, 116, 97]
def blob : L := [98, 108, 111, 98]
def opq (s : L) : Bool := decide (s ∈ [about, data, blob])
def noHost : Host := ⟨0, [], 0, noSix⟩
structure Url where
  scheme : L
  user : L
  pass : L
  host : Host
  port : Int
  path : List L
  opaque_ : L
  query : L
  frag : L
  hasQuery : Bool
  hasFrag : Bool
def qf (u : Url) : Bool := ready 2 u.query && (ready 1 u.frag && ((u.hasQuery || u.query.isEmpty) && (u.hasFrag || u.frag.isEmpty)))
def isNoHost (h : Host) : Bool := decide (h.kind = 0) && (decide (h.name = []) && (decide (h.num = 0) && decide (h.six = noSix)))
def mayOpq (u : Url) : Bool := ready 1 u.opaque_ && (!(has u.opaque_ 63 || has u.opaque_ 35) && (decide (u.port = -1) && (isNoHost u.host && (u.user.isEmpty && (u.pass.isEmpty && u.path.isEmpty)))))
def mayWeb (u : Url) : Bool := decide (0 < web u.scheme) && (hostMay u.host && (ready 4 u.user && (ready 4 u.pass && (pathMay u.path && (u.opaque_.isEmpty && (decide (-1 ≤ u.port) && (decide (u.port ≤ 65535) && decide (u.port ≠ web u.scheme))))))))
def urlMay (u : Url) : Bool := qf u && (if opq u.scheme then mayOpq u else mayWeb u)
def urlSame (a b : Url) : Bool := decide (a.scheme = b.scheme) && (decide (a.user = b.user) && (decide (a.pass = b.pass) && (decide (a.host.kind = b.host.kind) && decide (a.host.name = b.host.name) && decide (a.host.num = b.host.num) && decide (a.host.six = b.host.six) && (decide (a.port = b.port) && (decide (a.path = b.path) && (decide (a.opaque_ = b.opaque_) && (decide (a.query = b.query) && (decide (a.frag = b.frag) && (decide (a.hasQuery = b.hasQuery) && decide (a.hasFrag = b.hasFrag))))))))))
theorem encode_count (k : Int) (s : L) : (encode k s).length = s.length + 2 * s.countP (inSet k) := by
  induction s with
  | nil => rfl
  | cons c r ih =>
    have e : encode k (c :: r) = encByte k c ++ encode k r := by simp [encode]
    rw [e, List.length_append, ih, List.countP_cons]
    unfold encByte
    cases inSet k c <;> simp <;> omega
theorem ready_iff (k : Int) (s : L) : ready k s = true ↔ ∀ c ∈ s, inSet k c = false := by
  unfold ready
  rw [beq_iff_eq]
  constructor
  · intro h c hc
    have := encode_count k s
    rw [h] at this
    have h0 : s.countP (inSet k) = 0 := by omega
    rw [List.countP_eq_zero] at h0
    simpa using h0 c hc
  · intro h
    induction s with
    | nil => rfl
    | cons c r ih =>
      have e : encode k (c :: r) = encByte k c ++ encode k r := by simp [encode]
      rw [e, ih (fun x hx => h x (by simp [hx]))]
      unfold encByte
      rw [h c (by simp)]
      rfl
theorem inSet_in0 (k : Int) (c : UInt8) (h : inSet k c = false) : in0 c = false := by
  unfold inSet at h
  split at h
  · unfold in1 at h; simp at h; exact h.1
  · split at h
    · unfold in2 at h; simp at h; exact h.1
    · split at h
      · unfold in3 in2 at h; simp at h; exact h.1.1
      · unfold in4 in3 in2 at h; simp at h; exact h.1.1.1
theorem in0_range (c : UInt8) (h : in0 c = false) : 32 ≤ c.toNat ∧ c.toNat ≤ 126 := by
  unfold in0 at h
  simp only [Bool.or_eq_false_iff, decide_eq_false_iff_not] at h
  omega
def door (u : Url) : L := if !urlMay u || decide (web u.scheme = 0) then [] else if u.port = -1 then hostShow u.host else hostShow u.host ++ 58 :: digs u.port.toNat
theorem web_opq (s : L) (h : opq s = true) : web s = 0 := by
  unfold opq at h
  simp only [List.mem_cons, List.not_mem_nil, or_false, decide_eq_true_eq] at h
  rcases h with rfl | rfl | rfl <;> decide
theorem may_port (u : Url) (h : urlMay u = true) (hw : web u.scheme ≠ 0) : -1 ≤ u.port ∧ u.port ≤ 65535 := by
  unfold urlMay at h
  have ho : opq u.scheme = false := by
    cases ho : opq u.scheme
    · rfl
    · exact absurd (web_opq _ ho) hw
  rw [ho] at h
  unfold mayWeb at h
  simp at h
  omega
def when (is : Bool) (parts : List L) : L := if is then parts.flatten else []
def isWeb (u : Url) : Bool := decide (0 < web u.scheme)
def showUrl (u : Url) : L :=
  if !urlMay u then [] else
  when true [u.scheme, [58], u.opaque_] ++ (when (isWeb u) [[47, 47], u.user] ++ (when (!u.pass.isEmpty) [[58], u.pass] ++ (when (!u.user.isEmpty || !u.pass.isEmpty) [[64]] ++
  (when (isWeb u) [door u, pathShow u.path] ++ (when u.hasQuery [[63], u.query] ++ when u.hasFrag [[35], u.frag])))))
def bare (u : Url) : Url := { u with frag := [], hasFrag := false }
def open_ (u : Url) : Url := { bare u with user := [], pass := [] }
end PM
