import Derived.Test.YtphigjogeejdjaaGreatDoorOr
import Derived.Test.YtphigjogeejdjaaGreatDoorBase
import Derived.Test.YtphigjogeejdjaaGreatDoorSg
import Derived.Test.YtphigjogeejdjaaGreatDoorPf
import Derived.Test.YtphigjogeejdjaaGreatDoorKn
set_option linter.unusedVariables false
set_option linter.unusedSimpArgs false
/-! Plain law: referrers. -/
namespace PM
def usual (p : Int) : Int := if p ≤ 0 ∨ 9 ≤ p then 7 else p
/-- What a policy allows: the same, other, down, both. -/
def polL (p : Int) : List Int :=
  if usual p = 1 then [0, 0, 0, 0] else if usual p = 2 then [2, 2, 0, 0] else if usual p = 3 then [2, 0, 2, 0] else if usual p = 4 then [1, 1, 1, 1] else
  if usual p = 5 then [1, 1, 0, 0] else if usual p = 6 then [2, 1, 2, 1] else if usual p = 7 then [2, 1, 2, 0] else [2, 2, 2, 2]
def wayOf (same down : Bool) : Nat := (if same then 0 else 1) + (if down then 2 else 0)
def polAt (p : Int) (same down : Bool) : Int := (polL p).getD (wayOf same down) 0
def polMost (p : Int) : Int := (polL p).foldl max 0
def polLe (p q : Int) : Bool := (List.range 4).all fun i => decide ((polL p).getD i 0 ≤ (polL q).getD i 0)
def goesDown (a b : Url) : Bool := trust a && !trust b
def level (p : Int) (a b : Url) : Int := polAt p (both a b) (goesDown a b)
def fromOf (raw : L) : Option Url := match urlParse raw with
  | some u => if web u.scheme = 0 then none else some u
  | none => none
def told (p : Int) (raw : L) (nx : Url) : L := match fromOf raw with
  | some u => stripAt u (level p u nx)
  | none => []
theorem usual_cases (p : Int) : usual p = 1 ∨ usual p = 2 ∨ usual p = 3 ∨ usual p = 4 ∨ usual p = 5 ∨ usual p = 6 ∨ usual p = 7 ∨ usual p = 8 := by
  unfold usual
  split <;> omega
theorem polL_cases (p : Int) : (usual p = 1 ∧ polL p = [0, 0, 0, 0]) ∨ (usual p = 2 ∧ polL p = [2, 2, 0, 0]) ∨ (usual p = 3 ∧ polL p = [2, 0, 2, 0]) ∨ (usual p = 4 ∧ polL p = [1, 1, 1, 1]) ∨ (usual p = 5 ∧ polL p = [1, 1, 0, 0]) ∨ (usual p = 6 ∧ polL p = [2, 1, 2, 1]) ∨ (usual p = 7 ∧ polL p = [2, 1, 2, 0]) ∨ (usual p = 8 ∧ polL p = [2, 2, 2, 2]) := by
  unfold polL
  rcases usual_cases p with h | h | h | h | h | h | h | h <;> rw [h] <;> simp
theorem fromOf_w {raw : L} {u : Url} (h : fromOf raw = some u) : urlParse raw = some u ∧ isW u = true ∧ u.host.six.length = 8 := by
  unfold fromOf at h
  split at h
  · rename_i v hv
    split at h
    · cases h
    · rename_i hw
      simp at h
      subst h
      have := parse_may hv
      exact ⟨hv, (isW_iff _).2 ⟨this.1, hw⟩, this.2⟩
  · cases h
theorem level_cases (p : Int) (a b : Url) : level p a b = 0 ∨ level p a b = 1 ∨ level p a b = 2 := by
  unfold level polAt wayOf
  rcases polL_cases p with ⟨_, h⟩ | ⟨_, h⟩ | ⟨_, h⟩ | ⟨_, h⟩ | ⟨_, h⟩ | ⟨_, h⟩ | ⟨_, h⟩ | ⟨_, h⟩ <;> rw [h] <;> cases both a b <;> cases goesDown a b <;> simp
theorem told_ne {u : Url} (h : isW u = true) (k : Int) (hk : k = 1 ∨ k = 2) : stripAt u k ≠ [] := by
  rcases hk with rfl | rfl
  · exact origin_ne h
  · exact cap_ne h
theorem told_nothing (u : Url) : stripAt u 0 = [] := rfl
theorem polAt_le (p : Int) (s d : Bool) : polAt p s d ≤ polMost p := by
  unfold polAt polMost wayOf
  rcases polL_cases p with ⟨_, h⟩ | ⟨_, h⟩ | ⟨_, h⟩ | ⟨_, h⟩ | ⟨_, h⟩ | ⟨_, h⟩ | ⟨_, h⟩ | ⟨_, h⟩ <;> rw [h] <;> cases s <;> cases d <;> decide
theorem polAt_never {p : Int} (h : p = 1) (s d : Bool) : polAt p s d = 0 := by
  subst h
  cases s <;> cases d <;> rfl
/-- ReferMost: of what is from the web. -/
theorem refer_most {raw : L} {u : Url} (h : fromOf raw = some u) (p : Int) (nx : Url) (hn : level p u nx ≠ 0) : told p raw nx ≠ [] ∧ p ≠ 1 ∧ (told p raw nx = stripOrigin u ∨ (level p u nx = 2 ∧ told p raw nx = stripFull u)) ∧ level p u nx ≤ polMost p := by
  obtain ⟨_, hw, _⟩ := fromOf_w h
  have e : told p raw nx = stripAt u (level p u nx) := by unfold told; rw [h]
  have hc := level_cases p u nx
  refine ⟨by rw [e]; exact told_ne hw _ (by omega), fun hp => hn (polAt_never hp _ _), ?_, polAt_le _ _ _⟩
  rw [e]
  rcases hc with h0 | h1 | h2
  · exact absurd h0 hn
  · rw [h1]; exact .inl rfl
  · rw [h2]
    have e2 : stripAt u 2 = stripCap u := rfl
    rw [e2]
    unfold stripCap
    split
    · exact .inr ⟨rfl, rfl⟩
    · exact .inl rfl
theorem down_both {a b : Url} (h : both a b = true) : goesDown a b = false := by
  unfold goesDown
  rw [trust_both h]
  cases trust b <;> rfl
/-- ReferBlind. -/
theorem refer_blind {a b : L} {x y : Url} (hx : fromOf a = some x) (hy : fromOf b = some y) (p : Int) (nx : Url) (h : (trust x = trust y ∧ both x nx = false ∧ both y nx = false ∧ (p = 1 ∨ p = 3)) ∨ (both x y = true ∧ level p x nx ≤ 1)) : told p a nx = told p b nx := by
  have e1 : told p a nx = stripAt x (level p x nx) := by unfold told; rw [hx]
  have e2 : told p b nx = stripAt y (level p y nx) := by unfold told; rw [hy]
  rw [e1, e2]
  rcases h with ⟨ht, h1, h2, hp⟩ | ⟨hb, hl⟩
  · have : ∀ z, both z nx = false → level p z nx = 0 := fun z hz => by
      unfold level
      rw [hz]
      rcases hp with rfl | rfl <;> cases goesDown z nx <;> rfl
    rw [this x h1, this y h2]
    rfl
  · have e : level p y nx = level p x nx := by
      unfold level goesDown
      rw [both_trans hb, trust_both hb]
    rw [e]
    have hc := level_cases p x nx
    rcases hc with h0 | h1 | h2
    · rw [h0]; rfl
    · rw [h1]; exact origin_blind hb
    · omega
theorem polLe_at {p q : Int} (h : polLe p q = true) (s d : Bool) : polAt p s d ≤ polAt q s d := by
  unfold polLe at h
  rw [List.all_eq_true] at h
  have := h (wayOf s d) (by unfold wayOf; cases s <;> cases d <;> simp)
  unfold polAt
  simpa using this
/-- ReferStrict. -/
theorem refer_strict {p q : Int} (h : polLe p q = true) (raw : L) (nx : Url) : (told p raw nx ≠ [] → told q raw nx ≠ [] ∧ (told p raw nx).length ≤ (told q raw nx).length) ∧ (∀ u, fromOf raw = some u → level p u nx ≤ level q u nx) ∧ (fromOf raw = none → told p raw nx = [] ∧ told q raw nx = []) := by
  refine ⟨fun hn => ?_, fun u _ => polLe_at h _ _, fun hn => by unfold told; rw [hn]; exact ⟨rfl, rfl⟩⟩
  cases hf : fromOf raw with
  | none => unfold told at hn; rw [hf] at hn; exact absurd rfl hn
  | some u =>
    obtain ⟨_, hw, _⟩ := fromOf_w hf
    have e1 : told p raw nx = stripAt u (level p u nx) := by unfold told; rw [hf]
    have e2 : told q raw nx = stripAt u (level q u nx) := by unfold told; rw [hf]
    rw [e1] at hn ⊢
    rw [e2]
    have hl : level p u nx ≤ level q u nx := polLe_at h _ _
    have c1 := level_cases p u nx
    have c2 := level_cases q u nx
    have hp : level p u nx ≠ 0 := fun h0 => hn (by rw [h0]; rfl)
    refine ⟨told_ne hw _ (by omega), ?_⟩
    have hle := origin_le_cap hw
    rcases c1 with c1 | c1 | c1
    · exact absurd c1 hp
    · rcases c2 with c2 | c2 | c2
      · omega
      · rw [c1, c2]; exact Nat.le_refl _
      · rw [c1, c2]; exact hle
    · rcases c2 with c2 | c2 | c2
      · omega
      · omega
      · rw [c1, c2]; exact Nat.le_refl _
/-- ReferDown. -/
theorem refer_down (p : Int) (a b : Url) (h : goesDown a b = true) : both a b = false ∧ (p = 0 ∨ p = 5 ∨ p = 7 ∨ p = 2 → level p a b = 0) := by
  have hb : both a b = false := by
    cases hb : both a b
    · rfl
    · rw [down_both hb] at h; cases h
  refine ⟨hb, fun hp => ?_⟩
  unfold level
  rw [hb, h]
  rcases hp with rfl | rfl | rfl | rfl <;> rfl
/-- ReferSelf. -/
theorem refer_self {u nx : Url} (h : both u nx = true) (lu : u.host.six.length = 8) (p : Int) : fromOf (showUrl u) = some u ∧ (p = 1 → told p (showUrl u) nx = []) ∧ (p ≠ 1 → ∃ k, (k = 1 ∨ k = 2) ∧ told p (showUrl u) nx = stripAt u k ∧ ((p = 4 ∨ p = 5 ∨ 4096 < (showUrl (open_ u)).length) → (stripAt u k).length ≤ (showUrl (open_ u)).length) ∧ (¬ (p = 4 ∨ p = 5 ∨ 4096 < (showUrl (open_ u)).length) → stripAt u k = showUrl (open_ u))) := by
  have hw : isW u = true := ((both_iff u nx).1 h).1
  obtain ⟨hm, hw0⟩ := (isW_iff u).1 hw
  have hf : fromOf (showUrl u) = some u := by
    unfold fromOf
    rw [parse_show hm lu]
    dsimp only
    rw [if_neg hw0]
  have e : told p (showUrl u) nx = stripAt u (level p u nx) := by unfold told; rw [hf]
  have hl : level p u nx = (polL p).getD 0 0 := by
    unfold level
    rw [h, down_both h]
    rfl
  have ef : stripFull u = showUrl (open_ u) := by unfold stripFull; rw [if_pos hw]
  have hle := origin_le hw
  refine ⟨hf, fun hp => by rw [e, hl, hp]; rfl, fun hp => ⟨level p u nx, ?_, e, ?_, ?_⟩⟩
  · rw [hl]
    have hu1 : usual p ≠ 1 := by unfold usual; split <;> omega
    rcases polL_cases p with ⟨h1, h2⟩ | ⟨h1, h2⟩ | ⟨h1, h2⟩ | ⟨h1, h2⟩ | ⟨h1, h2⟩ | ⟨h1, h2⟩ | ⟨h1, h2⟩ | ⟨h1, h2⟩ <;> rw [h2] <;> first | exact absurd h1 hu1 | simp
  · intro _
    rw [← ef]
    rcases level_cases p u nx with h0 | h0 | h0
    · rw [h0]; exact Nat.zero_le _
    · rw [h0]; exact hle
    · rw [h0]
      show (stripCap u).length ≤ _
      unfold stripCap
      split
      · exact Nat.le_refl _
      · exact hle
  · intro hn
    have h2 : level p u nx = 2 := by
      rw [hl]
      have hu1 : usual p ≠ 1 ∧ usual p ≠ 4 ∧ usual p ≠ 5 := by unfold usual; split <;> omega
      rcases polL_cases p with ⟨h1, h2⟩ | ⟨h1, h2⟩ | ⟨h1, h2⟩ | ⟨h1, h2⟩ | ⟨h1, h2⟩ | ⟨h1, h2⟩ | ⟨h1, h2⟩ | ⟨h1, h2⟩ <;> rw [h2] <;> first | exact absurd h1 hu1.1 | exact absurd h1 hu1.2.1 | exact absurd h1 hu1.2.2 | rfl
    rw [h2]
    show stripCap u = _
    unfold stripCap
    rw [ef, if_pos (by omega)]
end PM
/-! Contracts: package policy. -/
namespace Go.Proofs.YtphigjogeejdjaaGreatDoor
open Go.RowKit
theorem po_obj {w W : World} (hb : Below w.heap.size w W) {b : Nat} {o : Obj} (h : w.heap[b]? = some o) : W.heap[b]? = some o := (hb.block b (Array.getElem?_eq_some_iff.1 h).1).trans h
theorem po_setRow {w : World} {b : Nat} {cs : Array Value} {T : TypeId} (h : w.heap[b]? = some (.cells cs T (0, 0))) (cs' : Array Value) : (w.setRow b cs').heap[b]? = some (.cells cs' T (0, 0)) := by
  simp [World.setRow, Array.getElem?_modify, h]
theorem po_below {B : Nat} {w w1 : World} (h : Below B w w1) {b : Nat} (hb : B ≤ b) (cs' : Array Value) : Below B w (w1.setRow b cs') :=
  ⟨h.os, h.tape, h.output, by simpa [World.setRow] using h.size, fun k hk => by
    rw [← h.block k hk]
    simp [World.setRow, Array.getElem?_modify, show b ≠ k by omega]⟩
set_option maxRecDepth 100000 in
set_option maxHeartbeats 4000000 in
theorem Usual_c (p : Int) (w : World) : Calls Tryz.prog 130 #[.int .i64 p] w fun e w' => e = .returned (.int .i64 (PM.usual p)) ∧ w' = w := by
  have hm : PM.usual p = if p ≤ 0 ∨ 9 ≤ p then 7 else p := rfl
  have HM := Lib.hid hm
  clear hm
  go_enter Tryz.func130, Tryz.ntmps130
  go_wp2
  all_goals go_ret
  all_goals refine ⟨?_, rfl⟩
  all_goals first
    | (show Ending.returned (Value.int IntKind.i64 7) = _; rw [HM.out, if_pos (by omega)])
    | (show Ending.returned (Value.int IntKind.i64 p) = _; rw [HM.out, if_neg (by omega)])
def pq (p : Int) (i : Nat) : Int := (PM.polL p).getD i 0
def polA (p : Int) : Array Value := #[.int .i64 (pq p 0), .int .i64 (pq p 1), .int .i64 (pq p 2), .int .i64 (pq p 3)]
theorem idxP_1 (w : World) : (Instr.index 156 (.agg #[.int .i64 0, .int .i64 0, .int .i64 0, .int .i64 0, .int .i64 0, .int .i64 0, .int .i64 0, .int .i64 0, .int .i64 2, .int .i64 2, .int .i64 0, .int .i64 0, .int .i64 2, .int .i64 0, .int .i64 2, .int .i64 0, .int .i64 1, .int .i64 1, .int .i64 1, .int .i64 1, .int .i64 1, .int .i64 1, .int .i64 0, .int .i64 0, .int .i64 2, .int .i64 1, .int .i64 2, .int .i64 1, .int .i64 2, .int .i64 1, .int .i64 2, .int .i64 0, .int .i64 2, .int .i64 2, .int .i64 2, .int .i64 2]) (.int .i64 1)).run Tryz.prog w = .ok (.agg #[.int .i64 0, .int .i64 0, .int .i64 0, .int .i64 0]) w := by kernel_rfl
theorem idxP_2 (w : World) : (Instr.index 156 (.agg #[.int .i64 0, .int .i64 0, .int .i64 0, .int .i64 0, .int .i64 0, .int .i64 0, .int .i64 0, .int .i64 0, .int .i64 2, .int .i64 2, .int .i64 0, .int .i64 0, .int .i64 2, .int .i64 0, .int .i64 2, .int .i64 0, .int .i64 1, .int .i64 1, .int .i64 1, .int .i64 1, .int .i64 1, .int .i64 1, .int .i64 0, .int .i64 0, .int .i64 2, .int .i64 1, .int .i64 2, .int .i64 1, .int .i64 2, .int .i64 1, .int .i64 2, .int .i64 0, .int .i64 2, .int .i64 2, .int .i64 2, .int .i64 2]) (.int .i64 2)).run Tryz.prog w = .ok (.agg #[.int .i64 2, .int .i64 2, .int .i64 0, .int .i64 0]) w := by kernel_rfl
theorem idxP_3 (w : World) : (Instr.index 156 (.agg #[.int .i64 0, .int .i64 0, .int .i64 0, .int .i64 0, .int .i64 0, .int .i64 0, .int .i64 0, .int .i64 0, .int .i64 2, .int .i64 2, .int .i64 0, .int .i64 0, .int .i64 2, .int .i64 0, .int .i64 2, .int .i64 0, .int .i64 1, .int .i64 1, .int .i64 1, .int .i64 1, .int .i64 1, .int .i64 1, .int .i64 0, .int .i64 0, .int .i64 2, .int .i64 1, .int .i64 2, .int .i64 1, .int .i64 2, .int .i64 1, .int .i64 2, .int .i64 0, .int .i64 2, .int .i64 2, .int .i64 2, .int .i64 2]) (.int .i64 3)).run Tryz.prog w = .ok (.agg #[.int .i64 2, .int .i64 0, .int .i64 2, .int .i64 0]) w := by kernel_rfl
theorem idxP_4 (w : World) : (Instr.index 156 (.agg #[.int .i64 0, .int .i64 0, .int .i64 0, .int .i64 0, .int .i64 0, .int .i64 0, .int .i64 0, .int .i64 0, .int .i64 2, .int .i64 2, .int .i64 0, .int .i64 0, .int .i64 2, .int .i64 0, .int .i64 2, .int .i64 0, .int .i64 1, .int .i64 1, .int .i64 1, .int .i64 1, .int .i64 1, .int .i64 1, .int .i64 0, .int .i64 0, .int .i64 2, .int .i64 1, .int .i64 2, .int .i64 1, .int .i64 2, .int .i64 1, .int .i64 2, .int .i64 0, .int .i64 2, .int .i64 2, .int .i64 2, .int .i64 2]) (.int .i64 4)).run Tryz.prog w = .ok (.agg #[.int .i64 1, .int .i64 1, .int .i64 1, .int .i64 1]) w := by kernel_rfl
theorem idxP_5 (w : World) : (Instr.index 156 (.agg #[.int .i64 0, .int .i64 0, .int .i64 0, .int .i64 0, .int .i64 0, .int .i64 0, .int .i64 0, .int .i64 0, .int .i64 2, .int .i64 2, .int .i64 0, .int .i64 0, .int .i64 2, .int .i64 0, .int .i64 2, .int .i64 0, .int .i64 1, .int .i64 1, .int .i64 1, .int .i64 1, .int .i64 1, .int .i64 1, .int .i64 0, .int .i64 0, .int .i64 2, .int .i64 1, .int .i64 2, .int .i64 1, .int .i64 2, .int .i64 1, .int .i64 2, .int .i64 0, .int .i64 2, .int .i64 2, .int .i64 2, .int .i64 2]) (.int .i64 5)).run Tryz.prog w = .ok (.agg #[.int .i64 1, .int .i64 1, .int .i64 0, .int .i64 0]) w := by kernel_rfl
theorem idxP_6 (w : World) : (Instr.index 156 (.agg #[.int .i64 0, .int .i64 0, .int .i64 0, .int .i64 0, .int .i64 0, .int .i64 0, .int .i64 0, .int .i64 0, .int .i64 2, .int .i64 2, .int .i64 0, .int .i64 0, .int .i64 2, .int .i64 0, .int .i64 2, .int .i64 0, .int .i64 1, .int .i64 1, .int .i64 1, .int .i64 1, .int .i64 1, .int .i64 1, .int .i64 0, .int .i64 0, .int .i64 2, .int .i64 1, .int .i64 2, .int .i64 1, .int .i64 2, .int .i64 1, .int .i64 2, .int .i64 0, .int .i64 2, .int .i64 2, .int .i64 2, .int .i64 2]) (.int .i64 6)).run Tryz.prog w = .ok (.agg #[.int .i64 2, .int .i64 1, .int .i64 2, .int .i64 1]) w := by kernel_rfl
theorem idxP_7 (w : World) : (Instr.index 156 (.agg #[.int .i64 0, .int .i64 0, .int .i64 0, .int .i64 0, .int .i64 0, .int .i64 0, .int .i64 0, .int .i64 0, .int .i64 2, .int .i64 2, .int .i64 0, .int .i64 0, .int .i64 2, .int .i64 0, .int .i64 2, .int .i64 0, .int .i64 1, .int .i64 1, .int .i64 1, .int .i64 1, .int .i64 1, .int .i64 1, .int .i64 0, .int .i64 0, .int .i64 2, .int .i64 1, .int .i64 2, .int .i64 1, .int .i64 2, .int .i64 1, .int .i64 2, .int .i64 0, .int .i64 2, .int .i64 2, .int .i64 2, .int .i64 2]) (.int .i64 7)).run Tryz.prog w = .ok (.agg #[.int .i64 2, .int .i64 1, .int .i64 2, .int .i64 0]) w := by kernel_rfl
theorem idxP_8 (w : World) : (Instr.index 156 (.agg #[.int .i64 0, .int .i64 0, .int .i64 0, .int .i64 0, .int .i64 0, .int .i64 0, .int .i64 0, .int .i64 0, .int .i64 2, .int .i64 2, .int .i64 0, .int .i64 0, .int .i64 2, .int .i64 0, .int .i64 2, .int .i64 0, .int .i64 1, .int .i64 1, .int .i64 1, .int .i64 1, .int .i64 1, .int .i64 1, .int .i64 0, .int .i64 0, .int .i64 2, .int .i64 1, .int .i64 2, .int .i64 1, .int .i64 2, .int .i64 1, .int .i64 2, .int .i64 0, .int .i64 2, .int .i64 2, .int .i64 2, .int .i64 2]) (.int .i64 8)).run Tryz.prog w = .ok (.agg #[.int .i64 2, .int .i64 2, .int .i64 2, .int .i64 2]) w := by kernel_rfl
@[go_sem] theorem idxP (p : Int) (w : World) : (Instr.index 156 (.agg #[.int .i64 0, .int .i64 0, .int .i64 0, .int .i64 0, .int .i64 0, .int .i64 0, .int .i64 0, .int .i64 0, .int .i64 2, .int .i64 2, .int .i64 0, .int .i64 0, .int .i64 2, .int .i64 0, .int .i64 2, .int .i64 0, .int .i64 1, .int .i64 1, .int .i64 1, .int .i64 1, .int .i64 1, .int .i64 1, .int .i64 0, .int .i64 0, .int .i64 2, .int .i64 1, .int .i64 2, .int .i64 1, .int .i64 2, .int .i64 1, .int .i64 2, .int .i64 0, .int .i64 2, .int .i64 2, .int .i64 2, .int .i64 2]) (.int .i64 (PM.usual p))).run Tryz.prog w = .ok (.agg #[.int .i64 (pq p 0), .int .i64 (pq p 1), .int .i64 (pq p 2), .int .i64 (pq p 3)]) w := by
  unfold pq
  rcases PM.polL_cases p with ⟨h1, h2⟩ | ⟨h1, h2⟩ | ⟨h1, h2⟩ | ⟨h1, h2⟩ | ⟨h1, h2⟩ | ⟨h1, h2⟩ | ⟨h1, h2⟩ | ⟨h1, h2⟩ <;> rw [h1, h2]
  · exact idxP_1 w
  · exact idxP_2 w
  · exact idxP_3 w
  · exact idxP_4 w
  · exact idxP_5 w
  · exact idxP_6 w
  · exact idxP_7 w
  · exact idxP_8 w
set_option maxRecDepth 100000 in
set_option maxHeartbeats 4000000 in
theorem allowed_c (p : Int) (w : World) : Calls Tryz.prog 88 #[.int .i64 p] w fun e w' => e = .returned (.agg (polA p)) ∧ Below w.heap.size w w' := by
  go_enter Tryz.func88, Tryz.ntmps88
  go_wp2_with fail
  refine (Usual_c p _).mono ?_
  rintro e V1 ⟨rfl, rfl⟩
  go_wp2
  refine bodyPost_ret (results_cell_row (fr := (0, 0)) rfl _ _ w.heap.size 118 (polA p) _ rfl (Go.heap_alloc_new _ _) Tryz.underlying118 rfl (by kernel_rfl)) rfl ?_
  exact ⟨rfl, b_alloc (Below.refl _ _) _⟩
@[go_sem] theorem idx4_0 (a b c d : Int) (w : World) : (Instr.index 118 (.agg #[.int .i64 a, .int .i64 b, .int .i64 c, .int .i64 d]) (.int .i64 0)).run Tryz.prog w = .ok (.int .i64 a) w := by kernel_rfl
@[go_sem] theorem idx4_1 (a b c d : Int) (w : World) : (Instr.index 118 (.agg #[.int .i64 a, .int .i64 b, .int .i64 c, .int .i64 d]) (.int .i64 1)).run Tryz.prog w = .ok (.int .i64 b) w := by kernel_rfl
@[go_sem] theorem idx4_2 (a b c d : Int) (w : World) : (Instr.index 118 (.agg #[.int .i64 a, .int .i64 b, .int .i64 c, .int .i64 d]) (.int .i64 2)).run Tryz.prog w = .ok (.int .i64 c) w := by kernel_rfl
@[go_sem] theorem idx4_3 (a b c d : Int) (w : World) : (Instr.index 118 (.agg #[.int .i64 a, .int .i64 b, .int .i64 c, .int .i64 d]) (.int .i64 3)).run Tryz.prog w = .ok (.int .i64 d) w := by kernel_rfl
@[go_sem] theorem or01 : bits BinOp.or IntKind.i64 0 1 = 1 := by kernel_rfl
@[go_sem] theorem or02 : bits BinOp.or IntKind.i64 0 2 = 2 := by kernel_rfl
@[go_sem] theorem or12 : bits BinOp.or IntKind.i64 1 2 = 3 := by kernel_rfl
theorem pq_at (p : Int) (s d : Bool) : PM.polAt p s d = pq p (PM.wayOf s d) := rfl
set_option maxRecDepth 100000 in
set_option maxHeartbeats 4000000 in
theorem Allowed_c (p : Int) (s d : Bool) (w : World) : Calls Tryz.prog 86 #[.int .i64 p, .bool s, .bool d] w fun e w' => e = .returned (.int .i64 (PM.polAt p s d)) ∧ Below w.heap.size w w' := by
  have hA := fun W => allowed_c p W
  unfold polA at hA
  have HA := Lib.hid hA
  clear hA
  rw [pq_at]
  cases s <;> cases d
  all_goals
    go_enter Tryz.func86, Tryz.ntmps86
    go_wp2_with fail
    refine (HA.out _).mono ?_
    rintro e V1 ⟨rfl, hb⟩
    have HB := Lib.hid hb
    clear hb
    go_wp2
    go_ret
    exact ⟨rfl, HB.out⟩
theorem most_pq (p : Int) : PM.polMost p = max (max (max (max 0 (pq p 0)) (pq p 1)) (pq p 2)) (pq p 3) := by
  unfold PM.polMost pq
  rcases PM.polL_cases p with ⟨_, h⟩ | ⟨_, h⟩ | ⟨_, h⟩ | ⟨_, h⟩ | ⟨_, h⟩ | ⟨_, h⟩ | ⟨_, h⟩ | ⟨_, h⟩ <;> rw [h] <;> rfl
theorem le_pq (p q : Int) : PM.polLe p q = (decide (pq p 0 ≤ pq q 0) && (decide (pq p 1 ≤ pq q 1) && (decide (pq p 2 ≤ pq q 2) && decide (pq p 3 ≤ pq q 3)))) := by
  unfold PM.polLe pq
  show (decide _ && (decide _ && (decide _ && (decide _ && true)))) = _
  rw [Bool.and_true]
def mx (a b c d : Int) (k : Nat) : Int := ([a, b, c, d].take k).foldl max 0
theorem mx0 (a b c d : Int) : Value.int IntKind.i64 (if mx a b c d 0 < a then a else mx a b c d 0) = Value.int IntKind.i64 (mx a b c d 1) := congrArg _ (by simp only [mx, List.take, List.foldl]; omega)
theorem mx1 (a b c d : Int) : Value.int IntKind.i64 (if mx a b c d 1 < b then b else mx a b c d 1) = Value.int IntKind.i64 (mx a b c d 2) := congrArg _ (by simp only [mx, List.take, List.foldl]; omega)
theorem mx2 (a b c d : Int) : Value.int IntKind.i64 (if mx a b c d 2 < c then c else mx a b c d 2) = Value.int IntKind.i64 (mx a b c d 3) := congrArg _ (by simp only [mx, List.take, List.foldl]; omega)
theorem mx3 (a b c d : Int) : Value.int IntKind.i64 (if mx a b c d 3 < d then d else mx a b c d 3) = Value.int IntKind.i64 (mx a b c d 4) := congrArg _ (by simp only [mx, List.take, List.foldl]; omega)
set_option maxRecDepth 100000 in
set_option maxHeartbeats 4000000 in
theorem Most_c (p : Int) (w : World) : Calls Tryz.prog 48 #[.int .i64 p] w fun e w' => e = .returned (.int .i64 (PM.polMost p)) ∧ Below w.heap.size w w' := by
  have hA := fun W => allowed_c p W
  have hm := most_pq p
  unfold polA at hA
  generalize pq p 0 = a at hA hm
  generalize pq p 1 = b at hA hm
  generalize pq p 2 = c at hA hm
  generalize pq p 3 = d at hA hm
  have HA := Lib.hid hA
  have HM : Hid (PM.polMost p = mx a b c d 4) := Lib.hid hm
  clear hA hm
  go_enter Tryz.func48, Tryz.ntmps48
  go_wp2_with fail
  refine (HA.out _).mono ?_
  rintro e V1 ⟨rfl, hb⟩
  have HB := Lib.hid hb
  clear hb
  go_wp2_with fail
  go_loopw [3, 8] (fun m i wr => wr = V1 ∧ ∃ k : Nat, i = .int .i64 k ∧ k ≤ 4 ∧ m = .int .i64 (mx a b c d k)) (fun _ i _ => 4 - (intOf i).toNat)
  case atStart => exact ⟨rfl, 0, rfl, by omega, rfl⟩
  case round =>
    obtain ⟨rfl, k, rfl, hk, rfl⟩ := hrel
    rcases (by omega : k = 0 ∨ k = 1 ∨ k = 2 ∨ k = 3 ∨ k = 4) with rfl | rfl | rfl | rfl | rfl
    · go_wp2
      exact ⟨⟨True.intro, 1, rfl, by omega, by first | exact mx0 a b c d | rfl⟩, by simp only [intOf]; omega⟩
    · go_wp2
      exact ⟨⟨True.intro, 2, rfl, by omega, by first | exact mx1 a b c d | rfl⟩, by simp only [intOf]; omega⟩
    · go_wp2
      exact ⟨⟨True.intro, 3, rfl, by omega, by first | exact mx2 a b c d | rfl⟩, by simp only [intOf]; omega⟩
    · go_wp2
      exact ⟨⟨True.intro, 4, rfl, by omega, by first | exact mx3 a b c d | rfl⟩, by simp only [intOf]; omega⟩
    · go_wp2
      go_ret
      exact ⟨by rw [HM.out]; rfl, HB.out⟩
set_option maxRecDepth 100000 in
set_option maxHeartbeats 4000000 in
theorem Stricter_c (p q : Int) (w : World) : Calls Tryz.prog 49 #[.int .i64 p, .int .i64 q] w fun e w' => e = .returned (.bool (PM.polLe p q)) ∧ Below w.heap.size w w' := by
  have hA := fun W => allowed_c p W
  have hB := fun W => allowed_c q W
  have hm := le_pq p q
  unfold polA at hA hB
  generalize pq p 0 = a0 at hA hm
  generalize pq p 1 = a1 at hA hm
  generalize pq p 2 = a2 at hA hm
  generalize pq p 3 = a3 at hA hm
  generalize pq q 0 = b0 at hB hm
  generalize pq q 1 = b1 at hB hm
  generalize pq q 2 = b2 at hB hm
  generalize pq q 3 = b3 at hB hm
  have HA := Lib.hid hA
  have HBq := Lib.hid hB
  have HM := Lib.hid hm
  clear hA hB hm
  go_enter Tryz.func49, Tryz.ntmps49
  go_wp2_with fail
  refine (HA.out _).mono ?_
  rintro e V1 ⟨rfl, hb⟩
  have HB := Lib.hid hb
  clear hb
  go_wp2_with fail
  refine (HBq.out _).mono ?_
  rintro e V2 ⟨rfl, hb⟩
  replace HB := Lib.hid (b_then HB.out hb)
  clear hb
  have h1 : ((V2.alloc (.cells #[.int .i64 a0, .int .i64 a1, .int .i64 a2, .int .i64 a3] 118)).alloc (.cells #[.int .i64 b0, .int .i64 b1, .int .i64 b2, .int .i64 b3] 118)).heap[V2.heap.size]? = some (.cells #[.int .i64 a0, .int .i64 a1, .int .i64 a2, .int .i64 a3] 118 (0, 0)) := (b_alloc (Below.refl _ _) _).block _ (by simp) |>.trans (Go.heap_alloc_new _ _)
  have h2 : ((V2.alloc (.cells #[.int .i64 a0, .int .i64 a1, .int .i64 a2, .int .i64 a3] 118)).alloc (.cells #[.int .i64 b0, .int .i64 b1, .int .i64 b2, .int .i64 b3] 118)).heap[V2.heap.size + 1]? = some (.cells #[.int .i64 b0, .int .i64 b1, .int .i64 b2, .int .i64 b3] 118 (0, 0)) := Go.heap_alloc2_new _ _ _
  replace HB := Lib.hid (b_alloc (b_alloc HB.out (.cells #[.int .i64 a0, .int .i64 a1, .int .i64 a2, .int .i64 a3] 118)) (.cells #[.int .i64 b0, .int .i64 b1, .int .i64 b2, .int .i64 b3] 118))
  go_wp2_with fail
  generalize (V2.alloc (.cells #[.int .i64 a0, .int .i64 a1, .int .i64 a2, .int .i64 a3] 118)).alloc (.cells #[.int .i64 b0, .int .i64 b1, .int .i64 b2, .int .i64 b3] 118) = V3 at h1 h2 HB ⊢
  go_loopw [12] (fun i wr => Hid (Below V3.heap.size V3 wr) ∧ ((i = .int .i64 0) ∨ (i = .int .i64 1 ∧ Hid (a0 ≤ b0)) ∨ (i = .int .i64 2 ∧ Hid (a0 ≤ b0 ∧ a1 ≤ b1)) ∨ (i = .int .i64 3 ∧ Hid (a0 ≤ b0 ∧ a1 ≤ b1 ∧ a2 ≤ b2)) ∨ (i = .int .i64 4 ∧ Hid (a0 ≤ b0 ∧ a1 ≤ b1 ∧ a2 ≤ b2 ∧ a3 ≤ b3)))) (fun i _ => 4 - (intOf i).toNat)
  case atStart => exact ⟨Lib.hid (Below.refl _ _), .inl rfl⟩
  case round =>
    obtain ⟨HR, hrel⟩ := hrel
    replace h1 := po_obj HR.out h1
    replace h2 := po_obj HR.out h2
    have x0 : wr.cell? ⟨V2.heap.size, 0, none⟩ = some (.int .i64 a0) := by rw [Lib.cell_of_heap h1]; rfl
    have y0 : wr.cell? ⟨V2.heap.size + 1, 0, none⟩ = some (.int .i64 b0) := by rw [Lib.cell_of_heap h2]; rfl
    have x1 : wr.cell? ⟨V2.heap.size, 1, none⟩ = some (.int .i64 a1) := by rw [Lib.cell_of_heap h1]; rfl
    have y1 : wr.cell? ⟨V2.heap.size + 1, 1, none⟩ = some (.int .i64 b1) := by rw [Lib.cell_of_heap h2]; rfl
    have x2 : wr.cell? ⟨V2.heap.size, 2, none⟩ = some (.int .i64 a2) := by rw [Lib.cell_of_heap h1]; rfl
    have y2 : wr.cell? ⟨V2.heap.size + 1, 2, none⟩ = some (.int .i64 b2) := by rw [Lib.cell_of_heap h2]; rfl
    have x3 : wr.cell? ⟨V2.heap.size, 3, none⟩ = some (.int .i64 a3) := by rw [Lib.cell_of_heap h1]; rfl
    have y3 : wr.cell? ⟨V2.heap.size + 1, 3, none⟩ = some (.int .i64 b3) := by rw [Lib.cell_of_heap h2]; rfl
    clear h1 h2
    rcases hrel with rfl | ⟨rfl, HL⟩ | ⟨rfl, HL⟩ | ⟨rfl, HL⟩ | ⟨rfl, HL⟩
    · by_cases hc : b0 < a0
      · go_wp2_with fail
        go_quiet (fail)
        go_wp2
        go_ret
        exact ⟨by rw [HM.out, show decide (a0 ≤ b0) = false from decide_eq_false (by omega)]; simp, b_then HB.out (b_then HR.out (b_drewN (Below.refl _ _) _))⟩
      · have HC := Lib.hid hc
        go_wp2_with fail
        go_quiet (fail)
        go_wp2
        exact ⟨⟨Lib.hid (b_then HR.out (b_drewN (Below.refl _ _) _)), .inr (.inl ⟨rfl, Lib.hid (by have := HC.out; omega)⟩)⟩, by simp only [intOf]; omega⟩
    · by_cases hc : b1 < a1
      · go_wp2_with fail
        go_quiet (fail)
        go_wp2
        go_ret
        exact ⟨by rw [HM.out, show decide (a1 ≤ b1) = false from decide_eq_false (by omega)]; simp, b_then HB.out (b_then HR.out (b_drewN (Below.refl _ _) _))⟩
      · have HC := Lib.hid hc
        go_wp2_with fail
        go_quiet (fail)
        go_wp2
        exact ⟨⟨Lib.hid (b_then HR.out (b_drewN (Below.refl _ _) _)), .inr (.inr (.inl ⟨rfl, Lib.hid (by have := HL.out; have := HC.out; omega)⟩))⟩, by simp only [intOf]; omega⟩
    · by_cases hc : b2 < a2
      · go_wp2_with fail
        go_quiet (fail)
        go_wp2
        go_ret
        exact ⟨by rw [HM.out, show decide (a2 ≤ b2) = false from decide_eq_false (by omega)]; simp, b_then HB.out (b_then HR.out (b_drewN (Below.refl _ _) _))⟩
      · have HC := Lib.hid hc
        go_wp2_with fail
        go_quiet (fail)
        go_wp2
        exact ⟨⟨Lib.hid (b_then HR.out (b_drewN (Below.refl _ _) _)), .inr (.inr (.inr (.inl ⟨rfl, Lib.hid (by have := HL.out; have := HC.out; omega)⟩)))⟩, by simp only [intOf]; omega⟩
    · by_cases hc : b3 < a3
      · go_wp2_with fail
        go_quiet (fail)
        go_wp2
        go_ret
        exact ⟨by rw [HM.out, show decide (a3 ≤ b3) = false from decide_eq_false (by omega)]; simp, b_then HB.out (b_then HR.out (b_drewN (Below.refl _ _) _))⟩
      · have HC := Lib.hid hc
        go_wp2_with fail
        go_quiet (fail)
        go_wp2
        exact ⟨⟨Lib.hid (b_then HR.out (b_drewN (Below.refl _ _) _)), .inr (.inr (.inr (.inr ⟨rfl, Lib.hid (by have := HL.out; have := HC.out; omega)⟩)))⟩, by simp only [intOf]; omega⟩
    · go_wp2
      go_ret
      have := HL.out
      exact ⟨by rw [HM.out, decide_eq_true (show a0 ≤ b0 by omega), decide_eq_true (show a1 ≤ b1 by omega), decide_eq_true (show a2 ≤ b2 by omega), decide_eq_true (show a3 ≤ b3 by omega)]; rfl, b_then HB.out HR.out⟩
end Go.Proofs.YtphigjogeejdjaaGreatDoor
/-! Contracts: package refer. -/
namespace Go.Proofs.YtphigjogeejdjaaGreatDoor
open Go.RowKit
def pairC (a b : UV) : Array Value := #[.string (mkS a.sc), .string (mkS a.us), .string (mkS a.pa), .int .i64 a.k, .string (mkS a.n), .int .i64 a.m, .int .i64 a.s0, .int .i64 a.s1, .int .i64 a.s2, .int .i64 a.s3, .int .i64 a.s4, .int .i64 a.s5, .int .i64 a.s6, .int .i64 a.s7, .int .i64 a.port, .slice a.a a.pn a.pc, .string (mkS a.op), .string (mkS a.qu), .string (mkS a.fr), .bool a.hq, .bool a.hf, .string (mkS b.sc), .string (mkS b.us), .string (mkS b.pa), .int .i64 b.k, .string (mkS b.n), .int .i64 b.m, .int .i64 b.s0, .int .i64 b.s1, .int .i64 b.s2, .int .i64 b.s3, .int .i64 b.s4, .int .i64 b.s5, .int .i64 b.s6, .int .i64 b.s7, .int .i64 b.port, .slice b.a b.pn b.pc, .string (mkS b.op), .string (mkS b.qu), .string (mkS b.fr), .bool b.hq, .bool b.hf]
theorem bd_pair (a b : UV) (w : World) : (Instr.build 113 #[(0, .agg a.cells), (1, .agg b.cells)]).run Tryz.prog w = .ok (.agg (pairC a b)) w := run_build w 113 _ _ (by kernel_rfl)
@[go_sem] theorem bd_facts (a b : Bool) (w : World) : (Instr.build 110 #[(0, .bool a), (1, .bool b)]).run Tryz.prog w = .ok (.agg #[.bool a, .bool b]) w := run_build w 110 _ _ (by kernel_rfl)
@[go_sem] theorem bd_uz (w : World) : (Instr.build 27 #[]).run Tryz.prog w = .ok (.agg uz.cells) w := run_build w 27 _ _ (by kernel_rfl)
theorem pair_list (a b : UV) : (pairC a b).toList = a.cells.toList ++ b.cells.toList := rfl
theorem p_from {W : World} {g : Nat} {a b : UV} (h : W.heap[g]? = some (.cells (pairC a b) 113 (0, 0))) : W.rangeAt g 0 a.cells.toList := by
  intro j v hj
  rw [Lib.cell_of_heap h, Nat.zero_add, ← Array.getElem?_toList, pair_list, List.getElem?_append_left (List.getElem?_eq_some_iff.1 hj).1]
  exact hj
theorem p_to {W : World} {g : Nat} {a b : UV} (h : W.heap[g]? = some (.cells (pairC a b) 113 (0, 0))) : W.rangeAt g 21 b.cells.toList := by
  intro j v hj
  have hl : a.cells.toList.length = 21 := rfl
  rw [Lib.cell_of_heap h, ← Array.getElem?_toList, pair_list, List.getElem?_append_right (by rw [hl]; omega), hl, Nat.add_sub_cancel_left]
  exact hj
theorem Ok_setRow {v : UV} {W : World} {B g : Nat} (h : v.Ok W) (hf : From B v.a v.xs) (hg : g < B) (cs : Array Value) : v.Ok (W.setRow g cs) :=
  ⟨h.sc, h.us, h.pa, h.n, h.op, h.qu, h.fr, h.xn, h.xl, h.rd.frame (by simp [World.setRow]) fun g' o e hx => by
    have := hf g' o e hx
    simp [World.setRow, Array.getElem?_modify, show g ≠ g' by omega]⟩
theorem wpList_pair {ops : Array Oper} {rest : List Oper} {o : Oper} {t : Act} {w : World} {Q : Exit → Act → World → Prop} (hgd : o.guard = none) (x y : Operand) (ho : o.op = .build 113 #[(0, x), (1, y)]) (a b : UV) (hx : t.eval x = .agg a.cells) (hy : t.eval y = .agg b.cells)
    (h : wpList Tryz.prog ops Q rest (t.put o.dst (.agg (pairC a b))) w) : wpList Tryz.prog ops Q (o :: rest) t w :=
  wpList_plain hgd fun _ hK => by
    have hb := bd_pair a b w
    unfold Oper.wp execOp
    simp only [ho, List.map_toArray, List.map_cons, List.map_nil, hx, hy, Sem.run_bind, Sem.run_pure, hb, Result.andThen_ok]
    exact hK _ _ h
/-- Where Referer stands. -/
structure RAt (gb gv : Nat) (b v : UV) (w W : World) : Prop where
  hb : W.heap[gb]? = some (.cells b.cells 27 (0, 0))
  hv : W.heap[gv]? = some (.cells v.cells 27 (0, 0))
  be : Below w.heap.size w W
  bo : b.Ok W
  vo : v.Ok W
theorem RAt.below {gb gv : Nat} {b v : UV} {w W W' : World} (h : RAt gb gv b v w W) (hb : Below W.heap.size W W') : RAt gb gv b v w W' := ⟨heap_b hb h.hb, heap_b hb h.hv, b_then h.be hb, h.bo.below hb, h.vo.below hb⟩
set_option maxRecDepth 100000 in
set_option maxHeartbeats 4000000 in
theorem down_c (a b : UV) (w : World) (ha : a.Ok w) (hb0 : b.Ok w) (hg : Gl w) : Calls Tryz.prog 129 #[.agg (pairC a b)] w fun e w' => e = .returned (.bool (PM.goesDown a.pm b.pm)) ∧ Below w.heap.size w w' := by
  have HG := Lib.hid hg
  have OA := Lib.hid ha
  have OB := Lib.hid hb0
  clear hg ha hb0
  have HB : Hid (Below w.heap.size w (w.alloc (.cells (pairC a b) 113))) := Lib.hid (b_alloc (Below.refl _ _) _)
  have Hx : Hid ((w.alloc (.cells (pairC a b) 113)).heap[w.heap.size]? = some (.cells (pairC a b) 113 (0, 0))) := Lib.hid ((by have h := Go.heap_alloc_new w (.cells (pairC a b) 113); simpa using h))
  go_enter Tryz.func129, Tryz.ntmps129
  go_upto_region 1 with fail
  generalize w.alloc (.cells (pairC a b) 113) = V0 at HB Hx ⊢
  obtain ⟨t, ht⟩ : ∃ t, PM.trust a.pm = t := ⟨_, rfl⟩
  have HT := Lib.hid ht
  clear ht
  obtain ⟨s, hs⟩ : ∃ s, PM.trust b.pm = s := ⟨_, rfl⟩
  have HS := Lib.hid hs
  clear hs
  go_wp2_with (first | go_skip | (refine wpList_load_mg 27 _ rfl (by kernel_rfl) w.heap.size 0 rfl a.cells (p_from Hx.out) Tryz.underlying27 rfl (by kernel_rfl) ?_) | (refine wpList_load_mg 27 _ rfl (by kernel_rfl) w.heap.size 21 rfl b.cells (p_to Hx.out) Tryz.underlying27 rfl (by kernel_rfl) ?_))
  refine (Trust_c a _ (OA.out.below HB.out) (HG.out.below HB.out)).mono ?_
  rw [HT.out]
  rintro e V1 ⟨rfl, hb⟩
  replace HB := Lib.hid (b_then HB.out hb)
  replace Hx := Lib.hid (obj_b hb Hx.out)
  clear hb
  cases t
  · go_wp2
    go_ret
    exact ⟨by show Ending.returned (Value.bool _) = _; unfold PM.goesDown; rw [HT.out]; rfl, HB.out⟩
  go_wp2_with (first | go_skip | (refine wpList_load_mg 27 _ rfl (by kernel_rfl) w.heap.size 0 rfl a.cells (p_from Hx.out) Tryz.underlying27 rfl (by kernel_rfl) ?_) | (refine wpList_load_mg 27 _ rfl (by kernel_rfl) w.heap.size 21 rfl b.cells (p_to Hx.out) Tryz.underlying27 rfl (by kernel_rfl) ?_))
  refine (Trust_c b _ (OB.out.below HB.out) (HG.out.below HB.out)).mono ?_
  rw [HS.out]
  rintro e V2 ⟨rfl, hb⟩
  replace HB := Lib.hid (b_then HB.out hb)
  replace Hx := Lib.hid (obj_b hb Hx.out)
  clear hb
  cases s
  · go_wp2
    go_ret
    exact ⟨by show Ending.returned (Value.bool _) = _; unfold PM.goesDown; rw [HT.out, HS.out]; rfl, HB.out⟩
  · go_wp2
    go_ret
    exact ⟨by show Ending.returned (Value.bool _) = _; unfold PM.goesDown; rw [HT.out, HS.out]; rfl, HB.out⟩
set_option maxRecDepth 100000 in
set_option maxHeartbeats 4000000 in
theorem same_c (a b : UV) (w : World) (ha : a.Ok w) (hb0 : b.Ok w) (hg : Gl w) : Calls Tryz.prog 128 #[.agg (pairC a b)] w fun e w' => e = .returned (.bool (PM.both a.pm b.pm)) ∧ Below w.heap.size w w' := by
  have HG := Lib.hid hg
  have OA := Lib.hid ha
  have OB := Lib.hid hb0
  clear hg ha hb0
  have HB : Hid (Below w.heap.size w (w.alloc (.cells (pairC a b) 113))) := Lib.hid (b_alloc (Below.refl _ _) _)
  have Hx : Hid ((w.alloc (.cells (pairC a b) 113)).heap[w.heap.size]? = some (.cells (pairC a b) 113 (0, 0))) := Lib.hid ((by have h := Go.heap_alloc_new w (.cells (pairC a b) 113); simpa using h))
  go_enter Tryz.func128, Tryz.ntmps128
  go_upto_region 1 with fail
  generalize w.alloc (.cells (pairC a b) 113) = V0 at HB Hx ⊢
  go_wp2_with (first | go_skip | (refine wpList_load_mg 27 _ rfl (by kernel_rfl) w.heap.size 0 rfl a.cells (p_from Hx.out) Tryz.underlying27 rfl (by kernel_rfl) ?_) | (refine wpList_load_mg 27 _ rfl (by kernel_rfl) w.heap.size 21 rfl b.cells (p_to Hx.out) Tryz.underlying27 rfl (by kernel_rfl) ?_))
  refine (Both_c a b _ (OA.out.below HB.out) (OB.out.below HB.out) (HG.out.below HB.out)).mono ?_
  rintro e V1 ⟨rfl, hb⟩
  replace HB := Lib.hid (b_then HB.out hb)
  replace Hx := Lib.hid (obj_b hb Hx.out)
  clear hb
  go_wp2
  go_ret
  exact ⟨rfl, HB.out⟩
set_option maxRecDepth 100000 in
set_option maxHeartbeats 4000000 in
theorem ask_c (a b : UV) (w : World) (ha : a.Ok w) (hb0 : b.Ok w) (hg : Gl w) : Calls Tryz.prog 85 #[.agg (pairC a b)] w fun e w' => e = .returned (.agg #[.bool (PM.both a.pm b.pm), .bool (PM.goesDown a.pm b.pm)]) ∧ Below w.heap.size w w' := by
  have HG := Lib.hid hg
  have OA := Lib.hid ha
  have OB := Lib.hid hb0
  clear hg ha hb0
  have H0 : Hid (BoxAt2 (pairC a b) #[.bool false, .bool false] 113 110 w ((w.alloc (.cells (pairC a b) 113)).alloc (.cells #[.bool false, .bool false] 110))) := Lib.hid (BoxAt2.new _ _ _ _ _)
  go_enter Tryz.func85, Tryz.ntmps85
  go_upto_region 1 with fail
  generalize (w.alloc (.cells (pairC a b) 113)).alloc (.cells #[.bool false, .bool false] 110) = V0 at H0 ⊢
  obtain ⟨S, hs⟩ : ∃ S, PM.both a.pm b.pm = S := ⟨_, rfl⟩
  have HS := Lib.hid hs
  clear hs
  obtain ⟨D, hd⟩ : ∃ D, PM.goesDown a.pm b.pm = D := ⟨_, rfl⟩
  have HD := Lib.hid hd
  clear hd
  have H2 := Lib.hid (H0.out.below (b_drew (Below.refl _ _))).two
  go_wp2_with fail
  refine wp_region_noPanic ?_
  refine wp_region_held_drew (S := fun W' => BoxAt w.heap.size (pairC a b) 113 w W') (by kernel_rfl) ⟨(H0.out.below (b_drew (Below.refl _ _))).one, (H0.out.below (b_drew (Below.refl _ _))).be⟩ (fun hS0 => ?_)
  refine wpAnyH_take (i := 0) (v := ?_) rfl (by kernel_rfl) (by kernel_rfl) (by kernel_rfl) (fun _ _ _ h => h) (Or.inl ⟨by kernel_rfl, fun W hW => ?_⟩) (by assumption) ?_
  rotate_left
  · go_simp
    try with_reducible rfl
  (try simp only [List.getElem_toArray, List.getElem_cons_zero, List.getElem_cons_succ, Act.put, List.setIfInBounds_toArray, List.set_cons_zero, List.set_cons_succ])
  refine wpAnyH_take (i := 1) (v := ?_) rfl (by kernel_rfl) (by kernel_rfl) (by kernel_rfl) (fun _ _ _ h => h) (Or.inl ⟨by kernel_rfl, fun W hW => ?_⟩) (by assumption) ?_
  rotate_left
  · refine yield_row 113 (.tmp 1) ?_ w.heap.size ?_ hW.one Tryz.underlying113 rfl (by kernel_rfl)
    · rfl
    · rfl
  (try simp only [List.getElem_toArray, List.getElem_cons_zero, List.getElem_cons_succ, Act.put, List.setIfInBounds_toArray, List.set_cons_zero, List.set_cons_succ])
  refine wpAnyH_take (i := 3) (v := ?_) rfl (by kernel_rfl) (by kernel_rfl) (by kernel_rfl) (fun _ _ _ h => h) (Or.inl ⟨by kernel_rfl, fun W hW => ?_⟩) (by assumption) ?_
  rotate_left
  · go_simp
    try with_reducible rfl
  (try simp only [List.getElem_toArray, List.getElem_cons_zero, List.getElem_cons_succ, Act.put, List.setIfInBounds_toArray, List.set_cons_zero, List.set_cons_succ])
  refine wpAnyH_take (i := 4) (v := ?_) rfl (by kernel_rfl) (by kernel_rfl) (by kernel_rfl) (fun _ _ _ h => h) (Or.inl ⟨by kernel_rfl, fun W hW => ?_⟩) (by assumption) ?_
  rotate_left
  · refine yield_row 113 (.tmp 1) ?_ w.heap.size ?_ hW.one Tryz.underlying113 rfl (by kernel_rfl)
    · rfl
    · rfl
  (try simp only [List.getElem_toArray, List.getElem_cons_zero, List.getElem_cons_succ, Act.put, List.setIfInBounds_toArray, List.set_cons_zero, List.set_cons_succ])
  refine wpAnyH_ready (rs := [2]) (by kernel_rfl) (by simp) ?_
  refine AllReadyH.cons rfl (fun K hK => ?_) AllReadyH.nil
  go_simp
  refine (same_c a b _ (OA.out.below hS0.be) (OB.out.below hS0.be) (HG.out.below hS0.be)).mono ?_
  rw [HS.out]
  rintro e U1 ⟨rfl, hb⟩
  have hSn := hS0.below hb
  replace H2 := Lib.hid (obj_b hb H2.out)
  clear hb hS0
  refine hK.out _ _ hSn (fun _ => ?_)
  clear hK K
  (try simp only [List.getElem_toArray, List.getElem_cons_zero, List.getElem_cons_succ, Act.put, List.setIfInBounds_toArray, List.set_cons_zero, List.set_cons_succ])
  refine wpAnyH_ready (rs := [5]) (by kernel_rfl) (by simp) ?_
  refine AllReadyH.cons rfl (fun K hK => ?_) AllReadyH.nil
  go_simp
  refine (down_c a b _ (OA.out.below hSn.be) (OB.out.below hSn.be) (HG.out.below hSn.be)).mono ?_
  rw [HD.out]
  rintro e U2 ⟨rfl, hb⟩
  replace hSn := hSn.below hb
  replace H2 := Lib.hid (obj_b hb H2.out)
  clear hb
  refine hK.out _ _ hSn (fun _ => ?_)
  clear hK K
  (try simp only [List.getElem_toArray, List.getElem_cons_zero, List.getElem_cons_succ, Act.put, List.setIfInBounds_toArray, List.set_cons_zero, List.set_cons_succ])
  refine wpAnyH_take (i := 6) (v := ?_) rfl (by kernel_rfl) (by kernel_rfl) (by kernel_rfl) (fun _ _ _ h => h) (Or.inl ⟨by kernel_rfl, fun W hW => ?_⟩) (by assumption) ?_
  rotate_left
  · go_simp
    try with_reducible rfl
  (try simp only [List.getElem_toArray, List.getElem_cons_zero, List.getElem_cons_succ, Act.put, List.setIfInBounds_toArray, List.set_cons_zero, List.set_cons_succ])
  refine wpAnyH_ready (rs := [7]) (by kernel_rfl) (by simp) ?_
  refine AllReadyH.cons rfl (fun K hK => ?_) AllReadyH.nil
  try rw [if_pos (by rfl)]
  refine wp_store_row 110 _ _ rfl (w.heap.size + 1) #[.bool S, .bool D] rfl rfl 110 _ H2.out (by kernel_rfl) rfl (by simp [Value.oneCell']) ?_
  have hS5 : BoxAt w.heap.size (pairC a b) 113 w (U2.setRow (w.heap.size + 1) #[.bool S, .bool D]) := ⟨(heap_setRow_other (by omega) _).trans hSn.one, below_setRow hSn.be (by omega) _⟩
  refine hK.out _ _ hS5 (fun _ => ?_)
  clear hK K
  (try simp only [List.getElem_toArray, List.getElem_cons_zero, List.getElem_cons_succ, Act.put, List.setIfInBounds_toArray, List.set_cons_zero, List.set_cons_succ])
  refine wpAnyH_done (by kernel_rfl) ?_ _
  refine NoPanic.normal ?_
  go_wp2
  refine bodyPost_ret (results_cell_row (fr := (0, 0)) rfl _ _ (w.heap.size + 1) 110 #[.bool S, .bool D] _ rfl (heap_setRow H2.out _) Tryz.underlying110 rfl (by kernel_rfl)) rfl ?_
  exact ⟨by rw [HS.out, HD.out], hS5.be⟩
theorem eq_facts (d : Nat) (a b : Bool) (w : World) : (Op.equalIn 10000 110 (.agg #[.bool a, .bool b]) (.agg #[.bool a, .bool true])).run Tryz.prog w = .ok b w := by cases a <;> cases b <;> kernel_rfl
set_option maxRecDepth 100000 in
set_option maxHeartbeats 4000000 in
theorem Level_r_c (p : Int) (a b : UV) (w : World) (ha : a.Ok w) (hb0 : b.Ok w) (hg : Gl w) : Calls Tryz.prog 43 #[.int .i64 p, .agg a.cells, .agg b.cells] w fun e w' => e = .returned (.int .i64 (PM.level p a.pm b.pm)) ∧ Below w.heap.size w w' := by
  have HG := Lib.hid hg
  have OA := Lib.hid ha
  have OB := Lib.hid hb0
  clear hg ha hb0
  have HB : Hid (Below w.heap.size w ((w.alloc (.cells a.cells 27)).alloc (.cells b.cells 27))) := Lib.hid (b_alloc (b_alloc (Below.refl _ _) _) _)
  have Ha : Hid (((w.alloc (.cells a.cells 27)).alloc (.cells b.cells 27)).heap[w.heap.size]? = some (.cells a.cells 27 (0, 0))) := Lib.hid (heap_b (b_alloc (Below.refl _ _) _) (by have h := Go.heap_alloc_new w (.cells a.cells 27); simpa using h))
  have Hb : Hid (((w.alloc (.cells a.cells 27)).alloc (.cells b.cells 27)).heap[w.heap.size + 1]? = some (.cells b.cells 27 (0, 0))) := Lib.hid ((by have h := Go.heap_alloc_new (w.alloc (.cells a.cells 27)) (.cells b.cells 27); simpa using h))
  go_enter Tryz.func43, Tryz.ntmps43
  go_upto_region 1 with fail
  generalize (w.alloc (.cells a.cells 27)).alloc (.cells b.cells 27) = V0 at HB Ha Hb ⊢
  generalize hbb : w.heap.size + 1 = bb at Hb ⊢
  have hlw_bb : w.heap.size ≤ bb := by omega
  have hne_b_a : w.heap.size < bb := by omega
  clear hbb
  obtain ⟨S, hs⟩ : ∃ S, PM.both a.pm b.pm = S := ⟨_, rfl⟩
  have HS := Lib.hid hs
  clear hs
  obtain ⟨D, hd⟩ : ∃ D, PM.goesDown a.pm b.pm = D := ⟨_, rfl⟩
  have HD := Lib.hid hd
  clear hd
  go_wp2_with (first | go_skip | (refine wpList_load_g 27 _ rfl (by kernel_rfl) w.heap.size rfl Ha.out Tryz.underlying27 rfl (by kernel_rfl) ?_) | (refine wpList_load_g 27 _ rfl (by kernel_rfl) bb rfl Hb.out Tryz.underlying27 rfl (by kernel_rfl) ?_) | (refine wpList_pair rfl _ _ rfl a b rfl rfl ?_))
  refine (ask_c a b _ (OA.out.below HB.out) (OB.out.below HB.out) (HG.out.below HB.out)).mono ?_
  rw [HS.out, HD.out]
  rintro e V1 ⟨rfl, hb⟩
  replace HB := Lib.hid (b_then HB.out hb)
  replace Hb := Lib.hid (obj_b hb Hb.out)
  replace Ha := Lib.hid (obj_b hb Ha.out)
  clear hb
  have hb : Below V1.heap.size V1 (V1.alloc (.cells #[.bool S, .bool D] 110)) := b_alloc (Below.refl _ _) _
  replace HB := Lib.hid (b_then HB.out hb)
  clear hb
  go_wp2_with fail
  refine (Allowed_c p S D _).mono ?_
  rintro e V2 ⟨rfl, hb⟩
  replace HB := Lib.hid (b_then HB.out hb)
  clear hb
  go_wp2
  go_ret
  exact ⟨by rw [← HS.out, ← HD.out]; rfl, HB.out⟩
set_option maxRecDepth 100000 in
set_option maxHeartbeats 4000000 in
theorem Down_r_c (a b : UV) (w : World) (ha : a.Ok w) (hb0 : b.Ok w) (hg : Gl w) : Calls Tryz.prog 44 #[.agg a.cells, .agg b.cells] w fun e w' => e = .returned (.bool (PM.goesDown a.pm b.pm)) ∧ Below w.heap.size w w' := by
  have HG := Lib.hid hg
  have OA := Lib.hid ha
  have OB := Lib.hid hb0
  clear hg ha hb0
  have HB : Hid (Below w.heap.size w ((w.alloc (.cells a.cells 27)).alloc (.cells b.cells 27))) := Lib.hid (b_alloc (b_alloc (Below.refl _ _) _) _)
  have Ha : Hid (((w.alloc (.cells a.cells 27)).alloc (.cells b.cells 27)).heap[w.heap.size]? = some (.cells a.cells 27 (0, 0))) := Lib.hid (heap_b (b_alloc (Below.refl _ _) _) (by have h := Go.heap_alloc_new w (.cells a.cells 27); simpa using h))
  have Hb : Hid (((w.alloc (.cells a.cells 27)).alloc (.cells b.cells 27)).heap[w.heap.size + 1]? = some (.cells b.cells 27 (0, 0))) := Lib.hid ((by have h := Go.heap_alloc_new (w.alloc (.cells a.cells 27)) (.cells b.cells 27); simpa using h))
  go_enter Tryz.func44, Tryz.ntmps44
  go_upto_region 1 with fail
  generalize (w.alloc (.cells a.cells 27)).alloc (.cells b.cells 27) = V0 at HB Ha Hb ⊢
  generalize hbb : w.heap.size + 1 = bb at Hb ⊢
  have hlw_bb : w.heap.size ≤ bb := by omega
  have hne_b_a : w.heap.size < bb := by omega
  clear hbb
  obtain ⟨S, hs⟩ : ∃ S, PM.both a.pm b.pm = S := ⟨_, rfl⟩
  have HS := Lib.hid hs
  clear hs
  obtain ⟨D, hd⟩ : ∃ D, PM.goesDown a.pm b.pm = D := ⟨_, rfl⟩
  have HD := Lib.hid hd
  clear hd
  go_wp2_with (first | go_skip | (refine wpList_load_g 27 _ rfl (by kernel_rfl) w.heap.size rfl Ha.out Tryz.underlying27 rfl (by kernel_rfl) ?_) | (refine wpList_load_g 27 _ rfl (by kernel_rfl) bb rfl Hb.out Tryz.underlying27 rfl (by kernel_rfl) ?_) | (refine wpList_pair rfl _ _ rfl a b rfl rfl ?_))
  refine (ask_c a b _ (OA.out.below HB.out) (OB.out.below HB.out) (HG.out.below HB.out)).mono ?_
  rw [HS.out, HD.out]
  rintro e V1 ⟨rfl, hb⟩
  replace HB := Lib.hid (b_then HB.out hb)
  replace Hb := Lib.hid (obj_b hb Hb.out)
  replace Ha := Lib.hid (obj_b hb Ha.out)
  clear hb
  have hb : Below V1.heap.size V1 (V1.alloc (.cells #[.bool S, .bool D] 110)) := b_alloc (Below.refl _ _) _
  replace HB := Lib.hid (b_then HB.out hb)
  clear hb
  have he := fun W => eq_facts 0 S D W
  go_wp2
  go_ret
  exact ⟨by rw [← HD.out]; rfl, HB.out⟩
set_option maxRecDepth 100000 in
set_option maxHeartbeats 8000000 in
theorem From_c (s : List UInt8) (hs : s.length ≤ 30000) (w : World) (hg : Gl w) (hT : Lib.Utf8Tabs 1 2 w) : Calls Tryz.prog 39 #[.string (mkS s)] w fun e w' => ParseRF (PM.fromOf s) w.heap.size e w' ∧ Below w.heap.size w w' := by
  have HG := Lib.hid hg
  have HTB := Lib.hid hT
  have HU : Hid (∀ W, Gl W → Lib.Utf8Tabs 1 2 W → Calls Tryz.prog 30 #[.string (mkS s)] W fun e w' => ParseRF (PM.urlParse s) W.heap.size e w' ∧ Below W.heap.size W w') := Lib.hid fun W => UrlParseF_c s hs W
  clear hg hT hs
  have HB : Hid (Below w.heap.size w (w.alloc (.cells zurl 27))) := Lib.hid (b_alloc (Below.refl _ _) _)
  have Hz : Hid ((w.alloc (.cells zurl 27)).heap[w.heap.size]? = some (.cells zurl 27 (0, 0))) := Lib.hid (Go.heap_alloc_new _ _)
  unfold zurl at HB Hz
  go_enter Tryz.func39, Tryz.ntmps39
  go_upto_region 1 with fail
  generalize w.alloc (.cells #[.string ⟨#[]⟩, .string ⟨#[]⟩, .string ⟨#[]⟩, .int .i64 0, .string ⟨#[]⟩, .int .i64 0, .int .i64 0, .int .i64 0, .int .i64 0, .int .i64 0, .int .i64 0, .int .i64 0, .int .i64 0, .int .i64 0, .int .i64 0, .slice none 0 0, .string ⟨#[]⟩, .string ⟨#[]⟩, .string ⟨#[]⟩, .bool false, .bool false] 27) = V0 at HB Hz ⊢
  have hf : PM.fromOf s = (match PM.urlParse s with | some u => if PM.web u.scheme = 0 then none else some u | none => none) := rfl
  obtain ⟨o, ho⟩ : ∃ o, PM.urlParse s = o := ⟨_, rfl⟩
  rw [ho] at hf HU
  have HF := Lib.hid hf
  clear hf ho
  have HLT : Hid (w.heap.size < V0.heap.size) := Lib.hid (h_lt Hz.out)
  cases o with
  | none =>
    go_wp2_with fail
    refine (HU.out _ (HG.out.below HB.out) (tabs_below HTB.out HB.out)).mono ?_
    unfold ParseRF
    rintro e V1 ⟨⟨v, rfl, hvp, -, hvo⟩, hb⟩
    replace HB := Lib.hid (b_then HB.out hb)
    replace Hz := Lib.hid (obj_b hb Hz.out)
    clear hb
    clear hvp hvo
    have HN := Lib.hid (Go.heap_alloc_new V1 (.cells zurl 27))
    unfold zurl at HN 
    go_upto_region 2 with (first | (refine wpList_store_row rfl 27 _ _ rfl V1.heap.size v.cells rfl rfl 27 _ HN.out (by kernel_rfl) rfl (agg_one v) ?_))
    obtain ⟨V2, hV⟩ : ∃ V2, V2 = (V1.alloc (.cells #[.string ⟨#[]⟩, .string ⟨#[]⟩, .string ⟨#[]⟩, .int .i64 0, .string ⟨#[]⟩, .int .i64 0, .int .i64 0, .int .i64 0, .int .i64 0, .int .i64 0, .int .i64 0, .int .i64 0, .int .i64 0, .int .i64 0, .int .i64 0, .slice none 0 0, .string ⟨#[]⟩, .string ⟨#[]⟩, .string ⟨#[]⟩, .bool false, .bool false] 27)).setRow V1.heap.size v.cells := ⟨_, rfl⟩
    have hN : V2.heap[V1.heap.size]? = some (.cells v.cells 27 (0, 0)) := by rw [hV]; exact heap_setRow HN.out _
    have hb : Below V1.heap.size V1 V2 := by rw [hV]; exact below_setRow (b_alloc (Below.refl _ _) _) (Nat.le_refl _) _
    rw [← hV]
    clear hV HN 
    have Hv := Lib.hid hN
    clear hN
    have hlt_bv_Hz : w.heap.size < V1.heap.size := h_lt Hz.out
    have hlw_bv : w.heap.size ≤ V1.heap.size := HB.out.size
    replace HB := Lib.hid (b_then HB.out hb)
    replace Hz := Lib.hid (obj_b hb Hz.out)
    clear hb
    generalize V1.heap.size = bv at Hv hlt_bv_Hz hlw_bv ⊢
    (try simp only [Act.put])
    go_wp2_with (first | go_skip | (refine wpList_store_row rfl 27 _ _ rfl w.heap.size uz.cells rfl rfl 27 _ Hz.out (by kernel_rfl) rfl (agg_one uz) ?_))
    refine bodyPost_ret (results_cell_tmp (fr := (0, 0)) rfl _ _ w.heap.size 27 uz.cells _ rfl (heap_setRow Hz.out _) Tryz.underlying27 rfl (by kernel_rfl)) rfl ?_
    exact ⟨by rw [HF.out]; exact ⟨uz, rfl, rfl, (fun g o e _ => by cases e), fun _ => ⟨by decide, by decide, by decide, by decide, by decide, by decide, by decide, by decide, by simp [uz], zrd _⟩⟩, below_setRow HB.out (Nat.le_refl _) _⟩
  | some u =>
    go_wp2_with fail
    refine (HU.out _ (HG.out.below HB.out) (tabs_below HTB.out HB.out)).mono ?_
    unfold ParseRF
    rintro e V1 ⟨⟨v, rfl, hvp, hvf, hvo⟩, hb⟩
    replace HB := Lib.hid (b_then HB.out hb)
    replace Hz := Lib.hid (obj_b hb Hz.out)
    clear hb
    have VP : Hid (v.pm = u) := Lib.hid hvp
    have VO : Hid (∀ W, Below V1.heap.size V1 W → v.xs.length ≤ 10000 → v.Ok W) := Lib.hid fun W hb h => (hvo h).below hb
    have VF := Lib.hid hvf
    have HV1 : Hid (Below V1.heap.size V1 V1) := Lib.hid (Below.refl _ _)
    clear hvp hvo hvf
    have hsc : v.sc = u.scheme := by rw [← VP.out]; rfl
    have HSC := Lib.hid hsc
    clear hsc
    have HN := Lib.hid (Go.heap_alloc_new V1 (.cells zurl 27))
    unfold zurl at HN 
    go_upto_region 2 with (first | (refine wpList_store_row rfl 27 _ _ rfl V1.heap.size v.cells rfl rfl 27 _ HN.out (by kernel_rfl) rfl (agg_one v) ?_))
    obtain ⟨V2, hV⟩ : ∃ V2, V2 = (V1.alloc (.cells #[.string ⟨#[]⟩, .string ⟨#[]⟩, .string ⟨#[]⟩, .int .i64 0, .string ⟨#[]⟩, .int .i64 0, .int .i64 0, .int .i64 0, .int .i64 0, .int .i64 0, .int .i64 0, .int .i64 0, .int .i64 0, .int .i64 0, .int .i64 0, .slice none 0 0, .string ⟨#[]⟩, .string ⟨#[]⟩, .string ⟨#[]⟩, .bool false, .bool false] 27)).setRow V1.heap.size v.cells := ⟨_, rfl⟩
    have hN : V2.heap[V1.heap.size]? = some (.cells v.cells 27 (0, 0)) := by rw [hV]; exact heap_setRow HN.out _
    have hb : Below V1.heap.size V1 V2 := by rw [hV]; exact below_setRow (b_alloc (Below.refl _ _) _) (Nat.le_refl _) _
    rw [← hV]
    clear hV HN 
    have Hv := Lib.hid hN
    clear hN
    have hlt_bv_Hz : w.heap.size < V1.heap.size := h_lt Hz.out
    have hlw_bv : w.heap.size ≤ V1.heap.size := HB.out.size
    have hle_bv_HV1 : V1.heap.size ≤ V1.heap.size := HV1.out.size
    replace HB := Lib.hid (b_then HB.out hb)
    replace Hz := Lib.hid (obj_b hb Hz.out)
    replace HV1 := Lib.hid (b_then HV1.out hb)
    clear hb
    generalize V1.heap.size = bv at Hv hlt_bv_Hz hlw_bv hle_bv_HV1 ⊢
    (try simp only [Act.put])
    obtain ⟨c0, c1, c2, c3, c4, c5, c6, c7, c8, c9, c10, c11, c12, c13, c14, c15, c16, c17, c18, c19, c20⟩ := UrlAt.of_heap Hv.out
    go_wp2_with fail
    refine (Web_c v.sc _).mono ?_
    rintro e V50 ⟨rfl, rfl⟩
    clear c0 c1 c2 c3 c4 c5 c6 c7 c8 c9 c10 c11 c12 c13 c14 c15 c16 c17 c18 c19 c20
    by_cases hw : PM.web v.sc = 0
    · have hw2 : (PM.web v.sc == 0) = true := by simpa using hw
      have HW := Lib.hid hw
      clear hw
      replace HF := Lib.hid (HF.out.trans (show (if PM.web u.scheme = 0 then none else some u) = none from by rw [if_pos (by rw [← HSC.out]; exact HW.out)]))
      go_wp2_with (first | go_skip | (refine wpList_store_row rfl 27 _ _ rfl w.heap.size uz.cells rfl rfl 27 _ Hz.out (by kernel_rfl) rfl (agg_one uz) ?_))
      refine bodyPost_ret (results_cell_tmp (fr := (0, 0)) rfl _ _ w.heap.size 27 uz.cells _ rfl (heap_setRow Hz.out _) Tryz.underlying27 rfl (by kernel_rfl)) rfl ?_
      exact ⟨by rw [HF.out]; exact ⟨uz, rfl, rfl, (fun g o e _ => by cases e), fun _ => ⟨by decide, by decide, by decide, by decide, by decide, by decide, by decide, by decide, by simp [uz], zrd _⟩⟩, below_setRow HB.out (Nat.le_refl _) _⟩
    have hw2 : (PM.web v.sc == 0) = false := by simpa using hw
    have HW := Lib.hid hw
    clear hw
    replace HF := Lib.hid (HF.out.trans (show (if PM.web u.scheme = 0 then none else some u) = some u from by rw [if_neg (by rw [← HSC.out]; exact HW.out)]))
    go_wp2_with (first | go_skip | (refine wpList_load_g 27 _ rfl (by kernel_rfl) bv rfl Hv.out Tryz.underlying27 rfl (by kernel_rfl) ?_) | (refine wpList_store_row rfl 27 _ _ rfl w.heap.size v.cells rfl rfl 27 _ Hz.out (by kernel_rfl) rfl (agg_one v) ?_))
    refine bodyPost_ret (results_cell_tmp (fr := (0, 0)) rfl _ _ w.heap.size 27 v.cells _ rfl (heap_setRow Hz.out _) Tryz.underlying27 rfl (by kernel_rfl)) rfl ?_
    exact ⟨by rw [HF.out]; exact ⟨v, rfl, VP.out, (fun g o e hx => Nat.le_trans (Nat.le_of_lt HLT.out) (VF.out g o e hx)), fun h => Ok_setRow (VO.out _ HV1.out h) VF.out HLT.out _⟩, below_setRow HB.out (Nat.le_refl _) _⟩
set_option maxRecDepth 100000 in
set_option maxHeartbeats 8000000 in
theorem Referer_c (p : Int) (s : List UInt8) (b : UV) (hs : s.length ≤ 30000) (hl : ∀ u, PM.fromOf s = some u → u.path.length ≤ 10000) (w : World) (hb0 : b.Ok w) (hg : Gl w) (hT : Lib.Utf8Tabs 1 2 w) : Calls Tryz.prog 40 #[.int .i64 p, .string (mkS s), .agg b.cells] w fun e w' => e = .returned (.tuple #[.string (mkS (PM.told p s b.pm)), .bool (!(PM.told p s b.pm).isEmpty)]) ∧ Below w.heap.size w w' := by
  have HG := Lib.hid hg
  have HTB := Lib.hid hT
  have OB := Lib.hid hb0
  have HU : Hid (∀ W, Gl W → Lib.Utf8Tabs 1 2 W → Calls Tryz.prog 39 #[.string (mkS s)] W fun e w' => ParseRF (PM.fromOf s) W.heap.size e w' ∧ Below W.heap.size W w') := Lib.hid fun W => From_c s hs W
  clear hg hT hs hb0
  have HB : Hid (Below w.heap.size w (w.alloc (.cells b.cells 27))) := Lib.hid (b_alloc (Below.refl _ _) _)
  have Hb : Hid ((w.alloc (.cells b.cells 27)).heap[w.heap.size]? = some (.cells b.cells 27 (0, 0))) := Lib.hid ((by have h := Go.heap_alloc_new w (.cells b.cells 27); simpa using h))
  go_enter Tryz.func40, Tryz.ntmps40
  go_upto_region 1 with fail
  generalize w.alloc (.cells b.cells 27) = V0 at HB Hb ⊢
  have hf : PM.told p s b.pm = (match PM.fromOf s with | some u => PM.stripAt u (PM.level p u b.pm) | none => []) := rfl
  obtain ⟨o, ho⟩ : ∃ o, PM.fromOf s = o := ⟨_, rfl⟩
  rw [ho] at hf HU hl
  have HF := Lib.hid hf
  have HL := Lib.hid hl
  clear hf ho hl
  cases o with
  | none =>
    go_wp2_with fail
    refine (HU.out _ (HG.out.below HB.out) (tabs_below HTB.out HB.out)).mono ?_
    unfold ParseRF
    rintro e V1 ⟨⟨v, rfl, hvp, -, hvo⟩, hb⟩
    replace HB := Lib.hid (b_then HB.out hb)
    replace Hb := Lib.hid (obj_b hb Hb.out)
    clear hb
    clear hvp hvo
    have HN := Lib.hid (Go.heap_alloc_new V1 (.cells zurl 27))
    unfold zurl at HN 
    go_upto_region 2 with (first | (refine wpList_store_row rfl 27 _ _ rfl V1.heap.size v.cells rfl rfl 27 _ HN.out (by kernel_rfl) rfl (agg_one v) ?_))
    obtain ⟨V2, hV⟩ : ∃ V2, V2 = (V1.alloc (.cells #[.string ⟨#[]⟩, .string ⟨#[]⟩, .string ⟨#[]⟩, .int .i64 0, .string ⟨#[]⟩, .int .i64 0, .int .i64 0, .int .i64 0, .int .i64 0, .int .i64 0, .int .i64 0, .int .i64 0, .int .i64 0, .int .i64 0, .int .i64 0, .slice none 0 0, .string ⟨#[]⟩, .string ⟨#[]⟩, .string ⟨#[]⟩, .bool false, .bool false] 27)).setRow V1.heap.size v.cells := ⟨_, rfl⟩
    have hN : V2.heap[V1.heap.size]? = some (.cells v.cells 27 (0, 0)) := by rw [hV]; exact heap_setRow HN.out _
    have hb : Below V1.heap.size V1 V2 := by rw [hV]; exact below_setRow (b_alloc (Below.refl _ _) _) (Nat.le_refl _) _
    rw [← hV]
    clear hV HN 
    have Hv := Lib.hid hN
    clear hN
    have hlt_bv_Hb : w.heap.size < V1.heap.size := h_lt Hb.out
    have hlw_bv : w.heap.size ≤ V1.heap.size := HB.out.size
    replace HB := Lib.hid (b_then HB.out hb)
    replace Hb := Lib.hid (obj_b hb Hb.out)
    clear hb
    generalize V1.heap.size = bv at Hv hlt_bv_Hb hlw_bv ⊢
    (try simp only [Act.put])
    go_wp2
    go_ret2
    exact ⟨by rw [HF.out]; rfl, HB.out⟩
  | some u =>
    go_wp2_with fail
    refine (HU.out _ (HG.out.below HB.out) (tabs_below HTB.out HB.out)).mono ?_
    unfold ParseRF
    rintro e V1 ⟨⟨v, rfl, hvp, hvf, hvo⟩, hb⟩
    replace HB := Lib.hid (b_then HB.out hb)
    replace Hb := Lib.hid (obj_b hb Hb.out)
    clear hb
    have hvp' : v.pm = u := hvp
    have VOK := Lib.hid (hvo (by have := HL.out u rfl; rw [← hvp'] at this; exact this))
    have VP := Lib.hid hvp'
    clear hvp hvp' hvf hvo
    have HN := Lib.hid (Go.heap_alloc_new V1 (.cells zurl 27))
    unfold zurl at HN 
    go_upto_region 2 with (first | (refine wpList_store_row rfl 27 _ _ rfl V1.heap.size v.cells rfl rfl 27 _ HN.out (by kernel_rfl) rfl (agg_one v) ?_))
    obtain ⟨V2, hV⟩ : ∃ V2, V2 = (V1.alloc (.cells #[.string ⟨#[]⟩, .string ⟨#[]⟩, .string ⟨#[]⟩, .int .i64 0, .string ⟨#[]⟩, .int .i64 0, .int .i64 0, .int .i64 0, .int .i64 0, .int .i64 0, .int .i64 0, .int .i64 0, .int .i64 0, .int .i64 0, .int .i64 0, .slice none 0 0, .string ⟨#[]⟩, .string ⟨#[]⟩, .string ⟨#[]⟩, .bool false, .bool false] 27)).setRow V1.heap.size v.cells := ⟨_, rfl⟩
    have hN : V2.heap[V1.heap.size]? = some (.cells v.cells 27 (0, 0)) := by rw [hV]; exact heap_setRow HN.out _
    have hb : Below V1.heap.size V1 V2 := by rw [hV]; exact below_setRow (b_alloc (Below.refl _ _) _) (Nat.le_refl _) _
    rw [← hV]
    clear hV HN 
    have Hv := Lib.hid hN
    clear hN
    have hlt_bv_Hb : w.heap.size < V1.heap.size := h_lt Hb.out
    have hlw_bv : w.heap.size ≤ V1.heap.size := HB.out.size
    replace HB := Lib.hid (b_then HB.out hb)
    replace Hb := Lib.hid (obj_b hb Hb.out)
    replace VOK := Lib.hid (VOK.out.below hb)
    clear hb
    generalize V1.heap.size = bv at Hv hlt_bv_Hb hlw_bv ⊢
    (try simp only [Act.put])
    replace HF : Hid (PM.told p s b.pm = PM.stripAt v.pm (PM.level p v.pm b.pm)) := Lib.hid (by rw [HF.out, VP.out])
    obtain ⟨n, hn⟩ : ∃ n, PM.level p v.pm b.pm = n := ⟨_, rfl⟩
    have HN := Lib.hid hn
    rw [hn] at HF
    clear hn
    go_wp2_with fail
    refine wp_region_noPanic ?_
    refine wp_region_held_drew (S := fun W' => RAt w.heap.size bv b v w W') (by kernel_rfl) (RAt.below ⟨Hb.out, Hv.out, HB.out, OB.out.below HB.out, VOK.out⟩ (b_drew (Below.refl _ _))) (fun hS0 => ?_)
    refine wpAnyH_take (i := 0) (v := ?_) rfl (by kernel_rfl) (by kernel_rfl) (by kernel_rfl) (fun _ _ _ h => h) (Or.inl ⟨by kernel_rfl, fun W hW => ?_⟩) (by assumption) ?_
    rotate_left
    · refine yield_row 27 (.tmp 8) ?_ bv ?_ hW.hv Tryz.underlying27 rfl (by kernel_rfl)
      · rfl
      · rfl
    (try simp only [List.getElem_toArray, List.getElem_cons_zero, List.getElem_cons_succ, Act.put, List.setIfInBounds_toArray, List.set_cons_zero, List.set_cons_succ])
    refine wpAnyH_take (i := 1) (v := ?_) rfl (by kernel_rfl) (by kernel_rfl) (by kernel_rfl) (fun _ _ _ h => h) (Or.inl ⟨by kernel_rfl, fun W hW => ?_⟩) (by assumption) ?_
    rotate_left
    · go_simp
      try with_reducible rfl
    (try simp only [List.getElem_toArray, List.getElem_cons_zero, List.getElem_cons_succ, Act.put, List.setIfInBounds_toArray, List.set_cons_zero, List.set_cons_succ])
    refine wpAnyH_take (i := 2) (v := ?_) rfl (by kernel_rfl) (by kernel_rfl) (by kernel_rfl) (fun _ _ _ h => h) (Or.inl ⟨by kernel_rfl, fun W hW => ?_⟩) (by assumption) ?_
    rotate_left
    · refine yield_row 27 (.tmp 8) ?_ bv ?_ hW.hv Tryz.underlying27 rfl (by kernel_rfl)
      · rfl
      · rfl
    (try simp only [List.getElem_toArray, List.getElem_cons_zero, List.getElem_cons_succ, Act.put, List.setIfInBounds_toArray, List.set_cons_zero, List.set_cons_succ])
    refine wpAnyH_take (i := 3) (v := ?_) rfl (by kernel_rfl) (by kernel_rfl) (by kernel_rfl) (fun _ _ _ h => h) (Or.inl ⟨by kernel_rfl, fun W hW => ?_⟩) (by assumption) ?_
    rotate_left
    · refine yield_row 27 (.tmp 5) ?_ w.heap.size ?_ hW.hb Tryz.underlying27 rfl (by kernel_rfl)
      · rfl
      · rfl
    (try simp only [List.getElem_toArray, List.getElem_cons_zero, List.getElem_cons_succ, Act.put, List.setIfInBounds_toArray, List.set_cons_zero, List.set_cons_succ])
    refine wpAnyH_ready (rs := [4]) (by kernel_rfl) (by simp) ?_
    refine AllReadyH.cons rfl (fun K hK => ?_) AllReadyH.nil
    go_simp
    refine (Level_r_c p v b _ hS0.vo hS0.bo (HG.out.below hS0.be)).mono ?_
    rw [HN.out]
    rintro e U20 ⟨rfl, hb⟩
    have hSn := hS0.below hb
    clear hb hS0
    refine hK.out _ _ hSn (fun _ => ?_)
    clear hK K
    (try simp only [List.getElem_toArray, List.getElem_cons_zero, List.getElem_cons_succ, Act.put, List.setIfInBounds_toArray, List.set_cons_zero, List.set_cons_succ])
    refine wpAnyH_ready (rs := [5]) (by kernel_rfl) (by simp) ?_
    refine AllReadyH.cons rfl (fun K hK => ?_) AllReadyH.nil
    go_simp
    refine (Tell_c v n _ hSn.vo (HG.out.below hSn.be)).mono ?_
    rintro e U21 ⟨rfl, hb⟩
    replace hSn := hSn.below hb
    clear hb
    refine hK.out _ _ hSn (fun _ => ?_)
    clear hK K
    (try simp only [List.getElem_toArray, List.getElem_cons_zero, List.getElem_cons_succ, Act.put, List.setIfInBounds_toArray, List.set_cons_zero, List.set_cons_succ])
    refine wpAnyH_take (i := 6) (v := ?_) rfl (by kernel_rfl) (by kernel_rfl) (by kernel_rfl) (fun _ _ _ h => h) (Or.inl ⟨by kernel_rfl, fun W hW => ?_⟩) (by assumption) ?_
    rotate_left
    · go_simp
      try with_reducible rfl
    (try simp only [List.getElem_toArray, List.getElem_cons_zero, List.getElem_cons_succ, Act.put, List.setIfInBounds_toArray, List.set_cons_zero, List.set_cons_succ])
    refine wpAnyH_take (i := 7) (v := ?_) rfl (by kernel_rfl) (by kernel_rfl) (by kernel_rfl) (fun _ _ _ h => h) (Or.inl ⟨by kernel_rfl, fun W hW => ?_⟩) (by assumption) ?_
    rotate_left
    · go_simp
      try with_reducible rfl
    (try simp only [List.getElem_toArray, List.getElem_cons_zero, List.getElem_cons_succ, Act.put, List.setIfInBounds_toArray, List.set_cons_zero, List.set_cons_succ])
    refine wpAnyH_take (i := 8) (v := ?_) rfl (by kernel_rfl) (by kernel_rfl) (by kernel_rfl) (fun _ _ _ h => h) (Or.inl ⟨by kernel_rfl, fun W hW => ?_⟩) (by assumption) ?_
    rotate_left
    · go_simp
      try with_reducible rfl
    (try simp only [List.getElem_toArray, List.getElem_cons_zero, List.getElem_cons_succ, Act.put, List.setIfInBounds_toArray, List.set_cons_zero, List.set_cons_succ])
    refine wpAnyH_take (i := 9) (v := ?_) rfl (by kernel_rfl) (by kernel_rfl) (by kernel_rfl) (fun _ _ _ h => h) (Or.inl ⟨by kernel_rfl, fun W hW => ?_⟩) (by assumption) ?_
    rotate_left
    · go_simp
      try with_reducible rfl
    (try simp only [List.getElem_toArray, List.getElem_cons_zero, List.getElem_cons_succ, Act.put, List.setIfInBounds_toArray, List.set_cons_zero, List.set_cons_succ])
    refine wpAnyH_done (by kernel_rfl) ?_ _
    refine NoPanic.normal ?_
    go_wp2
    go_ret2
    exact ⟨by rw [HF.out]; rfl, hSn.be⟩
end Go.Proofs.YtphigjogeejdjaaGreatDoor
/-! Contract: postmarklaw17.awake. -/
namespace Go.Proofs.YtphigjogeejdjaaGreatDoor
open Go.RowKit
def k17t : PM.Url := ⟨[104, 116, 116, 112], [], [], ⟨1, [98, 46, 111, 114, 103], 0, [0, 0, 0, 0, 0, 0, 0, 0]⟩, -1, [[]], [], [], [], false, false⟩
def k17f : PM.Url := ⟨[104, 116, 116, 112, 115], [], [], ⟨1, [97, 46, 111, 114, 103], 0, [0, 0, 0, 0, 0, 0, 0, 0]⟩, -1, [[120]], [], [], [], false, false⟩
theorem k17t_parse : PM.urlParse [104, 116, 116, 112, 58, 47, 47, 98, 46, 111, 114, 103, 47] = some k17t := by kernel_rfl
theorem k17_from : PM.fromOf [104, 116, 116, 112, 115, 58, 47, 47, 97, 46, 111, 114, 103, 47, 120] = some k17f := by kernel_rfl
theorem k17_none : PM.fromOf [100, 97, 116, 97, 58, 44] = none := by kernel_rfl
theorem k17_7 : PM.told 7 [104, 116, 116, 112, 115, 58, 47, 47, 97, 46, 111, 114, 103, 47, 120] k17t = [] := by kernel_rfl
theorem k17_4 : PM.told 4 [104, 116, 116, 112, 115, 58, 47, 47, 97, 46, 111, 114, 103, 47, 120] k17t = [104, 116, 116, 112, 115, 58, 47, 47, 97, 46, 111, 114, 103, 47] := by kernel_rfl
theorem k17_down : PM.goesDown k17f k17t = true := by kernel_rfl
theorem k17_level : PM.level 8 k17f k17t = 2 := by kernel_rfl
theorem ref17_7 (b : UV) (w : World) (hp : b.pm = k17t) (hb0 : b.Ok w) (hg : Gl w) (hT : Lib.Utf8Tabs 1 2 w) : Calls Tryz.prog 40 #[.int .i64 7, .string ⟨#[104, 116, 116, 112, 115, 58, 47, 47, 97, 46, 111, 114, 103, 47, 120]⟩, .agg b.cells] w fun e w' => e = .returned (.tuple #[.string ⟨#[]⟩, .bool false]) ∧ Below w.heap.size w w' := by
  have h := Referer_c 7 [104, 116, 116, 112, 115, 58, 47, 47, 97, 46, 111, 114, 103, 47, 120] b (by decide) (by rw [k17_from]; intro u h; cases h; decide) w hb0 hg hT
  rw [hp, k17_7] at h
  exact h
theorem ref17_4 (b : UV) (w : World) (hp : b.pm = k17t) (hb0 : b.Ok w) (hg : Gl w) (hT : Lib.Utf8Tabs 1 2 w) : Calls Tryz.prog 40 #[.int .i64 4, .string ⟨#[104, 116, 116, 112, 115, 58, 47, 47, 97, 46, 111, 114, 103, 47, 120]⟩, .agg b.cells] w fun e w' => e = .returned (.tuple #[.string ⟨#[104, 116, 116, 112, 115, 58, 47, 47, 97, 46, 111, 114, 103, 47]⟩, .bool true]) ∧ Below w.heap.size w w' := by
  have h := Referer_c 4 [104, 116, 116, 112, 115, 58, 47, 47, 97, 46, 111, 114, 103, 47, 120] b (by decide) (by rw [k17_from]; intro u h; cases h; decide) w hb0 hg hT
  rw [hp, k17_4] at h
  exact h
theorem from_ok {o : Option PM.Url} {B : Nat} {e : Ending} {w' : World} {p : PM.Url} (h : ParseRF o B e w') (ho : o = some p) (hl : p.path.length ≤ 10000) : ∃ v : UV, e = .returned (.tuple #[.agg v.cells, .bool true]) ∧ v.pm = p ∧ v.Ok w' := by
  subst ho
  obtain ⟨v, h1, h2, _, h3⟩ := h
  have h2' : v.pm = p := h2
  have hx : v.xs = v.pm.path := rfl
  exact ⟨v, h1, h2', h3 (by rw [hx, h2']; exact hl)⟩
theorem from_no {o : Option PM.Url} {B : Nat} {e : Ending} {w' : World} (h : ParseRF o B e w') (ho : o = none) : ∃ v : UV, e = .returned (.tuple #[.agg v.cells, .bool false]) := by
  subst ho
  obtain ⟨v, h1, _⟩ := h
  exact ⟨v, h1⟩
theorem from17_1 (w : World) (hg : Gl w) (hT : Lib.Utf8Tabs 1 2 w) : Calls Tryz.prog 39 #[.string ⟨#[104, 116, 116, 112, 115, 58, 47, 47, 97, 46, 111, 114, 103, 47, 120]⟩] w fun e w' => (∃ v : UV, e = .returned (.tuple #[.agg v.cells, .bool true]) ∧ v.pm = k17f ∧ v.Ok w') ∧ Below w.heap.size w w' :=
  (show Calls Tryz.prog 39 #[.string (mkS [104, 116, 116, 112, 115, 58, 47, 47, 97, 46, 111, 114, 103, 47, 120])] w _ from From_c [104, 116, 116, 112, 115, 58, 47, 47, 97, 46, 111, 114, 103, 47, 120] (by decide) w hg hT).mono fun e w' h => ⟨from_ok h.1 k17_from (by decide), h.2⟩
theorem from17_2 (w : World) (hg : Gl w) (hT : Lib.Utf8Tabs 1 2 w) : Calls Tryz.prog 39 #[.string ⟨#[100, 97, 116, 97, 58, 44]⟩] w fun e w' => (∃ v : UV, e = .returned (.tuple #[.agg v.cells, .bool false])) ∧ Below w.heap.size w w' :=
  (show Calls Tryz.prog 39 #[.string (mkS [100, 97, 116, 97, 58, 44])] w _ from From_c [100, 97, 116, 97, 58, 44] (by decide) w hg hT).mono fun e w' h => ⟨from_no h.1 k17_none, h.2⟩
set_option maxRecDepth 100000 in
set_option maxHeartbeats 4000000 in
theorem awake17_c (w : World) (hg : Gl w) (hT : Lib.Utf8Tabs 1 2 w) : Calls Tryz.prog 38 #[] w fun e w' => e = .returned (.bool true) ∧ Below w.heap.size w w' := by
  have HG := Lib.hid hg
  have HTB := Lib.hid hT
  have HP1 : Hid (∀ W, Gl W → Lib.Utf8Tabs 1 2 W → Calls Tryz.prog 30 #[.string ⟨#[104, 116, 116, 112, 58, 47, 47, 98, 46, 111, 114, 103, 47]⟩] W fun e w' => (∃ v : UV, e = .returned (.tuple #[.agg v.cells, .bool true]) ∧ v.pm = k17t ∧ v.Ok w') ∧ Below W.heap.size W w') := Lib.hid fun W => known_c [104, 116, 116, 112, 58, 47, 47, 98, 46, 111, 114, 103, 47] k17t (by decide) k17t_parse (by decide) W
  have HB : Hid (Below w.heap.size w w) := Lib.hid (Below.refl _ _)
  clear hg hT
  go_enter Tryz.func38, Tryz.ntmps38
  go_wp2_with fail
  refine (HP1.out _ (HG.out.below HB.out) (tabs_below HTB.out HB.out)).mono ?_
  rintro e V1 ⟨⟨t, rfl, hup, huo⟩, hb⟩
  have Pt := Lib.hid hup
  have Ot := Lib.hid huo
  clear hup huo
  replace HB := Lib.hid (b_then HB.out hb)
  clear hb
  have HN := Lib.hid (Go.heap_alloc_new V1 (.cells zurl 27))
  unfold zurl at HN 
  go_upto_region 2 with (first | (refine wpList_store_row rfl 27 _ _ rfl V1.heap.size t.cells rfl rfl 27 _ HN.out (by kernel_rfl) rfl (agg_one t) ?_))
  obtain ⟨V2, hV⟩ : ∃ V2, V2 = (V1.alloc (.cells #[.string ⟨#[]⟩, .string ⟨#[]⟩, .string ⟨#[]⟩, .int .i64 0, .string ⟨#[]⟩, .int .i64 0, .int .i64 0, .int .i64 0, .int .i64 0, .int .i64 0, .int .i64 0, .int .i64 0, .int .i64 0, .int .i64 0, .int .i64 0, .slice none 0 0, .string ⟨#[]⟩, .string ⟨#[]⟩, .string ⟨#[]⟩, .bool false, .bool false] 27)).setRow V1.heap.size t.cells := ⟨_, rfl⟩
  have hN : V2.heap[V1.heap.size]? = some (.cells t.cells 27 (0, 0)) := by rw [hV]; exact heap_setRow HN.out _
  have hb : Below V1.heap.size V1 V2 := by rw [hV]; exact below_setRow (b_alloc (Below.refl _ _) _) (Nat.le_refl _) _
  rw [← hV]
  clear hV HN 
  have Ht := Lib.hid hN
  clear hN
  have hlw_bt : w.heap.size ≤ V1.heap.size := HB.out.size
  replace HB := Lib.hid (b_then HB.out hb)
  replace Ot := Lib.hid (Ot.out.below hb)
  clear hb
  generalize V1.heap.size = bt at Ht hlw_bt ⊢
  (try simp only [Act.put])
  go_wp2_with (first | go_skip | (refine wpList_load_g 27 _ rfl (by kernel_rfl) bt rfl Ht.out Tryz.underlying27 rfl (by kernel_rfl) ?_))
  refine (ref17_7 t _ Pt.out Ot.out (HG.out.below HB.out) (tabs_below HTB.out HB.out)).mono ?_
  rintro e V3 ⟨rfl, hb⟩
  replace HB := Lib.hid (b_then HB.out hb)
  replace Ht := Lib.hid (obj_b hb Ht.out)
  replace Ot := Lib.hid (Ot.out.below hb)
  clear hb
  go_wp2_with (first | go_skip | (refine wpList_load_g 27 _ rfl (by kernel_rfl) bt rfl Ht.out Tryz.underlying27 rfl (by kernel_rfl) ?_))
  refine (ref17_4 t _ Pt.out Ot.out (HG.out.below HB.out) (tabs_below HTB.out HB.out)).mono ?_
  rintro e V4 ⟨rfl, hb⟩
  replace HB := Lib.hid (b_then HB.out hb)
  replace Ht := Lib.hid (obj_b hb Ht.out)
  replace Ot := Lib.hid (Ot.out.below hb)
  clear hb
  go_wp2_with fail
  refine (from17_1 _ (HG.out.below HB.out) (tabs_below HTB.out HB.out)).mono ?_
  rintro e V5 ⟨⟨f, rfl, hup, huo⟩, hb⟩
  have Pf := Lib.hid hup
  have Of := Lib.hid huo
  clear hup huo
  replace HB := Lib.hid (b_then HB.out hb)
  replace Ht := Lib.hid (obj_b hb Ht.out)
  replace Ot := Lib.hid (Ot.out.below hb)
  clear hb
  have HN := Lib.hid (Go.heap_alloc_new V5 (.cells zurl 27))
  unfold zurl at HN 
  go_upto_region 5 with (first | (refine wpList_store_row rfl 27 _ _ rfl V5.heap.size f.cells rfl rfl 27 _ HN.out (by kernel_rfl) rfl (agg_one f) ?_))
  obtain ⟨V6, hV⟩ : ∃ V6, V6 = (V5.alloc (.cells #[.string ⟨#[]⟩, .string ⟨#[]⟩, .string ⟨#[]⟩, .int .i64 0, .string ⟨#[]⟩, .int .i64 0, .int .i64 0, .int .i64 0, .int .i64 0, .int .i64 0, .int .i64 0, .int .i64 0, .int .i64 0, .int .i64 0, .int .i64 0, .slice none 0 0, .string ⟨#[]⟩, .string ⟨#[]⟩, .string ⟨#[]⟩, .bool false, .bool false] 27)).setRow V5.heap.size f.cells := ⟨_, rfl⟩
  have hN : V6.heap[V5.heap.size]? = some (.cells f.cells 27 (0, 0)) := by rw [hV]; exact heap_setRow HN.out _
  have hb : Below V5.heap.size V5 V6 := by rw [hV]; exact below_setRow (b_alloc (Below.refl _ _) _) (Nat.le_refl _) _
  rw [← hV]
  clear hV HN 
  have Hf := Lib.hid hN
  clear hN
  have hlt_bf_Ht : bt < V5.heap.size := h_lt Ht.out
  have hlw_bf : w.heap.size ≤ V5.heap.size := HB.out.size
  replace HB := Lib.hid (b_then HB.out hb)
  replace Ht := Lib.hid (obj_b hb Ht.out)
  replace Ot := Lib.hid (Ot.out.below hb)
  replace Of := Lib.hid (Of.out.below hb)
  clear hb
  generalize V5.heap.size = bf at Hf hlt_bf_Ht hlw_bf ⊢
  (try simp only [Act.put])
  go_wp2_with fail
  refine (from17_2 _ (HG.out.below HB.out) (tabs_below HTB.out HB.out)).mono ?_
  rintro e V7 ⟨⟨d, rfl⟩, hb⟩
  replace HB := Lib.hid (b_then HB.out hb)
  replace Ht := Lib.hid (obj_b hb Ht.out)
  replace Hf := Lib.hid (obj_b hb Hf.out)
  replace Ot := Lib.hid (Ot.out.below hb)
  replace Of := Lib.hid (Of.out.below hb)
  clear hb
  have HN := Lib.hid (Go.heap_alloc_new V7 (.cells zurl 27))
  unfold zurl at HN 
  go_upto_region 6 with (first | (refine wpList_store_row rfl 27 _ _ rfl V7.heap.size d.cells rfl rfl 27 _ HN.out (by kernel_rfl) rfl (agg_one d) ?_))
  obtain ⟨V8, hV⟩ : ∃ V8, V8 = (V7.alloc (.cells #[.string ⟨#[]⟩, .string ⟨#[]⟩, .string ⟨#[]⟩, .int .i64 0, .string ⟨#[]⟩, .int .i64 0, .int .i64 0, .int .i64 0, .int .i64 0, .int .i64 0, .int .i64 0, .int .i64 0, .int .i64 0, .int .i64 0, .int .i64 0, .slice none 0 0, .string ⟨#[]⟩, .string ⟨#[]⟩, .string ⟨#[]⟩, .bool false, .bool false] 27)).setRow V7.heap.size d.cells := ⟨_, rfl⟩
  have hN : V8.heap[V7.heap.size]? = some (.cells d.cells 27 (0, 0)) := by rw [hV]; exact heap_setRow HN.out _
  have hb : Below V7.heap.size V7 V8 := by rw [hV]; exact below_setRow (b_alloc (Below.refl _ _) _) (Nat.le_refl _) _
  rw [← hV]
  clear hV HN 
  have Hd := Lib.hid hN
  clear hN
  have hlt_bd_Ht : bt < V7.heap.size := h_lt Ht.out
  have hlt_bd_Hf : bf < V7.heap.size := h_lt Hf.out
  have hlw_bd : w.heap.size ≤ V7.heap.size := HB.out.size
  replace HB := Lib.hid (b_then HB.out hb)
  replace Ht := Lib.hid (obj_b hb Ht.out)
  replace Hf := Lib.hid (obj_b hb Hf.out)
  replace Ot := Lib.hid (Ot.out.below hb)
  replace Of := Lib.hid (Of.out.below hb)
  clear hb
  generalize V7.heap.size = bd at Hd hlt_bd_Ht hlt_bd_Hf hlw_bd ⊢
  (try simp only [Act.put])
  go_wp2_with (first | go_skip | (refine wpList_load_g 27 _ rfl (by kernel_rfl) bf rfl Hf.out Tryz.underlying27 rfl (by kernel_rfl) ?_) | (refine wpList_load_g 27 _ rfl (by kernel_rfl) bt rfl Ht.out Tryz.underlying27 rfl (by kernel_rfl) ?_))
  refine (Down_r_c f t _ Of.out Ot.out (HG.out.below HB.out)).mono ?_
  rw [Pf.out, Pt.out, k17_down]
  rintro e V9 ⟨rfl, hb⟩
  replace HB := Lib.hid (b_then HB.out hb)
  replace Ht := Lib.hid (obj_b hb Ht.out)
  replace Hf := Lib.hid (obj_b hb Hf.out)
  replace Hd := Lib.hid (obj_b hb Hd.out)
  replace Ot := Lib.hid (Ot.out.below hb)
  replace Of := Lib.hid (Of.out.below hb)
  clear hb
  go_wp2_with (first | go_skip | (refine wpList_load_g 27 _ rfl (by kernel_rfl) bf rfl Hf.out Tryz.underlying27 rfl (by kernel_rfl) ?_) | (refine wpList_load_g 27 _ rfl (by kernel_rfl) bt rfl Ht.out Tryz.underlying27 rfl (by kernel_rfl) ?_))
  refine (Level_r_c 8 f t _ Of.out Ot.out (HG.out.below HB.out)).mono ?_
  rw [Pf.out, Pt.out, k17_level]
  rintro e V10 ⟨rfl, hb⟩
  replace HB := Lib.hid (b_then HB.out hb)
  replace Ht := Lib.hid (obj_b hb Ht.out)
  replace Hf := Lib.hid (obj_b hb Hf.out)
  replace Hd := Lib.hid (obj_b hb Hd.out)
  replace Ot := Lib.hid (Ot.out.below hb)
  replace Of := Lib.hid (Of.out.below hb)
  clear hb
  go_wp2
  go_ret
  exact ⟨rfl, HB.out⟩
end Go.Proofs.YtphigjogeejdjaaGreatDoor
