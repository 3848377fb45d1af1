import Derived.Test.YtppbkblnjlbnfaaGreatDoorC5
import Derived.RangeFuncNested
import Derived.RangeFuncBound
import Derived.RangeFuncCalls
import Derived.RangeFuncLeaves
import Derived.RangeFuncBox
import Derived.Shelf.Abstract
import Derived.Shelf.RegionOpen
import Derived.OwnWalkIn
import Derived.TacticsInMore
import Derived.LoopNIn
import Derived.LoopIn
set_option linter.unusedVariables false
set_option linter.unusedSimpArgs false
/-! Contracts: path.segments: the iterator. -/
namespace Go.Proofs.YtppbkblnjlbnfaaGreatDoor
open Go.RowKit Go.Shelf
attribute [local go_sem] Oper.semAt_some
theorem segments_in (a : Option Addr) (n c : Nat) (w : World) :
    CallsIn Fence.wide 2 Tryz.prog 94 #[.slice a n c] w fun e w' => e = .returned (.func (.func 120) #[] #[.pointer (some ⟨w.heap.size, 0, none⟩)]) ∧ w' = w.alloc (.cells #[.slice a n c] 25) := by
  refine callsIn_wide.2 ?_
  go_enter Tryz.func94, Tryz.ntmps94
  go_wp2
  go_ret
  exact ⟨rfl, rfl⟩
abbrev Seg := { x : List UInt8 × Bool // x.1.length ≤ 1000000000 }
/-- What segments hands on: a text, and whether it is the last one. -/
def segL (xs : List (List UInt8)) (hM : ∀ s ∈ xs, s.length ≤ 1000000000) : List Seg := List.ofFn fun i : Fin xs.length => ⟨(xs[i], (i.val : Int) == (xs.length : Int) - 1), hM _ (List.getElem_mem _)⟩
theorem segL_len (xs : List (List UInt8)) (hM) : (segL xs hM).length = xs.length := by simp [segL]
theorem segL_at (xs : List (List UInt8)) (hM) (k : Nat) (hk : k < xs.length) (h : k < (segL xs hM).length) : (segL xs hM)[k] = ⟨(xs[k], (k : Int) == (xs.length : Int) - 1), hM _ (List.getElem_mem _)⟩ := by simp [segL]
/-- What segments' rounds must keep. -/
def KS (Bs n₀ : Nat) (W W' : World) : Prop := W'.cell? ⟨Bs, 0, none⟩ = W.cell? ⟨Bs, 0, none⟩ ∧ Below n₀ W W'
theorem KS.trans {Bs n₀ : Nat} {A B C : World} (h : KS Bs n₀ A B) (k : KS Bs n₀ B C) : KS Bs n₀ A C := ⟨k.1.trans h.1, h.2.trans k.2⟩
set_option maxRecDepth 100000 in
set_option maxHeartbeats 2000000 in
theorem segments1_in (l Bs n₀ b o c : Nat) (xs : List (List UInt8)) (hM : ∀ s ∈ xs, s.length ≤ 1000000000) (hN : xs.length ≤ 10000) (hb : b < n₀) (J Jx : List Seg → World → Prop)
    (hY : ∀ pre (x : Seg) W, J pre W → pre.length < xs.length → YieldAt Fence.wide 1 Tryz.prog l #[.string (mkS x.1.1), .bool x.1.2] W fun e W' =>
      (e = .returned (.bool true) ∧ J (pre ++ [x]) W' ∧ KS Bs n₀ W W') ∨ (e = .returned (.bool false) ∧ Jx (pre ++ [x]) W'))
    (W : World) (hBs : W.cell? ⟨Bs, 0, none⟩ = some (.slice (some ⟨b, o, none⟩) xs.length c)) (hc : ∀ j (h : j < xs.length), W.cell? ⟨b, o + j, none⟩ = some (.string (mkS (xs[j]'h)))) (h0 : J [] W) :
    CallsIn Fence.wide 2 Tryz.prog 120 #[.func (.yield l) #[] #[], .pointer (some ⟨Bs, 0, none⟩)] W fun e W' => (∃ v, e = .returned v) ∧
      ((∃ ys, ys = segL xs hM ∧ J ys W') ∨ (∃ pre, (∃ k, k ≤ xs.length ∧ pre = (segL xs hM).take k) ∧ Jx pre W')) := by
  have Hc := Lib.hid hc
  clear hc
  refine callsIn_of_wp Tryz.func120 rfl trivial ?_ rfl
  simp only [Tryz.ntmps120, List.size_toArray, List.length_cons, List.length_nil, Nat.reduceAdd, Nat.reduceSub, Array.replicate_succ, Array.replicate_zero, List.push_toArray, List.append_toArray, List.nil_append, List.cons_append]
  gi_wp2
  gi_loopw [3, 4, 7] (fun _ _ i wr => ∃ k : Nat, k ≤ xs.length ∧ i = .int .i64 k ∧ J ((segL xs hM).take k) wr ∧ KS Bs n₀ W wr)
    (fun _ _ i _ => xs.length - (intOf i).toNat)
  case atStart => exact ⟨0, Nat.zero_le _, rfl, h0, rfl, Below.refl _ _⟩
  case round =>
    obtain ⟨k, hk, rfl, hJs, hnx⟩ := hrel
    have hcs := hnx.1.trans hBs
    by_cases hlt : k < xs.length
    · have hck := (hnx.2.cell (p := ⟨b, o + k, none⟩) hb).trans (Hc.out k hlt)
      obtain ⟨fn, tmps, assign, body, hy, hR⟩ := hY _ ⟨(xs[k], (k : Int) == (xs.length : Int) - 1), hM _ (List.getElem_mem _)⟩ wr hJs (by rw [List.length_take, segL_len]; omega)
      have hl : (segL xs hM).take k ++ [⟨(xs[k], (k : Int) == (xs.length : Int) - 1), hM _ (List.getElem_mem _)⟩] = (segL xs hM).take (k + 1) := by
        rw [List.take_succ_eq_append_getElem (by rw [segL_len]; exact hlt), segL_at xs hM k hlt]
      rw [hl] at hR
      clear hl
      dsimp only at hy
      gi_wp2
      refine hR.mono ?_
      rintro e W3 (⟨rfl, hJ3, hk3⟩ | ⟨rfl, hJx3⟩)
      · gi_wp2
        go_roundw
        case rel => exact ⟨k + 1, by omega, by simp, hJ3, hnx.trans hk3⟩
        case measure => simp [intOf]; omega
      · gi_wp2
        refine bodyPost_ret (results_none rfl _ _ _) rfl ?_
        exact ⟨⟨_, rfl⟩, .inr ⟨_, ⟨k + 1, by omega, rfl⟩, hJx3⟩⟩
    · obtain rfl : k = xs.length := by omega
      gi_wp2
      go_end0
      rw [List.take_of_length_le (by rw [segL_len]; exact Nat.le_refl _)] at hJs
      exact ⟨⟨_, rfl⟩, .inl ⟨_, rfl, hJs⟩⟩
set_option maxRecDepth 100000 in
set_option maxHeartbeats 1000000 in
theorem segments1_nil_in (l Bs c : Nat) (a : Option Addr) (J : List Seg → World → Prop) (W : World) (hBs : W.cell? ⟨Bs, 0, none⟩ = some (.slice a 0 c)) (h0 : J [] W) :
    CallsIn Fence.wide 2 Tryz.prog 120 #[.func (.yield l) #[] #[], .pointer (some ⟨Bs, 0, none⟩)] W fun e W' => (∃ v, e = .returned v) ∧ J [] W' := by
  refine callsIn_of_wp Tryz.func120 rfl trivial ?_ rfl
  simp only [Tryz.ntmps120, List.size_toArray, List.length_cons, List.length_nil, Nat.reduceAdd, Nat.reduceSub, Array.replicate_succ, Array.replicate_zero, List.push_toArray, List.append_toArray, List.nil_append, List.cons_append]
  gi_wp2
  gi_loopw [3, 4, 7] (fun _ _ i wr => i = .int .i64 0 ∧ J [] wr) (fun _ _ _ _ => 0)
  case atStart => exact ⟨rfl, h0⟩
  case round =>
    obtain ⟨rfl, hJs⟩ := hrel
    gi_wp2
    go_end0
    exact ⟨⟨_, rfl⟩, hJs⟩
theorem segments_stops (Bs n₀ c n : Nat) (a : Option Addr) (xs : List (List UInt8)) (hM : ∀ s ∈ xs, s.length ≤ 1000000000) (hN : xs.length ≤ 10000) (w0 w : World) (hR : RdS w0 a n xs) (hn : n₀ = w0.heap.size) (hb0 : Below w0.heap.size w0 w) (hBs0 : Bs < w.heap.size)
    (hBs : w.cell? ⟨Bs, 0, none⟩ = some (.slice a n c)) :
    SeqStopsK Fence.wide 2 Tryz.prog 120 #[.pointer (some ⟨Bs, 0, none⟩)] (fun x : Seg => #[Value.string (mkS x.1.1), .bool x.1.2]) (KS Bs n₀) (fun ys => ys = segL xs hM) (fun pre => ∃ k, k ≤ xs.length ∧ pre = (segL xs hM).take k) xs.length w := fun l J Jx W hW hJ _ hY h0 => by
  subst hn
  have hlen := hR.len
  subst hlen
  have hcs := (hW.cell (p := ⟨Bs, 0, none⟩) hBs0).trans hBs
  rcases hR.at_ with rfl | ⟨b, o, rfl, hlt, hc⟩
  · exact (segments1_nil_in l Bs c a J W hcs h0).mono fun e W' ⟨he, hj⟩ => ⟨he, .inl ⟨_, rfl, hj⟩⟩
  · exact segments1_in l Bs w0.heap.size b o c xs hM hN hlt J Jx hY W hcs (fun j hj => cell_b (b_then hb0 hW) (hc j hj)) h0
end Go.Proofs.YtppbkblnjlbnfaaGreatDoor
/-! Contract: path.Show. -/
namespace Go.Proofs.YtppbkblnjlbnfaaGreatDoor
open Go.RowKit Go.Shelf
attribute [local go_sem] Oper.semAt_some
theorem slash_cat (x : List UInt8) : ({ data := #[47] } : ByteArray) ++ mkS x = mkS (47 :: x) := mkS_append [47] x
theorem isCells_of {W : World} {b : Nat} {cs : Array Value} {T : TypeId} {fz : Nat × Nat} (h : W.heap[b]? = some (.cells cs T fz)) {o : Obj} (ho : W.heap[b]? = some o) : o.isCells = true := by
  rw [h] at ho
  cases ho
  rfl
/-- What turns no cells leaves a builder. -/
theorem Bldr.other {b : Nat} {r : Option Nat} {l : List UInt8} {W W' : World} {row : Option Nat} (h : Bldr b r l W) (hg : W.grownBy W' row) (hr : ∀ k, row = some k → ∃ o : Obj, W.heap[k]? = some o ∧ o.isCells = false) : Bldr b r l W' := by
  have hlt := h.lt
  obtain ⟨p, v, hp, hbk, ho, hvr, hne⟩ := h
  have hnb : some b ≠ row := fun e => by
    obtain ⟨o, h1, h2⟩ := hr b e.symm
    rw [isCells_of hbk h1] at h2
    cases h2
  refine ⟨p, v, hp, (hg.block b hlt hnb).trans hbk, ho.kept hg ?_, hvr, hne⟩
  cases row with
  | none => cases v.ownBlock <;> simp
  | some k =>
    right
    intro e
    rcases ho.2 with ⟨rfl, _⟩ | ⟨g, cap, cur, rfl, _, hgk, _⟩
    · simp [Value.ownBlock] at e
    · obtain ⟨o, h1, h2⟩ := hr k rfl
      have : g = k := by simpa [Value.ownBlock] using e
      subst this
      rw [isCells_of hgk h1] at h2
      cases h2
/-- A write of a builder leaves what is no cells. -/
theorem Bldr.keeps {b : Nat} {r : Option Nat} {l : List UInt8} {W W' : World} (h : Bldr b r l W) (hF : Fr W W' b r) (B : Nat) : KeepsFrom B W W' := by
  obtain ⟨p, v, hp, hbk, ho, hvr, hne⟩ := h
  refine ⟨hF.size, fun k o _ hk ho' => (hF.block k (Array.getElem?_eq_some_iff.1 hk).1 ?_ ?_).trans hk⟩
  · rintro rfl
    rw [isCells_of hbk hk] at ho'
    cases ho'
  · intro e
    rcases ho.2 with ⟨rfl, _⟩ | ⟨g, cap, cur, rfl, _, hgk, _⟩
    · simp [Value.ownBlock] at hvr
      rw [← hvr] at e
      cases e
    · have : g = k := by
        simp [Value.ownBlock] at hvr
        rw [← hvr] at e
        exact (Option.some.inj e).symm
      subst this
      rw [isCells_of hgk hk] at ho'
      cases ho'
/-- A builder's row is a row of bytes. -/
theorem Bldr.ne_row {b : Nat} {r : Option Nat} {l : List UInt8} {W : World} (h : Bldr b r l W) {k : Nat} {cs : Array Value} {T : TypeId} {fz : Nat × Nat} (hk : W.heap[k]? = some (.cells cs T fz)) (hT : T ≠ 5) : some k ≠ r := by
  obtain ⟨p, v, hp, hbk, ho, hvr, hne⟩ := h
  intro e
  rcases ho.2 with ⟨rfl, _⟩ | ⟨g, cap, cur, rfl, _, hgk, _⟩
  · simp [Value.ownBlock] at hvr
    rw [← hvr] at e
    cases e
  · have : g = k := by
      simp [Value.ownBlock] at hvr
      rw [← hvr] at e
      exact (Option.some.inj e).symm
    subst this
    rw [hgk] at hk
    injection hk with hk
    injection hk with _ hk _
    exact hT hk.symm
theorem Builder_String_k (b : Nat) (r : Option Nat) (l : List UInt8) (w : World) (h : Bldr b r l w) {B : Nat} (hB : B ≤ b) :
    Calls Tryz.prog 68 #[.pointer (some ⟨b, 0, none⟩)] w fun e w' => e = .returned (.string (mkS l)) ∧ Below B w w' ∧ ∀ (k : Nat) (o : Obj), w.heap[k]? = some o → o.isCells = false → w'.heap[k]? = some o := by
  have hlt := h.lt
  obtain ⟨p, v, hp, hbk, hown, hr, hne⟩ := h
  have hI : Lib.IsBuilderF 92 5 B b (Lib.byteCells l) w := by
    have ho : w.ownsRow B 5 1 v (Lib.byteCells l).length (Lib.byteCells l) := by
      rw [Lib.byteCells_length]
      refine ⟨hown.1, ?_⟩
      rcases hown.2 with h | ⟨g, cap, cur, h1, h2, h3⟩
      · exact .inl h
      · exact .inr ⟨g, cap, cur, h1, Nat.le_trans hB h2, h3⟩
    rcases hp with rfl | rfl
    · exact .inl ⟨hB, v, hbk, World.ownsRowF_of ho, by rw [hr]; exact hne⟩
    · exact .inr ⟨hB, v, hbk, World.ownsRowF_of ho, by rw [hr]; exact hne⟩
  refine (Any.Builder_String_any_k { Tryz.lays156 with } Tryz.Builder_Extra_156 B b l w hI (by omega)).mono ?_
  rintro e w' ⟨he, _, hb, hk⟩
  refine ⟨he, hb, fun k o h1 h2 => hk k o h1 ?_ ?_⟩
  · intro e
    have e' : k = b := Option.some.inj e
    subst e'
    rw [isCells_of hbk h1] at h2
    cases h2
  · rintro c fz rfl
    cases h2
def segTxt (pre : List Seg) : List UInt8 := pre.flatMap fun x => 47 :: x.1.1
theorem segTxt_len (pre : List Seg) : (segTxt pre).length ≤ pre.length * 1000000001 := by
  induction pre with
  | nil => simp [segTxt]
  | cons x r ih =>
    have := x.2
    simp only [segTxt, List.flatMap_cons, List.length_append, List.length_cons] at *
    omega
theorem segTxt_full (xs : List (List UInt8)) (hM) : segTxt (segL xs hM) = PM.pathShow xs := by
  have : ((segL xs hM).map fun x => x.1.1) = xs := by
    apply List.ext_getElem
    · simp [segL]
    · intro i h1 h2
      simp [segL]
  unfold segTxt PM.pathShow
  conv => rhs; rw [← this]
  rw [List.flatMap_map]
set_option maxRecDepth 100000 in
set_option maxHeartbeats 2000000 in
theorem pathShow_c (xs : List (List UInt8)) (hM : ∀ s ∈ xs, s.length ≤ 1000000000) (hN : xs.length ≤ 10000) (a : Option Addr) (n c : Nat) (w : World) (hR : RdS w a n xs) :
    Calls Tryz.prog 67 #[.slice a n c] w fun e w' => e = .returned (.string (mkS (PM.pathShow xs))) ∧ Below w.heap.size w w' := by
  have hcat := slash_cat
  refine (callsIn_wide (n := 3)).1 ?_
  refine callsIn_of_wp_marks Tryz.func67 rfl trivial ?_ rfl
  simp only [Tryz.ntmps67, List.size_toArray, List.length_cons, List.length_nil, Nat.reduceAdd, Nat.reduceSub, Array.replicate_succ, Array.replicate_zero, List.push_toArray, List.append_toArray, List.nil_append, List.cons_append]
  gi_wp2_with (gi_at_call 94; refine (segments_in _ _ _ _).mono ?_; rintro e w' ⟨rfl, rfl⟩)
  have hB0 : Below w.heap.size w ((w.alloc (.cells #[.pointer none, .slice none 0 0] 92)).alloc (.cells #[.slice a n c] 25)) := by (repeat (first | exact Below.refl _ _ | apply b_alloc | apply b_drew | apply b_drewN | assumption | (refine b_then ?_ (by assumption))))
  refine wpIn_rangeFunc_ownG rfl (by omega) (gf := 120) (lb := #[.pointer (some ⟨w.heap.size + 1, 0, none⟩)]) rfl trivial (enters_of Tryz.func120 (by kernel_rfl) rfl)
    (segments_stops (w.heap.size + 1) w.heap.size c n a xs hM hN w _ hR rfl hB0 (by simp) ?hs) (fun h k => KS.trans h k) ?hKb (Below.refl _ _) (fun _ => rfl)
    (fun pre W => (W.heap[w.heap.size + 1]? = some (.cells #[.slice a n c] 25 (0, 0)) ∧ ∃ r, Bldr w.heap.size r (segTxt pre) W) ∧ Below w.heap.size w W)
    (fun _ _ _ => False)
    ?hI
    (fun _ _ _ _ _ hs _ _ => hs)
    ?h0
    (fun x => { tmps := #[.slice a n c, undef, .string { data := #[] }, .pointer (some ⟨w.heap.size, 0, none⟩), .string (mkS x.1.1), .slice a n c, .func (.func 120) #[] #[.pointer (some ⟨w.heap.size + 1, 0, none⟩)], .string (mkS x.1.1), .bool x.1.2, undef, undef, undef, undef], defers := [] }) ?assign ?body ?done ?stop
  case hs => go_simp
  case hKb =>
    intro W l o o' hl _ _ _
    simp at hl
    exact ⟨World.cell?_of_block (a := ⟨w.heap.size + 1, 0, none⟩) (World.putObj_heap_other (by show w.heap.size + 1 ≠ l; omega)), (belowK_b (w := w) (Nat.le_refl _) W l _ _ (by omega) (by assumption) (by assumption) (by assumption))⟩
  case hI =>
    refine OwnFrom.and (fun pre A B row hs hg hr => ?_) (ownFrom_below (Nat.le_refl _) (by simp; omega))
    obtain ⟨hbx, r, hBl⟩ := hs
    refine ⟨(hg.block _ (Array.getElem?_eq_some_iff.1 hbx).1 (fun e => ?_)).trans hbx, r, hBl.other hg (fun k e => (hr k e).2)⟩
    obtain ⟨o, h1, h2⟩ := (hr _ e.symm).2
    rw [isCells_of hbx h1] at h2
    cases h2
  case h0 =>
    exact ⟨⟨by rw [← World.size_alloc]; exact heap_alloc_new _ _, none, (Bldr.new w).keep (by (repeat (first | exact Below.refl _ _ | apply b_alloc | apply b_drew | apply b_drewN | assumption | (refine b_then ?_ (by assumption)))))⟩, hB0⟩
  case assign =>
    intro l x W K hK
    gi_wp2
    exact hK
  case body =>
    rintro l pre x W ⟨⟨hbx, r, hBl⟩, hB⟩ hlt
    have hx := x.2
    have hlen := segTxt_len pre
    have h2 : (segTxt pre).length + (47 :: x.1.1).length ≤ 140737488355328 := by simp; omega
    have hF := WriteString_c w.heap.size r (segTxt pre) (47 :: x.1.1) W hBl h2
    clear h2 hlen
    gi_wp2_with (gi_at_call 64; refine (CallsIn.inRound l (callsIn_wide.2 hF)).mono ?_; rintro e w1 ⟨rfl, r1, hB1, hF1⟩)
    have hbx1 := (hF1.block _ (Array.getElem?_eq_some_iff.1 hbx).1 (by omega) (hBl.ne_row hbx (by decide))).trans hbx
    have hb1 := Fr.under hB hBl (Nat.le_refl _) hF1
    refine ⟨hBl.keeps hF1 _, ⟨World.cell?_of_block (a := ⟨w.heap.size + 1, 0, none⟩) (hbx1.trans hbx.symm), hF1.below (Nat.le_refl _) hB.size (fun k e => by have := (hBl.row k e).1; omega)⟩, ⟨hbx1, r1, ?_⟩, hb1⟩
    simpa [segTxt] using hB1
  case done =>
    rintro D ys W hD rfl ⟨⟨hbx, r, hBl⟩, hB⟩ hK
    rw [segTxt_full] at hBl
    gi_wp2_with (gi_at_call 68; refine (callsIn_wide.2 (Builder_String_k w.heap.size r _ _ hBl (Nat.le_refl _))).mono ?_; rintro e w1 ⟨rfl, hb1, hk1⟩)
    have hK1 := hk1 D _ hK rfl
    refine ⟨by simp, .inl ⟨_, _, rfl, run_takeDeferred hK1, ?_⟩⟩
    exact ⟨_, results_tmp rfl _ _ _, rfl, (hB.trans hb1).trans (belowK_b (w := w) (Nat.le_refl _) w1 D _ _ (by simp at hD; omega) hK1 rfl rfl)⟩
  case stop =>
    rintro D c pre W _ _ h _
    exact h.elim
end Go.Proofs.YtppbkblnjlbnfaaGreatDoor
