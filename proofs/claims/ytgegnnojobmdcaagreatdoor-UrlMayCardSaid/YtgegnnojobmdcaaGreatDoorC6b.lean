import Derived.Test.YtgegnnojobmdcaaGreatDoorC6
/-! Contract: path.Show. -/
set_option linter.unusedVariables false
namespace Go.Proofs.YtgegnnojobmdcaaGreatDoor
open Go.RowKit Go.Shelf
attribute [local go_sem] Oper.semAt_some
theorem slash_cat (x : List UInt8) : ({ data := #[47] } : ByteArray) ++ mkS x = mkS (47 :: x) := mkS_append [47] x
theorem isCells_of {W : World} {b : Nat} {cs : Array Value} {T : TypeId} {fz : Nat × Nat} (h : W.heap[b]? = some (.cells cs T fz)) {o : Obj} (ho : W.heap[b]? = some o) : o.isCells = true := by
  rw [h] at ho
  cases ho
  rfl
/-- What turns no cells leaves a builder. -/
theorem Bldr.other {b : Nat} {r : Option Nat} {l : List UInt8} {W W' : World} {row : Option Nat} (h : Bldr b r l W) (hg : W.grownBy W' row) (hr : ∀ k, row = some k → ∃ o : Obj, W.heap[k]? = some o ∧ o.isCells = false) : Bldr b r l W' := by
  have hlt := h.lt
  obtain ⟨p, v, hp, hbk, ho, hvr, hne⟩ := h
  have hnb : some b ≠ row := fun e => by
    obtain ⟨o, h1, h2⟩ := hr b e.symm
    rw [isCells_of hbk h1] at h2
    cases h2
  refine ⟨p, v, hp, (hg.block b hlt hnb).trans hbk, ho.kept hg ?_, hvr, hne⟩
  cases row with
  | none => cases v.ownBlock <;> simp
  | some k =>
    right
    intro e
    rcases ho.2 with ⟨rfl, _⟩ | ⟨g, cap, cur, rfl, _, hgk, _⟩
    · simp [Value.ownBlock] at e
    · obtain ⟨o, h1, h2⟩ := hr k rfl
      have : g = k := by simpa [Value.ownBlock] using e
      subst this
      rw [isCells_of hgk h1] at h2
      cases h2
/-- A write of a builder leaves what is no cells. -/
theorem Bldr.keeps {b : Nat} {r : Option Nat} {l : List UInt8} {W W' : World} (h : Bldr b r l W) (hF : Fr W W' b r) (B : Nat) : KeepsFrom B W W' := by
  obtain ⟨p, v, hp, hbk, ho, hvr, hne⟩ := h
  refine ⟨hF.size, fun k o _ hk ho' => (hF.block k (Array.getElem?_eq_some_iff.1 hk).1 ?_ ?_).trans hk⟩
  · rintro rfl
    rw [isCells_of hbk hk] at ho'
    cases ho'
  · intro e
    rcases ho.2 with ⟨rfl, _⟩ | ⟨g, cap, cur, rfl, _, hgk, _⟩
    · simp [Value.ownBlock] at hvr
      rw [← hvr] at e
      cases e
    · have : g = k := by
        simp [Value.ownBlock] at hvr
        rw [← hvr] at e
        exact (Option.some.inj e).symm
      subst this
      rw [isCells_of hgk hk] at ho'
      cases ho'
/-- A builder's row is a row of bytes. -/
theorem Bldr.ne_row {b : Nat} {r : Option Nat} {l : List UInt8} {W : World} (h : Bldr b r l W) {k : Nat} {cs : Array Value} {T : TypeId} {fz : Nat × Nat} (hk : W.heap[k]? = some (.cells cs T fz)) (hT : T ≠ 5) : some k ≠ r := by
  obtain ⟨p, v, hp, hbk, ho, hvr, hne⟩ := h
  intro e
  rcases ho.2 with ⟨rfl, _⟩ | ⟨g, cap, cur, rfl, _, hgk, _⟩
  · simp [Value.ownBlock] at hvr
    rw [← hvr] at e
    cases e
  · have : g = k := by
      simp [Value.ownBlock] at hvr
      rw [← hvr] at e
      exact (Option.some.inj e).symm
    subst this
    rw [hgk] at hk
    injection hk with hk
    injection hk with _ hk _
    exact hT hk.symm
theorem Builder_String_k (b : Nat) (r : Option Nat) (l : List UInt8) (w : World) (h : Bldr b r l w) {B : Nat} (hB : B ≤ b) :
    Calls Tryz.prog 66 #[.pointer (some ⟨b, 0, none⟩)] w fun e w' => e = .returned (.string (mkS l)) ∧ Below B w w' ∧ ∀ (k : Nat) (o : Obj), w.heap[k]? = some o → o.isCells = false → w'.heap[k]? = some o := by
  have hlt := h.lt
  obtain ⟨p, v, hp, hbk, hown, hr, hne⟩ := h
  have hI : Lib.IsBuilderF 72 5 B b (Lib.byteCells l) w := by
    have ho : w.ownsRow B 5 1 v (Lib.byteCells l).length (Lib.byteCells l) := by
      rw [Lib.byteCells_length]
      refine ⟨hown.1, ?_⟩
      rcases hown.2 with h | ⟨g, cap, cur, h1, h2, h3⟩
      · exact .inl h
      · exact .inr ⟨g, cap, cur, h1, Nat.le_trans hB h2, h3⟩
    rcases hp with rfl | rfl
    · exact .inl ⟨hB, v, hbk, World.ownsRowF_of ho, by rw [hr]; exact hne⟩
    · exact .inr ⟨hB, v, hbk, World.ownsRowF_of ho, by rw [hr]; exact hne⟩
  refine (Any.Builder_String_any_k { Tryz.lays156 with } Tryz.Builder_Extra_156 B b l w hI (by omega)).mono ?_
  rintro e w' ⟨he, _, hb, hk⟩
  refine ⟨he, hb, fun k o h1 h2 => hk k o h1 ?_ ?_⟩
  · intro e
    have e' : k = b := Option.some.inj e
    subst e'
    rw [isCells_of hbk h1] at h2
    cases h2
  · rintro c fz rfl
    cases h2
def segTxt (pre : List Seg) : List UInt8 := pre.flatMap fun x => 47 :: x.1.1
theorem segTxt_len (pre : List Seg) : (segTxt pre).length ≤ pre.length * 1000000001 := by
  induction pre with
  | nil => simp [segTxt]
  | cons x r ih =>
    have := x.2
    simp only [segTxt, List.flatMap_cons, List.length_append, List.length_cons] at *
    omega
theorem segTxt_full (xs : List (List UInt8)) (hM) : segTxt (segL xs hM) = PM.pathShow xs := by
  have : ((segL xs hM).map fun x => x.1.1) = xs := by
    apply List.ext_getElem
    · simp [segL]
    · intro i h1 h2
      simp [segL]
  unfold segTxt PM.pathShow
  conv => rhs; rw [← this]
  rw [List.flatMap_map]
set_option maxRecDepth 100000 in
set_option maxHeartbeats 2000000 in
theorem pathShow_c (xs : List (List UInt8)) (hM : ∀ s ∈ xs, s.length ≤ 1000000000) (hN : xs.length ≤ 10000) (a : Option Addr) (n c : Nat) (w : World) (hR : RdS w a n xs) :
    Calls Tryz.prog 29 #[.slice a n c] w fun e w' => e = .returned (.string (mkS (PM.pathShow xs))) ∧ Below w.heap.size w w' := by
  have hcat := slash_cat
  refine (callsIn_wide (n := 3)).1 ?_
  refine callsIn_of_wp_marks Tryz.func29 rfl trivial ?_ rfl
  simp only [Tryz.ntmps29, List.size_toArray, List.length_cons, List.length_nil, Nat.reduceAdd, Nat.reduceSub, Array.replicate_succ, Array.replicate_zero, List.push_toArray, List.append_toArray, List.nil_append, List.cons_append]
  gi_wp2_with (gi_at_call 67; refine (segments_in _ _ _ _).mono ?_; rintro e w' ⟨rfl, rfl⟩)
  have hB0 : Below w.heap.size w ((w.alloc (.cells #[.pointer none, .slice none 0 0] 72)).alloc (.cells #[.slice a n c] 25)) := by (repeat (first | exact Below.refl _ _ | apply b_alloc | apply b_drew | apply b_drewN | assumption | (refine b_then ?_ (by assumption))))
  refine wpIn_rangeFunc_ownG rfl (by omega) (gf := 115) (lb := #[.pointer (some ⟨w.heap.size + 1, 0, none⟩)]) rfl trivial (enters_of Tryz.func115 (by kernel_rfl) rfl)
    (segments_stops (w.heap.size + 1) w.heap.size c n a xs hM hN w _ hR rfl hB0 (by simp) ?hs) (fun h k => KS.trans h k) ?hKb (Below.refl _ _) (fun _ => rfl)
    (fun pre W => (W.heap[w.heap.size + 1]? = some (.cells #[.slice a n c] 25 (0, 0)) ∧ ∃ r, Bldr w.heap.size r (segTxt pre) W) ∧ Below w.heap.size w W)
    (fun _ _ _ => False)
    ?hI
    (fun _ _ _ _ _ hs _ _ => hs)
    ?h0
    (fun x => { tmps := #[.slice a n c, undef, .string { data := #[] }, .pointer (some ⟨w.heap.size, 0, none⟩), .string (mkS x.1.1), .slice a n c, .func (.func 115) #[] #[.pointer (some ⟨w.heap.size + 1, 0, none⟩)], .string (mkS x.1.1), .bool x.1.2, undef, undef, undef, undef], defers := [] }) ?assign ?body ?done ?stop
  case hs => go_simp
  case hKb =>
    intro W l o o' hl _ _ _
    simp at hl
    exact ⟨World.cell?_of_block (a := ⟨w.heap.size + 1, 0, none⟩) (World.putObj_heap_other (by show w.heap.size + 1 ≠ l; omega)), (belowK_b (w := w) (Nat.le_refl _) W l _ _ (by omega) (by assumption) (by assumption) (by assumption))⟩
  case hI =>
    refine OwnFrom.and (fun pre A B row hs hg hr => ?_) (ownFrom_below (Nat.le_refl _) (by simp; omega))
    obtain ⟨hbx, r, hBl⟩ := hs
    refine ⟨(hg.block _ (Array.getElem?_eq_some_iff.1 hbx).1 (fun e => ?_)).trans hbx, r, hBl.other hg (fun k e => (hr k e).2)⟩
    obtain ⟨o, h1, h2⟩ := (hr _ e.symm).2
    rw [isCells_of hbx h1] at h2
    cases h2
  case h0 =>
    exact ⟨⟨by rw [← World.size_alloc]; exact heap_alloc_new _ _, none, (Bldr.new w).keep (by (repeat (first | exact Below.refl _ _ | apply b_alloc | apply b_drew | apply b_drewN | assumption | (refine b_then ?_ (by assumption)))))⟩, hB0⟩
  case assign =>
    intro l x W K hK
    gi_wp2
    exact hK
  case body =>
    rintro l pre x W ⟨⟨hbx, r, hBl⟩, hB⟩ hlt
    have hx := x.2
    have hlen := segTxt_len pre
    have h2 : (segTxt pre).length + (47 :: x.1.1).length ≤ 140737488355328 := by simp; omega
    have hF := WriteString_c w.heap.size r (segTxt pre) (47 :: x.1.1) W hBl h2
    clear h2 hlen
    gi_wp2_with (gi_at_call 68; refine (CallsIn.inRound l (callsIn_wide.2 hF)).mono ?_; rintro e w1 ⟨rfl, r1, hB1, hF1⟩)
    have hbx1 := (hF1.block _ (Array.getElem?_eq_some_iff.1 hbx).1 (by omega) (hBl.ne_row hbx (by decide))).trans hbx
    have hb1 := Fr.under hB hBl (Nat.le_refl _) hF1
    refine ⟨hBl.keeps hF1 _, ⟨World.cell?_of_block (a := ⟨w.heap.size + 1, 0, none⟩) (hbx1.trans hbx.symm), hF1.below (Nat.le_refl _) hB.size (fun k e => by have := (hBl.row k e).1; omega)⟩, ⟨hbx1, r1, ?_⟩, hb1⟩
    simpa [segTxt] using hB1
  case done =>
    rintro D ys W hD rfl ⟨⟨hbx, r, hBl⟩, hB⟩ hK
    rw [segTxt_full] at hBl
    gi_wp2_with (gi_at_call 66; refine (callsIn_wide.2 (Builder_String_k w.heap.size r _ _ hBl (Nat.le_refl _))).mono ?_; rintro e w1 ⟨rfl, hb1, hk1⟩)
    have hK1 := hk1 D _ hK rfl
    refine ⟨by simp, .inl ⟨_, _, rfl, run_takeDeferred hK1, ?_⟩⟩
    exact ⟨_, results_tmp rfl _ _ _, rfl, (hB.trans hb1).trans (belowK_b (w := w) (Nat.le_refl _) w1 D _ _ (by simp at hD; omega) hK1 rfl rfl)⟩
  case stop =>
    rintro D c pre W _ _ h _
    exact h.elim
end Go.Proofs.YtgegnnojobmdcaaGreatDoor
