import Derived.Test.YtgegnnojobmdcaaGreatDoorC3
import Derived.Deep.OwnRows
/-! Contract: ascii.Lower. -/
namespace Go.Proofs.YtgegnnojobmdcaaGreatDoor
open Go.RowKit Go.Shelf
attribute [local go_sem] Oper.semAt_some
set_option maxRecDepth 100000 in
set_option maxHeartbeats 2000000 in
theorem Lower_c (s : List UInt8) (hs : s.length ≤ 1000000000000) (w : World) :
    Calls Tryz.prog 50 #[.string (mkS s)] w fun e w' => e = .returned (.string (mkS (PM.lower s))) ∧ Below w.heap.size w w' := by
  have hmk := fun W => run_make_row' (P := Tryz.prog) 70 5 (.int .u8 0) 1 Tryz.underlying70 infoByte rfl .i64 .i64 s.length (by omega) (by omega) W
  refine (callsIn_wide (n := 3)).1 ?_
  refine callsIn_of_wp_marks Tryz.func50 rfl trivial ?_ rfl
  simp only [Tryz.ntmps50, List.size_toArray, List.length_cons, List.length_nil, Nat.reduceAdd, Nat.reduceSub, Array.replicate_succ, Array.replicate_zero, List.push_toArray, List.append_toArray, List.nil_append, List.cons_append]
  gi_wp2_with (gi_at_call 94; refine (each_in _ _).mono ?_; rintro e w' ⟨rfl, rfl⟩)
  have hB0 : Below w.heap.size w ((((w.alloc (.cells (madeCells #[Value.int IntKind.u8 0] s.length) 5)).alloc (.cells #[.slice (some ⟨w.heap.size, 0, none⟩) s.length s.length] 70)).alloc (.cells #[.string (mkS s)] 9)).alloc (.cells #[.func (.func 93) #[] #[]] 100)) := by (repeat (first | exact Below.refl _ _ | apply b_alloc | apply b_drew | apply b_drewN | assumption | (refine b_then ?_ (by assumption))))
  refine wpIn_rangeFunc_ownG rfl (by omega) (gf := 142) (lb := #[.pointer (some ⟨w.heap.size + 2, 0, none⟩), .pointer (some ⟨w.heap.size + 3, 0, none⟩)]) rfl trivial (enters_of Tryz.func142 (by kernel_rfl) rfl)
    (each_stops (w.heap.size + 2) (w.heap.size + 3) s hs _ (by simp) (by simp) ?hs ?hf) (fun h k => KK.trans h k) (fun W l o o' hl _ _ _ => KK.put (n := w.heap.size + 4) (by omega) (by omega) W l o' (by simp at hl; omega)) (Below.refl _ _) (fun _ => rfl)
    (fun pre W => (W.cell? ⟨w.heap.size + 1, 0, none⟩ = some (.slice (some ⟨w.heap.size, 0, none⟩) s.length s.length) ∧ W.heap[w.heap.size]? = some (.cells ((fillL s.length pre).map fun c => Value.int .u8 (c.toNat : Int)).toArray 5 (0, 0))) ∧ Below w.heap.size w W)
    (fun _ _ _ => False)
    ?hI
    (fun _ _ _ _ _ hs _ _ => hs)
    ?h0
    (fun x => { tmps := #[.string (mkS s), undef, .string { data := #[] }, .pointer (some ⟨w.heap.size + 1, 0, none⟩), .func (.func 93) #[] #[], .int .i64 (x.1.val : Int), .int .u8 (x.2.toNat : Int), .string (mkS s), .int .i64 (s.length : Int), .slice (some ⟨w.heap.size, 0, none⟩) s.length s.length, .string (mkS s), .func (.func 93) #[] #[], .func (.func 142) #[] #[.pointer (some ⟨w.heap.size + 2, 0, none⟩), .pointer (some ⟨w.heap.size + 3, 0, none⟩)], .int .i64 (x.1.val : Int), .int .u8 (x.2.toNat : Int), undef, undef, undef, undef, undef, undef], defers := [] }) ?assign ?body ?done ?stop
  case hs => go_simp
  case hf => go_simp
  case hI =>
    refine OwnFrom.and (fun pre A B row hs hg hr => ?_) (ownFrom_below (Nat.le_refl _) (by simp; omega))
    have hne : ∀ k : Nat, k < w.heap.size + 4 → some k ≠ row := fun k hk e => by
      have := (hr k e.symm).1
      simp at this
      omega
    have hlt : w.heap.size < A.heap.size := by
      rcases Nat.lt_or_ge w.heap.size A.heap.size with h' | h'
      · exact h'
      · have := hs.2; simp [Array.getElem?_eq_none h'] at this
    exact ⟨hg.cell hs.1 (hne _ (by show w.heap.size + 1 < _; omega)), (hg.block _ hlt (hne _ (by omega))).trans hs.2⟩
  case h0 =>
    refine ⟨⟨by go_simp, ?_⟩, hB0⟩
    rw [Lib.alloc_old _ _ _ (by simp; omega), Lib.alloc_old _ _ _ (by simp; omega), Lib.alloc_old _ _ _ (by simp), heap_alloc_new, made_eq]
    simp [fillL]
  case assign =>
    intro l x W K hK
    gi_wp2
    exact hK
  case body =>
    rintro l pre x W ⟨⟨hc, hh⟩, hB⟩ _
    have hx := x.1.isLt
    have hx1 : (x.1.val : Int) < (s.length : Int) := by omega
    have hlen := fillL_len s.length pre
    obtain ⟨v0, hcell⟩ : ∃ v0, W.cell? ⟨w.heap.size, x.1.val, none⟩ = some v0 := by
      rw [Lib.cell_of_heap hh]
      exact ⟨_, Array.getElem?_eq_getElem (by simp; omega)⟩
    have hfz : ∀ o, W.frozen? ⟨w.heap.size, o, none⟩ = false := fun o => Lib.frozen_of_heap hh o
    have HL := Lib.hid hlen
    clear hlen
    gi_wp2
    refine ⟨(KeepsOthers.setCell _ _ _).from _, ⟨World.cell?_setCell_other _ _ _ _ (by simp), World.cell?_setCell_other _ _ _ _ (by simp)⟩, ⟨(World.cell?_setCell_other _ _ _ _ (by simp)).trans hc, ?_⟩, hB.setCell (p := ⟨w.heap.size, x.1.val, none⟩) (Nat.le_refl _) _⟩
    rw [setCell_heap hh, fillL_snoc]
    simp [List.map_set]
  case done =>
    rintro D ys W hD rfl ⟨⟨hc, hh⟩, hB⟩ hK
    rw [fillL_full] at hh
    have hlow : (PM.lower s).length = s.length := by simp [PM.lower]
    have hcv := run_bytes_str W 70 9 5 Tryz.underlying70 Tryz.underlying5 Tryz.underlying9 w.heap.size s.length (PM.lower s) (fun j hj => by rw [Lib.cell_of_heap hh]; simp [hj])
    rw [hlow] at hcv
    have HL := Lib.hid hlow
    clear hlow
    gi_wp2
    refine ⟨by simp, .inl ⟨_, _, rfl, run_takeDeferred hK, ?_⟩⟩
    exact ⟨_, results_tmp rfl _ _ _, rfl, hB.trans (belowK_b (w := w) (Nat.le_refl _) W D _ _ (by simp at hD; omega) hK rfl rfl)⟩
  case stop =>
    rintro D c pre W _ _ h _
    exact h.elim
end Go.Proofs.YtgegnnojobmdcaaGreatDoor
