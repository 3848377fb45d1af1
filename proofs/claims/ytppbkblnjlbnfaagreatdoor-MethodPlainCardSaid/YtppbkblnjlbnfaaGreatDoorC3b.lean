import Derived.Test.YtppbkblnjlbnfaaGreatDoorC2
import Derived.RangeFuncNested
import Derived.RangeFuncBound
import Derived.RangeFuncCalls
import Derived.RangeFuncLeaves
import Derived.RangeFuncBox
import Derived.Shelf.Abstract
import Derived.Shelf.RegionOpen
import Derived.OwnWalkIn
import Derived.TacticsInMore
import Derived.LoopNIn
import Derived.LoopIn
import Derived.Stop.RegionWithIn
import Derived.Deep.OwnRows
set_option linter.unusedVariables false
set_option linter.unusedSimpArgs false
/-! Contracts: ascii.Lower: a range over a function. -/
namespace Go.Proofs.YtppbkblnjlbnfaaGreatDoor
open Go.RowKit Go.Shelf
attribute [local go_sem] Oper.semAt_some
theorem wide_fn (k : FuncId) : Fence.wide.fn k = True := eq_true trivial
attribute [go_sem] wide_fn
theorem low_c (c : UInt8) (w : World) : Calls Tryz.prog 88 #[.int .u8 (c.toNat : Int)] w fun e w' => e = .returned (.int .u8 ((PM.low c).toNat : Int)) ∧ w' = w := by
  by_cases h1 : (65 : Int) ≤ c.toNat
  · by_cases h2 : (c.toNat : Int) ≤ 90
    · have hl : PM.low c = c + 32 := by unfold PM.low; rw [if_pos (by simp [h1, h2])]
      have h32 : ((c + 32).toNat : Int) = (c.toNat : Int) + 32 := by rw [UInt8.toNat_add]; have : (32 : UInt8).toNat = 32 := rfl; omega
      rw [hl]
      have H := Lib.hid h32
      clear hl h32
      go_enter Tryz.func88, Tryz.ntmps88
      go_wp2_with (go_at_call 89; refine (in_c _ _ _ _).mono ?_; rintro e w' ⟨rfl, rfl⟩)
      go_ret
      exact ⟨ret_int (by rw [H.out]), rfl⟩
    · have hl : PM.low c = c := by unfold PM.low; rw [if_neg (by simp [h2])]
      rw [hl]
      go_enter Tryz.func88, Tryz.ntmps88
      go_wp2_with (go_at_call 89; refine (in_c _ _ _ _).mono ?_; rintro e w' ⟨rfl, rfl⟩)
      go_ret
      exact ⟨rfl, rfl⟩
  · have hl : PM.low c = c := by unfold PM.low; rw [if_neg (by simp [h1])]
    rw [hl]
    go_enter Tryz.func88, Tryz.ntmps88
    go_wp2_with (go_at_call 89; refine (in_c _ _ _ _).mono ?_; rintro e w' ⟨rfl, rfl⟩)
    go_ret
    exact ⟨rfl, rfl⟩
theorem each_in (s : List UInt8) (w : World) :
    CallsIn Fence.wide 2 Tryz.prog 90 #[.string (mkS s), .func (.func 88) #[] #[]] w fun e w' => e = .returned (.func (.func 117) #[] #[.pointer (some ⟨w.heap.size, 0, none⟩), .pointer (some ⟨w.heap.size + 1, 0, none⟩)]) ∧ w' = (w.alloc (.cells #[.string (mkS s)] 9)).alloc (.cells #[.func (.func 88) #[] #[]] 116) := by
  refine callsIn_wide.2 ?_
  go_enter Tryz.func90, Tryz.ntmps90
  go_wp2
  go_ret
  exact ⟨rfl, rfl⟩
/-- What comes of a text: place and byte, made small. -/
def fullL (s : List UInt8) : List (Fin s.length × UInt8) := List.ofFn fun i : Fin s.length => (i, PM.low s[i])
theorem fullL_len (s : List UInt8) : (fullL s).length = s.length := by simp [fullL]
theorem fullL_at (s : List UInt8) (k : Nat) (hk : k < s.length) (h : k < (fullL s).length) : (fullL s)[k] = (⟨k, hk⟩, PM.low s[k]) := by simp [fullL]
/-- What each's rounds must keep: the two variables that the iterator reads. -/
def KK (Bs Bf : Nat) (W W' : World) : Prop := W'.cell? ⟨Bs, 0, none⟩ = W.cell? ⟨Bs, 0, none⟩ ∧ W'.cell? ⟨Bf, 0, none⟩ = W.cell? ⟨Bf, 0, none⟩
theorem KK.trans {Bs Bf : Nat} {A B C : World} (h : KK Bs Bf A B) (k : KK Bs Bf B C) : KK Bs Bf A C := ⟨k.1.trans h.1, k.2.trans h.2⟩
theorem KK.put {Bs Bf n : Nat} (hs : Bs < n) (hf : Bf < n) (W : World) (l : Nat) (o' : Obj) (h : n ≤ l) : KK Bs Bf W (W.putObj l o') :=
  ⟨World.cell?_of_block (a := ⟨Bs, 0, none⟩) (World.putObj_heap_other (by show Bs ≠ l; omega)), World.cell?_of_block (a := ⟨Bf, 0, none⟩) (World.putObj_heap_other (by show Bf ≠ l; omega))⟩
set_option maxRecDepth 100000 in
set_option maxHeartbeats 2000000 in
theorem each1_in (l Bs Bf : Nat) (s : List UInt8) (hs : s.length ≤ 1000000000000) (J Jx : List (Fin s.length × UInt8) → World → Prop) (hJd : ∀ xs W, J xs W → J xs W.drew)
    (hY : ∀ pre x W, J pre W → pre.length < s.length → YieldAt Fence.wide 1 Tryz.prog l #[.int .i64 (x.1.val : Int), .int .u8 (x.2.toNat : Int)] W fun e W' =>
      (e = .returned (.bool true) ∧ J (pre ++ [x]) W' ∧ KK Bs Bf W W') ∨ (e = .returned (.bool false) ∧ Jx (pre ++ [x]) W'))
    (W : World) (hBs : W.cell? ⟨Bs, 0, none⟩ = some (.string (mkS s))) (hBf : W.cell? ⟨Bf, 0, none⟩ = some (.func (.func 88) #[] #[])) (h0 : J [] W) :
    CallsIn Fence.wide 2 Tryz.prog 117 #[.func (.yield l) #[] #[], .pointer (some ⟨Bs, 0, none⟩), .pointer (some ⟨Bf, 0, none⟩)] W fun e W' => (∃ v, e = .returned v) ∧
      ((∃ ys, ys = fullL s ∧ J ys W') ∨ (∃ pre, (∃ k, k ≤ s.length ∧ pre = (fullL s).take k) ∧ Jx pre W')) := by
  refine callsIn_of_wp Tryz.func117 rfl trivial ?_ rfl
  simp only [Tryz.ntmps117, List.size_toArray, List.length_cons, List.length_nil, Nat.reduceAdd, Nat.reduceSub, Array.replicate_succ, Array.replicate_zero, List.push_toArray, List.append_toArray, List.nil_append, List.cons_append]
  gi_wp2
  gi_loopw [4, 7] (fun _ i wr => ∃ k : Nat, k ≤ s.length ∧ i = .int .i64 k ∧ J ((fullL s).take k) wr ∧ KK Bs Bf W wr)
    (fun _ i _ => s.length - (intOf i).toNat)
  case atStart => exact ⟨0, Nat.zero_le _, rfl, h0, rfl, rfl⟩
  case round =>
    obtain ⟨k, hk, rfl, hJs, hnx⟩ := hrel
    have hcs := hnx.1.trans hBs
    have hcf := hnx.2.trans hBf
    by_cases hlt : k < s.length
    · obtain ⟨fn, tmps, assign, body, hy, hR⟩ := hY _ (⟨k, hlt⟩, PM.low s[k]) wr.drew (hJd _ _ hJs) (by rw [List.length_take, fullL_len]; omega)
      have hl : (fullL s).take k ++ [(⟨k, hlt⟩, PM.low s[k])] = (fullL s).take (k + 1) := by
        rw [List.take_succ_eq_append_getElem (by rw [fullL_len]; exact hlt), fullL_at s k hlt]
      rw [hl] at hR
      have hR' := hR.mono (R' := fun e W' => ∃ b : Bool, e = .returned (.bool b) ∧ (b = true → J ((fullL s).take (k + 1)) W' ∧ KK Bs Bf wr.drew W') ∧ (b = false → Jx ((fullL s).take (k + 1)) W')) (by
        rintro e W' (⟨rfl, h⟩ | ⟨rfl, h⟩)
        · exact ⟨true, rfl, fun _ => h, (fun h => by cases h)⟩
        · exact ⟨false, rfl, (fun h => by cases h), fun _ => h⟩)
      clear hR hl
      dsimp only at hy
      gi_wp2_with fail
      gi_region_with (first | (gi_at_call 88; refine (callsIn_wide.2 (low_c _ _)).mono ?_; rintro e w' ⟨rfl, rfl⟩) | (refine hR'.mono ?_; rintro e W3 ⟨b, rfl, hb1, hb2⟩))
      all_goals
        cases b
        · gi_wp2
          refine bodyPost_ret (results_none rfl _ _ _) rfl ?_
          exact ⟨⟨_, rfl⟩, .inr ⟨_, ⟨k + 1, by omega, rfl⟩, hb2 (by first | exact rfl | trivial)⟩⟩
        · gi_wp2
          go_roundw
          case rel => exact ⟨k + 1, by omega, by simp, (hb1 (by first | exact rfl | trivial)).1, hnx.trans (B := wr) (hb1 (by first | exact rfl | trivial)).2⟩
          case measure => simp [intOf]; omega
    · obtain rfl : k = s.length := by omega
      gi_wp2
      go_end0
      rw [List.take_of_length_le (by rw [fullL_len]; exact Nat.le_refl _)] at hJs
      exact ⟨⟨_, rfl⟩, .inl ⟨_, rfl, hJs⟩⟩
theorem each_stops (Bs Bf : Nat) (s : List UInt8) (hs : s.length ≤ 1000000000000) (w : World) (hBs0 : Bs < w.heap.size) (hBf0 : Bf < w.heap.size)
    (hBs : w.cell? ⟨Bs, 0, none⟩ = some (.string (mkS s))) (hBf : w.cell? ⟨Bf, 0, none⟩ = some (.func (.func 88) #[] #[])) :
    SeqStopsK Fence.wide 2 Tryz.prog 117 #[.pointer (some ⟨Bs, 0, none⟩), .pointer (some ⟨Bf, 0, none⟩)] (fun x : Fin s.length × UInt8 => #[Value.int .i64 (x.1.val : Int), .int .u8 (x.2.toNat : Int)]) (KK Bs Bf) (fun ys => ys = fullL s) (fun pre => ∃ k, k ≤ s.length ∧ pre = (fullL s).take k) s.length w := fun l J Jx W hW hJ _ hY h0 =>
  each1_in l Bs Bf s hs J Jx (fun xs W h => hJ xs W W.drew none h ⟨rfl, rfl, rfl, Nat.le_refl _, fun _ _ _ => rfl⟩ (fun r e => by cases e)) hY W ((hW.cell (p := ⟨Bs, 0, none⟩) hBs0).trans hBs) ((hW.cell (p := ⟨Bf, 0, none⟩) hBf0).trans hBf) h0
/-- The bytes that have come, each at its place. -/
def fillL (n : Nat) (pre : List (Fin n × UInt8)) : List UInt8 := pre.foldl (fun c x => c.set x.1.val x.2) (List.replicate n 0)
theorem fillL_snoc (n : Nat) (pre : List (Fin n × UInt8)) (x : Fin n × UInt8) : fillL n (pre ++ [x]) = (fillL n pre).set x.1.val x.2 := by simp [fillL]
theorem fillL_len (n : Nat) (pre : List (Fin n × UInt8)) : (fillL n pre).length = n := by
  unfold fillL
  have : ∀ c : List UInt8, (pre.foldl (fun c x => c.set x.1.val x.2) c).length = c.length := by
    induction pre with
    | nil => intro c; rfl
    | cons x r ih => intro c; rw [List.foldl_cons, ih]; simp
  rw [this]; simp
theorem fillL_take (s : List UInt8) : ∀ k, k ≤ s.length → fillL s.length ((fullL s).take k) = (PM.lower s).take k ++ List.replicate (s.length - k) 0 := by
  intro k
  induction k with
  | zero => intro _; simp [fillL]
  | succ k ih =>
    intro hk
    have hf : k < (fullL s).length := by rw [fullL_len]; omega
    rw [List.take_succ_eq_append_getElem hf, fillL_snoc, ih (by omega), fullL_at s k (by omega) hf]
    have hl : k < (PM.lower s).length := by simp [PM.lower]; omega
    have hlen : ((PM.lower s).take k).length = k := by simp; omega
    rw [List.take_succ_eq_append_getElem hl, List.set_append_right _ _ (by rw [hlen]; exact Nat.le_refl _), hlen, Nat.sub_self]
    rw [show s.length - k = (s.length - (k + 1)) + 1 by omega, List.replicate_succ, List.set_cons_zero]
    simp [PM.lower]
theorem fillL_full (s : List UInt8) : fillL s.length (fullL s) = PM.lower s := by
  have h := fillL_take s s.length (Nat.le_refl _)
  rw [List.take_of_length_le (by rw [fullL_len]; exact Nat.le_refl _), List.take_of_length_le (by simp [PM.lower])] at h
  simpa using h
end Go.Proofs.YtppbkblnjlbnfaaGreatDoor
/-! Contract: ascii.Lower. -/
namespace Go.Proofs.YtppbkblnjlbnfaaGreatDoor
open Go.RowKit Go.Shelf
attribute [local go_sem] Oper.semAt_some
set_option maxRecDepth 100000 in
set_option maxHeartbeats 2000000 in
theorem Lower_c (s : List UInt8) (hs : s.length ≤ 1000000000000) (w : World) :
    Calls Tryz.prog 63 #[.string (mkS s)] w fun e w' => e = .returned (.string (mkS (PM.lower s))) ∧ Below w.heap.size w w' := by
  have hmk := fun W => run_make_row' (P := Tryz.prog) 90 5 (.int .u8 0) 1 Tryz.underlying90 infoByte rfl .i64 .i64 s.length (by omega) (by omega) W
  refine (callsIn_wide (n := 3)).1 ?_
  refine callsIn_of_wp_marks Tryz.func63 rfl trivial ?_ rfl
  simp only [Tryz.ntmps63, List.size_toArray, List.length_cons, List.length_nil, Nat.reduceAdd, Nat.reduceSub, Array.replicate_succ, Array.replicate_zero, List.push_toArray, List.append_toArray, List.nil_append, List.cons_append]
  gi_wp2_with (gi_at_call 90; refine (each_in _ _).mono ?_; rintro e w' ⟨rfl, rfl⟩)
  have hB0 : Below w.heap.size w ((((w.alloc (.cells (madeCells #[Value.int IntKind.u8 0] s.length) 5)).alloc (.cells #[.slice (some ⟨w.heap.size, 0, none⟩) s.length s.length] 90)).alloc (.cells #[.string (mkS s)] 9)).alloc (.cells #[.func (.func 88) #[] #[]] 116)) := by (repeat (first | exact Below.refl _ _ | apply b_alloc | apply b_drew | apply b_drewN | assumption | (refine b_then ?_ (by assumption))))
  refine wpIn_rangeFunc_ownG rfl (by omega) (gf := 117) (lb := #[.pointer (some ⟨w.heap.size + 2, 0, none⟩), .pointer (some ⟨w.heap.size + 3, 0, none⟩)]) rfl trivial (enters_of Tryz.func117 (by kernel_rfl) rfl)
    (each_stops (w.heap.size + 2) (w.heap.size + 3) s hs _ (by simp) (by simp) ?hs ?hf) (fun h k => KK.trans h k) (fun W l o o' hl _ _ _ => KK.put (n := w.heap.size + 4) (by omega) (by omega) W l o' (by simp at hl; omega)) (Below.refl _ _) (fun _ => rfl)
    (fun pre W => (W.cell? ⟨w.heap.size + 1, 0, none⟩ = some (.slice (some ⟨w.heap.size, 0, none⟩) s.length s.length) ∧ W.heap[w.heap.size]? = some (.cells ((fillL s.length pre).map fun c => Value.int .u8 (c.toNat : Int)).toArray 5 (0, 0))) ∧ Below w.heap.size w W)
    (fun _ _ _ => False)
    ?hI
    (fun _ _ _ _ _ hs _ _ => hs)
    ?h0
    (fun x => { tmps := #[.string (mkS s), undef, .string { data := #[] }, .pointer (some ⟨w.heap.size + 1, 0, none⟩), .func (.func 88) #[] #[], .int .i64 (x.1.val : Int), .int .u8 (x.2.toNat : Int), .string (mkS s), .int .i64 (s.length : Int), .slice (some ⟨w.heap.size, 0, none⟩) s.length s.length, .string (mkS s), .func (.func 88) #[] #[], .func (.func 117) #[] #[.pointer (some ⟨w.heap.size + 2, 0, none⟩), .pointer (some ⟨w.heap.size + 3, 0, none⟩)], .int .i64 (x.1.val : Int), .int .u8 (x.2.toNat : Int), undef, undef, undef, undef, undef, undef], defers := [] }) ?assign ?body ?done ?stop
  case hs => go_simp
  case hf => go_simp
  case hI =>
    refine OwnFrom.and (fun pre A B row hs hg hr => ?_) (ownFrom_below (Nat.le_refl _) (by simp; omega))
    have hne : ∀ k : Nat, k < w.heap.size + 4 → some k ≠ row := fun k hk e => by
      have := (hr k e.symm).1
      simp at this
      omega
    have hlt : w.heap.size < A.heap.size := by
      rcases Nat.lt_or_ge w.heap.size A.heap.size with h' | h'
      · exact h'
      · have := hs.2; simp [Array.getElem?_eq_none h'] at this
    exact ⟨hg.cell hs.1 (hne _ (by show w.heap.size + 1 < _; omega)), (hg.block _ hlt (hne _ (by omega))).trans hs.2⟩
  case h0 =>
    refine ⟨⟨by go_simp, ?_⟩, hB0⟩
    rw [Lib.alloc_old _ _ _ (by simp; omega), Lib.alloc_old _ _ _ (by simp; omega), Lib.alloc_old _ _ _ (by simp), heap_alloc_new, made_eq]
    simp [fillL]
  case assign =>
    intro l x W K hK
    gi_wp2
    exact hK
  case body =>
    rintro l pre x W ⟨⟨hc, hh⟩, hB⟩ _
    have hx := x.1.isLt
    have hx1 : (x.1.val : Int) < (s.length : Int) := by omega
    have hlen := fillL_len s.length pre
    obtain ⟨v0, hcell⟩ : ∃ v0, W.cell? ⟨w.heap.size, x.1.val, none⟩ = some v0 := by
      rw [Lib.cell_of_heap hh]
      exact ⟨_, Array.getElem?_eq_getElem (by simp; omega)⟩
    have hfz : ∀ o, W.frozen? ⟨w.heap.size, o, none⟩ = false := fun o => Lib.frozen_of_heap hh o
    have HL := Lib.hid hlen
    clear hlen
    gi_wp2
    refine ⟨(KeepsOthers.setCell _ _ _).from _, ⟨World.cell?_setCell_other _ _ _ _ (by simp), World.cell?_setCell_other _ _ _ _ (by simp)⟩, ⟨(World.cell?_setCell_other _ _ _ _ (by simp)).trans hc, ?_⟩, hB.setCell (p := ⟨w.heap.size, x.1.val, none⟩) (Nat.le_refl _) _⟩
    rw [setCell_heap hh, fillL_snoc]
    simp [List.map_set]
  case done =>
    rintro D ys W hD rfl ⟨⟨hc, hh⟩, hB⟩ hK
    rw [fillL_full] at hh
    have hlow : (PM.lower s).length = s.length := by simp [PM.lower]
    have hcv := run_bytes_str W 90 9 5 Tryz.underlying90 Tryz.underlying5 Tryz.underlying9 w.heap.size s.length (PM.lower s) (fun j hj => by rw [Lib.cell_of_heap hh]; simp [hj])
    rw [hlow] at hcv
    have HL := Lib.hid hlow
    clear hlow
    gi_wp2
    refine ⟨by simp, .inl ⟨_, _, rfl, run_takeDeferred hK, ?_⟩⟩
    exact ⟨_, results_tmp rfl _ _ _, rfl, hB.trans (belowK_b (w := w) (Nat.le_refl _) W D _ _ (by simp at hD; omega) hK rfl rfl)⟩
  case stop =>
    rintro D c pre W _ _ h _
    exact h.elim
end Go.Proofs.YtppbkblnjlbnfaaGreatDoor
