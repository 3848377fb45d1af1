import Derived.Test.YtgegnnojobmdcaaGreatDoorC5
import Derived.RangeFuncNested
import Derived.RangeFuncBound
import Derived.RangeFuncCalls
import Derived.RangeFuncLeaves
import Derived.RangeFuncBox
import Derived.Shelf.Abstract
import Derived.Shelf.RegionOpen
import Derived.OwnWalkIn
import Derived.TacticsInMore
import Derived.LoopNIn
import Derived.LoopIn
/-! Contracts: path.segments: the iterator. -/
set_option linter.unusedVariables false
namespace Go.Proofs.YtgegnnojobmdcaaGreatDoor
open Go.RowKit Go.Shelf
attribute [local go_sem] Oper.semAt_some
theorem segments_in (a : Option Addr) (n c : Nat) (w : World) :
    CallsIn Fence.wide 2 Tryz.prog 67 #[.slice a n c] w fun e w' => e = .returned (.func (.func 115) #[] #[.pointer (some ⟨w.heap.size, 0, none⟩)]) ∧ w' = w.alloc (.cells #[.slice a n c] 25) := by
  refine callsIn_wide.2 ?_
  go_enter Tryz.func67, Tryz.ntmps67
  go_wp2
  go_ret
  exact ⟨rfl, rfl⟩
abbrev Seg := { x : List UInt8 × Bool // x.1.length ≤ 1000000000 }
/-- What segments hands on: a text, and whether it is the last one. -/
def segL (xs : List (List UInt8)) (hM : ∀ s ∈ xs, s.length ≤ 1000000000) : List Seg := List.ofFn fun i : Fin xs.length => ⟨(xs[i], (i.val : Int) == (xs.length : Int) - 1), hM _ (List.getElem_mem _)⟩
theorem segL_len (xs : List (List UInt8)) (hM) : (segL xs hM).length = xs.length := by simp [segL]
theorem segL_at (xs : List (List UInt8)) (hM) (k : Nat) (hk : k < xs.length) (h : k < (segL xs hM).length) : (segL xs hM)[k] = ⟨(xs[k], (k : Int) == (xs.length : Int) - 1), hM _ (List.getElem_mem _)⟩ := by simp [segL]
/-- What segments' rounds must keep. -/
def KS (Bs n₀ : Nat) (W W' : World) : Prop := W'.cell? ⟨Bs, 0, none⟩ = W.cell? ⟨Bs, 0, none⟩ ∧ Below n₀ W W'
theorem KS.trans {Bs n₀ : Nat} {A B C : World} (h : KS Bs n₀ A B) (k : KS Bs n₀ B C) : KS Bs n₀ A C := ⟨k.1.trans h.1, h.2.trans k.2⟩
set_option maxRecDepth 100000 in
set_option maxHeartbeats 2000000 in
theorem segments1_in (l Bs n₀ b o c : Nat) (xs : List (List UInt8)) (hM : ∀ s ∈ xs, s.length ≤ 1000000000) (hN : xs.length ≤ 10000) (hb : b < n₀) (J Jx : List Seg → World → Prop)
    (hY : ∀ pre (x : Seg) W, J pre W → pre.length < xs.length → YieldAt Fence.wide 1 Tryz.prog l #[.string (mkS x.1.1), .bool x.1.2] W fun e W' =>
      (e = .returned (.bool true) ∧ J (pre ++ [x]) W' ∧ KS Bs n₀ W W') ∨ (e = .returned (.bool false) ∧ Jx (pre ++ [x]) W'))
    (W : World) (hBs : W.cell? ⟨Bs, 0, none⟩ = some (.slice (some ⟨b, o, none⟩) xs.length c)) (hc : ∀ j (h : j < xs.length), W.cell? ⟨b, o + j, none⟩ = some (.string (mkS (xs[j]'h)))) (h0 : J [] W) :
    CallsIn Fence.wide 2 Tryz.prog 115 #[.func (.yield l) #[] #[], .pointer (some ⟨Bs, 0, none⟩)] W fun e W' => (∃ v, e = .returned v) ∧
      ((∃ ys, ys = segL xs hM ∧ J ys W') ∨ (∃ pre, (∃ k, k ≤ xs.length ∧ pre = (segL xs hM).take k) ∧ Jx pre W')) := by
  have Hc := Lib.hid hc
  clear hc
  refine callsIn_of_wp Tryz.func115 rfl trivial ?_ rfl
  simp only [Tryz.ntmps115, List.size_toArray, List.length_cons, List.length_nil, Nat.reduceAdd, Nat.reduceSub, Array.replicate_succ, Array.replicate_zero, List.push_toArray, List.append_toArray, List.nil_append, List.cons_append]
  gi_wp2
  gi_loopw [3, 4, 7] (fun _ _ i wr => ∃ k : Nat, k ≤ xs.length ∧ i = .int .i64 k ∧ J ((segL xs hM).take k) wr ∧ KS Bs n₀ W wr)
    (fun _ _ i _ => xs.length - (intOf i).toNat)
  case atStart => exact ⟨0, Nat.zero_le _, rfl, h0, rfl, Below.refl _ _⟩
  case round =>
    obtain ⟨k, hk, rfl, hJs, hnx⟩ := hrel
    have hcs := hnx.1.trans hBs
    by_cases hlt : k < xs.length
    · have hck := (hnx.2.cell (p := ⟨b, o + k, none⟩) hb).trans (Hc.out k hlt)
      obtain ⟨fn, tmps, assign, body, hy, hR⟩ := hY _ ⟨(xs[k], (k : Int) == (xs.length : Int) - 1), hM _ (List.getElem_mem _)⟩ wr hJs (by rw [List.length_take, segL_len]; omega)
      have hl : (segL xs hM).take k ++ [⟨(xs[k], (k : Int) == (xs.length : Int) - 1), hM _ (List.getElem_mem _)⟩] = (segL xs hM).take (k + 1) := by
        rw [List.take_succ_eq_append_getElem (by rw [segL_len]; exact hlt), segL_at xs hM k hlt]
      rw [hl] at hR
      clear hl
      dsimp only at hy
      gi_wp2
      refine hR.mono ?_
      rintro e W3 (⟨rfl, hJ3, hk3⟩ | ⟨rfl, hJx3⟩)
      · gi_wp2
        go_roundw
        case rel => exact ⟨k + 1, by omega, by simp, hJ3, hnx.trans hk3⟩
        case measure => simp [intOf]; omega
      · gi_wp2
        refine bodyPost_ret (results_none rfl _ _ _) rfl ?_
        exact ⟨⟨_, rfl⟩, .inr ⟨_, ⟨k + 1, by omega, rfl⟩, hJx3⟩⟩
    · obtain rfl : k = xs.length := by omega
      gi_wp2
      go_end0
      rw [List.take_of_length_le (by rw [segL_len]; exact Nat.le_refl _)] at hJs
      exact ⟨⟨_, rfl⟩, .inl ⟨_, rfl, hJs⟩⟩
set_option maxRecDepth 100000 in
set_option maxHeartbeats 1000000 in
theorem segments1_nil_in (l Bs c : Nat) (a : Option Addr) (J : List Seg → World → Prop) (W : World) (hBs : W.cell? ⟨Bs, 0, none⟩ = some (.slice a 0 c)) (h0 : J [] W) :
    CallsIn Fence.wide 2 Tryz.prog 115 #[.func (.yield l) #[] #[], .pointer (some ⟨Bs, 0, none⟩)] W fun e W' => (∃ v, e = .returned v) ∧ J [] W' := by
  refine callsIn_of_wp Tryz.func115 rfl trivial ?_ rfl
  simp only [Tryz.ntmps115, List.size_toArray, List.length_cons, List.length_nil, Nat.reduceAdd, Nat.reduceSub, Array.replicate_succ, Array.replicate_zero, List.push_toArray, List.append_toArray, List.nil_append, List.cons_append]
  gi_wp2
  gi_loopw [3, 4, 7] (fun _ _ i wr => i = .int .i64 0 ∧ J [] wr) (fun _ _ _ _ => 0)
  case atStart => exact ⟨rfl, h0⟩
  case round =>
    obtain ⟨rfl, hJs⟩ := hrel
    gi_wp2
    go_end0
    exact ⟨⟨_, rfl⟩, hJs⟩
theorem segments_stops (Bs n₀ c n : Nat) (a : Option Addr) (xs : List (List UInt8)) (hM : ∀ s ∈ xs, s.length ≤ 1000000000) (hN : xs.length ≤ 10000) (w0 w : World) (hR : RdS w0 a n xs) (hn : n₀ = w0.heap.size) (hb0 : Below w0.heap.size w0 w) (hBs0 : Bs < w.heap.size)
    (hBs : w.cell? ⟨Bs, 0, none⟩ = some (.slice a n c)) :
    SeqStopsK Fence.wide 2 Tryz.prog 115 #[.pointer (some ⟨Bs, 0, none⟩)] (fun x : Seg => #[Value.string (mkS x.1.1), .bool x.1.2]) (KS Bs n₀) (fun ys => ys = segL xs hM) (fun pre => ∃ k, k ≤ xs.length ∧ pre = (segL xs hM).take k) xs.length w := fun l J Jx W hW hJ _ hY h0 => by
  subst hn
  have hlen := hR.len
  subst hlen
  have hcs := (hW.cell (p := ⟨Bs, 0, none⟩) hBs0).trans hBs
  rcases hR.at_ with rfl | ⟨b, o, rfl, hlt, hc⟩
  · exact (segments1_nil_in l Bs c a J W hcs h0).mono fun e W' ⟨he, hj⟩ => ⟨he, .inl ⟨_, rfl, hj⟩⟩
  · exact segments1_in l Bs w0.heap.size b o c xs hM hN hlt J Jx hY W hcs (fun j hj => cell_b (b_then hb0 hW) (hc j hj)) h0
end Go.Proofs.YtgegnnojobmdcaaGreatDoor
