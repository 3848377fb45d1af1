import Derived.Test.YtgegnnojobmdcaaGreatDoorC2
import Derived.RangeFuncNested
import Derived.RangeFuncBound
import Derived.RangeFuncCalls
import Derived.RangeFuncLeaves
import Derived.RangeFuncBox
import Derived.Shelf.Abstract
import Derived.Shelf.RegionOpen
import Derived.OwnWalkIn
import Derived.TacticsInMore
import Derived.LoopNIn
import Derived.LoopIn
import Derived.Stop.RegionWithIn
/-! Contracts: ascii.Lower: a range over a function. -/
namespace Go.Proofs.YtgegnnojobmdcaaGreatDoor
open Go.RowKit Go.Shelf
attribute [local go_sem] Oper.semAt_some
theorem wide_fn (k : FuncId) : Fence.wide.fn k = True := eq_true trivial
attribute [go_sem] wide_fn
theorem low_c (c : UInt8) (w : World) : Calls Tryz.prog 93 #[.int .u8 (c.toNat : Int)] w fun e w' => e = .returned (.int .u8 ((PM.low c).toNat : Int)) ∧ w' = w := by
  by_cases h1 : (65 : Int) ≤ c.toNat
  · by_cases h2 : (c.toNat : Int) ≤ 90
    · have hl : PM.low c = c + 32 := by unfold PM.low; rw [if_pos (by simp [h1, h2])]
      have h32 : ((c + 32).toNat : Int) = (c.toNat : Int) + 32 := by rw [UInt8.toNat_add]; have : (32 : UInt8).toNat = 32 := rfl; omega
      rw [hl]
      have H := Lib.hid h32
      clear hl h32
      go_enter Tryz.func93, Tryz.ntmps93
      go_wp2_with (go_at_call 90; refine (in_c _ _ _ _).mono ?_; rintro e w' ⟨rfl, rfl⟩)
      go_ret
      exact ⟨ret_int (by rw [H.out]), rfl⟩
    · have hl : PM.low c = c := by unfold PM.low; rw [if_neg (by simp [h2])]
      rw [hl]
      go_enter Tryz.func93, Tryz.ntmps93
      go_wp2_with (go_at_call 90; refine (in_c _ _ _ _).mono ?_; rintro e w' ⟨rfl, rfl⟩)
      go_ret
      exact ⟨rfl, rfl⟩
  · have hl : PM.low c = c := by unfold PM.low; rw [if_neg (by simp [h1])]
    rw [hl]
    go_enter Tryz.func93, Tryz.ntmps93
    go_wp2_with (go_at_call 90; refine (in_c _ _ _ _).mono ?_; rintro e w' ⟨rfl, rfl⟩)
    go_ret
    exact ⟨rfl, rfl⟩
theorem each_in (s : List UInt8) (w : World) :
    CallsIn Fence.wide 2 Tryz.prog 94 #[.string (mkS s), .func (.func 93) #[] #[]] w fun e w' => e = .returned (.func (.func 142) #[] #[.pointer (some ⟨w.heap.size, 0, none⟩), .pointer (some ⟨w.heap.size + 1, 0, none⟩)]) ∧ w' = (w.alloc (.cells #[.string (mkS s)] 9)).alloc (.cells #[.func (.func 93) #[] #[]] 100) := by
  refine callsIn_wide.2 ?_
  go_enter Tryz.func94, Tryz.ntmps94
  go_wp2
  go_ret
  exact ⟨rfl, rfl⟩
/-- What comes of a text: place and byte, made small. -/
def fullL (s : List UInt8) : List (Fin s.length × UInt8) := List.ofFn fun i : Fin s.length => (i, PM.low s[i])
theorem fullL_len (s : List UInt8) : (fullL s).length = s.length := by simp [fullL]
theorem fullL_at (s : List UInt8) (k : Nat) (hk : k < s.length) (h : k < (fullL s).length) : (fullL s)[k] = (⟨k, hk⟩, PM.low s[k]) := by simp [fullL]
/-- What each's rounds must keep: the two variables that the iterator reads. -/
def KK (Bs Bf : Nat) (W W' : World) : Prop := W'.cell? ⟨Bs, 0, none⟩ = W.cell? ⟨Bs, 0, none⟩ ∧ W'.cell? ⟨Bf, 0, none⟩ = W.cell? ⟨Bf, 0, none⟩
theorem KK.trans {Bs Bf : Nat} {A B C : World} (h : KK Bs Bf A B) (k : KK Bs Bf B C) : KK Bs Bf A C := ⟨k.1.trans h.1, k.2.trans h.2⟩
theorem KK.put {Bs Bf n : Nat} (hs : Bs < n) (hf : Bf < n) (W : World) (l : Nat) (o' : Obj) (h : n ≤ l) : KK Bs Bf W (W.putObj l o') :=
  ⟨World.cell?_of_block (a := ⟨Bs, 0, none⟩) (World.putObj_heap_other (by show Bs ≠ l; omega)), World.cell?_of_block (a := ⟨Bf, 0, none⟩) (World.putObj_heap_other (by show Bf ≠ l; omega))⟩
set_option maxRecDepth 100000 in
set_option maxHeartbeats 2000000 in
theorem each1_in (l Bs Bf : Nat) (s : List UInt8) (hs : s.length ≤ 1000000000000) (J Jx : List (Fin s.length × UInt8) → World → Prop) (hJd : ∀ xs W, J xs W → J xs W.drew)
    (hY : ∀ pre x W, J pre W → pre.length < s.length → YieldAt Fence.wide 1 Tryz.prog l #[.int .i64 (x.1.val : Int), .int .u8 (x.2.toNat : Int)] W fun e W' =>
      (e = .returned (.bool true) ∧ J (pre ++ [x]) W' ∧ KK Bs Bf W W') ∨ (e = .returned (.bool false) ∧ Jx (pre ++ [x]) W'))
    (W : World) (hBs : W.cell? ⟨Bs, 0, none⟩ = some (.string (mkS s))) (hBf : W.cell? ⟨Bf, 0, none⟩ = some (.func (.func 93) #[] #[])) (h0 : J [] W) :
    CallsIn Fence.wide 2 Tryz.prog 142 #[.func (.yield l) #[] #[], .pointer (some ⟨Bs, 0, none⟩), .pointer (some ⟨Bf, 0, none⟩)] W fun e W' => (∃ v, e = .returned v) ∧
      ((∃ ys, ys = fullL s ∧ J ys W') ∨ (∃ pre, (∃ k, k ≤ s.length ∧ pre = (fullL s).take k) ∧ Jx pre W')) := by
  refine callsIn_of_wp Tryz.func142 rfl trivial ?_ rfl
  simp only [Tryz.ntmps142, List.size_toArray, List.length_cons, List.length_nil, Nat.reduceAdd, Nat.reduceSub, Array.replicate_succ, Array.replicate_zero, List.push_toArray, List.append_toArray, List.nil_append, List.cons_append]
  gi_wp2
  gi_loopw [4, 7] (fun _ i wr => ∃ k : Nat, k ≤ s.length ∧ i = .int .i64 k ∧ J ((fullL s).take k) wr ∧ KK Bs Bf W wr)
    (fun _ i _ => s.length - (intOf i).toNat)
  case atStart => exact ⟨0, Nat.zero_le _, rfl, h0, rfl, rfl⟩
  case round =>
    obtain ⟨k, hk, rfl, hJs, hnx⟩ := hrel
    have hcs := hnx.1.trans hBs
    have hcf := hnx.2.trans hBf
    by_cases hlt : k < s.length
    · obtain ⟨fn, tmps, assign, body, hy, hR⟩ := hY _ (⟨k, hlt⟩, PM.low s[k]) wr.drew (hJd _ _ hJs) (by rw [List.length_take, fullL_len]; omega)
      have hl : (fullL s).take k ++ [(⟨k, hlt⟩, PM.low s[k])] = (fullL s).take (k + 1) := by
        rw [List.take_succ_eq_append_getElem (by rw [fullL_len]; exact hlt), fullL_at s k hlt]
      rw [hl] at hR
      have hR' := hR.mono (R' := fun e W' => ∃ b : Bool, e = .returned (.bool b) ∧ (b = true → J ((fullL s).take (k + 1)) W' ∧ KK Bs Bf wr.drew W') ∧ (b = false → Jx ((fullL s).take (k + 1)) W')) (by
        rintro e W' (⟨rfl, h⟩ | ⟨rfl, h⟩)
        · exact ⟨true, rfl, fun _ => h, (fun h => by cases h)⟩
        · exact ⟨false, rfl, (fun h => by cases h), fun _ => h⟩)
      clear hR hl
      dsimp only at hy
      gi_wp2_with fail
      gi_region_with (first | (gi_at_call 93; refine (callsIn_wide.2 (low_c _ _)).mono ?_; rintro e w' ⟨rfl, rfl⟩) | (refine hR'.mono ?_; rintro e W3 ⟨b, rfl, hb1, hb2⟩))
      all_goals
        cases b
        · gi_wp2
          refine bodyPost_ret (results_none rfl _ _ _) rfl ?_
          exact ⟨⟨_, rfl⟩, .inr ⟨_, ⟨k + 1, by omega, rfl⟩, hb2 (by first | exact rfl | trivial)⟩⟩
        · gi_wp2
          go_roundw
          case rel => exact ⟨k + 1, by omega, by simp, (hb1 (by first | exact rfl | trivial)).1, hnx.trans (B := wr) (hb1 (by first | exact rfl | trivial)).2⟩
          case measure => simp [intOf]; omega
    · obtain rfl : k = s.length := by omega
      gi_wp2
      go_end0
      rw [List.take_of_length_le (by rw [fullL_len]; exact Nat.le_refl _)] at hJs
      exact ⟨⟨_, rfl⟩, .inl ⟨_, rfl, hJs⟩⟩
theorem each_stops (Bs Bf : Nat) (s : List UInt8) (hs : s.length ≤ 1000000000000) (w : World) (hBs0 : Bs < w.heap.size) (hBf0 : Bf < w.heap.size)
    (hBs : w.cell? ⟨Bs, 0, none⟩ = some (.string (mkS s))) (hBf : w.cell? ⟨Bf, 0, none⟩ = some (.func (.func 93) #[] #[])) :
    SeqStopsK Fence.wide 2 Tryz.prog 142 #[.pointer (some ⟨Bs, 0, none⟩), .pointer (some ⟨Bf, 0, none⟩)] (fun x : Fin s.length × UInt8 => #[Value.int .i64 (x.1.val : Int), .int .u8 (x.2.toNat : Int)]) (KK Bs Bf) (fun ys => ys = fullL s) (fun pre => ∃ k, k ≤ s.length ∧ pre = (fullL s).take k) s.length w := fun l J Jx W hW hJ _ hY h0 =>
  each1_in l Bs Bf s hs J Jx (fun xs W h => hJ xs W W.drew none h ⟨rfl, rfl, rfl, Nat.le_refl _, fun _ _ _ => rfl⟩ (fun r e => by cases e)) hY W ((hW.cell (p := ⟨Bs, 0, none⟩) hBs0).trans hBs) ((hW.cell (p := ⟨Bf, 0, none⟩) hBf0).trans hBf) h0
/-- The bytes that have come, each at its place. -/
def fillL (n : Nat) (pre : List (Fin n × UInt8)) : List UInt8 := pre.foldl (fun c x => c.set x.1.val x.2) (List.replicate n 0)
theorem fillL_snoc (n : Nat) (pre : List (Fin n × UInt8)) (x : Fin n × UInt8) : fillL n (pre ++ [x]) = (fillL n pre).set x.1.val x.2 := by simp [fillL]
theorem fillL_len (n : Nat) (pre : List (Fin n × UInt8)) : (fillL n pre).length = n := by
  unfold fillL
  have : ∀ c : List UInt8, (pre.foldl (fun c x => c.set x.1.val x.2) c).length = c.length := by
    induction pre with
    | nil => intro c; rfl
    | cons x r ih => intro c; rw [List.foldl_cons, ih]; simp
  rw [this]; simp
theorem fillL_take (s : List UInt8) : ∀ k, k ≤ s.length → fillL s.length ((fullL s).take k) = (PM.lower s).take k ++ List.replicate (s.length - k) 0 := by
  intro k
  induction k with
  | zero => intro _; simp [fillL]
  | succ k ih =>
    intro hk
    have hf : k < (fullL s).length := by rw [fullL_len]; omega
    rw [List.take_succ_eq_append_getElem hf, fillL_snoc, ih (by omega), fullL_at s k (by omega) hf]
    have hl : k < (PM.lower s).length := by simp [PM.lower]; omega
    have hlen : ((PM.lower s).take k).length = k := by simp; omega
    rw [List.take_succ_eq_append_getElem hl, List.set_append_right _ _ (by rw [hlen]; exact Nat.le_refl _), hlen, Nat.sub_self]
    rw [show s.length - k = (s.length - (k + 1)) + 1 by omega, List.replicate_succ, List.set_cons_zero]
    simp [PM.lower]
theorem fillL_full (s : List UInt8) : fillL s.length (fullL s) = PM.lower s := by
  have h := fillL_take s s.length (Nat.le_refl _)
  rw [List.take_of_length_le (by rw [fullL_len]; exact Nat.le_refl _), List.take_of_length_le (by simp [PM.lower])] at h
  simpa using h
end Go.Proofs.YtgegnnojobmdcaaGreatDoor
