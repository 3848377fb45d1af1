import Derived.Test.YtppbkblnjlbnfaaGreatDoorC10
import Derived.IntWalk
/-! Contract: six.Show. -/
set_option linter.unusedVariables false
namespace Go.Proofs.YtppbkblnjlbnfaaGreatDoor
open Go.RowKit
theorem rdI_part (b : Nat) (P : List Int) (W : World) (hlen : P.length = 8) (hc : ∀ t, t < 8 → W.cell? ⟨b, t, none⟩ = some (.int .i64 (P.getD t 0))) (i : Nat) : RdI W (some ⟨b, i, none⟩) (8 - i) (P.drop i) := by
  refine ⟨by simp [hlen], .inr ⟨b, i, rfl, cell_lt (hc 0 (by omega)), fun j hj => ?_⟩⟩
  simp [hlen] at hj
  rw [hc (i + j) (by omega), List.getD_eq_getElem?_getD, List.getElem?_eq_getElem (by omega)]
  simp
theorem rdI_head (b : Nat) (P : List Int) (W : World) (hlen : P.length = 8) (hc : ∀ t, t < 8 → W.cell? ⟨b, t, none⟩ = some (.int .i64 (P.getD t 0))) (i : Nat) (hi : i ≤ 8) : RdI W (some ⟨b, 0, none⟩) i (P.take i) := by
  refine ⟨by simp [hlen]; omega, .inr ⟨b, 0, rfl, cell_lt (hc 0 (by omega)), fun j hj => ?_⟩⟩
  simp [hlen] at hj
  rw [Nat.zero_add, hc j (by omega), List.getD_eq_getElem?_getD, List.getElem?_eq_getElem (by omega)]
  simp
theorem joinBy_len (sep : List UInt8) (m : Nat) (xs : List (List UInt8)) (h : ∀ l ∈ xs, l.length ≤ m) : (PM.joinBy sep xs).length ≤ xs.length * (m + sep.length) := by
  induction xs with
  | nil => simp [PM.joinBy, List.intercalate]
  | cons x r ih =>
    have hx := h x (by simp)
    rcases r with _ | ⟨y, r⟩
    · simp [PM.joinBy, List.intercalate]; omega
    · have := ih (fun l hl => h l (by simp at hl ⊢; exact .inr hl))
      have e : PM.joinBy sep (x :: y :: r) = x ++ sep ++ PM.joinBy sep (y :: r) := by simp [PM.joinBy, List.intercalate]
      rw [e, List.length_cons, Nat.add_mul]
      simp only [List.length_append]
      omega
theorem sixJoin_len (P : List Int) (h : ∀ x ∈ P, 0 ≤ x ∧ x ≤ 65535) (h8 : P.length ≤ 8) : (PM.sixJoin P).length ≤ 1000 := by
  have := joinBy_len [58] 4 (P.map fun n => PM.hexs n.toNat) (fun l hl => by
    obtain ⟨x, hx, rfl⟩ := List.mem_map.1 hl
    have := h x hx
    exact hexs_len _ 3 (by show _ < 65536; omega))
  simp only [List.length_map] at this
  unfold PM.sixJoin
  simp at this
  omega
set_option maxRecDepth 100000 in
set_option maxHeartbeats 2000000 in
theorem sixShow_c (p0 p1 p2 p3 p4 p5 p6 p7 : Int) (w : World) :
    Calls Tryz.prog 244 #[.agg #[.int .i64 p0, .int .i64 p1, .int .i64 p2, .int .i64 p3, .int .i64 p4, .int .i64 p5, .int .i64 p6, .int .i64 p7]] w fun e w' => e = .returned (.string (mkS (PM.sixShow [p0, p1, p2, p3, p4, p5, p6, p7]))) ∧ Below w.heap.size w w' := by
  cases hmay : PM.sixMay [p0, p1, p2, p3, p4, p5, p6, p7]
  · go_enter Tryz.func244, Tryz.ntmps244
    go_wp2_with fail
    refine (sixMay_c p0 p1 p2 p3 p4 p5 p6 p7 _).mono ?_
    rw [hmay]
    rintro e w1 ⟨rfl, hb1⟩
    go_wp2
    go_ret
    refine ⟨?_, by (repeat (first | exact Below.refl _ _ | apply b_alloc | apply b_drew | apply b_drewN | assumption | (refine b_then ?_ (by assumption))))⟩
    simp [PM.sixShow, hmay, mkS]
  · have hrun := sixRun_c p0 p1 p2 p3 p4 p5 p6 p7
    have hmc := sixMay_c p0 p1 p2 p3 p4 p5 p6 p7
    have hx : ∀ x ∈ [p0, p1, p2, p3, p4, p5, p6, p7], 0 ≤ x ∧ x ≤ 65535 := fun x hx => by
      unfold PM.sixMay at hmay
      have := List.all_eq_true.1 hmay x hx
      simpa using this
    have hle := PM.run_le [p0, p1, p2, p3, p4, p5, p6, p7] rfl
    rw [hmay] at hmc
    have HX := Lib.hid hx
    have HM := Lib.hid hmc
    have HR := Lib.hid hrun
    have HY := Lib.hid hmay
    clear hx hmc hrun hmay
    go_enter Tryz.func244, Tryz.ntmps244
    go_wp2_with fail
    have hc : ∀ t, t < 8 → (w.alloc (Obj.cells #[.int .i64 p0, .int .i64 p1, .int .i64 p2, .int .i64 p3, .int .i64 p4, .int .i64 p5, .int .i64 p6, .int .i64 p7] 22)).cell? ⟨w.heap.size, t, none⟩ = some (.int .i64 ([p0, p1, p2, p3, p4, p5, p6, p7].getD t 0)) := by
      intro j hj
      match j, hj with
      | 0, _ => go_simp
      | 1, _ => go_simp
      | 2, _ => go_simp
      | 3, _ => go_simp
      | 4, _ => go_simp
      | 5, _ => go_simp
      | 6, _ => go_simp
      | 7, _ => go_simp
    have hb0 : Below w.heap.size w (w.alloc (Obj.cells #[.int .i64 p0, .int .i64 p1, .int .i64 p2, .int .i64 p3, .int .i64 p4, .int .i64 p5, .int .i64 p6, .int .i64 p7] 22)) := by (repeat (first | exact Below.refl _ _ | apply b_alloc | apply b_drew | apply b_drewN | assumption | (refine b_then ?_ (by assumption))))
    generalize w.alloc (Obj.cells #[.int .i64 p0, .int .i64 p1, .int .i64 p2, .int .i64 p3, .int .i64 p4, .int .i64 p5, .int .i64 p6, .int .i64 p7] 22) = W0 at hc hb0 ⊢
    refine (HM.out _).mono ?_
    rintro e W ⟨rfl, hb1⟩
    have hc1 : ∀ t, t < 8 → W.cell? ⟨w.heap.size, t, none⟩ = some (.int .i64 ([p0, p1, p2, p3, p4, p5, p6, p7].getD t 0)) := fun t ht => cell_b hb1 (hc t ht)
    have hb := b_then hb0 hb1
    clear hb0 hb1 hc
    have hc0 := hc1 0 (by omega)
    have hc2 := hc1 2 (by omega)
    have hc3 := hc1 3 (by omega)
    have hc4 := hc1 4 (by omega)
    have hc5 := hc1 5 (by omega)
    have hc6 := hc1 6 (by omega)
    have hc7 := hc1 7 (by omega)
    have HC := Lib.hid hc1
    have hcc1 := hc1 1 (by omega)
    clear hc1
    go_wp2_with fail
    refine (HR.out _).mono ?_
    rintro e W1 ⟨rfl, hb2⟩
    have hc1 : ∀ t, t < 8 → W1.cell? ⟨w.heap.size, t, none⟩ = some (.int .i64 ([p0, p1, p2, p3, p4, p5, p6, p7].getD t 0)) := fun t ht => cell_b hb2 (HC.out t ht)
    replace hb := b_then hb hb2
    have hBlt := cell_lt (hc1 0 (by omega))
    clear hb2 hc0 hc2 hc3 hc4 hc5 hc6 hc7 hcc1 HC
    generalize hP : [p0, p1, p2, p3, p4, p5, p6, p7] = P at hc1 HX HY hle ⊢
    have hlen : P.length = 8 := by rw [← hP]; rfl
    have hsix : PM.sixShow P = (if (PM.run P).2 = 0 then PM.sixJoin P else PM.sixJoin (P.take (PM.run P).1) ++ 58 :: 58 :: PM.sixJoin (P.drop ((PM.run P).1 + (PM.run P).2))) := by
      have := HY.out
      simp [PM.sixShow, this]
    have HS := Lib.hid hsix
    clear hsix
    generalize (PM.run P).1 = A at hle HS ⊢
    generalize (PM.run P).2 = N at hle HS ⊢
    by_cases hN : N = 0
    · subst hN
      have hsl := slice8_all w.heap.size W1
      have hJ := sixJoin_c P HX.out (by omega) (some ⟨w.heap.size, 0, none⟩) 8 8 W1 (by
        have := rdI_part w.heap.size P W1 hlen hc1 0
        simpa using this)
      have HJ := Lib.hid hJ
      have HC := Lib.hid hc1
      clear hJ hc1
      go_wp2_with fail
      refine HJ.out.mono ?_
      rintro e W2 ⟨rfl, hb3⟩
      go_wp2
      go_ret
      refine ⟨?_, b_then hb hb3⟩
      rw [hP, HS.out, if_pos trivial]
      rfl
    · have hN' : ¬ (N : Int) = 0 := by omega
      have hsA := slice8_h w.heap.size A (by omega)
      have cA : ∀ V : World, Below W1.heap.size W1 V → Calls Tryz.prog 246 #[.slice (some ⟨w.heap.size, 0, none⟩) A 8] V fun e w' => e = .returned (.string (mkS (PM.sixJoin (P.take A)))) ∧ Below V.heap.size V w' := fun V hV =>
        sixJoin_c (P.take A) (fun x hx => HX.out x (List.mem_of_mem_take hx)) (by simp; omega) _ A 8 V (rdI_head w.heap.size P V hlen (fun t ht => (hV.cell (p := ⟨w.heap.size, t, none⟩) hBlt).trans (hc1 t ht)) A (by omega))
      have cB : ∀ V : World, Below W1.heap.size W1 V → Calls Tryz.prog 246 #[.slice (some ⟨w.heap.size, if A + N = 8 then 0 else A + N, none⟩) (8 - (A + N)) (8 - (A + N))] V fun e w' => e = .returned (.string (mkS (PM.sixJoin (P.drop (A + N))))) ∧ Below V.heap.size V w' := fun V hV => by
        refine sixJoin_c (P.drop (A + N)) (fun x hx => HX.out x (List.mem_of_mem_drop hx)) (by simp; omega) _ _ _ V ?_
        have := rdI_part w.heap.size P V hlen (fun t ht => (hV.cell (p := ⟨w.heap.size, t, none⟩) hBlt).trans (hc1 t ht)) (A + N)
        by_cases h8 : A + N = 8
        · rw [h8] at this ⊢
          exact ⟨this.len, .inl (by rw [← hlen]; exact List.drop_length)⟩
        · rwa [if_neg h8]
      have hs2 : ∀ V : World, (Instr.sliceAt 22 (.pointer (some ⟨w.heap.size, 0, none⟩)) (some (.int .i64 ((A : Int) + (N : Int)))) none none).run Tryz.prog V = .ok (.slice (some ⟨w.heap.size, if A + N = 8 then 0 else A + N, none⟩) (8 - (A + N)) (8 - (A + N))) V := fun V => by
        by_cases h8 : A + N = 8
        · rw [if_pos h8, show (A : Int) + N = 8 by omega, show 8 - (A + N) = 0 by omega]
          exact slice8_e _ _
        · rw [if_neg h8, show (A : Int) + N = ((A + N : Nat) : Int) by omega]
          exact slice8_l _ _ (by omega) _
      generalize (if A + N = 8 then 0 else A + N) = o at cB hs2
      generalize 8 - (A + N) = n2 at cB hs2
      have hA1 : (A : Int) + N ≤ 8 := by omega
      have hA2 : (0 : Int) ≤ (A : Int) + N := by omega
      have hlA : (PM.sixJoin (P.take A)).length ≤ 1000 := sixJoin_len _ (fun x hx => HX.out x (List.mem_of_mem_take hx)) (by simp; omega)
      have hlB : (PM.sixJoin (P.drop (A + N))).length ≤ 1000 := sixJoin_len _ (fun x hx => HX.out x (List.mem_of_mem_drop hx)) (by simp; omega)
      have CA := Lib.hid cA
      have CB := Lib.hid cB
      have HC := Lib.hid hc1
      clear cA cB hc1
      have hw1 : IntKind.i64.wrap ((A : Int) + (N : Int)) = (A : Int) + (N : Int) := IntWalk.i64_in _ (by omega)
      clear HR HM HX HY hle hN HC
      go_wp2
      go_region_with (first
        | (go_at_call 246; with_reducible refine (CA.out _ ?hA).mono ?_; (case hA => (repeat (first | exact Below.refl _ _ | apply b_alloc | apply b_drew | apply b_drewN | assumption | (refine b_then ?_ (by assumption))))); rintro e w2 ⟨rfl, hbA⟩)
        | (go_at_call 246; with_reducible refine (CB.out _ ?hB).mono ?_; (case hB => (repeat (first | exact Below.refl _ _ | apply b_alloc | apply b_drew | apply b_drewN | assumption | (refine b_then ?_ (by assumption))))); rintro e w3 ⟨rfl, hbB⟩))
      all_goals go_wp2
      all_goals go_ret
      all_goals refine ⟨?_, by (repeat (first | exact Below.refl _ _ | apply b_alloc | apply b_drew | apply b_drewN | assumption | (refine b_then ?_ (by assumption))))⟩
      all_goals rw [hP, HS.out, if_neg (by omega)]
      all_goals show Ending.returned (.string (mkS (PM.sixJoin (P.take A)) ++ mkS [58, 58] ++ mkS (PM.sixJoin (P.drop (A + N))))) = _
      all_goals rw [mkS_append, mkS_append]
      all_goals exact ret_str (by simp)
end Go.Proofs.YtppbkblnjlbnfaaGreatDoor
