import Derived.Test.YtgegnnojobmdcaaGreatDoorC9
/-! Contract: six.Run. -/
set_option linter.unusedVariables false
namespace Go.Proofs.YtgegnnojobmdcaaGreatDoor
open Go.RowKit
theorem und8 : Tryz.prog.underlying 22 = some (.array (Tryz.prog.arrayLen 22) (Tryz.prog.elem 22)) := by rw [alen8, aelem8]; exact Tryz.underlying22
theorem size_int (W : World) : (sizeOf (Tryz.prog.elem 22)).run Tryz.prog W = .ok 1 W := by rw [aelem8]; exact Tryz.sizeOf3 W
theorem slice8_l (b k : Nat) (hk : k < 8) (W : World) : (Instr.sliceAt 22 (.pointer (some ⟨b, 0, none⟩)) (some (.int .i64 (k : Int))) none none).run Tryz.prog W = .ok (.slice (some ⟨b, k, none⟩) (8 - k) (8 - k)) W := by
  rw [run_sliceAt_array_l W 22 ⟨b, 0, none⟩ und8 .i64 (k : Int) (by omega) (by rw [alen8]; omega), size_int, Result.andThen_ok, slicedAt, alen8]
  have : ¬ 8 = (k : Int).toNat := by omega
  rw [if_neg this]
  simp [Addr.add]
  omega
theorem slice8_h (b k : Nat) (hk : k ≤ 8) (W : World) : (Instr.sliceAt 22 (.pointer (some ⟨b, 0, none⟩)) none (some (.int .i64 (k : Int))) none).run Tryz.prog W = .ok (.slice (some ⟨b, 0, none⟩) k 8) W := by
  rw [run_sliceAt_array_h W 22 ⟨b, 0, none⟩ und8 .i64 (k : Int) (by omega) (by rw [alen8]; omega), size_int, Result.andThen_ok, slicedAt, alen8]
  simp [Addr.add]
theorem slice8_e (b : Nat) (W : World) : (Instr.sliceAt 22 (.pointer (some ⟨b, 0, none⟩)) (some (.int .i64 8)) none none).run Tryz.prog W = .ok (.slice (some ⟨b, 0, none⟩) 0 0) W := by
  rw [run_sliceAt_array_l W 22 ⟨b, 0, none⟩ und8 .i64 8 (by omega) (by rw [alen8]; omega), size_int, Result.andThen_ok, slicedAt, alen8]
  rfl
theorem slice8_all (b : Nat) (W : World) : (Instr.sliceAt 22 (.pointer (some ⟨b, 0, none⟩)) none none none).run Tryz.prog W = .ok (.slice (some ⟨b, 0, none⟩) 8 8) W := by
  rw [run_sliceAt_array_all W 22 ⟨b, 0, none⟩ und8, size_int, Result.andThen_ok, slicedAt, alen8]
  simp [Addr.add]
set_option maxRecDepth 100000 in
set_option maxHeartbeats 2000000 in
theorem sixRun_c (p0 p1 p2 p3 p4 p5 p6 p7 : Int) (w : World) :
    Calls Tryz.prog 242 #[.agg #[.int .i64 p0, .int .i64 p1, .int .i64 p2, .int .i64 p3, .int .i64 p4, .int .i64 p5, .int .i64 p6, .int .i64 p7]] w fun e w' => e = .returned (.tuple #[.int .i64 ((PM.run [p0, p1, p2, p3, p4, p5, p6, p7]).1 : Int), .int .i64 ((PM.run [p0, p1, p2, p3, p4, p5, p6, p7]).2 : Int)]) ∧ Below w.heap.size w w' := by
  go_enter Tryz.func242, Tryz.ntmps242
  go_wp2
  have hc : ∀ t, t < 8 → (w.alloc (Obj.cells #[.int .i64 p0, .int .i64 p1, .int .i64 p2, .int .i64 p3, .int .i64 p4, .int .i64 p5, .int .i64 p6, .int .i64 p7] 22)).cell? ⟨w.heap.size, t, none⟩ = some (.int .i64 ([p0, p1, p2, p3, p4, p5, p6, p7].getD t 0)) := by
    intro j hj
    match j, hj with
    | 0, _ => go_simp
    | 1, _ => go_simp
    | 2, _ => go_simp
    | 3, _ => go_simp
    | 4, _ => go_simp
    | 5, _ => go_simp
    | 6, _ => go_simp
    | 7, _ => go_simp
  have hb : Below w.heap.size w (w.alloc (Obj.cells #[.int .i64 p0, .int .i64 p1, .int .i64 p2, .int .i64 p3, .int .i64 p4, .int .i64 p5, .int .i64 p6, .int .i64 p7] 22)) := by (repeat (first | exact Below.refl _ _ | apply b_alloc | apply b_drew | apply b_drewN | assumption | (refine b_then ?_ (by assumption))))
  generalize w.alloc (Obj.cells #[.int .i64 p0, .int .i64 p1, .int .i64 p2, .int .i64 p3, .int .i64 p4, .int .i64 p5, .int .i64 p6, .int .i64 p7] 22) = W at hc hb ⊢
  have HC := Lib.hid hc
  clear hc
  generalize hP : [p0, p1, p2, p3, p4, p5, p6, p7] = P at HC ⊢
  have hlen : P.length = 8 := by rw [← hP]; rfl
  go_wp2
  go_step3
  go_wp2
  go_step3
  go_wp2
  go_loopg [4, 5, 10] 8 (fun g at_ long i wr => ∃ k : Nat, k + g = 8 ∧ i = .int .i64 k ∧ at_ = .int .i64 ((PM.runTo P k).1 : Int) ∧ long = .int .i64 ((PM.runTo P k).2 : Int) ∧ wr = W)
  case atStart => exact ⟨0, by omega, rfl, rfl, rfl, rfl⟩
  case round =>
    obtain ⟨k, hkg, rfl, rfl, rfl, rfl⟩ := hrel
    cases gk with
    | zero =>
      have hk : k = 8 := by omega
      subst hk
      by_cases h2 : (PM.runTo P 8).2 < 2
      · have h2' : ((PM.runTo P 8).2 : Int) < 2 := by omega
        have hr : PM.run P = (0, 0) := by simp [PM.run, h2]
        go_wp2
        go_ret2
        rw [hP, hr]
        exact ⟨rfl, hb⟩
      · have h2' : ¬ ((PM.runTo P 8).2 : Int) < 2 := by omega
        have hr : PM.run P = PM.runTo P 8 := by simp [PM.run, h2]
        go_wp2
        go_ret2
        rw [hP, hr]
        exact ⟨rfl, hb⟩
    | succ g =>
      have hk8 : (k : Int) < 8 := by omega
      have hk8' : k < 8 := by omega
      have hst := PM.runTo_succ P k
      have HS := Lib.hid hst
      clear hst
      have hsl := slice8_l w.heap.size k hk8' wr
      go_wp2
      clear hsl
      go_loopg [7, 16] (8 - k) (fun g2 n j wq => ∃ t : Nat, t + g2 = 8 - k ∧ n = .int .i64 t ∧ j = .int .i64 t ∧ Hid (∀ u, u < t → (P.drop k).getD u 0 = 0) ∧ wq = wr)
      case atStart => exact ⟨0, by omega, rfl, rfl, Lib.hid (fun u hu => absurd hu (by omega)), rfl⟩
      case round =>
        obtain ⟨t, htg, rfl, rfl, HZ, rfl⟩ := hrel
        cases gk with
        | zero =>
          have htk : t = 8 - k := by omega
          have hz : PM.zeros (P.drop k) = 8 - k := by
            rw [PM.zeros_all _ (fun u hu => HZ.out u (by simp [hlen] at hu; omega))]
            simp [hlen]
          have hz' := Lib.hid hz
          clear hz
          by_cases hgt : 8 - k > (PM.runTo P k).2
          · have hgt' : ((PM.runTo P k).2 : Int) < ((8 - k : Nat) : Int) := by omega
            subst htk
            go_wp2
            go_roundg g
            case measure => omega
            case rel =>
              have e : PM.runTo P (k + 1) = (k, 8 - k) := by rw [HS.out, PM.runStep, hz'.out, if_pos hgt]
              exact ⟨k + 1, by omega, congrArg (Value.int .i64) (by omega), by rw [e], by rw [e], rfl⟩
          · have hgt' : ¬ ((PM.runTo P k).2 : Int) < ((8 - k : Nat) : Int) := by omega
            subst htk
            go_wp2
            go_roundg g
            case measure => omega
            case rel =>
              have e : PM.runTo P (k + 1) = PM.runTo P k := by rw [HS.out, PM.runStep, hz'.out, if_neg hgt]
              exact ⟨k + 1, by omega, congrArg (Value.int .i64) (by omega), by rw [e], by rw [e], rfl⟩
        | succ g2 =>
          have htk : t < 8 - k := by omega
          have hgd : (P.drop k).getD t 0 = P.getD (k + t) 0 := by simp [List.getD_eq_getElem?_getD]
          have hcell := HC.out (k + t) (by omega)
          by_cases hz : P.getD (k + t) 0 = 0
          · rw [hz] at hcell
            rw [hz] at hgd
            have HG := Lib.hid hgd
            clear hgd hz
            go_wp2
            go_roundg g2
            case measure => omega
            case rel =>
              refine ⟨t + 1, by omega, congrArg (Value.int .i64) (by omega), congrArg (Value.int .i64) (by omega), Lib.hid (fun u hu => ?_), rfl⟩
              by_cases e : u = t
              · rw [e]; exact HG.out
              · exact HZ.out u (by omega)
          · have hzz : PM.zeros (P.drop k) = t := PM.zeros_hit _ t (by simp [hlen]; omega) (fun u hu => HZ.out u hu) (by rw [hgd]; exact hz)
            have hz' := Lib.hid hzz
            clear hzz hgd
            generalize P.getD (k + t) 0 = x at hz hcell
            by_cases hgt : t ≤ (PM.runTo P k).2
            · have hgt' : (t : Int) ≤ ((PM.runTo P k).2 : Int) := by omega
              go_wp2
              go_roundg g
              case measure => omega
              case rel =>
                have e : PM.runTo P (k + 1) = PM.runTo P k := by rw [HS.out, PM.runStep, hz'.out, if_neg (by omega)]
                exact ⟨k + 1, by omega, congrArg (Value.int .i64) (by omega), by rw [e], by rw [e], rfl⟩
            · have hgt' : ((PM.runTo P k).2 : Int) < (t : Int) := by omega
              go_wp2
              go_roundg g
              case measure => omega
              case rel =>
                have e : PM.runTo P (k + 1) = (k, t) := by rw [HS.out, PM.runStep, hz'.out, if_pos (by omega)]
                exact ⟨k + 1, by omega, congrArg (Value.int .i64) (by omega), by rw [e], by rw [e], rfl⟩
end Go.Proofs.YtgegnnojobmdcaaGreatDoor
