import Derived.Test.YtppbkblnjlbnfaaGreatDoorC13
set_option linter.unusedVariables false
set_option linter.unusedSimpArgs false
/-! Contract: host.of. -/
namespace Go.Proofs.YtppbkblnjlbnfaaGreatDoor
open Go.RowKit
/-- A host lies at block b. -/
def HostAt (W : World) (b : Nat) (k : Int) (n : List UInt8) (m : Int) (s0 s1 s2 s3 s4 s5 s6 s7 : Int) : Prop :=
  W.cell? ⟨b, 0, none⟩ = some (.int .i64 k) ∧ W.cell? ⟨b, 1, none⟩ = some (.string (mkS n)) ∧ W.cell? ⟨b, 2, none⟩ = some (.int .i64 m) ∧ W.cell? ⟨b, 3, none⟩ = some (.int .i64 s0) ∧ W.cell? ⟨b, 4, none⟩ = some (.int .i64 s1) ∧ W.cell? ⟨b, 5, none⟩ = some (.int .i64 s2) ∧ W.cell? ⟨b, 6, none⟩ = some (.int .i64 s3) ∧ W.cell? ⟨b, 7, none⟩ = some (.int .i64 s4) ∧ W.cell? ⟨b, 8, none⟩ = some (.int .i64 s5) ∧ W.cell? ⟨b, 9, none⟩ = some (.int .i64 s6) ∧ W.cell? ⟨b, 10, none⟩ = some (.int .i64 s7)
theorem HostAt.below {w W : World} {b : Nat} {k : Int} {n : List UInt8} {m : Int} {s0 s1 s2 s3 s4 s5 s6 s7 : Int} (h : HostAt w b k n m s0 s1 s2 s3 s4 s5 s6 s7) (hb : Below w.heap.size w W) : HostAt W b k n m s0 s1 s2 s3 s4 s5 s6 s7 := by
  obtain ⟨c0, c1, c2, c3, c4, c5, c6, c7, c8, c9, c10⟩ := h
  exact ⟨cell_b hb c0, cell_b hb c1, cell_b hb c2, cell_b hb c3, cell_b hb c4, cell_b hb c5, cell_b hb c6, cell_b hb c7, cell_b hb c8, cell_b hb c9, cell_b hb c10⟩
theorem HostAt.new (w : World) (k : Int) (n : List UInt8) (m : Int) (s0 s1 s2 s3 s4 s5 s6 s7 : Int) : HostAt (w.alloc (Obj.cells #[.int .i64 k, .string (mkS n), .int .i64 m, .int .i64 s0, .int .i64 s1, .int .i64 s2, .int .i64 s3, .int .i64 s4, .int .i64 s5, .int .i64 s6, .int .i64 s7] 24)) w.heap.size k n m s0 s1 s2 s3 s4 s5 s6 s7 := by
  refine ⟨?_, ?_, ?_, ?_, ?_, ?_, ?_, ?_, ?_, ?_, ?_⟩ <;> go_simp
/-- What a host is. -/
def ofV (h : PM.Host) : Value := if PM.hostMay h then (if h.kind = 1 then .iface 177 (.string (mkS h.name)) else if h.kind = 2 then .iface 178 (.int .i64 h.num) else .iface 180 (.agg (ints h.six))) else .nilIface
set_option maxRecDepth 100000 in
set_option maxHeartbeats 2000000 in
theorem of_1 (n : List UInt8) (m : Int) (s0 s1 s2 s3 s4 s5 s6 s7 : Int) (hn : n.length ≤ 1000000) (w : World) (hg : Gl w) :
    Calls Tryz.prog 105 #[(.agg #[.int .i64 1, .string (mkS n), .int .i64 m, .int .i64 s0, .int .i64 s1, .int .i64 s2, .int .i64 s3, .int .i64 s4, .int .i64 s5, .int .i64 s6, .int .i64 s7])] w fun e w' => e = .returned (ofV ⟨1, n, m, [s0, s1, s2, s3, s4, s5, s6, s7]⟩) ∧ Below w.heap.size w w' := by
  have hA := HostAt.new w 1 n m s0 s1 s2 s3 s4 s5 s6 s7
  have hb0 : Below w.heap.size w (w.alloc (Obj.cells #[.int .i64 1, .string (mkS n), .int .i64 m, .int .i64 s0, .int .i64 s1, .int .i64 s2, .int .i64 s3, .int .i64 s4, .int .i64 s5, .int .i64 s6, .int .i64 s7] 24)) := by (repeat (first | exact Below.refl _ _ | apply b_alloc | apply b_drew | apply b_drewN | assumption | (refine b_then ?_ (by assumption))))
  have HG := Lib.hid hg
  clear hg
  go_enter Tryz.func105, Tryz.ntmps105
  go_wp2_with fail
  generalize w.alloc (Obj.cells #[.int .i64 1, .string (mkS n), .int .i64 m, .int .i64 s0, .int .i64 s1, .int .i64 s2, .int .i64 s3, .int .i64 s4, .int .i64 s5, .int .i64 s6, .int .i64 s7] 24) = W0 at hA hb0 ⊢
  refine (fits_c n hn _ (HG.out.below hb0)).mono ?_
  rintro e W1 ⟨rfl, hb1⟩
  replace hA := hA.below hb1
  replace hb0 := b_then hb0 hb1
  clear hb1
  have HA := Lib.hid hA
  obtain ⟨c0, c1, c2, c3, c4, c5, c6, c7, c8, c9, c10⟩ := hA
  cases hf : PM.fits n
  · go_wp2
    go_region
    go_wp2
    go_ret
    exact ⟨by simp [ofV, PM.hostMay, hf], by (repeat (first | exact Below.refl _ _ | apply b_alloc | apply b_drew | apply b_drewN | assumption | (refine b_then ?_ (by assumption))))⟩
  · have hq : ∀ W : World, (Op.equalIn 10000 24 (.agg #[.int .i64 1, .string (mkS n), .int .i64 0, .int .i64 0, .int .i64 0, .int .i64 0, .int .i64 0, .int .i64 0, .int .i64 0, .int .i64 0, .int .i64 0]) (.agg #[.int .i64 1, .string (mkS n), .int .i64 m, .int .i64 s0, .int .i64 s1, .int .i64 s2, .int .i64 s3, .int .i64 s4, .int .i64 s5, .int .i64 s6, .int .i64 s7])).run Tryz.prog W = .ok (decide (m = 0) && decide ([s0, s1, s2, s3, s4, s5, s6, s7] = PM.noSix)) W := fun W => by
      rw [eq_host]
      congr 1
      rw [decide_eq_true (rfl : (1 : Int) = 1), decide_eq_true (rfl : n = n), Bool.true_and, Bool.true_and]
      congr 1 <;> rw [decide_eq_decide] <;> exact eq_comm
    have hmay : PM.hostMay ⟨1, n, m, [s0, s1, s2, s3, s4, s5, s6, s7]⟩ = (decide (m = 0) && decide ([s0, s1, s2, s3, s4, s5, s6, s7] = PM.noSix)) := by simp [PM.hostMay, hf]
    have HM := Lib.hid hmay
    clear hmay
    generalize (decide (m = 0) && decide ([s0, s1, s2, s3, s4, s5, s6, s7] = PM.noSix)) = D at hq HM
    cases D
    · go_wp2
      go_region_with (go_at_call 143; refine (host_domain_c n _).mono ?_; rintro e W2 ⟨rfl, hb2⟩; have hb3 : Below W1.heap.size W1 W2 := b_below_drew hb2; have hB := HA.out.below hb3; obtain ⟨d0, d1, d2, d3, d4, d5, d6, d7, d8, d9, d10⟩ := hB)
      all_goals go_wp2
      all_goals go_ret
      all_goals exact ⟨by rw [ofV, HM.out]; rfl, by (repeat (first | exact Below.refl _ _ | apply b_alloc | apply b_drew | apply b_drewN | assumption | (refine b_then ?_ (by assumption))))⟩
    · go_wp2
      go_region_with (go_at_call 143; refine (host_domain_c n _).mono ?_; rintro e W2 ⟨rfl, hb2⟩; have hb3 : Below W1.heap.size W1 W2 := b_below_drew hb2; have hB := HA.out.below hb3; obtain ⟨d0, d1, d2, d3, d4, d5, d6, d7, d8, d9, d10⟩ := hB)
      all_goals go_wp2
      all_goals go_ret
      all_goals exact ⟨by rw [ofV, HM.out]; rfl, by (repeat (first | exact Below.refl _ _ | apply b_alloc | apply b_drew | apply b_drewN | assumption | (refine b_then ?_ (by assumption))))⟩
end Go.Proofs.YtppbkblnjlbnfaaGreatDoor
/-! Contract: host.of, the other kinds. -/
namespace Go.Proofs.YtppbkblnjlbnfaaGreatDoor
open Go.RowKit
set_option maxRecDepth 100000 in
set_option maxHeartbeats 2000000 in
theorem of_2 (n : List UInt8) (m : Int) (s0 s1 s2 s3 s4 s5 s6 s7 : Int) (w : World) :
    Calls Tryz.prog 105 #[(.agg #[.int .i64 2, .string (mkS n), .int .i64 m, .int .i64 s0, .int .i64 s1, .int .i64 s2, .int .i64 s3, .int .i64 s4, .int .i64 s5, .int .i64 s6, .int .i64 s7])] w fun e w' => e = .returned (ofV ⟨2, n, m, [s0, s1, s2, s3, s4, s5, s6, s7]⟩) ∧ Below w.heap.size w w' := by
  have hA := HostAt.new w 2 n m s0 s1 s2 s3 s4 s5 s6 s7
  have hb0 : Below w.heap.size w (w.alloc (Obj.cells #[.int .i64 2, .string (mkS n), .int .i64 m, .int .i64 s0, .int .i64 s1, .int .i64 s2, .int .i64 s3, .int .i64 s4, .int .i64 s5, .int .i64 s6, .int .i64 s7] 24)) := by (repeat (first | exact Below.refl _ _ | apply b_alloc | apply b_drew | apply b_drewN | assumption | (refine b_then ?_ (by assumption))))
  go_enter Tryz.func105, Tryz.ntmps105
  go_wp2_with fail
  generalize w.alloc (Obj.cells #[.int .i64 2, .string (mkS n), .int .i64 m, .int .i64 s0, .int .i64 s1, .int .i64 s2, .int .i64 s3, .int .i64 s4, .int .i64 s5, .int .i64 s6, .int .i64 s7] 24) = W0 at hA hb0 ⊢
  refine (fourShow_c m _).mono ?_
  rintro e W1 ⟨rfl, hb1⟩
  replace hA := hA.below hb1
  replace hb0 := b_then hb0 hb1
  clear hb1
  have HA := Lib.hid hA
  obtain ⟨c0, c1, c2, c3, c4, c5, c6, c7, c8, c9, c10⟩ := hA
  cases hf : (PM.fourShow m).isEmpty
  · have hq : ∀ W : World, (Op.equalIn 10000 24 (.agg #[.int .i64 2, .string ⟨#[]⟩, .int .i64 m, .int .i64 0, .int .i64 0, .int .i64 0, .int .i64 0, .int .i64 0, .int .i64 0, .int .i64 0, .int .i64 0]) (.agg #[.int .i64 2, .string (mkS n), .int .i64 m, .int .i64 s0, .int .i64 s1, .int .i64 s2, .int .i64 s3, .int .i64 s4, .int .i64 s5, .int .i64 s6, .int .i64 s7])).run Tryz.prog W = .ok (n.isEmpty && decide ([s0, s1, s2, s3, s4, s5, s6, s7] = PM.noSix)) W := fun W => by
      refine (eq_host 2 2 [] n m m 0 0 0 0 0 0 0 0 s0 s1 s2 s3 s4 s5 s6 s7 W).trans ?_
      congr 1
      rw [decide_eq_true (rfl : (2 : Int) = 2), decide_eq_true (rfl : m = m), Bool.true_and, Bool.true_and]
      congr 1
      · cases n <;> simp
      · rw [decide_eq_decide]; exact eq_comm
    have hmay : PM.hostMay ⟨2, n, m, [s0, s1, s2, s3, s4, s5, s6, s7]⟩ = (n.isEmpty && decide ([s0, s1, s2, s3, s4, s5, s6, s7] = PM.noSix)) := by simp [PM.hostMay, hf]
    have HM := Lib.hid hmay
    clear hmay
    generalize (n.isEmpty && decide ([s0, s1, s2, s3, s4, s5, s6, s7] = PM.noSix)) = D at hq HM
    cases D
    · go_wp2
      go_region_with (go_at_call 143; refine (host_number_c m _).mono ?_; rintro e W2 ⟨rfl, hb2⟩; have hb3 : Below W1.heap.size W1 W2 := b_below_drew hb2; have hB := HA.out.below hb3; obtain ⟨d0, d1, d2, d3, d4, d5, d6, d7, d8, d9, d10⟩ := hB)
      all_goals go_wp2
      all_goals go_ret
      all_goals exact ⟨by rw [ofV, HM.out]; rfl, by (repeat (first | exact Below.refl _ _ | apply b_alloc | apply b_drew | apply b_drewN | assumption | (refine b_then ?_ (by assumption))))⟩
    · go_wp2
      go_region_with (go_at_call 143; refine (host_number_c m _).mono ?_; rintro e W2 ⟨rfl, hb2⟩; have hb3 : Below W1.heap.size W1 W2 := b_below_drew hb2; have hB := HA.out.below hb3; obtain ⟨d0, d1, d2, d3, d4, d5, d6, d7, d8, d9, d10⟩ := hB)
      all_goals go_wp2
      all_goals go_ret
      all_goals exact ⟨by rw [ofV, HM.out]; rfl, by (repeat (first | exact Below.refl _ _ | apply b_alloc | apply b_drew | apply b_drewN | assumption | (refine b_then ?_ (by assumption))))⟩
  · go_wp2
    go_region
    go_wp2
    go_ret
    exact ⟨by simp [ofV, PM.hostMay, hf], by (repeat (first | exact Below.refl _ _ | apply b_alloc | apply b_drew | apply b_drewN | assumption | (refine b_then ?_ (by assumption))))⟩
set_option maxRecDepth 100000 in
set_option maxHeartbeats 2000000 in
theorem of_3 (n : List UInt8) (m : Int) (s0 s1 s2 s3 s4 s5 s6 s7 : Int) (w : World) :
    Calls Tryz.prog 105 #[(.agg #[.int .i64 3, .string (mkS n), .int .i64 m, .int .i64 s0, .int .i64 s1, .int .i64 s2, .int .i64 s3, .int .i64 s4, .int .i64 s5, .int .i64 s6, .int .i64 s7])] w fun e w' => e = .returned (ofV ⟨3, n, m, [s0, s1, s2, s3, s4, s5, s6, s7]⟩) ∧ Below w.heap.size w w' := by
  have hA := HostAt.new w 3 n m s0 s1 s2 s3 s4 s5 s6 s7
  have hb0 : Below w.heap.size w (w.alloc (Obj.cells #[.int .i64 3, .string (mkS n), .int .i64 m, .int .i64 s0, .int .i64 s1, .int .i64 s2, .int .i64 s3, .int .i64 s4, .int .i64 s5, .int .i64 s6, .int .i64 s7] 24)) := by (repeat (first | exact Below.refl _ _ | apply b_alloc | apply b_drew | apply b_drewN | assumption | (refine b_then ?_ (by assumption))))
  go_enter Tryz.func105, Tryz.ntmps105
  go_wp2_with fail
  generalize w.alloc (Obj.cells #[.int .i64 3, .string (mkS n), .int .i64 m, .int .i64 s0, .int .i64 s1, .int .i64 s2, .int .i64 s3, .int .i64 s4, .int .i64 s5, .int .i64 s6, .int .i64 s7] 24) = W0 at hA hb0 ⊢
  refine (sixMay_c s0 s1 s2 s3 s4 s5 s6 s7 _).mono ?_
  rintro e W1 ⟨rfl, hb1⟩
  replace hA := hA.below hb1
  replace hb0 := b_then hb0 hb1
  clear hb1
  have HA := Lib.hid hA
  obtain ⟨c0, c1, c2, c3, c4, c5, c6, c7, c8, c9, c10⟩ := hA
  cases hf : PM.sixMay [s0, s1, s2, s3, s4, s5, s6, s7]
  · go_wp2
    go_region
    go_wp2
    go_ret
    exact ⟨by simp [ofV, PM.hostMay, hf], by (repeat (first | exact Below.refl _ _ | apply b_alloc | apply b_drew | apply b_drewN | assumption | (refine b_then ?_ (by assumption))))⟩
  · have hq : ∀ W : World, (Op.equalIn 10000 24 (.agg #[.int .i64 3, .string ⟨#[]⟩, .int .i64 0, .int .i64 s0, .int .i64 s1, .int .i64 s2, .int .i64 s3, .int .i64 s4, .int .i64 s5, .int .i64 s6, .int .i64 s7]) (.agg #[.int .i64 3, .string (mkS n), .int .i64 m, .int .i64 s0, .int .i64 s1, .int .i64 s2, .int .i64 s3, .int .i64 s4, .int .i64 s5, .int .i64 s6, .int .i64 s7])).run Tryz.prog W = .ok (n.isEmpty && decide (m = 0)) W := fun W => by
      refine (eq_host 3 3 [] n 0 m s0 s1 s2 s3 s4 s5 s6 s7 s0 s1 s2 s3 s4 s5 s6 s7 W).trans ?_
      congr 1
      rw [decide_eq_true (rfl : (3 : Int) = 3), decide_eq_true (rfl : [s0, s1, s2, s3, s4, s5, s6, s7] = [s0, s1, s2, s3, s4, s5, s6, s7]), Bool.true_and, Bool.and_true]
      congr 1
      · cases n <;> simp
      · rw [decide_eq_decide]; exact eq_comm
    have hmay : PM.hostMay ⟨3, n, m, [s0, s1, s2, s3, s4, s5, s6, s7]⟩ = (n.isEmpty && decide (m = 0)) := by simp [PM.hostMay, hf]
    have HM := Lib.hid hmay
    clear hmay
    generalize (n.isEmpty && decide (m = 0)) = D at hq HM
    cases D
    · go_wp2
      go_region_with (go_at_call 143; refine (host_pieces_c s0 s1 s2 s3 s4 s5 s6 s7 _).mono ?_; rintro e W2 ⟨rfl, hb2⟩; have hb3 : Below W1.heap.size W1 W2 := b_below_drew hb2; have hB := HA.out.below hb3; obtain ⟨d0, d1, d2, d3, d4, d5, d6, d7, d8, d9, d10⟩ := hB)
      all_goals go_wp2
      all_goals go_ret
      all_goals exact ⟨by rw [ofV, HM.out]; rfl, by (repeat (first | exact Below.refl _ _ | apply b_alloc | apply b_drew | apply b_drewN | assumption | (refine b_then ?_ (by assumption))))⟩
    · go_wp2
      go_region_with (go_at_call 143; refine (host_pieces_c s0 s1 s2 s3 s4 s5 s6 s7 _).mono ?_; rintro e W2 ⟨rfl, hb2⟩; have hb3 : Below W1.heap.size W1 W2 := b_below_drew hb2; have hB := HA.out.below hb3; obtain ⟨d0, d1, d2, d3, d4, d5, d6, d7, d8, d9, d10⟩ := hB)
      all_goals go_wp2
      all_goals go_ret
      all_goals exact ⟨by rw [ofV, HM.out]; rfl, by (repeat (first | exact Below.refl _ _ | apply b_alloc | apply b_drew | apply b_drewN | assumption | (refine b_then ?_ (by assumption))))⟩
set_option maxRecDepth 100000 in
set_option maxHeartbeats 2000000 in
theorem of_0 (k : Int) (h1 : k ≠ 1) (h2 : k ≠ 2) (h3 : k ≠ 3) (n : List UInt8) (m : Int) (s0 s1 s2 s3 s4 s5 s6 s7 : Int) (w : World) :
    Calls Tryz.prog 105 #[(.agg #[.int .i64 k, .string (mkS n), .int .i64 m, .int .i64 s0, .int .i64 s1, .int .i64 s2, .int .i64 s3, .int .i64 s4, .int .i64 s5, .int .i64 s6, .int .i64 s7])] w fun e w' => e = .returned (ofV ⟨k, n, m, [s0, s1, s2, s3, s4, s5, s6, s7]⟩) ∧ Below w.heap.size w w' := by
  have hA := HostAt.new w k n m s0 s1 s2 s3 s4 s5 s6 s7
  have hb0 : Below w.heap.size w (w.alloc (Obj.cells #[.int .i64 k, .string (mkS n), .int .i64 m, .int .i64 s0, .int .i64 s1, .int .i64 s2, .int .i64 s3, .int .i64 s4, .int .i64 s5, .int .i64 s6, .int .i64 s7] 24)) := by (repeat (first | exact Below.refl _ _ | apply b_alloc | apply b_drew | apply b_drewN | assumption | (refine b_then ?_ (by assumption))))
  have e1 : (k == 1) = false := by simpa using h1
  have e2 : (k == 2) = false := by simpa using h2
  have e3 : (k == 3) = false := by simpa using h3
  have HH : Hid (PM.hostMay ⟨k, n, m, [s0, s1, s2, s3, s4, s5, s6, s7]⟩ = false) := Lib.hid (by simp [PM.hostMay, h1, h2, h3])
  clear h1 h2 h3
  go_enter Tryz.func105, Tryz.ntmps105
  go_wp2
  go_region
  go_wp2
  go_ret
  exact ⟨by simp [ofV, HH.out], by (repeat (first | exact Below.refl _ _ | apply b_alloc | apply b_drew | apply b_drewN | assumption | (refine b_then ?_ (by assumption))))⟩
theorem of_c (k : Int) (n : List UInt8) (m : Int) (s0 s1 s2 s3 s4 s5 s6 s7 : Int) (hn : n.length ≤ 1000000) (w : World) (hg : Gl w) :
    Calls Tryz.prog 105 #[(.agg #[.int .i64 k, .string (mkS n), .int .i64 m, .int .i64 s0, .int .i64 s1, .int .i64 s2, .int .i64 s3, .int .i64 s4, .int .i64 s5, .int .i64 s6, .int .i64 s7])] w fun e w' => e = .returned (ofV ⟨k, n, m, [s0, s1, s2, s3, s4, s5, s6, s7]⟩) ∧ Below w.heap.size w w' := by
  by_cases h1 : k = 1
  · subst h1; exact of_1 n m s0 s1 s2 s3 s4 s5 s6 s7 hn w hg
  · by_cases h2 : k = 2
    · subst h2; exact of_2 n m s0 s1 s2 s3 s4 s5 s6 s7 w
    · by_cases h3 : k = 3
      · subst h3; exact of_3 n m s0 s1 s2 s3 s4 s5 s6 s7 w
      · exact of_0 k h1 h2 h3 n m s0 s1 s2 s3 s4 s5 s6 s7 w
end Go.Proofs.YtppbkblnjlbnfaaGreatDoor
