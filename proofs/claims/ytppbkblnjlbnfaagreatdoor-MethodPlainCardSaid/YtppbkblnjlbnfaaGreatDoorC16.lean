import Derived.Test.YtppbkblnjlbnfaaGreatDoorC15
import Derived.Handy
/-! Contracts: host.May, host.Show. -/
set_option linter.unusedVariables false
namespace Go.Proofs.YtppbkblnjlbnfaaGreatDoor
open Go.RowKit
theorem ofV_no (h : PM.Host) (e : PM.hostMay h = false) : ofV h = .nilIface := by simp [ofV, e]
theorem ofV_yes (h : PM.Host) (e : PM.hostMay h = true) : ∃ t x, ofV h = .iface t x := by
  unfold ofV
  rw [if_pos e]
  split
  · exact ⟨_, _, rfl⟩
  · split
    · exact ⟨_, _, rfl⟩
    · exact ⟨_, _, rfl⟩
set_option maxRecDepth 100000 in
set_option maxHeartbeats 1000000 in
theorem hostMay_c (k : Int) (n : List UInt8) (m : Int) (s0 s1 s2 s3 s4 s5 s6 s7 : Int) (hn : n.length ≤ 1000000) (w : World) (hg : Gl w) :
    Calls Tryz.prog 78 #[(.agg #[.int .i64 k, .string (mkS n), .int .i64 m, .int .i64 s0, .int .i64 s1, .int .i64 s2, .int .i64 s3, .int .i64 s4, .int .i64 s5, .int .i64 s6, .int .i64 s7])] w fun e w' => e = .returned (.bool (PM.hostMay ⟨k, n, m, [s0, s1, s2, s3, s4, s5, s6, s7]⟩)) ∧ Below w.heap.size w w' := by
  have hb0 : Below w.heap.size w (w.alloc (Obj.cells #[.int .i64 k, .string (mkS n), .int .i64 m, .int .i64 s0, .int .i64 s1, .int .i64 s2, .int .i64 s3, .int .i64 s4, .int .i64 s5, .int .i64 s6, .int .i64 s7] 24)) := by (repeat (first | exact Below.refl _ _ | apply b_alloc | apply b_drew | apply b_drewN | assumption | (refine b_then ?_ (by assumption))))
  have HG := Lib.hid hg
  clear hg
  go_enter Tryz.func78, Tryz.ntmps78
  go_wp2_with fail
  refine (of_c k n m s0 s1 s2 s3 s4 s5 s6 s7 hn _ (HG.out.below hb0)).mono ?_
  cases hm : PM.hostMay ⟨k, n, m, [s0, s1, s2, s3, s4, s5, s6, s7]⟩
  · rw [ofV_no _ hm]
    rintro e w1 ⟨rfl, hb1⟩
    go_wp2
    go_ret
    exact ⟨ret_bool hm.symm, by (repeat (first | exact Below.refl _ _ | apply b_alloc | apply b_drew | apply b_drewN | assumption | (refine b_then ?_ (by assumption))))⟩
  · obtain ⟨t, x, hx⟩ := ofV_yes _ hm
    rw [hx]
    rintro e w1 ⟨rfl, hb1⟩
    go_wp2
    go_ret
    exact ⟨ret_bool hm.symm, by (repeat (first | exact Below.refl _ _ | apply b_alloc | apply b_drew | apply b_drewN | assumption | (refine b_then ?_ (by assumption))))⟩
theorem show_domain_c (s : List UInt8) (w : World) : Calls Tryz.prog 241 #[.string (mkS s)] w fun e w' => e = .returned (.string (mkS s)) ∧ w' = w := by
  go_enter Tryz.func241, Tryz.ntmps241
  go_wp2
  go_ret
  exact ⟨rfl, rfl⟩
theorem show_number_c (m : Int) (w : World) : Calls Tryz.prog 242 #[.int .i64 m] w fun e w' => e = .returned (.string (mkS (PM.fourShow m))) ∧ Below w.heap.size w w' := by
  go_enter Tryz.func242, Tryz.ntmps242
  go_wp2_with fail
  refine (fourShow_c m _).mono ?_
  rintro e w1 ⟨rfl, hb⟩
  go_wp2
  go_ret
  exact ⟨rfl, hb⟩
theorem sixShow_len (P : List Int) (h : P.length = 8) : (PM.sixShow P).length ≤ 3000 := by
  unfold PM.sixShow
  split
  · rename_i hm
    have hx : ∀ x ∈ P, 0 ≤ x ∧ x ≤ 65535 := fun x hx => by
      unfold PM.sixMay at hm
      simpa using List.all_eq_true.1 hm x hx
    split
    · exact Nat.le_trans (sixJoin_len P hx (by omega)) (by decide)
    · have h1 := sixJoin_len (P.take (PM.run P).1) (fun x hx' => hx x (List.mem_of_mem_take hx')) (by simp; omega)
      have h2 := sixJoin_len (P.drop ((PM.run P).1 + (PM.run P).2)) (fun x hx' => hx x (List.mem_of_mem_drop hx')) (by simp; omega)
      simp
      omega
  · simp
set_option maxRecDepth 100000 in
theorem show_pieces_c (s0 s1 s2 s3 s4 s5 s6 s7 : Int) (w : World) : Calls Tryz.prog 243 #[.agg #[.int .i64 s0, .int .i64 s1, .int .i64 s2, .int .i64 s3, .int .i64 s4, .int .i64 s5, .int .i64 s6, .int .i64 s7]] w fun e w' => e = .returned (.string (mkS (91 :: (PM.sixShow [s0, s1, s2, s3, s4, s5, s6, s7] ++ [93])))) ∧ Below w.heap.size w w' := by
  have hlen := sixShow_len [s0, s1, s2, s3, s4, s5, s6, s7] rfl
  have hb0 : Below w.heap.size w (w.alloc (Obj.cells #[.int .i64 s0, .int .i64 s1, .int .i64 s2, .int .i64 s3, .int .i64 s4, .int .i64 s5, .int .i64 s6, .int .i64 s7] 180)) := by (repeat (first | exact Below.refl _ _ | apply b_alloc | apply b_drew | apply b_drewN | assumption | (refine b_then ?_ (by assumption))))
  go_enter Tryz.func243, Tryz.ntmps243
  go_wp2_with fail
  refine (sixShow_c s0 s1 s2 s3 s4 s5 s6 s7 _).mono ?_
  rintro e w1 ⟨rfl, hb⟩
  go_wp2
  go_ret
  refine ⟨?_, by (repeat (first | exact Below.refl _ _ | apply b_alloc | apply b_drew | apply b_drewN | assumption | (refine b_then ?_ (by assumption))))⟩
  show Ending.returned (.string (mkS [91] ++ mkS (PM.sixShow [s0, s1, s2, s3, s4, s5, s6, s7]) ++ mkS [93])) = _
  rw [mkS_append, mkS_append]
  rfl
set_option maxRecDepth 100000 in
set_option maxHeartbeats 1000000 in
theorem hostShow_c (k : Int) (n : List UInt8) (m : Int) (s0 s1 s2 s3 s4 s5 s6 s7 : Int) (hn : n.length ≤ 1000000) (w : World) (hg : Gl w) :
    Calls Tryz.prog 92 #[(.agg #[.int .i64 k, .string (mkS n), .int .i64 m, .int .i64 s0, .int .i64 s1, .int .i64 s2, .int .i64 s3, .int .i64 s4, .int .i64 s5, .int .i64 s6, .int .i64 s7])] w fun e w' => e = .returned (.string (mkS (PM.hostShow ⟨k, n, m, [s0, s1, s2, s3, s4, s5, s6, s7]⟩))) ∧ Below w.heap.size w w' := by
  have hb0 : Below w.heap.size w (w.alloc (Obj.cells #[.int .i64 k, .string (mkS n), .int .i64 m, .int .i64 s0, .int .i64 s1, .int .i64 s2, .int .i64 s3, .int .i64 s4, .int .i64 s5, .int .i64 s6, .int .i64 s7] 24)) := by (repeat (first | exact Below.refl _ _ | apply b_alloc | apply b_drew | apply b_drewN | assumption | (refine b_then ?_ (by assumption))))
  have HG := Lib.hid hg
  clear hg
  go_enter Tryz.func92, Tryz.ntmps92
  go_wp2_with fail
  refine (of_c k n m s0 s1 s2 s3 s4 s5 s6 s7 hn _ (HG.out.below hb0)).mono ?_
  cases hm : PM.hostMay ⟨k, n, m, [s0, s1, s2, s3, s4, s5, s6, s7]⟩
  · rw [ofV_no _ hm]
    rintro e w1 ⟨rfl, hb1⟩
    go_wp2
    go_ret
    exact ⟨ret_str (by simp [PM.hostShow, hm]), by (repeat (first | exact Below.refl _ _ | apply b_alloc | apply b_drew | apply b_drewN | assumption | (refine b_then ?_ (by assumption))))⟩
  · unfold ofV
    rw [if_pos hm]
    by_cases h1 : k = 1
    · subst h1
      rintro e w1 ⟨rfl, hb1⟩
      simp only [if_true]
      go_wp2_with fail
      refine (show_domain_c n _).mono ?_
      rintro e w2 ⟨rfl, rfl⟩
      go_wp2
      go_ret
      exact ⟨ret_str (by simp [PM.hostShow, hm]), by (repeat (first | exact Below.refl _ _ | apply b_alloc | apply b_drew | apply b_drewN | assumption | (refine b_then ?_ (by assumption))))⟩
    · by_cases h2 : k = 2
      · subst h2
        rw [if_neg (show ¬ (2 : Int) = 1 by decide), if_pos rfl]
        rintro e w1 ⟨rfl, hb1⟩
        go_wp2_with fail
        refine (show_number_c m _).mono ?_
        rintro e w2 ⟨rfl, hb2⟩
        go_wp2
        go_ret
        exact ⟨ret_str (by simp [PM.hostShow, hm]), by (repeat (first | exact Below.refl _ _ | apply b_alloc | apply b_drew | apply b_drewN | assumption | (refine b_then ?_ (by assumption))))⟩
      · rw [if_neg h1, if_neg h2]
        rintro e w1 ⟨rfl, hb1⟩
        simp only [ints, List.map_cons, List.map_nil]
        go_wp2_with fail
        refine (show_pieces_c s0 s1 s2 s3 s4 s5 s6 s7 _).mono ?_
        rintro e w2 ⟨rfl, hb2⟩
        go_wp2
        go_ret
        exact ⟨ret_str (by simp [PM.hostShow, hm, h1, h2]), by (repeat (first | exact Below.refl _ _ | apply b_alloc | apply b_drew | apply b_drewN | assumption | (refine b_then ?_ (by assumption))))⟩
end Go.Proofs.YtppbkblnjlbnfaaGreatDoor
