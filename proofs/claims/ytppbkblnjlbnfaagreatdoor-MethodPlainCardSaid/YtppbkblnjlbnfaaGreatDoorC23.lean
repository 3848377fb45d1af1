import Derived.Test.YtppbkblnjlbnfaaGreatDoorC22
/-! Contract: url.Same. -/
set_option linter.unusedVariables false
namespace Go.Proofs.YtppbkblnjlbnfaaGreatDoor
open Go.RowKit
theorem Equal_c (a1 a2 : Option Addr) (n c m d : Nat) (xs ys : List (List UInt8)) (w : World) (h1 : RdS w a1 n xs) (h2 : RdS w a2 m ys) :
    Calls Tryz.prog 60 #[.slice a1 n c, .slice a2 m d] w fun e w' => e = .returned (.bool (decide (xs = ys))) ∧ Below w.heap.size w w' := by
  have l1 := h1.len
  have l2 := h2.len
  have s1 := h1.small
  have s2 := h2.small
  rcases Classical.em (n = m) with hnm | hnm
  · subst hnm
    rcases h1.at_ with rfl | ⟨b1, o1, rfl, _, hc1⟩
    · have hn : n = 0 := by simpa using l1.symm
      subst hn
      have : ys = [] := List.eq_nil_of_length_eq_zero l2
      subst this
      refine (Tryz.slices_Equal_string_empty a1 a2 c 0 d w (by decide)).mono ?_
      rintro e w' ⟨rfl, rfl⟩
      exact ⟨rfl, Below.refl _ _⟩
    · rcases h2.at_ with rfl | ⟨b2, o2, rfl, _, hc2⟩
      · have hn : n = 0 := by simpa using l2.symm
        subst hn
        have : xs = [] := List.eq_nil_of_length_eq_zero l1
        subst this
        refine (Tryz.slices_Equal_string_empty _ a2 c 0 d w (by decide)).mono ?_
        rintro e w' ⟨rfl, rfl⟩
        exact ⟨rfl, Below.refl _ _⟩
      · refine (Tryz.slices_Equal_string b1 o1 n c b2 o2 n d (xs.map mkS) (ys.map mkS) w (by simp; omega) (by simp; omega) (by omega) (by omega) ?_ ?_).mono ?_
        · intro j hj
          rw [List.length_map] at hj
          rw [hc1 j hj]
          simp [List.getD, hj]
        · intro j hj
          rw [List.length_map] at hj
          rw [hc2 j hj]
          simp [List.getD, hj]
        · rintro e w' ⟨rfl, q, rfl⟩
          refine ⟨ret_bool ?_, b_drewN (Below.refl _ _) q⟩
          rw [List.take_of_length_le (by simp; omega), List.take_of_length_le (by simp; omega)]
          congr 1
          apply propext
          refine ⟨fun h => ?_, fun h => by rw [h]⟩
          exact List.map_inj_right (fun _ _ h => mkS_inj h) |>.1 h
  · refine (Tryz.slices_Equal_string_lens a1 a2 n c m d w hnm).mono ?_
    rintro e w' ⟨rfl, rfl⟩
    refine ⟨ret_bool ?_, Below.refl _ _⟩
    rw [decide_eq_false]
    rintro rfl
    exact hnm (l1.symm.trans l2)
/-- Two addresses lie in two blocks. -/
structure PairAt (u v : UV) (w W : World) : Prop where
  one : W.heap[w.heap.size]? = some (.cells u.cells 27 (0, 0))
  two : W.heap[w.heap.size + 1]? = some (.cells v.cells 27 (0, 0))
  be : Below w.heap.size w W
theorem PairAt.below {u v : UV} {w W W' : World} (h : PairAt u v w W) (hb : Below W.heap.size W W') : PairAt u v w W' := ⟨heap_b hb h.one, heap_b hb h.two, b_then h.be hb⟩
theorem PairAt.new (u v : UV) (w : World) : PairAt u v w ((w.alloc (.cells u.cells 27)).alloc (.cells v.cells 27)) :=
  ⟨heap_two _ _ _, Go.heap_alloc2_new _ _ _, by (repeat (first | exact Below.refl _ _ | apply b_alloc | apply b_drew | apply b_drewN | assumption | (refine b_then ?_ (by assumption))))⟩
theorem urlSame_eq (u v : UV) : PM.urlSame u.pm v.pm = ((u.sc == v.sc) && ((u.us == v.us) && ((u.pa == v.pa) && ((decide (u.k = v.k) && (decide (u.n = v.n) && (decide (u.m = v.m) && decide ([u.s0, u.s1, u.s2, u.s3, u.s4, u.s5, u.s6, u.s7] = [v.s0, v.s1, v.s2, v.s3, v.s4, v.s5, v.s6, v.s7])))) && ((u.port == v.port) && (decide (u.xs = v.xs) && ((u.op == v.op) && ((u.qu == v.qu) && ((u.fr == v.fr) && ((u.hq == v.hq) && (u.hf == v.hf))))))))))) := by
  have bb : ∀ a b : Bool, (a == b) = decide (a = b) := by decide
  have bi : ∀ a b : Int, (a == b) = decide (a = b) := fun a b => by rw [Bool.eq_iff_iff]; simp
  simp only [beq_list, bb, bi]
  unfold PM.urlSame
  simp only [Bool.and_assoc]
  rfl
set_option maxRecDepth 100000 in
set_option maxHeartbeats 2000000 in
theorem UrlSame_c (u v : UV) (w : World) (hu : u.Ok w) (hv : v.Ok w) : Calls Tryz.prog 27 #[.agg u.cells, .agg v.cells] w fun e w' => e = .returned (.bool (PM.urlSame u.pm v.pm)) ∧ Below w.heap.size w w' := by
  have HP := Lib.hid (PairAt.new u v w)
  have e0 : (w.alloc (.cells u.cells 27)).alloc (.cells v.cells 27) = (w.alloc (.cells #[.string (mkS u.sc), .string (mkS u.us), .string (mkS u.pa), .int .i64 u.k, .string (mkS u.n), .int .i64 u.m, .int .i64 u.s0, .int .i64 u.s1, .int .i64 u.s2, .int .i64 u.s3, .int .i64 u.s4, .int .i64 u.s5, .int .i64 u.s6, .int .i64 u.s7, .int .i64 u.port, .slice u.a u.pn u.pc, .string (mkS u.op), .string (mkS u.qu), .string (mkS u.fr), .bool u.hq, .bool u.hf] 27)).alloc (.cells #[.string (mkS v.sc), .string (mkS v.us), .string (mkS v.pa), .int .i64 v.k, .string (mkS v.n), .int .i64 v.m, .int .i64 v.s0, .int .i64 v.s1, .int .i64 v.s2, .int .i64 v.s3, .int .i64 v.s4, .int .i64 v.s5, .int .i64 v.s6, .int .i64 v.s7, .int .i64 v.port, .slice v.a v.pn v.pc, .string (mkS v.op), .string (mkS v.qu), .string (mkS v.fr), .bool v.hq, .bool v.hf] 27) := rfl
  rw [e0] at HP
  clear e0
  have HU := Lib.hid hu
  have HV := Lib.hid hv
  clear hu hv
  unfold UV.cells
  go_enter Tryz.func27, Tryz.ntmps27
--GEN
  go_upto_region 1 with fail
  generalize (w.alloc (.cells #[.string (mkS u.sc), .string (mkS u.us), .string (mkS u.pa), .int .i64 u.k, .string (mkS u.n), .int .i64 u.m, .int .i64 u.s0, .int .i64 u.s1, .int .i64 u.s2, .int .i64 u.s3, .int .i64 u.s4, .int .i64 u.s5, .int .i64 u.s6, .int .i64 u.s7, .int .i64 u.port, .slice u.a u.pn u.pc, .string (mkS u.op), .string (mkS u.qu), .string (mkS u.fr), .bool u.hq, .bool u.hf] 27)).alloc (.cells #[.string (mkS v.sc), .string (mkS v.us), .string (mkS v.pa), .int .i64 v.k, .string (mkS v.n), .int .i64 v.m, .int .i64 v.s0, .int .i64 v.s1, .int .i64 v.s2, .int .i64 v.s3, .int .i64 v.s4, .int .i64 v.s5, .int .i64 v.s6, .int .i64 v.s7, .int .i64 v.port, .slice v.a v.pn v.pc, .string (mkS v.op), .string (mkS v.qu), .string (mkS v.fr), .bool v.hq, .bool v.hf] 27) = V0 at HP ⊢
  obtain ⟨c0, c1, c2, c3, c4, c5, c6, c7, c8, c9, c10, c11, c12, c13, c14, c15, c16, c17, c18, c19, c20⟩ := UrlAt.of_heap HP.out.one
  obtain ⟨d0, d1, d2, d3, d4, d5, d6, d7, d8, d9, d10, d11, d12, d13, d14, d15, d16, d17, d18, d19, d20⟩ := UrlAt.of_heap HP.out.two
  have hq := eq_host u.k v.k u.n v.n u.m v.m u.s0 u.s1 u.s2 u.s3 u.s4 u.s5 u.s6 u.s7 v.s0 v.s1 v.s2 v.s3 v.s4 v.s5 v.s6 v.s7
  have he := urlSame_eq u v
  generalize (decide (u.k = v.k) && (decide (u.n = v.n) && (decide (u.m = v.m) && decide ([u.s0, u.s1, u.s2, u.s3, u.s4, u.s5, u.s6, u.s7] = [v.s0, v.s1, v.s2, v.s3, v.s4, v.s5, v.s6, v.s7])))) = D at hq he
  have qc := fun W h1 h2 => Equal_c u.a v.a u.pn u.pc v.pn v.pc u.xs v.xs W h1 h2
  generalize decide (u.xs = v.xs) = B6 at qc he
  have QC := Lib.hid qc
  generalize e1 : (u.sc == v.sc) = B1 at he
  generalize e2 : (u.us == v.us) = B2 at he
  generalize e3 : (u.pa == v.pa) = B3 at he
  generalize e5 : (u.port == v.port) = B5 at he
  generalize e7 : (u.op == v.op) = B7 at he
  generalize e8 : (u.qu == v.qu) = B8 at he
  generalize e9 : (u.fr == v.fr) = B9 at he
  generalize e10 : (u.hq == v.hq) = B10 at he
  generalize e11 : (u.hf == v.hf) = B11 at he
  have HE := Lib.hid he
  clear he qc
  go_wp2_with (go_at_call 60; refine (QC.out _ (HU.out.rd.below HP.out.be) (HV.out.rd.below HP.out.be)).mono ?_; rintro e V1 ⟨rfl, hb1⟩; replace HP := Lib.hid (HP.out.below hb1); obtain ⟨c0, c1, c2, c3, c4, c5, c6, c7, c8, c9, c10, c11, c12, c13, c14, c15, c16, c17, c18, c19, c20⟩ := UrlAt.of_heap HP.out.one; obtain ⟨d0, d1, d2, d3, d4, d5, d6, d7, d8, d9, d10, d11, d12, d13, d14, d15, d16, d17, d18, d19, d20⟩ := UrlAt.of_heap HP.out.two)
  all_goals go_ret
  all_goals exact ⟨ret_bool (by rw [HE.out]; simp [*]), HP.out.be⟩
end Go.Proofs.YtppbkblnjlbnfaaGreatDoor
