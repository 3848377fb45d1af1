import Derived.Test.YtppbkblnjlbnfaaGreatDoorC12
import Derived.Laws.Tables
import Derived.Laws.Rows
/-! Contracts: package host. -/
set_option linter.unusedVariables false
namespace Go.Proofs.YtppbkblnjlbnfaaGreatDoor
open Go.RowKit
theorem World.heap_alloc_old' (w : World) (o : Obj) (i : Nat) (h : i < w.heap.size) : (w.alloc o).heap[i]? = w.heap[i]? := by
  show (w.heap.push o)[i]? = w.heap[i]?
  rw [Array.getElem?_push, if_neg (Nat.ne_of_lt h)]
theorem heap_two (w : World) (A B : Obj) : ((w.alloc A).alloc B).heap[w.heap.size]? = some A := (World.heap_alloc_old' (w.alloc A) B w.heap.size (by show _ < (w.heap.push A).size; simp)).trans (Go.heap_alloc_new _ _)
@[go_sem] theorem ta_domain_domain (s : ByteArray) (w : World) : (Instr.typeAssert (.iface 177 (.string s)) 135 177 true).run Tryz.prog w = .ok (.tuple #[(.string s), .bool true]) w := by kernel_rfl
@[go_sem] theorem ta_domain_number (s : ByteArray) (w : World) : (Instr.typeAssert (.iface 177 (.string s)) 135 178 true).run Tryz.prog w = .ok (.tuple #[.int .i64 0, .bool false]) w := by kernel_rfl
@[go_sem] theorem ta_domain_pieces (s : ByteArray) (w : World) : (Instr.typeAssert (.iface 177 (.string s)) 135 180 true).run Tryz.prog w = .ok (.tuple #[.agg #[.int .i64 0, .int .i64 0, .int .i64 0, .int .i64 0, .int .i64 0, .int .i64 0, .int .i64 0, .int .i64 0], .bool false]) w := by kernel_rfl
@[go_sem] theorem ta_number_domain (n : Int) (w : World) : (Instr.typeAssert (.iface 178 (.int .i64 n)) 135 177 true).run Tryz.prog w = .ok (.tuple #[.string ⟨#[]⟩, .bool false]) w := by kernel_rfl
@[go_sem] theorem ta_number_number (n : Int) (w : World) : (Instr.typeAssert (.iface 178 (.int .i64 n)) 135 178 true).run Tryz.prog w = .ok (.tuple #[(.int .i64 n), .bool true]) w := by kernel_rfl
@[go_sem] theorem ta_number_pieces (n : Int) (w : World) : (Instr.typeAssert (.iface 178 (.int .i64 n)) 135 180 true).run Tryz.prog w = .ok (.tuple #[.agg #[.int .i64 0, .int .i64 0, .int .i64 0, .int .i64 0, .int .i64 0, .int .i64 0, .int .i64 0, .int .i64 0], .bool false]) w := by kernel_rfl
@[go_sem] theorem ta_pieces_domain (p0 p1 p2 p3 p4 p5 p6 p7 : Int) (w : World) : (Instr.typeAssert (.iface 180 (.agg #[.int .i64 p0, .int .i64 p1, .int .i64 p2, .int .i64 p3, .int .i64 p4, .int .i64 p5, .int .i64 p6, .int .i64 p7])) 135 177 true).run Tryz.prog w = .ok (.tuple #[.string ⟨#[]⟩, .bool false]) w := by kernel_rfl
@[go_sem] theorem ta_pieces_number (p0 p1 p2 p3 p4 p5 p6 p7 : Int) (w : World) : (Instr.typeAssert (.iface 180 (.agg #[.int .i64 p0, .int .i64 p1, .int .i64 p2, .int .i64 p3, .int .i64 p4, .int .i64 p5, .int .i64 p6, .int .i64 p7])) 135 178 true).run Tryz.prog w = .ok (.tuple #[.int .i64 0, .bool false]) w := by kernel_rfl
@[go_sem] theorem ta_pieces_pieces (p0 p1 p2 p3 p4 p5 p6 p7 : Int) (w : World) : (Instr.typeAssert (.iface 180 (.agg #[.int .i64 p0, .int .i64 p1, .int .i64 p2, .int .i64 p3, .int .i64 p4, .int .i64 p5, .int .i64 p6, .int .i64 p7])) 135 180 true).run Tryz.prog w = .ok (.tuple #[(.agg #[.int .i64 p0, .int .i64 p1, .int .i64 p2, .int .i64 p3, .int .i64 p4, .int .i64 p5, .int .i64 p6, .int .i64 p7]), .bool true]) w := by kernel_rfl
@[go_sem] theorem bd_domain (s : ByteArray) (w : World) : (Instr.build 24 #[(0, .int .i64 1), (1, .string s)]).run Tryz.prog w = .ok (.agg #[.int .i64 1, .string s, .int .i64 0, .int .i64 0, .int .i64 0, .int .i64 0, .int .i64 0, .int .i64 0, .int .i64 0, .int .i64 0, .int .i64 0]) w := run_build w 24 _ _ (by kernel_rfl)
@[go_sem] theorem bd_number (n : Int) (w : World) : (Instr.build 24 #[(0, .int .i64 2), (2, .int .i64 n)]).run Tryz.prog w = .ok (.agg #[.int .i64 2, .string ⟨#[]⟩, .int .i64 n, .int .i64 0, .int .i64 0, .int .i64 0, .int .i64 0, .int .i64 0, .int .i64 0, .int .i64 0, .int .i64 0]) w := run_build w 24 _ _ (by kernel_rfl)
@[go_sem] theorem bd_pieces (p0 p1 p2 p3 p4 p5 p6 p7 : Int) (w : World) : (Instr.build 24 #[(0, .int .i64 3), (3, .agg #[.int .i64 p0, .int .i64 p1, .int .i64 p2, .int .i64 p3, .int .i64 p4, .int .i64 p5, .int .i64 p6, .int .i64 p7])]).run Tryz.prog w = .ok (.agg #[.int .i64 3, .string ⟨#[]⟩, .int .i64 0, .int .i64 p0, .int .i64 p1, .int .i64 p2, .int .i64 p3, .int .i64 p4, .int .i64 p5, .int .i64 p6, .int .i64 p7]) w := run_build w 24 _ _ (by kernel_rfl)
set_option maxRecDepth 100000 in
set_option maxHeartbeats 1000000 in
theorem host_domain_c (s : List UInt8) (w : World) : Calls Tryz.prog 143 #[.iface 177 (.string (mkS s))] w fun e w' => e = .returned (.agg #[.int .i64 1, .string (mkS s), .int .i64 0, .int .i64 0, .int .i64 0, .int .i64 0, .int .i64 0, .int .i64 0, .int .i64 0, .int .i64 0, .int .i64 0]) ∧ Below w.heap.size w w' := by
  go_enter Tryz.func143, Tryz.ntmps143
  go_wp2
  refine bodyPost_ret (results_cell_row (fr := (0, 0)) rfl _ _ w.heap.size 24 _ _ rfl (by first | exact heap_alloc_new _ _ | exact heap_two _ _ _) Tryz.underlying24 rfl (by kernel_rfl)) rfl ?_
  exact ⟨rfl, by (repeat (first | exact Below.refl _ _ | apply b_alloc | apply b_drew | apply b_drewN | assumption | (refine b_then ?_ (by assumption))))⟩
set_option maxRecDepth 100000 in
set_option maxHeartbeats 1000000 in
theorem host_number_c (n : Int) (w : World) : Calls Tryz.prog 143 #[.iface 178 (.int .i64 n)] w fun e w' => e = .returned (.agg #[.int .i64 2, .string ⟨#[]⟩, .int .i64 n, .int .i64 0, .int .i64 0, .int .i64 0, .int .i64 0, .int .i64 0, .int .i64 0, .int .i64 0, .int .i64 0]) ∧ Below w.heap.size w w' := by
  go_enter Tryz.func143, Tryz.ntmps143
  go_wp2
  refine bodyPost_ret (results_cell_row (fr := (0, 0)) rfl _ _ w.heap.size 24 _ _ rfl (by first | exact heap_alloc_new _ _ | exact heap_two _ _ _) Tryz.underlying24 rfl (by kernel_rfl)) rfl ?_
  exact ⟨rfl, by (repeat (first | exact Below.refl _ _ | apply b_alloc | apply b_drew | apply b_drewN | assumption | (refine b_then ?_ (by assumption))))⟩
set_option maxRecDepth 100000 in
set_option maxHeartbeats 1000000 in
theorem host_pieces_c (p0 p1 p2 p3 p4 p5 p6 p7 : Int) (w : World) : Calls Tryz.prog 143 #[.iface 180 (.agg #[.int .i64 p0, .int .i64 p1, .int .i64 p2, .int .i64 p3, .int .i64 p4, .int .i64 p5, .int .i64 p6, .int .i64 p7])] w fun e w' => e = .returned (.agg #[.int .i64 3, .string ⟨#[]⟩, .int .i64 0, .int .i64 p0, .int .i64 p1, .int .i64 p2, .int .i64 p3, .int .i64 p4, .int .i64 p5, .int .i64 p6, .int .i64 p7]) ∧ Below w.heap.size w w' := by
  go_enter Tryz.func143, Tryz.ntmps143
  go_wp2
  refine bodyPost_ret (results_cell_row (fr := (0, 0)) rfl _ _ w.heap.size 24 _ _ rfl (by first | exact heap_alloc_new _ _ | exact heap_two _ _ _) Tryz.underlying24 rfl (by kernel_rfl)) rfl ?_
  exact ⟨rfl, by (repeat (first | exact Below.refl _ _ | apply b_alloc | apply b_drew | apply b_drewN | assumption | (refine b_then ?_ (by assumption))))⟩
set_option maxRecDepth 100000 in
set_option maxHeartbeats 1000000 in
theorem eq_host (k1 k2 : Int) (n1 n2 : List UInt8) (m1 m2 : Int) (a0 a1 a2 a3 a4 a5 a6 a7 b0 b1 b2 b3 b4 b5 b6 b7 : Int) (w : World) : (Op.equalIn 10000 24 (.agg #[.int .i64 k1, .string (mkS n1), .int .i64 m1, .int .i64 a0, .int .i64 a1, .int .i64 a2, .int .i64 a3, .int .i64 a4, .int .i64 a5, .int .i64 a6, .int .i64 a7]) (.agg #[.int .i64 k2, .string (mkS n2), .int .i64 m2, .int .i64 b0, .int .i64 b1, .int .i64 b2, .int .i64 b3, .int .i64 b4, .int .i64 b5, .int .i64 b6, .int .i64 b7])).run Tryz.prog w = .ok (decide (k1 = k2) && (decide (n1 = n2) && (decide (m1 = m2) && decide ([a0, a1, a2, a3, a4, a5, a6, a7] = [b0, b1, b2, b3, b4, b5, b6, b7])))) w := by
  have hS : Tryz.prog.underlying 24 = some (.struct (Tryz.prog.fieldsOf 24)) := by kernel_rfl
  have hp : Tryz.prog.stoodInHeld 24 = false := by kernel_rfl
  have he := eq_arr8 9997 w [a0, a1, a2, a3, a4, a5, a6, a7] [b0, b1, b2, b3, b4, b5, b6, b7] rfl rfl
  simp only [ints, List.map_cons, List.map_nil] at he
  rw [show (10000 : Nat) = 9999 + 1 from rfl, run_equalIn_agg w 9999 24 _ _ hS hp]
  simp only [Program.fieldsOf, Tryz.underlying24]
  go_simp
  generalize (decide (a0 = b0) && (decide (a1 = b1) && (decide (a2 = b2) && (decide (a3 = b3) && (decide (a4 = b4) && (decide (a5 = b5) && (decide (a6 = b6) && decide (a7 = b7)))))))) = D
  by_cases h1 : k1 = k2
  · by_cases h2 : n1 = n2
    · by_cases h3 : m1 = m2
      · cases D <;> simp [h1, h2, h3]
      · simp [h3]
    · simp [h2]
  · simp [h1]
end Go.Proofs.YtppbkblnjlbnfaaGreatDoor
