import Derived.Test.YtppbkblnjlbnfaaGreatDoorC17
import Derived.Test.YtppbkblnjlbnfaaGreatDoorOr
import Derived.Test.YtppbkblnjlbnfaaGreatDoorC25
import Derived.Test.YtppbkblnjlbnfaaGreatDoorP5
set_option linter.unusedVariables false
set_option linter.unusedSimpArgs false
/-! Contracts: four.Inner, host.Local. -/
namespace Go.Proofs.YtppbkblnjlbnfaaGreatDoor
open Go.RowKit
set_option maxRecDepth 100000 in
set_option maxHeartbeats 1000000 in
theorem eq_hostF (d : Nat) (k1 k2 : Int) (n1 n2 : List UInt8) (m1 m2 : Int) (a0 a1 a2 a3 a4 a5 a6 a7 b0 b1 b2 b3 b4 b5 b6 b7 : Int) (w : World) : (Op.equalIn (d + 3) 24 (.agg #[.int .i64 k1, .string (mkS n1), .int .i64 m1, .int .i64 a0, .int .i64 a1, .int .i64 a2, .int .i64 a3, .int .i64 a4, .int .i64 a5, .int .i64 a6, .int .i64 a7]) (.agg #[.int .i64 k2, .string (mkS n2), .int .i64 m2, .int .i64 b0, .int .i64 b1, .int .i64 b2, .int .i64 b3, .int .i64 b4, .int .i64 b5, .int .i64 b6, .int .i64 b7])).run Tryz.prog w = .ok (PM.hostEq ⟨k1, n1, m1, [a0, a1, a2, a3, a4, a5, a6, a7]⟩ ⟨k2, n2, m2, [b0, b1, b2, b3, b4, b5, b6, b7]⟩) w := by
  have hS : Tryz.prog.underlying 24 = some (.struct (Tryz.prog.fieldsOf 24)) := by kernel_rfl
  have hp : Tryz.prog.stoodInHeld 24 = false := by kernel_rfl
  have he := eq_arr8 d w [a0, a1, a2, a3, a4, a5, a6, a7] [b0, b1, b2, b3, b4, b5, b6, b7] rfl rfl
  simp only [ints, List.map_cons, List.map_nil] at he
  rw [show d + 3 = (d + 2) + 1 from rfl, run_equalIn_agg w (d + 2) 24 _ _ hS hp]
  simp only [Program.fieldsOf, Tryz.underlying24]
  unfold PM.hostEq
  dsimp only
  generalize hD : decide ([a0, a1, a2, a3, a4, a5, a6, a7] = [b0, b1, b2, b3, b4, b5, b6, b7]) = D at he
  go_simp
  by_cases h1 : k1 = k2
  · by_cases h2 : n1 = n2
    · by_cases h3 : m1 = m2
      · cases D <;> simp [h1, h2, h3]
      · simp [h3]
    · simp [h2]
  · simp [h1]
end Go.Proofs.YtppbkblnjlbnfaaGreatDoor
/-! Origins as values; contracts: origin.opaque, front, Of, May, Same. -/
namespace Go.Proofs.YtppbkblnjlbnfaaGreatDoor
open Go.RowKit
/-- An origin as it comes. -/
structure OV where
  q : Bool
  sc : List UInt8
  k : Int
  n : List UInt8
  m : Int
  s0 : Int
  s1 : Int
  s2 : Int
  s3 : Int
  s4 : Int
  s5 : Int
  s6 : Int
  s7 : Int
  port : Int
def OV.cells (o : OV) : Array Value := #[.bool o.q, .string (mkS o.sc), .int .i64 o.k, .string (mkS o.n), .int .i64 o.m, .int .i64 o.s0, .int .i64 o.s1, .int .i64 o.s2, .int .i64 o.s3, .int .i64 o.s4, .int .i64 o.s5, .int .i64 o.s6, .int .i64 o.s7, .int .i64 o.port]
def OV.host (o : OV) : PM.Host := ⟨o.k, o.n, o.m, [o.s0, o.s1, o.s2, o.s3, o.s4, o.s5, o.s6, o.s7]⟩
def OV.pm (o : OV) : PM.Origin := ⟨o.q, o.sc, o.host, o.port⟩
structure OV.Ok (o : OV) : Prop where
  sc : o.sc.length ≤ 1000000
  n : o.n.length ≤ 1000000
def zov : OV := ⟨true, [], 0, [], 0, 0, 0, 0, 0, 0, 0, 0, 0, 0⟩
def frontV (o : OV) (a : Option Addr) : UV := ⟨o.sc, [], [], o.k, o.n, o.m, o.s0, o.s1, o.s2, o.s3, o.s4, o.s5, o.s6, o.s7, o.port, a, 1, 1, [[]], [], [], [], false, false⟩
theorem frontV_pm (o : OV) (a : Option Addr) : (frontV o a).pm = PM.front o.pm := rfl
def webOV (u : UV) : OV := ⟨false, u.sc, u.k, u.n, u.m, u.s0, u.s1, u.s2, u.s3, u.s4, u.s5, u.s6, u.s7, u.port⟩
def ofOV (u : UV) : OV := if PM.isW u.pm then webOV u else zov
theorem ofOV_pm (u : UV) : (ofOV u).pm = PM.originOf u.pm := by
  unfold ofOV PM.originOf
  cases PM.isW u.pm <;> rfl
theorem ofOV_ok {u : UV} {w : World} (h : u.Ok w) : (ofOV u).Ok := by
  unfold ofOV
  split
  · exact ⟨h.sc, h.n⟩
  · exact ⟨by decide, by decide⟩
@[go_sem] theorem bd_opaque (w : World) : (Instr.build 30 #[(0, .bool true)]).run Tryz.prog w = .ok (.agg #[.bool true, .string ⟨#[]⟩, .int .i64 0, .string ⟨#[]⟩, .int .i64 0, .int .i64 0, .int .i64 0, .int .i64 0, .int .i64 0, .int .i64 0, .int .i64 0, .int .i64 0, .int .i64 0, .int .i64 0]) w := run_build w 30 _ _ (by kernel_rfl)
@[go_sem] theorem bd_origin (s n : ByteArray) (k m p0 p1 p2 p3 p4 p5 p6 p7 p : Int) (w : World) : (Instr.build 30 #[(1, .string s), (2, .agg #[.int .i64 k, .string n, .int .i64 m, .int .i64 p0, .int .i64 p1, .int .i64 p2, .int .i64 p3, .int .i64 p4, .int .i64 p5, .int .i64 p6, .int .i64 p7]), (3, .int .i64 p)]).run Tryz.prog w = .ok (.agg #[.bool false, .string s, .int .i64 k, .string n, .int .i64 m, .int .i64 p0, .int .i64 p1, .int .i64 p2, .int .i64 p3, .int .i64 p4, .int .i64 p5, .int .i64 p6, .int .i64 p7, .int .i64 p]) w := run_build w 30 _ _ (by kernel_rfl)
@[go_sem] theorem bd_front (s n : ByteArray) (k m p0 p1 p2 p3 p4 p5 p6 p7 p : Int) (a : Option Addr) (l c : Nat) (w : World) : (Instr.build 27 #[(0, .string s), (3, .agg #[.int .i64 k, .string n, .int .i64 m, .int .i64 p0, .int .i64 p1, .int .i64 p2, .int .i64 p3, .int .i64 p4, .int .i64 p5, .int .i64 p6, .int .i64 p7]), (4, .int .i64 p), (5, .slice a l c)]).run Tryz.prog w = .ok (.agg #[.string s, .string ⟨#[]⟩, .string ⟨#[]⟩, .int .i64 k, .string n, .int .i64 m, .int .i64 p0, .int .i64 p1, .int .i64 p2, .int .i64 p3, .int .i64 p4, .int .i64 p5, .int .i64 p6, .int .i64 p7, .int .i64 p, .slice a l c, .string ⟨#[]⟩, .string ⟨#[]⟩, .string ⟨#[]⟩, .bool false, .bool false]) w := run_build w 27 _ _ (by kernel_rfl)
set_option maxRecDepth 100000 in
set_option maxHeartbeats 1000000 in
theorem eq_origin (a b : OV) (w : World) : (Op.equalIn 10000 30 (.agg a.cells) (.agg b.cells)).run Tryz.prog w = .ok (PM.originEq a.pm b.pm) w := by
  have hS : Tryz.prog.underlying 30 = some (.struct (Tryz.prog.fieldsOf 30)) := by kernel_rfl
  have hp : Tryz.prog.stoodInHeld 30 = false := by kernel_rfl
  obtain ⟨q, sc, k, n, m, a0, a1, a2, a3, a4, a5, a6, a7, p⟩ := a
  obtain ⟨q', sc', k', n', m', b0, b1, b2, b3, b4, b5, b6, b7, p'⟩ := b
  have he := eq_arr8 9996 w [a0, a1, a2, a3, a4, a5, a6, a7] [b0, b1, b2, b3, b4, b5, b6, b7] rfl rfl
  simp only [ints, List.map_cons, List.map_nil] at he
  unfold OV.cells OV.pm OV.host PM.originEq PM.hostEq
  dsimp only
  rw [show (10000 : Nat) = 9999 + 1 from rfl, run_equalIn_agg w 9999 30 _ _ hS hp]
  simp only [Program.fieldsOf, Tryz.underlying30]
  generalize hD : decide ([a0, a1, a2, a3, a4, a5, a6, a7] = [b0, b1, b2, b3, b4, b5, b6, b7]) = D at he
  go_simp
  by_cases h1 : q = q'
  · by_cases h2 : sc = sc'
    · by_cases h3 : k = k'
      · by_cases h4 : n = n'
        · by_cases h5 : m = m'
          · cases D
            · simp [h1, h2, h3, h4, h5]
            · by_cases h6 : p = p'
              · simp [h1, h2, h3, h4, h5, h6]
              · simp [h1, h2, h3, h4, h5, h6]
          · simp [h1, h2, h3, h4, h5]
        · simp [h1, h2, h3, h4]
      · simp [h1, h2, h3]
    · simp [h1, h2]
  · simp [h1]
theorem opaque_o_c (w : World) : Calls Tryz.prog 86 #[] w fun e w' => e = .returned (.agg zov.cells) ∧ Below w.heap.size w w' := by
  go_enter Tryz.func86, Tryz.ntmps86
  go_wp2
  refine bodyPost_ret (results_cell_row (fr := (0, 0)) rfl _ _ w.heap.size 30 zov.cells _ rfl (heap_alloc_new _ _) Tryz.underlying30 rfl (by kernel_rfl)) rfl ?_
  exact ⟨rfl, by (repeat (first | exact Below.refl _ _ | apply b_alloc | apply b_drew | apply b_drewN | assumption | (refine b_then ?_ (by assumption))))⟩
theorem oagg_one (o : OV) : o.cells.all (·.oneCell') = true := by
  unfold OV.cells
  simp [Value.oneCell']
/-- An origin lies at block b. -/
def OvAt (W : World) (b : Nat) (o : OV) : Prop := W.cell? ⟨b, 0, none⟩ = some (.bool o.q) ∧ W.cell? ⟨b, 1, none⟩ = some (.string (mkS o.sc)) ∧ W.cell? ⟨b, 2, none⟩ = some (.int .i64 o.k) ∧ W.cell? ⟨b, 3, none⟩ = some (.string (mkS o.n)) ∧ W.cell? ⟨b, 4, none⟩ = some (.int .i64 o.m) ∧ W.cell? ⟨b, 5, none⟩ = some (.int .i64 o.s0) ∧ W.cell? ⟨b, 6, none⟩ = some (.int .i64 o.s1) ∧ W.cell? ⟨b, 7, none⟩ = some (.int .i64 o.s2) ∧ W.cell? ⟨b, 8, none⟩ = some (.int .i64 o.s3) ∧ W.cell? ⟨b, 9, none⟩ = some (.int .i64 o.s4) ∧ W.cell? ⟨b, 10, none⟩ = some (.int .i64 o.s5) ∧ W.cell? ⟨b, 11, none⟩ = some (.int .i64 o.s6) ∧ W.cell? ⟨b, 12, none⟩ = some (.int .i64 o.s7) ∧ W.cell? ⟨b, 13, none⟩ = some (.int .i64 o.port)
theorem OvAt.of_heap {W : World} {b : Nat} {o : OV} (h : W.heap[b]? = some (.cells o.cells 30 (0, 0))) : OvAt W b o := by
  unfold OvAt
  refine ⟨?_, ?_, ?_, ?_, ?_, ?_, ?_, ?_, ?_, ?_, ?_, ?_, ?_, ?_⟩ <;> (rw [Lib.cell_of_heap h]; rfl)
theorem heap_setRow_other {w : World} {b g : Nat} (hg : b ≠ g) (cs : Array Value) : (w.setRow b cs).heap[g]? = w.heap[g]? := by
  simp [World.setRow, Array.getElem?_modify, hg]
def zo : Array Value := #[.bool false, .string ⟨#[]⟩, .int .i64 0, .string ⟨#[]⟩, .int .i64 0, .int .i64 0, .int .i64 0, .int .i64 0, .int .i64 0, .int .i64 0, .int .i64 0, .int .i64 0, .int .i64 0, .int .i64 0]
set_option maxRecDepth 100000 in
set_option maxHeartbeats 4000000 in
theorem front_c (o : OV) (w : World) : Calls Tryz.prog 115 #[.agg o.cells] w fun e w' => (∃ a, e = .returned (.agg (frontV o a).cells) ∧ From w.heap.size a [[]] ∧ (o.Ok → (frontV o a).Ok w')) ∧ Below w.heap.size w w' := by
  have H1 : Hid (((w.alloc (.cells o.cells 30)).alloc (.cells zurl 27)).heap[w.heap.size + 1]? = some (.cells zurl 27 (0, 0))) := Lib.hid (Go.heap_alloc2_new _ _ _)
  have H0 : Hid (((w.alloc (.cells o.cells 30)).alloc (.cells zurl 27)).heap[w.heap.size]? = some (.cells o.cells 30 (0, 0))) := Lib.hid (heap_two _ _ _)
  have HB : Hid (Below w.heap.size w ((w.alloc (.cells o.cells 30)).alloc (.cells zurl 27))) := Lib.hid (b_alloc (b_alloc (Below.refl _ _) _) _)
  have HN : Hid (((w.alloc (.cells o.cells 30)).alloc (.cells zurl 27)).heap.size = w.heap.size + 2) := Lib.hid (by simp)
  unfold zurl at H1 HB HN
  unfold zurl at H0
  go_enter Tryz.func115, Tryz.ntmps115
  go_upto_region 1 with fail
  generalize (w.alloc (.cells o.cells 30)).alloc (.cells #[.string ⟨#[]⟩, .string ⟨#[]⟩, .string ⟨#[]⟩, .int .i64 0, .string ⟨#[]⟩, .int .i64 0, .int .i64 0, .int .i64 0, .int .i64 0, .int .i64 0, .int .i64 0, .int .i64 0, .int .i64 0, .int .i64 0, .int .i64 0, .slice none 0 0, .string ⟨#[]⟩, .string ⟨#[]⟩, .string ⟨#[]⟩, .bool false, .bool false] 27) = V0 at H0 H1 HB HN ⊢
  obtain ⟨c0, c1, c2, c3, c4, c5, c6, c7, c8, c9, c10, c11, c12, c13⟩ := OvAt.of_heap H0.out
  have H2 := Lib.hid (obj_b (b_alloc (Below.refl _ _) (.cells #[.string ⟨#[]⟩] 9)) H1.out)
  go_wp2_with (refine wpList_store_row rfl 27 _ _ rfl (w.heap.size + 1) (frontV o (some ⟨V0.heap.size, 0, none⟩)).cells rfl rfl 27 _ H2.out (by kernel_rfl) rfl (agg_one (frontV o (some ⟨V0.heap.size, 0, none⟩))) ?_)
  refine bodyPost_ret (results_cell_row (fr := (0, 0)) rfl _ _ (w.heap.size + 1) 27 (frontV o (some ⟨V0.heap.size, 0, none⟩)).cells _ rfl (heap_setRow H2.out _) Tryz.underlying27 rfl (by kernel_rfl)) rfl ?_
  have hn := HN.out
  refine ⟨⟨some ⟨V0.heap.size, 0, none⟩, rfl, fun g o' e _ => by cases e; omega, fun ho => ⟨ho.sc, by simp [frontV], by simp [frontV], ho.n, by simp [frontV], by simp [frontV], by simp [frontV], by simp [frontV], by simp [frontV], ?_⟩⟩, below_setRow (b_alloc HB.out _) (by omega) _⟩
  refine ⟨rfl, by simp [frontV], .inr ⟨V0.heap.size, 0, rfl, by simp [World.setRow], fun j hj => ?_⟩⟩
  have hj0 : j = 0 := by simpa [frontV] using hj
  subst hj0
  have hh : ((V0.alloc (.cells #[.string ⟨#[]⟩] 9)).setRow (w.heap.size + 1) (frontV o (some ⟨V0.heap.size, 0, none⟩)).cells).heap[V0.heap.size]? = some (.cells #[.string ⟨#[]⟩] 9 (0, 0)) := by
    rw [heap_setRow_other (show w.heap.size + 1 ≠ V0.heap.size by omega)]
    exact Go.heap_alloc_new V0 _
  rw [Lib.cell_of_heap hh]
  rfl
set_option maxRecDepth 100000 in
set_option maxHeartbeats 4000000 in
theorem Of_c (u : UV) (w : World) (hu : u.Ok w) (hg : Gl w) : Calls Tryz.prog 59 #[.agg u.cells] w fun e w' => e = .returned (.agg (ofOV u).cells) ∧ Below w.heap.size w w' := by
  have HG := Lib.hid hg
  have HU : Hid (((w.alloc (.cells u.cells 27)).alloc (.cells zo 30)).heap[w.heap.size]? = some (.cells u.cells 27 (0, 0))) := Lib.hid (heap_two _ _ _)
  have HZ : Hid (((w.alloc (.cells u.cells 27)).alloc (.cells zo 30)).heap[w.heap.size + 1]? = some (.cells zo 30 (0, 0))) := Lib.hid (Go.heap_alloc2_new _ _ _)
  have HB : Hid (Below w.heap.size w ((w.alloc (.cells u.cells 27)).alloc (.cells zo 30))) := Lib.hid (b_alloc (b_alloc (Below.refl _ _) _) _)
  have HO := Lib.hid (hu.below HB.out)
  clear hu hg
  unfold zo at HU HB HO HZ
  go_enter Tryz.func59, Tryz.ntmps59
  go_upto_region 1 with fail
  generalize (w.alloc (.cells u.cells 27)).alloc (.cells #[.bool false, .string ⟨#[]⟩, .int .i64 0, .string ⟨#[]⟩, .int .i64 0, .int .i64 0, .int .i64 0, .int .i64 0, .int .i64 0, .int .i64 0, .int .i64 0, .int .i64 0, .int .i64 0, .int .i64 0] 30) = V0 at HU HB HO HZ ⊢
  go_wp2_with (refine wpList_load_g 27 _ rfl (by kernel_rfl) w.heap.size rfl HU.out Tryz.underlying27 rfl (by kernel_rfl) ?_)
  refine (urlMay_c u _ HO.out (HG.out.below HB.out)).mono ?_
  cases hm : PM.urlMay u.pm
  · rintro e V1 ⟨rfl, hb⟩
    replace HB := Lib.hid (b_then HB.out hb)
    replace HU := Lib.hid (obj_b hb HU.out)
    replace HZ := Lib.hid (obj_b hb HZ.out)
    replace HO := Lib.hid (HO.out.below hb)
    clear hb
    have hno : ofOV u = zov := by unfold ofOV PM.isW; rw [hm]; rfl
    go_wp2_with fail
    refine (opaque_o_c _).mono ?_
    rintro e V2 ⟨rfl, hb⟩
    replace HB := Lib.hid (b_then HB.out hb)
    replace HU := Lib.hid (obj_b hb HU.out)
    replace HZ := Lib.hid (obj_b hb HZ.out)
    replace HO := Lib.hid (HO.out.below hb)
    clear hb
    go_wp2_with (refine wpList_store_row rfl 30 _ _ rfl (w.heap.size + 1) zov.cells rfl rfl 30 _ HZ.out (by kernel_rfl) rfl (oagg_one zov) ?_)
    refine bodyPost_ret (results_cell_row (fr := (0, 0)) rfl _ _ (w.heap.size + 1) 30 zov.cells _ rfl (heap_setRow HZ.out _) Tryz.underlying30 rfl (by kernel_rfl)) rfl ?_
    exact ⟨by rw [hno], below_setRow HB.out (by omega) _⟩
  rintro e V1 ⟨rfl, hb⟩
  replace HB := Lib.hid (b_then HB.out hb)
  replace HU := Lib.hid (obj_b hb HU.out)
  replace HZ := Lib.hid (obj_b hb HZ.out)
  replace HO := Lib.hid (HO.out.below hb)
  clear hb
  have HM := Lib.hid hm
  clear hm
  obtain ⟨c0, c1, c2, c3, c4, c5, c6, c7, c8, c9, c10, c11, c12, c13, c14, c15, c16, c17, c18, c19, c20⟩ := UrlAt.of_heap HU.out
  go_wp2_with fail
  refine (Web_c u.sc _).mono ?_
  rintro e V2 ⟨rfl, rfl⟩
  by_cases hw : PM.web u.sc = 0
  · have hw' : (PM.web u.sc == 0) = true := by simpa using hw
    have hno : ofOV u = zov := by unfold ofOV PM.isW; rw [HM.out, decide_eq_true (show PM.web u.pm.scheme = 0 from hw)]; rfl
    have HNO := Lib.hid hno
    clear hw hno
    go_wp2_with fail
    refine (opaque_o_c _).mono ?_
    rintro e V3 ⟨rfl, hb⟩
    clear c0 c1 c2 c3 c4 c5 c6 c7 c8 c9 c10 c11 c12 c13 c14 c15 c16 c17 c18 c19 c20 hw'
    replace HB := Lib.hid (b_then HB.out hb)
    replace HU := Lib.hid (obj_b hb HU.out)
    replace HZ := Lib.hid (obj_b hb HZ.out)
    replace HO := Lib.hid (HO.out.below hb)
    clear hb
    go_wp2_with (refine wpList_store_row rfl 30 _ _ rfl (w.heap.size + 1) zov.cells rfl rfl 30 _ HZ.out (by kernel_rfl) rfl (oagg_one zov) ?_)
    refine bodyPost_ret (results_cell_row (fr := (0, 0)) rfl _ _ (w.heap.size + 1) 30 zov.cells _ rfl (heap_setRow HZ.out _) Tryz.underlying30 rfl (by kernel_rfl)) rfl ?_
    exact ⟨by rw [HNO.out], below_setRow HB.out (by omega) _⟩
  have hw' : (PM.web u.sc == 0) = false := by simpa using hw
  have hno : ofOV u = webOV u := by unfold ofOV PM.isW; rw [HM.out, decide_eq_false (show ¬ PM.web u.pm.scheme = 0 from hw)]; rfl
  have HNO := Lib.hid hno
  clear hw hno
  go_wp2_with (refine wpList_store_row rfl 30 _ _ rfl (w.heap.size + 1) (webOV u).cells rfl rfl 30 _ HZ.out (by kernel_rfl) rfl (oagg_one (webOV u)) ?_)
  refine bodyPost_ret (results_cell_row (fr := (0, 0)) rfl _ _ (w.heap.size + 1) 30 (webOV u).cells _ rfl (heap_setRow HZ.out _) Tryz.underlying30 rfl (by kernel_rfl)) rfl ?_
  exact ⟨by rw [HNO.out], below_setRow HB.out (by omega) _⟩
end Go.Proofs.YtppbkblnjlbnfaaGreatDoor
/-! Contracts: origin.May, Same, Show, Trust, Both. -/
namespace Go.Proofs.YtppbkblnjlbnfaaGreatDoor
open Go.RowKit
/-- Where a function stands that has one value in a box. -/
structure BoxAt (b : Nat) (cs : Array Value) (T : TypeId) (w W : World) : Prop where
  one : W.heap[b]? = some (.cells cs T (0, 0))
  be : Below w.heap.size w W
theorem BoxAt.below {b : Nat} {cs : Array Value} {T : TypeId} {w W W' : World} (h : BoxAt b cs T w W) (hb : Below W.heap.size W W') : BoxAt b cs T w W' := ⟨heap_b hb h.one, b_then h.be hb⟩
theorem BoxAt.new (cs : Array Value) (T : TypeId) (w : World) : BoxAt w.heap.size cs T w (w.alloc (.cells cs T)) := ⟨Go.heap_alloc_new _ _, b_alloc (Below.refl _ _) _⟩
/-- Where a function stands that has two values in boxes. -/
structure BoxAt2 (cs ds : Array Value) (S T : TypeId) (w W : World) : Prop where
  one : W.heap[w.heap.size]? = some (.cells cs S (0, 0))
  two : W.heap[w.heap.size + 1]? = some (.cells ds T (0, 0))
  be : Below w.heap.size w W
theorem BoxAt2.below {cs ds : Array Value} {S T : TypeId} {w W W' : World} (h : BoxAt2 cs ds S T w W) (hb : Below W.heap.size W W') : BoxAt2 cs ds S T w W' := ⟨heap_b hb h.one, heap_b hb h.two, b_then h.be hb⟩
theorem BoxAt2.new (cs ds : Array Value) (S T : TypeId) (w : World) : BoxAt2 cs ds S T w ((w.alloc (.cells cs S)).alloc (.cells ds T)) := ⟨heap_two _ _ _, Go.heap_alloc2_new _ _ _, b_alloc (b_alloc (Below.refl _ _) _) _⟩
set_option maxRecDepth 100000 in
set_option maxHeartbeats 4000000 in
theorem May_c (o : OV) (w : World) (ho : o.Ok) (hg : Gl w) : Calls Tryz.prog 85 #[.agg o.cells] w fun e w' => e = .returned (.bool (PM.originMay o.pm)) ∧ Below w.heap.size w w' := by
  have HG := Lib.hid hg
  have H0 : Hid (BoxAt w.heap.size o.cells 30 w (w.alloc (.cells o.cells 30))) := Lib.hid (BoxAt.new _ _ _)
  have hm : PM.originMay o.pm = if o.q then PM.originEq o.pm zov.pm else PM.originEq (PM.originOf (PM.front o.pm)) o.pm := rfl
  have HM := Lib.hid hm
  have HO := Lib.hid ho
  clear hg hm ho
  go_enter Tryz.func85, Tryz.ntmps85
  go_upto_region 1 with fail
  generalize w.alloc (.cells o.cells 30) = V0 at H0 ⊢
  obtain ⟨c0, c1, c2, c3, c4, c5, c6, c7, c8, c9, c10, c11, c12, c13⟩ := OvAt.of_heap H0.out.one
  cases hq : o.q
  · rw [hq] at c0
    rw [hq] at HM
    have hE := fun a W => eq_origin a o W
    clear hq
    have HE := Lib.hid hE
    clear hE
    go_wp2_with fail
    clear c0 c1 c2 c3 c4 c5 c6 c7 c8 c9 c10 c11 c12 c13 
    refine wp_region_noPanic ?_
    refine wp_region_held_drew (S := fun W' => BoxAt w.heap.size o.cells 30 w W') (by kernel_rfl) (H0.out.below (b_drew (Below.refl _ _))) (fun hS0 => ?_)
    refine wpAnyH_take (i := 0) (v := ?_) rfl (by kernel_rfl) (by kernel_rfl) (by kernel_rfl) (fun _ _ _ h => h) (Or.inl ⟨by kernel_rfl, fun W hW => ?_⟩) (by assumption) ?_
    rotate_left
    · refine yield_row 30 (.tmp 1) ?_ w.heap.size ?_ hW.one Tryz.underlying30 rfl (by kernel_rfl)
      · rfl
      · rfl
    (try simp only [List.getElem_toArray, List.getElem_cons_zero, List.getElem_cons_succ, Act.put, List.setIfInBounds_toArray, List.set_cons_zero, List.set_cons_succ])
    refine wpAnyH_take (i := 3) (v := ?_) rfl (by kernel_rfl) (by kernel_rfl) (by kernel_rfl) (fun _ _ _ h => h) (Or.inl ⟨by kernel_rfl, fun W hW => ?_⟩) (by assumption) ?_
    rotate_left
    · refine yield_row 30 (.tmp 1) ?_ w.heap.size ?_ hW.one Tryz.underlying30 rfl (by kernel_rfl)
      · rfl
      · rfl
    (try simp only [List.getElem_toArray, List.getElem_cons_zero, List.getElem_cons_succ, Act.put, List.setIfInBounds_toArray, List.set_cons_zero, List.set_cons_succ])
    refine wpAnyH_ready (rs := [1]) (by kernel_rfl) (by simp) ?_
    refine AllReadyH.cons rfl (fun K hK => ?_) AllReadyH.nil
    go_simp
    refine (front_c o _).mono ?_
    rintro e U1 ⟨⟨a, rfl, hfr, hok⟩, hb⟩
    have hSn := hS0.below hb
    have hok' := hok HO.out
    clear hb hS0 hok hfr
    refine hK.out _ _ hSn (fun _ => ?_)
    clear hK K
    (try simp only [List.getElem_toArray, List.getElem_cons_zero, List.getElem_cons_succ, Act.put, List.setIfInBounds_toArray, List.set_cons_zero, List.set_cons_succ])
    refine wpAnyH_ready (rs := [2]) (by kernel_rfl) (by simp) ?_
    refine AllReadyH.cons rfl (fun K hK => ?_) AllReadyH.nil
    go_simp
    refine (Of_c (frontV o a) _ hok' (HG.out.below hSn.be)).mono ?_
    rintro e U2 ⟨rfl, hb⟩
    replace hSn := hSn.below hb
    have hEq := HE.out (ofOV (frontV o a))
    rw [ofOV_pm] at hEq
    clear hb
    refine hK.out _ _ hSn (fun _ => ?_)
    clear hK K
    (try simp only [List.getElem_toArray, List.getElem_cons_zero, List.getElem_cons_succ, Act.put, List.setIfInBounds_toArray, List.set_cons_zero, List.set_cons_succ])
    refine wpAnyH_take (i := 4) (v := ?_) rfl (by kernel_rfl) (by kernel_rfl) (by kernel_rfl) (fun _ _ _ h => h) (Or.inl ⟨by kernel_rfl, fun W hW => ?_⟩) (by assumption) ?_
    rotate_left
    · go_simp
      try with_reducible rfl
    (try simp only [List.getElem_toArray, List.getElem_cons_zero, List.getElem_cons_succ, Act.put, List.setIfInBounds_toArray, List.set_cons_zero, List.set_cons_succ])
    refine wpAnyH_take (i := 5) (v := ?_) rfl (by kernel_rfl) (by kernel_rfl) (by kernel_rfl) (fun _ _ _ h => h) (Or.inl ⟨by kernel_rfl, fun W hW => ?_⟩) (by assumption) ?_
    rotate_left
    · go_simp
      try with_reducible rfl
    (try simp only [List.getElem_toArray, List.getElem_cons_zero, List.getElem_cons_succ, Act.put, List.setIfInBounds_toArray, List.set_cons_zero, List.set_cons_succ])
    refine wpAnyH_done (by kernel_rfl) ?_ _
    refine NoPanic.normal ?_
    go_wp2
    go_ret
    exact ⟨ret_bool (by rw [HM.out]; rfl), hSn.be⟩
  · rw [hq] at c0
    rw [hq] at HM
    have hE := eq_origin o zov
    generalize PM.originEq o.pm zov.pm = D at HM hE
    clear hq
    go_wp2_with fail
    clear c0 c1 c2 c3 c4 c5 c6 c7 c8 c9 c10 c11 c12 c13 
    refine wp_region_noPanic ?_
    refine wp_region_held_drew (S := fun W' => BoxAt w.heap.size o.cells 30 w W') (by kernel_rfl) (H0.out.below (b_drew (Below.refl _ _))) (fun hS0 => ?_)
    refine wpAnyH_take (i := 0) (v := ?_) rfl (by kernel_rfl) (by kernel_rfl) (by kernel_rfl) (fun _ _ _ h => h) (Or.inl ⟨by kernel_rfl, fun W hW => ?_⟩) (by assumption) ?_
    rotate_left
    · refine yield_row 30 (.tmp 1) ?_ w.heap.size ?_ hW.one Tryz.underlying30 rfl (by kernel_rfl)
      · rfl
      · rfl
    (try simp only [List.getElem_toArray, List.getElem_cons_zero, List.getElem_cons_succ, Act.put, List.setIfInBounds_toArray, List.set_cons_zero, List.set_cons_succ])
    refine wpAnyH_ready (rs := [1]) (by kernel_rfl) (by simp) ?_
    refine AllReadyH.cons rfl (fun K hK => ?_) AllReadyH.nil
    go_simp
    refine (opaque_o_c _).mono ?_
    rintro e U3 ⟨rfl, hb⟩
    have hSn := hS0.below hb
    clear hb hS0
    refine hK.out _ _ hSn (fun _ => ?_)
    clear hK K
    (try simp only [List.getElem_toArray, List.getElem_cons_zero, List.getElem_cons_succ, Act.put, List.setIfInBounds_toArray, List.set_cons_zero, List.set_cons_succ])
    refine wpAnyH_take (i := 2) (v := ?_) rfl (by kernel_rfl) (by kernel_rfl) (by kernel_rfl) (fun _ _ _ h => h) (Or.inl ⟨by kernel_rfl, fun W hW => ?_⟩) (by assumption) ?_
    rotate_left
    · go_simp
      try with_reducible rfl
    (try simp only [List.getElem_toArray, List.getElem_cons_zero, List.getElem_cons_succ, Act.put, List.setIfInBounds_toArray, List.set_cons_zero, List.set_cons_succ])
    refine wpAnyH_take (i := 3) (v := ?_) rfl (by kernel_rfl) (by kernel_rfl) (by kernel_rfl) (fun _ _ _ h => h) (Or.inl ⟨by kernel_rfl, fun W hW => ?_⟩) (by assumption) ?_
    rotate_left
    · go_simp
      try with_reducible rfl
    (try simp only [List.getElem_toArray, List.getElem_cons_zero, List.getElem_cons_succ, Act.put, List.setIfInBounds_toArray, List.set_cons_zero, List.set_cons_succ])
    refine wpAnyH_done (by kernel_rfl) ?_ _
    refine NoPanic.normal ?_
    go_wp2
    go_ret
    exact ⟨ret_bool (by rw [HM.out]; rfl), hSn.be⟩
end Go.Proofs.YtppbkblnjlbnfaaGreatDoor
/-! Contracts: origin.Same, Trust. -/
namespace Go.Proofs.YtppbkblnjlbnfaaGreatDoor
open Go.RowKit
set_option maxRecDepth 100000 in
set_option maxHeartbeats 4000000 in
theorem Same_o_c (a b : OV) (w : World) (ho : a.Ok) (hg : Gl w) : Calls Tryz.prog 58 #[.agg a.cells, .agg b.cells] w fun e w' => e = .returned (.bool (PM.originSame a.pm b.pm)) ∧ Below w.heap.size w w' := by
  have HG := Lib.hid hg
  have H0 : Hid (BoxAt2 a.cells b.cells 30 30 w ((w.alloc (.cells a.cells 30)).alloc (.cells b.cells 30))) := Lib.hid (BoxAt2.new _ _ _ _ _)
  have hm : PM.originSame a.pm b.pm = (PM.originMay a.pm && (!a.q && PM.originEq a.pm b.pm)) := rfl
  have hE := eq_origin a b
  have HO := Lib.hid ho
  clear hg ho
  go_enter Tryz.func58, Tryz.ntmps58
  go_upto_region 1 with fail
  generalize (w.alloc (.cells a.cells 30)).alloc (.cells b.cells 30) = V0 at H0 ⊢
  generalize PM.originEq a.pm b.pm = D at hE hm
  have HM := Lib.hid hm
  have HE := Lib.hid hE
  clear hm hE
  go_wp2_with (refine wpList_load_g 30 _ rfl (by kernel_rfl) w.heap.size rfl H0.out.one Tryz.underlying30 rfl (by kernel_rfl) ?_)
  refine (May_c a _ HO.out (HG.out.below H0.out.be)).mono ?_
  cases hm : PM.originMay a.pm
  · rintro e V1 ⟨rfl, hb⟩
    have hbe := b_then H0.out.be hb
    go_wp2
    go_ret
    exact ⟨ret_bool (by rw [HM.out, hm]; rfl), hbe⟩
  rintro e V1 ⟨rfl, hb⟩
  replace H0 := Lib.hid (H0.out.below hb)
  have H1 := Lib.hid hm
  clear hb hm
  obtain ⟨c0, c1, c2, c3, c4, c5, c6, c7, c8, c9, c10, c11, c12, c13⟩ := OvAt.of_heap H0.out.one
  cases hq : a.q
  rotate_left
  · rw [hq] at c0
    go_wp2
    go_ret
    exact ⟨ret_bool (by rw [HM.out, H1.out, hq]; rfl), H0.out.be⟩
  · rw [hq] at c0
    have hE := HE.out
    have HQ := Lib.hid hq
    clear hq
    go_wp2_with (first | (refine wpList_load_g 30 _ rfl (by kernel_rfl) w.heap.size rfl H0.out.one Tryz.underlying30 rfl (by kernel_rfl) ?_) | (refine wpList_load_g 30 _ rfl (by kernel_rfl) (w.heap.size + 1) rfl H0.out.two Tryz.underlying30 rfl (by kernel_rfl) ?_))
    go_ret
    exact ⟨ret_bool (by rw [HM.out, H1.out, HQ.out]; rfl), H0.out.be⟩
end Go.Proofs.YtppbkblnjlbnfaaGreatDoor
/-! Contracts: origin.Both, Show. -/
namespace Go.Proofs.YtppbkblnjlbnfaaGreatDoor
open Go.RowKit
theorem front_len (o : OV) (h : o.Ok) : (PM.showUrl (PM.front o.pm)).length ≤ 1000000000000 := by
  have hok : (frontV o none).n.length ≤ 1000000 := h.n
  have hw : ∀ (is : Bool) (parts : List (List UInt8)), (∀ s ∈ parts, s.length ≤ 20000000000) → parts.length ≤ 3 → (PM.when is parts).length ≤ 60000000000 := fun is parts h1 h2 => by
    have := when_len is parts h1
    omega
  have hb : ∀ l : List UInt8, l.length ≤ 1000000 → l.length ≤ 20000000000 := fun l h => by omega
  have hd := door_len (frontV o none) hok
  have l1 := hw true [(frontV o none).pm.scheme, [58], (frontV o none).pm.opaque_] (by simp; exact ⟨hb _ h.sc, by simp [frontV, UV.pm]⟩) (by simp)
  have l2 := hw (PM.isWeb (frontV o none).pm) [[47, 47], (frontV o none).pm.user] (by simp [frontV, UV.pm]) (by simp)
  have l3 := hw (!(frontV o none).pm.pass.isEmpty) [[58], (frontV o none).pm.pass] (by simp [frontV, UV.pm]) (by simp)
  have l4 := hw (!(frontV o none).pm.user.isEmpty || !(frontV o none).pm.pass.isEmpty) [[64]] (by simp) (by simp)
  have l5 := hw (PM.isWeb (frontV o none).pm) [PM.door (frontV o none).pm, PM.pathShow (frontV o none).pm.path] (by simp; exact ⟨hd, by show (PM.pathShow [[]]).length ≤ 20000000000; decide⟩) (by simp)
  have l6 := hw (frontV o none).pm.hasQuery [[63], (frontV o none).pm.query] (by simp [frontV, UV.pm]) (by simp)
  have l7 := hw (frontV o none).pm.hasFrag [[35], (frontV o none).pm.frag] (by simp [frontV, UV.pm]) (by simp)
  show (PM.showUrl (frontV o none).pm).length ≤ _
  unfold PM.showUrl
  split
  · simp
  · simp only [List.length_append]
    omega
set_option maxRecDepth 100000 in
set_option maxHeartbeats 4000000 in
theorem Both_c (a b : UV) (w : World) (ha : a.Ok w) (hb0 : b.Ok w) (hg : Gl w) : Calls Tryz.prog 26 #[.agg a.cells, .agg b.cells] w fun e w' => e = .returned (.bool (PM.both a.pm b.pm)) ∧ Below w.heap.size w w' := by
  have HG := Lib.hid hg
  have H0 : Hid (BoxAt2 a.cells b.cells 27 27 w ((w.alloc (.cells a.cells 27)).alloc (.cells b.cells 27))) := Lib.hid (BoxAt2.new _ _ _ _ _)
  have hm : PM.both a.pm b.pm = PM.originSame (ofOV a).pm (ofOV b).pm := by rw [ofOV_pm, ofOV_pm]; rfl
  have HM := Lib.hid hm
  have HA := Lib.hid ha
  have HA2 := Lib.hid hb0
  have hok := ofOV_ok ha
  have HOK := Lib.hid hok
  clear hg ha hb0 hm hok
  go_enter Tryz.func26, Tryz.ntmps26
  go_upto_region 1 with fail
  generalize (w.alloc (.cells a.cells 27)).alloc (.cells b.cells 27) = V0 at H0 ⊢
  refine wp_region_noPanic ?_
  refine wp_region_held_drew (S := fun W' => BoxAt2 a.cells b.cells 27 27 w W') (by kernel_rfl) (H0.out.below (b_drew (Below.refl _ _))) (fun hS0 => ?_)
  refine wpAnyH_take (i := 0) (v := ?_) rfl (by kernel_rfl) (by kernel_rfl) (by kernel_rfl) (fun _ _ _ h => h) (Or.inl ⟨by kernel_rfl, fun W hW => ?_⟩) (by assumption) ?_
  rotate_left
  · refine yield_row 27 (.tmp 2) ?_ w.heap.size ?_ hW.one Tryz.underlying27 rfl (by kernel_rfl)
    · rfl
    · rfl
  (try simp only [List.getElem_toArray, List.getElem_cons_zero, List.getElem_cons_succ, Act.put, List.setIfInBounds_toArray, List.set_cons_zero, List.set_cons_succ])
  refine wpAnyH_take (i := 2) (v := ?_) rfl (by kernel_rfl) (by kernel_rfl) (by kernel_rfl) (fun _ _ _ h => h) (Or.inl ⟨by kernel_rfl, fun W hW => ?_⟩) (by assumption) ?_
  rotate_left
  · refine yield_row 27 (.tmp 3) ?_ (w.heap.size + 1) ?_ hW.two Tryz.underlying27 rfl (by kernel_rfl)
    · rfl
    · rfl
  (try simp only [List.getElem_toArray, List.getElem_cons_zero, List.getElem_cons_succ, Act.put, List.setIfInBounds_toArray, List.set_cons_zero, List.set_cons_succ])
  refine wpAnyH_ready (rs := [1]) (by kernel_rfl) (by simp) ?_
  refine AllReadyH.cons rfl (fun K hK => ?_) AllReadyH.nil
  go_simp
  refine (Of_c a _ (HA.out.below hS0.be) (HG.out.below hS0.be)).mono ?_
  rintro e U1 ⟨rfl, hb⟩
  have hSn := hS0.below hb
  clear hb hS0
  refine hK.out _ _ hSn (fun _ => ?_)
  clear hK K
  (try simp only [List.getElem_toArray, List.getElem_cons_zero, List.getElem_cons_succ, Act.put, List.setIfInBounds_toArray, List.set_cons_zero, List.set_cons_succ])
  refine wpAnyH_ready (rs := [3]) (by kernel_rfl) (by simp) ?_
  refine AllReadyH.cons rfl (fun K hK => ?_) AllReadyH.nil
  go_simp
  refine (Of_c b _ (HA2.out.below hSn.be) (HG.out.below hSn.be)).mono ?_
  rintro e U2 ⟨rfl, hb⟩
  replace hSn := hSn.below hb
  clear hb
  refine hK.out _ _ hSn (fun _ => ?_)
  clear hK K
  (try simp only [List.getElem_toArray, List.getElem_cons_zero, List.getElem_cons_succ, Act.put, List.setIfInBounds_toArray, List.set_cons_zero, List.set_cons_succ])
  refine wpAnyH_ready (rs := [4]) (by kernel_rfl) (by simp) ?_
  refine AllReadyH.cons rfl (fun K hK => ?_) AllReadyH.nil
  go_simp
  refine (Same_o_c (ofOV a) (ofOV b) _ HOK.out (HG.out.below hSn.be)).mono ?_
  rintro e U3 ⟨rfl, hb⟩
  replace hSn := hSn.below hb
  clear hb
  refine hK.out _ _ hSn (fun _ => ?_)
  clear hK K
  (try simp only [List.getElem_toArray, List.getElem_cons_zero, List.getElem_cons_succ, Act.put, List.setIfInBounds_toArray, List.set_cons_zero, List.set_cons_succ])
  refine wpAnyH_take (i := 5) (v := ?_) rfl (by kernel_rfl) (by kernel_rfl) (by kernel_rfl) (fun _ _ _ h => h) (Or.inl ⟨by kernel_rfl, fun W hW => ?_⟩) (by assumption) ?_
  rotate_left
  · go_simp
    try with_reducible rfl
  (try simp only [List.getElem_toArray, List.getElem_cons_zero, List.getElem_cons_succ, Act.put, List.setIfInBounds_toArray, List.set_cons_zero, List.set_cons_succ])
  refine wpAnyH_done (by kernel_rfl) ?_ _
  refine NoPanic.normal ?_
  go_wp2
  go_ret
  exact ⟨ret_bool HM.out.symm, hSn.be⟩
end Go.Proofs.YtppbkblnjlbnfaaGreatDoor
