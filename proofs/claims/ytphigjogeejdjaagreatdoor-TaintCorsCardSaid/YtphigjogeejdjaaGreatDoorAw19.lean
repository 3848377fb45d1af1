import Derived.Test.YtphigjogeejdjaaGreatDoorKn
import Derived.Test.YtphigjogeejdjaaGreatDoorSn
/-! Contracts: taint.Creds, FewReq, postmarklaw19.awake. -/
set_option linter.unusedVariables false
set_option linter.unusedSimpArgs false
namespace Go.Proofs.YtphigjogeejdjaaGreatDoor
open Go.RowKit
theorem Creds_c (u : UV) (w : World) (h1 : u.us.length ≤ 1000000) (h2 : u.pa.length ≤ 1000000) : Calls Tryz.prog 22 #[.agg u.cells] w fun e w' => e = .returned (.bool (PM.creds u.pm)) ∧ Below w.heap.size w w' := by
  have Hu : Hid ((w.alloc (.cells u.cells 27)).heap[w.heap.size]? = some (.cells u.cells 27 (0, 0))) := Lib.hid (Go.heap_alloc_new _ _)
  have HB : Hid (Below w.heap.size w (w.alloc (.cells u.cells 27))) := Lib.hid (b_alloc (Below.refl _ _) _)
  have hc : PM.creds u.pm = !(u.us ++ u.pa).isEmpty := rfl
  have HC := Lib.hid hc
  have hl : ¬ 9223372036854775807 < u.us.length + u.pa.length := by omega
  clear hc h1 h2
  go_enter Tryz.func22, Tryz.ntmps22
  go_upto_region 1 with fail
  generalize w.alloc (.cells u.cells 27) = V0 at Hu HB ⊢
  obtain ⟨c0, c1, c2, c3, c4, c5, c6, c7, c8, c9, c10, c11, c12, c13, c14, c15, c16, c17, c18, c19, c20⟩ := UrlAt.of_heap Hu.out
  have hne : ((u.us ++ u.pa) != []) = !(u.us ++ u.pa).isEmpty := by cases (u.us ++ u.pa) <;> rfl
  go_wp2
  go_ret
  refine ⟨ret_bool ?_, HB.out⟩
  rw [HC.out]
def qfew (q : QV) : Bool := PM.few q.u.pm && (decide (q.me.length ≤ 300) && (decide (q.o.sc.length ≤ 300) && (decide (q.o.n.length ≤ 300) && decide (q.rf.length ≤ 5000))))
theorem qfew_ok {q : QV} {w : World} (hr : RdW w q.u.a q.u.pn q.u.xs) (h : qfew q = true) : q.Ok w ∧ q.rf.length ≤ 5000 := by
  unfold qfew at h
  simp only [Bool.and_eq_true, decide_eq_true_eq] at h
  obtain ⟨h1, h2, h3, h4, h5⟩ := h
  exact ⟨⟨few_ok hr h1, ⟨by omega, by omega⟩, by omega⟩, h5⟩
set_option maxRecDepth 100000 in
set_option maxHeartbeats 4000000 in
theorem FewReq_c (q : QV) (w : World) (hr : RdW w q.u.a q.u.pn q.u.xs) : Calls Tryz.prog 16 #[.agg q.cells] w fun e w' => e = .returned (.bool (qfew q)) ∧ Below w.heap.size w w' := by
  have Hq : Hid ((w.alloc (.cells q.cells 32)).heap[w.heap.size]? = some (.cells q.cells 32 (0, 0))) := Lib.hid (Go.heap_alloc_new _ _)
  have HB : Hid (Below w.heap.size w (w.alloc (.cells q.cells 32))) := Lib.hid (b_alloc (Below.refl _ _) _)
  have hf : qfew q = (PM.few q.u.pm && (decide (q.me.length ≤ 300) && (decide (q.o.sc.length ≤ 300) && (decide (q.o.n.length ≤ 300) && decide (q.rf.length ≤ 5000))))) := rfl
  have HF := Lib.hid hf
  have R := Lib.hid hr
  clear hf hr
  go_enter Tryz.func16, Tryz.ntmps16
  go_upto_region 1 with fail
  generalize w.alloc (.cells q.cells 32) = V0 at Hq HB ⊢
  go_wp2_with (first | go_skip | (refine wpList_load_mg 27 _ rfl (by kernel_rfl) w.heap.size 0 rfl q.u.cells (q_url Hq.out) Tryz.underlying27 rfl (by kernel_rfl) ?_))
  refine (Few_c q.u _ (R.out.below HB.out)).mono ?_
  rintro e V1 ⟨rfl, hb⟩
  replace HB := Lib.hid (b_then HB.out hb)
  replace Hq := Lib.hid (obj_b hb Hq.out)
  clear hb
  have c21 : V1.cell? ⟨w.heap.size, 21, none⟩ = some (.string (mkS q.me)) := by rw [Lib.cell_of_heap Hq.out]; rfl
  have c25 : V1.cell? ⟨w.heap.size, 25, none⟩ = some (.string (mkS q.o.sc)) := by rw [Lib.cell_of_heap Hq.out]; rfl
  have c27 : V1.cell? ⟨w.heap.size, 27, none⟩ = some (.string (mkS q.o.n)) := by rw [Lib.cell_of_heap Hq.out]; rfl
  have c41 : V1.cell? ⟨w.heap.size, 41, none⟩ = some (.string (mkS q.rf)) := by rw [Lib.cell_of_heap Hq.out]; rfl
  cases hfw : PM.few q.u.pm
  · have HW := Lib.hid hfw
    clear hfw
    go_wp2
    go_ret
    exact ⟨ret_bool (by rw [HF.out, HW.out]; rfl), HB.out⟩
  have HW := Lib.hid hfw
  clear hfw
  by_cases h0 : q.me.length ≤ 300
  rotate_left
  · have K0 := Lib.hid (show decide (q.me.length ≤ 300) = false from decide_eq_false h0)
    have l0 : ¬ (q.me.length : Int) ≤ 300 := by omega
    have L3 := Lib.hid (show decide ((q.me.length : Int) ≤ 300) = false from decide_eq_false l0)
    clear h0
    go_wp2
    go_ret
    exact ⟨ret_bool (by rw [HF.out, HW.out, K0.out]; first | rfl | (rw [L3.out]; rfl)), HB.out⟩
  have K0 := Lib.hid (show decide (q.me.length ≤ 300) = true from decide_eq_true h0)
  have l0 : (q.me.length : Int) ≤ 300 := by omega
  have L3 := Lib.hid (show decide ((q.me.length : Int) ≤ 300) = true from decide_eq_true l0)
  clear h0
  by_cases h1 : q.o.sc.length ≤ 300
  rotate_left
  · have K1 := Lib.hid (show decide (q.o.sc.length ≤ 300) = false from decide_eq_false h1)
    have l1 : ¬ (q.o.sc.length : Int) ≤ 300 := by omega
    have L3 := Lib.hid (show decide ((q.o.sc.length : Int) ≤ 300) = false from decide_eq_false l1)
    clear h1
    go_wp2
    go_ret
    exact ⟨ret_bool (by rw [HF.out, HW.out, K0.out, K1.out]; first | rfl | (rw [L3.out]; rfl)), HB.out⟩
  have K1 := Lib.hid (show decide (q.o.sc.length ≤ 300) = true from decide_eq_true h1)
  have l1 : (q.o.sc.length : Int) ≤ 300 := by omega
  have L3 := Lib.hid (show decide ((q.o.sc.length : Int) ≤ 300) = true from decide_eq_true l1)
  clear h1
  by_cases h2 : q.o.n.length ≤ 300
  rotate_left
  · have K2 := Lib.hid (show decide (q.o.n.length ≤ 300) = false from decide_eq_false h2)
    have l2 : ¬ (q.o.n.length : Int) ≤ 300 := by omega
    have L3 := Lib.hid (show decide ((q.o.n.length : Int) ≤ 300) = false from decide_eq_false l2)
    clear h2
    go_wp2
    go_ret
    exact ⟨ret_bool (by rw [HF.out, HW.out, K0.out, K1.out, K2.out]; first | rfl | (rw [L3.out]; rfl)), HB.out⟩
  have K2 := Lib.hid (show decide (q.o.n.length ≤ 300) = true from decide_eq_true h2)
  have l2 : (q.o.n.length : Int) ≤ 300 := by omega
  have L3 := Lib.hid (show decide ((q.o.n.length : Int) ≤ 300) = true from decide_eq_true l2)
  clear h2
  by_cases h3 : q.rf.length ≤ 5000
  rotate_left
  · have K3 := Lib.hid (show decide (q.rf.length ≤ 5000) = false from decide_eq_false h3)
    have l3 : ¬ (q.rf.length : Int) ≤ 5000 := by omega
    have L3 := Lib.hid (show decide ((q.rf.length : Int) ≤ 5000) = false from decide_eq_false l3)
    clear h3
    go_wp2
    go_ret
    exact ⟨ret_bool (by rw [HF.out, HW.out, K0.out, K1.out, K2.out, K3.out]; first | rfl | (rw [L3.out]; rfl)), HB.out⟩
  have K3 := Lib.hid (show decide (q.rf.length ≤ 5000) = true from decide_eq_true h3)
  have l3 : (q.rf.length : Int) ≤ 5000 := by omega
  have L3 := Lib.hid (show decide ((q.rf.length : Int) ≤ 5000) = true from decide_eq_true l3)
  clear h3
  go_wp2
  go_ret
  exact ⟨ret_bool (by rw [HF.out, HW.out, K0.out, K1.out, K2.out, K3.out]; first | rfl | (rw [L3.out]; rfl)), HB.out⟩
def k19a : PM.Url := ⟨[104, 116, 116, 112, 115], [], [], ⟨1, [97, 46, 111, 114, 103], 0, [0, 0, 0, 0, 0, 0, 0, 0]⟩, -1, [[]], [], [], [], false, false⟩
theorem k19a_parse : PM.urlParse [104, 116, 116, 112, 115, 58, 47, 47, 97, 46, 111, 114, 103] = some k19a := by kernel_rfl
def k19b : PM.Url := ⟨[104, 116, 116, 112, 115], [], [], ⟨1, [98, 46, 111, 114, 103], 0, [0, 0, 0, 0, 0, 0, 0, 0]⟩, -1, [[]], [], [], [], false, false⟩
theorem k19b_parse : PM.urlParse [104, 116, 116, 112, 115, 58, 47, 47, 98, 46, 111, 114, 103] = some k19b := by kernel_rfl
def k19c : PM.Url := ⟨[104, 116, 116, 112, 115], [], [], ⟨1, [99, 46, 111, 114, 103], 0, [0, 0, 0, 0, 0, 0, 0, 0]⟩, -1, [[]], [], [], [], false, false⟩
theorem k19c_parse : PM.urlParse [104, 116, 116, 112, 115, 58, 47, 47, 99, 46, 111, 114, 103] = some k19c := by kernel_rfl
def rq19 (mo : Int) (ta : Bool) : PM.Req := ⟨k19b, PM.GET, [], false, PM.originOf k19a, mo, 0, 0, [], ta, false, 0⟩
theorem s19_1 : PM.sends (rq19 1 false) = ([104, 116, 116, 112, 115, 58, 47, 47, 97, 46, 111, 114, 103], true) := by kernel_rfl
theorem s19_2 : PM.sends (rq19 1 true) = ([110, 117, 108, 108], true) := by kernel_rfl
theorem s19_3 : PM.quiet (rq19 0 true) = true := by kernel_rfl
theorem s19_4 : PM.crossed (rq19 0 true) = false := by kernel_rfl
theorem s19_5 : PM.taintOf false (PM.originOf k19a) k19b k19c = true := by kernel_rfl
theorem s19_6 : PM.taintOf false (PM.originOf k19a) k19a k19c = false := by kernel_rfl
def q19 (a b : UV) (mo : Int) (ta : Bool) : QV := ⟨b, PM.GET, none, 0, 0, [], false, ofOV a, mo, 0, 0, [], ta, false, 0⟩
theorem q19_pm {a b : UV} (ha : a.pm = k19a) (hb : b.pm = k19b) (mo : Int) (ta : Bool) : (q19 a b mo ta).pm = rq19 mo ta := by
  show (⟨b.pm, PM.GET, [], false, (ofOV a).pm, mo, 0, 0, [], ta, false, 0⟩ : PM.Req) = _
  rw [ofOV_pm, ha, hb]
  rfl
theorem q19_ok {a b : UV} {w : World} (ha : a.Ok w) (hb : b.Ok w) (mo : Int) (ta : Bool) : (q19 a b mo ta).Ok w := ⟨hb, ofOV_ok ha, by show PM.GET.length ≤ 1000000; decide⟩
def zreq : Array Value := #[.string ⟨#[]⟩, .string ⟨#[]⟩, .string ⟨#[]⟩, .int .i64 0, .string ⟨#[]⟩, .int .i64 0, .int .i64 0, .int .i64 0, .int .i64 0, .int .i64 0, .int .i64 0, .int .i64 0, .int .i64 0, .int .i64 0, .int .i64 0, .slice none 0 0, .string ⟨#[]⟩, .string ⟨#[]⟩, .string ⟨#[]⟩, .bool false, .bool false, .string ⟨#[]⟩, .slice none 0 0, .bool false, .bool false, .string ⟨#[]⟩, .int .i64 0, .string ⟨#[]⟩, .int .i64 0, .int .i64 0, .int .i64 0, .int .i64 0, .int .i64 0, .int .i64 0, .int .i64 0, .int .i64 0, .int .i64 0, .int .i64 0, .int .i64 0, .int .i64 0, .int .i64 0, .string ⟨#[]⟩, .bool false, .bool false, .int .i64 0]
def uvu19 : UV := { uz with us := [117] }
@[go_sem] theorem bd_req19 (a b : UV) (w : World) : (Instr.build 32 #[(0, .agg b.cells), (1, .string { data := #[71, 69, 84] }), (4, .agg (ofOV a).cells), (5, .int .i64 1)]).run Tryz.prog w = .ok (.agg (q19 a b 1 false).cells) w := run_build w 32 _ _ (by kernel_rfl)
theorem yield_q19 {o : Oper} {t : Act} {W : World} (a b : UV) (x0 x4 : Operand) (ho : o.op = .build 32 #[(0, x0), (1, .const (.string { data := #[71, 69, 84] })), (4, x4), (5, .const (.int .i64 1))]) (h0 : t.eval x0 = .agg b.cells) (h4 : t.eval x4 = .agg (ofOV a).cells) : (execOp t.eval o).run Tryz.prog W = .ok (.value (.agg (q19 a b 1 false).cells)) W := by
  have h := bd_req19 a b W
  have e1 : t.eval (.const (.string { data := #[71, 69, 84] })) = .string { data := #[71, 69, 84] } := rfl
  have e2 : t.eval (.const (.int .i64 1)) = .int .i64 1 := rfl
  unfold execOp
  simp only [ho, List.map_toArray, List.map_cons, List.map_nil, h0, h4, e1, e2, Sem.run_bind, Sem.run_pure, h, Result.andThen_ok]
@[go_sem] theorem bd_uvu19 (w : World) : (Instr.build 27 #[(1, .string { data := #[117] })]).run Tryz.prog w = .ok (.agg uvu19.cells) w := run_build w 27 _ _ (by kernel_rfl)
set_option maxRecDepth 100000 in
set_option maxHeartbeats 8000000 in
theorem awake19_c (w : World) (hg : Gl w) (hT : Lib.Utf8Tabs 1 2 w) : Calls Tryz.prog 15 #[] w fun e w' => e = .returned (.bool true) ∧ Below w.heap.size w w' := by
  have HG := Lib.hid hg
  have HTB := Lib.hid hT
  have HP0 : Hid (∀ W, Gl W → Lib.Utf8Tabs 1 2 W → Calls Tryz.prog 30 #[.string ⟨#[104, 116, 116, 112, 115, 58, 47, 47, 97, 46, 111, 114, 103]⟩] W fun e w' => (∃ v : UV, e = .returned (.tuple #[.agg v.cells, .bool true]) ∧ v.pm = k19a ∧ v.Ok w') ∧ Below W.heap.size W w') := Lib.hid fun W => known_c [104, 116, 116, 112, 115, 58, 47, 47, 97, 46, 111, 114, 103] k19a (by decide) k19a_parse (by decide) W
  have HP1 : Hid (∀ W, Gl W → Lib.Utf8Tabs 1 2 W → Calls Tryz.prog 30 #[.string ⟨#[104, 116, 116, 112, 115, 58, 47, 47, 98, 46, 111, 114, 103]⟩] W fun e w' => (∃ v : UV, e = .returned (.tuple #[.agg v.cells, .bool true]) ∧ v.pm = k19b ∧ v.Ok w') ∧ Below W.heap.size W w') := Lib.hid fun W => known_c [104, 116, 116, 112, 115, 58, 47, 47, 98, 46, 111, 114, 103] k19b (by decide) k19b_parse (by decide) W
  have HP2 : Hid (∀ W, Gl W → Lib.Utf8Tabs 1 2 W → Calls Tryz.prog 30 #[.string ⟨#[104, 116, 116, 112, 115, 58, 47, 47, 99, 46, 111, 114, 103]⟩] W fun e w' => (∃ v : UV, e = .returned (.tuple #[.agg v.cells, .bool true]) ∧ v.pm = k19c ∧ v.Ok w') ∧ Below W.heap.size W w') := Lib.hid fun W => known_c [104, 116, 116, 112, 115, 58, 47, 47, 99, 46, 111, 114, 103] k19c (by decide) k19c_parse (by decide) W
  have HB : Hid (Below w.heap.size w w) := Lib.hid (Below.refl _ _)
  clear hg hT
  go_enter Tryz.func15, Tryz.ntmps15
  go_wp2_with fail
  refine (HP0.out _ (HG.out.below HB.out) (tabs_below HTB.out HB.out)).mono ?_
  rintro e V1 ⟨⟨a, rfl, hup, huo⟩, hb⟩
  have Pa := Lib.hid hup
  have Oa := Lib.hid huo
  clear hup huo
  replace HB := Lib.hid (b_then HB.out hb)
  clear hb
  have HN := Lib.hid (Go.heap_alloc_new V1 (.cells zurl 27))
  unfold zurl at HN 
  go_upto_region 2 with (first | (refine wpList_store_row rfl 27 _ _ rfl V1.heap.size a.cells rfl rfl 27 _ HN.out (by kernel_rfl) rfl (agg_one a) ?_))
  obtain ⟨V2, hV⟩ : ∃ V2, V2 = (V1.alloc (.cells #[.string ⟨#[]⟩, .string ⟨#[]⟩, .string ⟨#[]⟩, .int .i64 0, .string ⟨#[]⟩, .int .i64 0, .int .i64 0, .int .i64 0, .int .i64 0, .int .i64 0, .int .i64 0, .int .i64 0, .int .i64 0, .int .i64 0, .int .i64 0, .slice none 0 0, .string ⟨#[]⟩, .string ⟨#[]⟩, .string ⟨#[]⟩, .bool false, .bool false] 27)).setRow V1.heap.size a.cells := ⟨_, rfl⟩
  have hN : V2.heap[V1.heap.size]? = some (.cells a.cells 27 (0, 0)) := by rw [hV]; exact heap_setRow HN.out _
  have hb : Below V1.heap.size V1 V2 := by rw [hV]; exact below_setRow (b_alloc (Below.refl _ _) _) (Nat.le_refl _) _
  rw [← hV]
  clear hV HN 
  have Ha := Lib.hid hN
  clear hN
  have hlw_ba : w.heap.size ≤ V1.heap.size := HB.out.size
  replace HB := Lib.hid (b_then HB.out hb)
  replace Oa := Lib.hid (Oa.out.below hb)
  clear hb
  generalize V1.heap.size = ba at Ha hlw_ba ⊢
  (try simp only [Act.put])
  go_wp2_with fail
  refine (HP1.out _ (HG.out.below HB.out) (tabs_below HTB.out HB.out)).mono ?_
  rintro e V3 ⟨⟨b, rfl, hup, huo⟩, hb⟩
  have Pb := Lib.hid hup
  have Ob := Lib.hid huo
  clear hup huo
  replace HB := Lib.hid (b_then HB.out hb)
  replace Ha := Lib.hid (obj_b hb Ha.out)
  replace Oa := Lib.hid (Oa.out.below hb)
  clear hb
  have HN := Lib.hid (Go.heap_alloc_new V3 (.cells zurl 27))
  unfold zurl at HN 
  go_upto_region 3 with (first | (refine wpList_store_row rfl 27 _ _ rfl V3.heap.size b.cells rfl rfl 27 _ HN.out (by kernel_rfl) rfl (agg_one b) ?_))
  obtain ⟨V4, hV⟩ : ∃ V4, V4 = (V3.alloc (.cells #[.string ⟨#[]⟩, .string ⟨#[]⟩, .string ⟨#[]⟩, .int .i64 0, .string ⟨#[]⟩, .int .i64 0, .int .i64 0, .int .i64 0, .int .i64 0, .int .i64 0, .int .i64 0, .int .i64 0, .int .i64 0, .int .i64 0, .int .i64 0, .slice none 0 0, .string ⟨#[]⟩, .string ⟨#[]⟩, .string ⟨#[]⟩, .bool false, .bool false] 27)).setRow V3.heap.size b.cells := ⟨_, rfl⟩
  have hN : V4.heap[V3.heap.size]? = some (.cells b.cells 27 (0, 0)) := by rw [hV]; exact heap_setRow HN.out _
  have hb : Below V3.heap.size V3 V4 := by rw [hV]; exact below_setRow (b_alloc (Below.refl _ _) _) (Nat.le_refl _) _
  rw [← hV]
  clear hV HN 
  have Hb := Lib.hid hN
  clear hN
  have hlt_bb_Ha : ba < V3.heap.size := h_lt Ha.out
  have hlw_bb : w.heap.size ≤ V3.heap.size := HB.out.size
  replace HB := Lib.hid (b_then HB.out hb)
  replace Ha := Lib.hid (obj_b hb Ha.out)
  replace Oa := Lib.hid (Oa.out.below hb)
  replace Ob := Lib.hid (Ob.out.below hb)
  clear hb
  generalize V3.heap.size = bb at Hb hlt_bb_Ha hlw_bb ⊢
  (try simp only [Act.put])
  go_wp2_with fail
  refine (HP2.out _ (HG.out.below HB.out) (tabs_below HTB.out HB.out)).mono ?_
  rintro e V5 ⟨⟨c, rfl, hup, huo⟩, hb⟩
  have Pc := Lib.hid hup
  have Oc := Lib.hid huo
  clear hup huo
  replace HB := Lib.hid (b_then HB.out hb)
  replace Ha := Lib.hid (obj_b hb Ha.out)
  replace Hb := Lib.hid (obj_b hb Hb.out)
  replace Oa := Lib.hid (Oa.out.below hb)
  replace Ob := Lib.hid (Ob.out.below hb)
  clear hb
  have HN := Lib.hid (Go.heap_alloc_new V5 (.cells zurl 27))
  unfold zurl at HN 
  go_upto_region 4 with (first | (refine wpList_store_row rfl 27 _ _ rfl V5.heap.size c.cells rfl rfl 27 _ HN.out (by kernel_rfl) rfl (agg_one c) ?_))
  obtain ⟨V6, hV⟩ : ∃ V6, V6 = (V5.alloc (.cells #[.string ⟨#[]⟩, .string ⟨#[]⟩, .string ⟨#[]⟩, .int .i64 0, .string ⟨#[]⟩, .int .i64 0, .int .i64 0, .int .i64 0, .int .i64 0, .int .i64 0, .int .i64 0, .int .i64 0, .int .i64 0, .int .i64 0, .int .i64 0, .slice none 0 0, .string ⟨#[]⟩, .string ⟨#[]⟩, .string ⟨#[]⟩, .bool false, .bool false] 27)).setRow V5.heap.size c.cells := ⟨_, rfl⟩
  have hN : V6.heap[V5.heap.size]? = some (.cells c.cells 27 (0, 0)) := by rw [hV]; exact heap_setRow HN.out _
  have hb : Below V5.heap.size V5 V6 := by rw [hV]; exact below_setRow (b_alloc (Below.refl _ _) _) (Nat.le_refl _) _
  rw [← hV]
  clear hV HN 
  have Hc := Lib.hid hN
  clear hN
  have hlt_bc_Ha : ba < V5.heap.size := h_lt Ha.out
  have hlt_bc_Hb : bb < V5.heap.size := h_lt Hb.out
  have hlw_bc : w.heap.size ≤ V5.heap.size := HB.out.size
  replace HB := Lib.hid (b_then HB.out hb)
  replace Ha := Lib.hid (obj_b hb Ha.out)
  replace Hb := Lib.hid (obj_b hb Hb.out)
  replace Oa := Lib.hid (Oa.out.below hb)
  replace Ob := Lib.hid (Ob.out.below hb)
  replace Oc := Lib.hid (Oc.out.below hb)
  clear hb
  generalize V5.heap.size = bc at Hc hlt_bc_Ha hlt_bc_Hb hlw_bc ⊢
  (try simp only [Act.put])
  go_cut [7] (fun p wr => ∃ bq : Nat, p = .pointer (some ⟨bq, 0, none⟩) ∧ V6.heap.size ≤ bq ∧ Hid (wr.heap[bq]? = some (.cells (q19 a b 1 false).cells 32 (0, 0))) ∧ Hid (Below V6.heap.size V6 wr))
  case first =>
    go_wp2_with fail
    refine wp_region_noPanic ?_
    refine wp_region_held_drew (S := fun W' => Below V6.heap.size V6 W') (by kernel_rfl) (b_drew (Below.refl _ _)) (fun hS0 => ?_)
    refine wpAnyH_take (i := 0) (v := ?_) rfl (by kernel_rfl) (by kernel_rfl) (by kernel_rfl) (fun _ _ _ h => h) (Or.inl ⟨by kernel_rfl, fun W hW => ?_⟩) (by assumption) ?_
    rotate_left
    · refine yield_row 27 (.tmp 3) ?_ bb ?_ (obj_b hW Hb.out) Tryz.underlying27 rfl (by kernel_rfl)
      · rfl
      · rfl
    (try simp only [List.getElem_toArray, List.getElem_cons_zero, List.getElem_cons_succ, Act.put, List.setIfInBounds_toArray, List.set_cons_zero, List.set_cons_succ])
    refine wpAnyH_take (i := 1) (v := ?_) rfl (by kernel_rfl) (by kernel_rfl) (by kernel_rfl) (fun _ _ _ h => h) (Or.inl ⟨by kernel_rfl, fun W hW => ?_⟩) (by assumption) ?_
    rotate_left
    · refine yield_row 27 (.tmp 1) ?_ ba ?_ (obj_b hW Ha.out) Tryz.underlying27 rfl (by kernel_rfl)
      · rfl
      · rfl
    (try simp only [List.getElem_toArray, List.getElem_cons_zero, List.getElem_cons_succ, Act.put, List.setIfInBounds_toArray, List.set_cons_zero, List.set_cons_succ])
    refine wpAnyH_ready (rs := [2, 4]) (by kernel_rfl) (by simp) ?_
    refine AllReadyH.cons rfl (fun K hK => ?_) (AllReadyH.cons rfl (fun K hK => ?_) AllReadyH.nil)
    · go_simp
      refine (Of_c a _ (Oa.out.below hS0) (HG.out.below (b_then HB.out hS0))).mono ?_
      rintro e V7 ⟨rfl, hb⟩
      have hSn := b_then hS0 hb
      have hle : V6.heap.size ≤ V7.heap.size := hSn.size
      clear hb hS0
      refine hK.out _ _ hSn (fun _ => ?_)
      clear hK K
      (try simp only [List.getElem_toArray, List.getElem_cons_zero, List.getElem_cons_succ, Act.put, List.setIfInBounds_toArray, List.set_cons_zero, List.set_cons_succ])
      refine wpAnyH_take (i := 3) (v := ?_) rfl (by kernel_rfl) (by kernel_rfl) (by kernel_rfl) (fun _ _ _ h => h) (Or.inl ⟨by kernel_rfl, fun W hW => ?_⟩) (by assumption) ?_
      rotate_left
      · refine yield_q19 a b (.tmp 24) (.tmp 26) ?_ ?_ ?_
        · rfl
        · rfl
        · rfl
      (try simp only [List.getElem_toArray, List.getElem_cons_zero, List.getElem_cons_succ, Act.put, List.setIfInBounds_toArray, List.set_cons_zero, List.set_cons_succ])
      have hN : (V7.alloc (.cells zreq 32)).heap[V7.heap.size]? = some (.cells zreq 32 (0, 0)) := Go.heap_alloc_new _ _
      have HN := Lib.hid hN
      have hSa : Below V6.heap.size V6 (V7.alloc (.cells zreq 32)) := b_alloc hSn _
      have HSA := Lib.hid hSa
      clear hN hSa
      unfold zreq at HN HSA
      refine wpAnyH_ready (rs := [4]) (by kernel_rfl) (by simp) ?_
      refine AllReadyH.cons rfl (fun K hK => ?_) AllReadyH.nil
      go_simp
      refine hK.out _ _ HSA.out (fun _ => ?_)
      clear hK K
      (try simp only [List.getElem_toArray, List.getElem_cons_zero, List.getElem_cons_succ, Act.put, List.setIfInBounds_toArray, List.set_cons_zero, List.set_cons_succ])
      have hSA := HSA.out
      clear hSn
      refine wpAnyH_ready (rs := [5]) (by kernel_rfl) (by simp) ?_
      refine AllReadyH.cons rfl (fun K hK => ?_) AllReadyH.nil
      try rw [if_pos (by rfl)]
      refine wp_store_row 32 _ _ rfl V7.heap.size (q19 a b 1 false).cells rfl rfl 32 _ HN.out (by kernel_rfl) rfl (qagg_one _) ?_
      have hS5 := below_setRow HSA.out hle (q19 a b 1 false).cells
      refine hK.out _ _ hS5 (fun _ => ?_)
      clear hK K
      (try simp only [List.getElem_toArray, List.getElem_cons_zero, List.getElem_cons_succ, Act.put, List.setIfInBounds_toArray, List.set_cons_zero, List.set_cons_succ])
      refine wpAnyH_done (by kernel_rfl) ?_ _
      refine NoPanic.normal ?_
      go_wp2
      go_meet
      exact ⟨V7.heap.size, rfl, hle, Lib.hid (heap_setRow HN.out _), Lib.hid hS5⟩
    · go_simp
      have hN : (V6.alloc (.cells zreq 32)).drew.heap[V6.heap.size]? = some (.cells zreq 32 (0, 0)) := Go.heap_alloc_new V6 _
      have hb1 : Below V6.heap.size V6 (V6.alloc (.cells zreq 32)).drew := b_drew (b_alloc (Below.refl _ _) _)
      have HN := Lib.hid hN
      have HB1 := Lib.hid hb1
      clear hN hb1 hS0
      unfold zreq at HN HB1
      refine hK.out _ _ HB1.out (fun _ => ?_)
      clear hK K
      (try simp only [List.getElem_toArray, List.getElem_cons_zero, List.getElem_cons_succ, Act.put, List.setIfInBounds_toArray, List.set_cons_zero, List.set_cons_succ])
      generalize hW7 : (V6.alloc (Obj.cells _ 32)).drew = W7 at HN HB1 ⊢
      clear hW7
      refine wpAnyH_ready (rs := [2]) (by kernel_rfl) (by simp) ?_
      refine AllReadyH.cons rfl (fun K hK => ?_) AllReadyH.nil
      go_simp
      refine (Of_c a _ (Oa.out.below HB1.out) (HG.out.below (b_then HB.out HB1.out))).mono ?_
      rintro e V7 ⟨rfl, hb⟩
      have hN2 := obj_b hb HN.out
      have hSn := b_then HB1.out hb
      have hle : V6.heap.size ≤ V6.heap.size := Nat.le_refl _
      clear hb
      refine hK.out _ _ hSn (fun _ => ?_)
      clear hK K
      (try simp only [List.getElem_toArray, List.getElem_cons_zero, List.getElem_cons_succ, Act.put, List.setIfInBounds_toArray, List.set_cons_zero, List.set_cons_succ])
      refine wpAnyH_take (i := 3) (v := ?_) rfl (by kernel_rfl) (by kernel_rfl) (by kernel_rfl) (fun _ _ _ h => h) (Or.inl ⟨by kernel_rfl, fun W hW => ?_⟩) (by assumption) ?_
      rotate_left
      · refine yield_q19 a b (.tmp 24) (.tmp 26) ?_ ?_ ?_
        · rfl
        · rfl
        · rfl
      (try simp only [List.getElem_toArray, List.getElem_cons_zero, List.getElem_cons_succ, Act.put, List.setIfInBounds_toArray, List.set_cons_zero, List.set_cons_succ])
      refine wpAnyH_ready (rs := [5]) (by kernel_rfl) (by simp) ?_
      refine AllReadyH.cons rfl (fun K hK => ?_) AllReadyH.nil
      try rw [if_pos (by rfl)]
      refine wp_store_row 32 _ _ rfl V6.heap.size (q19 a b 1 false).cells rfl rfl 32 _ hN2 (by kernel_rfl) rfl (qagg_one _) ?_
      have hS5 := below_setRow hSn hle (q19 a b 1 false).cells
      refine hK.out _ _ hS5 (fun _ => ?_)
      clear hK K
      (try simp only [List.getElem_toArray, List.getElem_cons_zero, List.getElem_cons_succ, Act.put, List.setIfInBounds_toArray, List.set_cons_zero, List.set_cons_succ])
      refine wpAnyH_done (by kernel_rfl) ?_ _
      refine NoPanic.normal ?_
      go_wp2
      go_meet
      exact ⟨V6.heap.size, rfl, hle, Lib.hid (heap_setRow hN2 _), Lib.hid hS5⟩
  case rest =>
    obtain ⟨bq, rfl, hlq, Hq, HB6⟩ := hcut
    have hlt_bq_Ha : ba < bq := Nat.lt_of_lt_of_le (h_lt Ha.out) hlq
    replace Ha := Lib.hid (obj_b HB6.out Ha.out)
    have hlt_bq_Hb : bb < bq := Nat.lt_of_lt_of_le (h_lt Hb.out) hlq
    replace Hb := Lib.hid (obj_b HB6.out Hb.out)
    have hlt_bq_Hc : bc < bq := Nat.lt_of_lt_of_le (h_lt Hc.out) hlq
    replace Hc := Lib.hid (obj_b HB6.out Hc.out)
    have hle_bq_HB6 : V6.heap.size ≤ bq := hlq
    have hlw_bq : w.heap.size ≤ bq := Nat.le_trans HB.out.size hlq
    replace HB := Lib.hid (b_then HB.out HB6.out)
    go_wp2_with (first | go_skip | (refine wpList_load_g 32 _ rfl (by kernel_rfl) bq rfl Hq.out Tryz.underlying32 rfl (by kernel_rfl) ?_))
    refine (Sends_c (q19 a b 1 false) _ (q19_ok (Oa.out.below HB6.out) (Ob.out.below HB6.out) 1 false) (HG.out.below HB.out)).mono ?_
    rw [q19_pm Pa.out Pb.out, s19_1]
    rintro e V8 ⟨rfl, hb⟩
    replace HB := Lib.hid (b_then HB.out hb)
    replace Ha := Lib.hid (obj_b hb Ha.out)
    replace Hb := Lib.hid (obj_b hb Hb.out)
    replace Hc := Lib.hid (obj_b hb Hc.out)
    replace Hq := Lib.hid (obj_b hb Hq.out)
    replace HB6 := Lib.hid (b_then HB6.out hb)
    clear hb
    have ff := Lib.frozen_of_heap Hq.out 42
    have dd : V8.cell? ⟨bq, 42, none⟩ = some (.bool false) := by rw [Lib.cell_of_heap Hq.out]; rfl
    go_upto_region 7 with fail
    clear ff dd
    obtain ⟨W1, hV⟩ : ∃ W1, W1 = V8.setCell ⟨bq, 42, none⟩ (.bool true) := ⟨_, rfl⟩
    rw [← hV]
    replace Hq := Lib.hid (show W1.heap[bq]? = some (.cells (q19 a b 1 true).cells 32 (0, 0)) from by rw [hV]; exact setCell_heap Hq.out 42 _)
    replace Ha := Lib.hid (show W1.heap[ba]? = some (.cells _ 27 (0, 0)) from by rw [hV]; exact heap_set_other Ha.out _ _ _ (by omega))
    replace Hb := Lib.hid (show W1.heap[bb]? = some (.cells _ 27 (0, 0)) from by rw [hV]; exact heap_set_other Hb.out _ _ _ (by omega))
    replace Hc := Lib.hid (show W1.heap[bc]? = some (.cells _ 27 (0, 0)) from by rw [hV]; exact heap_set_other Hc.out _ _ _ (by omega))
    replace HB := Lib.hid (show Below w.heap.size w W1 from by rw [hV]; exact b_set HB.out _ hlw_bq _)
    replace HB6 := Lib.hid (show Below V6.heap.size V6 W1 from by rw [hV]; exact b_set HB6.out _ hle_bq_HB6 _)
    clear hV
    go_wp2_with (first | go_skip | (refine wpList_load_g 32 _ rfl (by kernel_rfl) bq rfl Hq.out Tryz.underlying32 rfl (by kernel_rfl) ?_))
    refine (Sends_c (q19 a b 1 true) _ (q19_ok (Oa.out.below HB6.out) (Ob.out.below HB6.out) 1 true) (HG.out.below HB.out)).mono ?_
    rw [q19_pm Pa.out Pb.out, s19_2]
    rintro e V9 ⟨rfl, hb⟩
    replace HB := Lib.hid (b_then HB.out hb)
    replace Ha := Lib.hid (obj_b hb Ha.out)
    replace Hb := Lib.hid (obj_b hb Hb.out)
    replace Hc := Lib.hid (obj_b hb Hc.out)
    replace Hq := Lib.hid (obj_b hb Hq.out)
    replace HB6 := Lib.hid (b_then HB6.out hb)
    clear hb
    have ff := Lib.frozen_of_heap Hq.out 38
    have dd : V9.cell? ⟨bq, 38, none⟩ = some (.int .i64 1) := by rw [Lib.cell_of_heap Hq.out]; rfl
    go_upto_region 9 with fail
    clear ff dd
    obtain ⟨W2, hV⟩ : ∃ W2, W2 = V9.setCell ⟨bq, 38, none⟩ (.int .i64 0) := ⟨_, rfl⟩
    rw [← hV]
    replace Hq := Lib.hid (show W2.heap[bq]? = some (.cells (q19 a b 0 true).cells 32 (0, 0)) from by rw [hV]; exact setCell_heap Hq.out 38 _)
    replace Ha := Lib.hid (show W2.heap[ba]? = some (.cells _ 27 (0, 0)) from by rw [hV]; exact heap_set_other Ha.out _ _ _ (by omega))
    replace Hb := Lib.hid (show W2.heap[bb]? = some (.cells _ 27 (0, 0)) from by rw [hV]; exact heap_set_other Hb.out _ _ _ (by omega))
    replace Hc := Lib.hid (show W2.heap[bc]? = some (.cells _ 27 (0, 0)) from by rw [hV]; exact heap_set_other Hc.out _ _ _ (by omega))
    replace HB := Lib.hid (show Below w.heap.size w W2 from by rw [hV]; exact b_set HB.out _ hlw_bq _)
    replace HB6 := Lib.hid (show Below V6.heap.size V6 W2 from by rw [hV]; exact b_set HB6.out _ hle_bq_HB6 _)
    clear hV
    go_wp2_with (first | go_skip | (refine wpList_load_g 32 _ rfl (by kernel_rfl) bq rfl Hq.out Tryz.underlying32 rfl (by kernel_rfl) ?_))
    refine (Quiet_c (q19 a b 0 true) _ (q19_ok (Oa.out.below HB6.out) (Ob.out.below HB6.out) 0 true) (HG.out.below HB.out)).mono ?_
    rw [q19_pm Pa.out Pb.out, s19_3]
    rintro e V10 ⟨rfl, hb⟩
    replace HB := Lib.hid (b_then HB.out hb)
    replace Ha := Lib.hid (obj_b hb Ha.out)
    replace Hb := Lib.hid (obj_b hb Hb.out)
    replace Hc := Lib.hid (obj_b hb Hc.out)
    replace Hq := Lib.hid (obj_b hb Hq.out)
    replace HB6 := Lib.hid (b_then HB6.out hb)
    clear hb
    go_wp2_with (first | go_skip | (refine wpList_load_mg 30 _ rfl (by kernel_rfl) bq 24 rfl (ofOV a).cells (q_org Hq.out) Tryz.underlying30 rfl (by kernel_rfl) ?_) | (refine wpList_load_g 27 _ rfl (by kernel_rfl) bb rfl Hb.out Tryz.underlying27 rfl (by kernel_rfl) ?_) | (refine wpList_load_g 27 _ rfl (by kernel_rfl) bc rfl Hc.out Tryz.underlying27 rfl (by kernel_rfl) ?_))
    refine (Taint_c false (ofOV a) b c _ (ofOV_ok (Oa.out.below HB6.out)) (Ob.out.below HB6.out) (Oc.out.below HB6.out) (HG.out.below HB.out)).mono ?_
    rw [ofOV_pm, Pa.out, Pb.out, Pc.out, s19_5]
    rintro e V11 ⟨rfl, hb⟩
    replace HB := Lib.hid (b_then HB.out hb)
    replace Ha := Lib.hid (obj_b hb Ha.out)
    replace Hb := Lib.hid (obj_b hb Hb.out)
    replace Hc := Lib.hid (obj_b hb Hc.out)
    replace Hq := Lib.hid (obj_b hb Hq.out)
    replace HB6 := Lib.hid (b_then HB6.out hb)
    clear hb
    go_wp2_with (first | go_skip | (refine wpList_load_mg 30 _ rfl (by kernel_rfl) bq 24 rfl (ofOV a).cells (q_org Hq.out) Tryz.underlying30 rfl (by kernel_rfl) ?_) | (refine wpList_load_g 27 _ rfl (by kernel_rfl) ba rfl Ha.out Tryz.underlying27 rfl (by kernel_rfl) ?_) | (refine wpList_load_g 27 _ rfl (by kernel_rfl) bc rfl Hc.out Tryz.underlying27 rfl (by kernel_rfl) ?_))
    refine (Taint_c false (ofOV a) a c _ (ofOV_ok (Oa.out.below HB6.out)) (Oa.out.below HB6.out) (Oc.out.below HB6.out) (HG.out.below HB.out)).mono ?_
    rw [ofOV_pm, Pa.out, Pc.out, s19_6]
    rintro e V12 ⟨rfl, hb⟩
    replace HB := Lib.hid (b_then HB.out hb)
    replace Ha := Lib.hid (obj_b hb Ha.out)
    replace Hb := Lib.hid (obj_b hb Hb.out)
    replace Hc := Lib.hid (obj_b hb Hc.out)
    replace Hq := Lib.hid (obj_b hb Hq.out)
    replace HB6 := Lib.hid (b_then HB6.out hb)
    clear hb
    go_wp2_with fail
    refine (Creds_c uvu19 _ (by show 1 ≤ 1000000; decide) (by show 0 ≤ 1000000; decide)).mono ?_
    rw [show PM.creds uvu19.pm = true from rfl]
    rintro e V13 ⟨rfl, hb⟩
    replace HB := Lib.hid (b_then HB.out hb)
    replace Ha := Lib.hid (obj_b hb Ha.out)
    replace Hb := Lib.hid (obj_b hb Hb.out)
    replace Hc := Lib.hid (obj_b hb Hc.out)
    replace Hq := Lib.hid (obj_b hb Hq.out)
    replace HB6 := Lib.hid (b_then HB6.out hb)
    clear hb
    go_wp2_with (first | go_skip | (refine wpList_load_g 32 _ rfl (by kernel_rfl) bq rfl Hq.out Tryz.underlying32 rfl (by kernel_rfl) ?_))
    refine (Crossed_c (q19 a b 0 true) _ (q19_ok (Oa.out.below HB6.out) (Ob.out.below HB6.out) 0 true) (HG.out.below HB.out)).mono ?_
    rw [q19_pm Pa.out Pb.out, s19_4]
    rintro e V14 ⟨rfl, hb⟩
    replace HB := Lib.hid (b_then HB.out hb)
    replace Ha := Lib.hid (obj_b hb Ha.out)
    replace Hb := Lib.hid (obj_b hb Hb.out)
    replace Hc := Lib.hid (obj_b hb Hc.out)
    replace Hq := Lib.hid (obj_b hb Hq.out)
    replace HB6 := Lib.hid (b_then HB6.out hb)
    clear hb
    go_wp2
    go_ret
    exact ⟨rfl, HB.out⟩
end Go.Proofs.YtphigjogeejdjaaGreatDoor
