import Derived.Test.YtppbkblnjlbnfaaGreatDoorP14
import Derived.Recover
/-! Contract: url.Parse. -/
set_option linter.unusedVariables false
set_option linter.unusedSimpArgs false
namespace Go.Proofs.YtppbkblnjlbnfaaGreatDoor
open Go.RowKit
theorem zurl_one : zurl.all (·.oneCell') = true := by kernel_rfl
set_option maxRecDepth 100000 in
set_option maxHeartbeats 1000000 in
theorem catch_panicking (pu pb : Nat) (hne : pu ≠ pb) (x : Bool) (older : List PanicEntry) (w : World) (hpu : w.heap[pu]? = some (.cells zurl 27 (0, 0))) (hc : w.heap[pb]? = some (.cells #[.bool x] 4 (0, 0))) :
    CallsD Tryz.prog 80 #[.pointer (some ⟨pu, 0, none⟩), .pointer (some ⟨pb, 0, none⟩)] (.panicking ({ v := .iface 108 (.agg #[]), recovered := false } :: older)) w fun e u' w' =>
      e = .returned (.tuple #[]) ∧ u' = .panicking ({ v := .iface 108 (.agg #[]), recovered := true } :: older) ∧ w' = (w.setRow pu zurl).setCell ⟨pb, 0, none⟩ (.bool false) := by
  have hta : ∀ W : World, (Instr.typeAssert (.iface 108 (.agg #[])) 20 108 false).run Tryz.prog W = .ok (.agg #[]) W := fun W => by kernel_rfl
  have hpb2 : (w.setRow pu zurl).heap[pb]? = some (.cells #[.bool x] 4 (0, 0)) := by
    rw [← hc]
    simp [World.setRow, Array.getElem?_modify, hne]
  have hcb : (w.setRow pu zurl).cell? ⟨pb, 0, none⟩ = some (.bool x) := by rw [Lib.cell_of_heap hpb2]; rfl
  have hfb := Lib.frozen_of_heap hpb2 0
  refine callsD_of_wpS Tryz.func80 rfl fun c₀ cs hu => ?_
  apply wpS_seq
  apply wpS_region
  simp [wpOpsS, go_sem, recoverD, hu, Tryz.ntmps80, Exit.thenS]
  refine wpS_of_wp ?_
  simp only [Array.replicate]
  go_wp2_with (refine wpList_store_row rfl 27 _ _ rfl pu zurl rfl rfl 27 _ hpu (by kernel_rfl) rfl zurl_one ?_)
  simp [bodyPostS, results, Tryz.results80]
theorem catch_idle (pu pb : Nat) (w : World) :
    CallsD Tryz.prog 80 #[.pointer (some ⟨pu, 0, none⟩), .pointer (some ⟨pb, 0, none⟩)] .returning w fun e u' w' => e = .returned (.tuple #[]) ∧ u' = .returning ∧ w' = w := by
  refine callsD_of_wpS Tryz.func80 rfl fun c₀ cs hu => ?_
  apply wpS_seq
  apply wpS_region
  simp [wpOpsS, go_sem, recoverD, hu, Tryz.ntmps80, Exit.thenS]
  refine wpS_of_wp ?_
  simp only [Array.replicate]
  go_wp2_with fail
  cases c₀
  simp_all [bodyPostS, results, Tryz.results80]
theorem results_url_bool (tmps : Array Value) (w : World) (g g2 : Nat) (cs : Array Value) (x : Bool) (hs : cs.size = 21)
    (hp : tmps.getD 2 undef = .pointer (some ⟨g, 0, none⟩)) (hq : tmps.getD 3 undef = .pointer (some ⟨g2, 0, none⟩)) (hg : w.heap[g]? = some (.cells cs 27 (0, 0)))
    (hx : w.heap[g2]? = some (.cells #[.bool x] 4 (0, 0))) :
    (results Tryz.f45 tmps).run Tryz.prog w = .ok (.tuple #[.agg cs, .bool x]) w := by
  have hp' : tmps[2]?.getD undef = .pointer (some ⟨g, 0, none⟩) := by simpa using hp
  have hq' : tmps[3]?.getD undef = .pointer (some ⟨g2, 0, none⟩) := by simpa using hq
  have hc : w.cell? ⟨g2, 0, none⟩ = some (.bool x) := by rw [Lib.cell_of_heap hx]; rfl
  have hl : (loadVar 4 ⟨g2, 0, none⟩).run Tryz.prog w = .ok (.bool x) w := by simp [loadVar, go_sem, hc]
  simp [results, Tryz.results45, hp', hq', asAddr, run_loadVar_row w g 27 27 cs (0, 0) _ hg Tryz.underlying27 rfl (by rw [hs]; kernel_rfl), hl]
/-- The address of noughts. -/
def uz : UV := ⟨[], [], [], 0, [], 0, 0, 0, 0, 0, 0, 0, 0, 0, 0, none, 0, 0, [], [], [], [], false, false⟩
theorem uz_cells : uz.cells = zurl := rfl
/-- What Parse leaves. -/
def ParseR (o : Option PM.Url) (e : Ending) (w' : World) : Prop := ∃ v : UV, e = .returned (.tuple #[.agg v.cells, .bool o.isSome]) ∧ v.pm = o.getD uz.pm ∧ (v.xs.length ≤ 10000 → v.Ok w')
theorem clean_len (s : List UInt8) : (PM.clean s).length ≤ s.length := by
  have h1 : (PM.trim s).length ≤ s.length := by
    unfold PM.trim
    rw [List.length_reverse]
    refine Nat.le_trans (List.dropWhile_sublist _).length_le ?_
    rw [List.length_reverse]
    exact (List.dropWhile_sublist _).length_le
  unfold PM.clean
  exact Nat.le_trans (List.length_filter_le _ _) h1
set_option maxRecDepth 100000 in
set_option maxHeartbeats 1000000 in
theorem UrlParse_c (s : List UInt8) (hs : s.length ≤ 30000) (w : World) (hg : Gl w) (hT : Lib.Utf8Tabs 2 3 w) : Calls Tryz.prog 45 #[.string (mkS s)] w fun e w' => ParseR (PM.urlParse s) e w' ∧ Below w.heap.size w w' := by
  have hmf : ∀ (fn : Fn) (first cap : Array Value) (w : World), (Instr.makeFunc fn first cap).run Tryz.prog w = .ok (.func fn first cap) w := fun _ _ _ _ => rfl
  have hcl := clean_len s
  have h1 : Hid (((w.alloc (.cells zurl 27)).alloc (.cells #[.bool false] 4)).heap[w.heap.size]? = some (.cells zurl 27 (0, 0))) := Lib.hid (heap_two _ _ _)
  have h2 : Hid (((w.alloc (.cells zurl 27)).alloc (.cells #[.bool false] 4)).heap[w.heap.size + 1]? = some (.cells #[.bool false] 4 (0, 0))) := Lib.hid (Go.heap_alloc2_new _ _ _)
  have hB : Hid (Below w.heap.size w ((w.alloc (.cells zurl 27)).alloc (.cells #[.bool false] 4))) := Lib.hid (b_alloc (b_alloc (Below.refl _ _) _) _)
  have hN : Hid (w.heap.size + 2 ≤ ((w.alloc (.cells zurl 27)).alloc (.cells #[.bool false] 4)).heap.size) := Lib.hid (by simp)
  have HG := Lib.hid (hg.below hB.out)
  have HT := Lib.hid (tabs_below hT hB.out)
  clear hg hT
  unfold zurl at h1 h2 hB hN HG HT
  go_enter_defers Tryz.func45, Tryz.ntmps45
  go_wp2_with fail
  generalize (w.alloc (.cells #[.string ⟨#[]⟩, .string ⟨#[]⟩, .string ⟨#[]⟩, .int .i64 0, .string ⟨#[]⟩, .int .i64 0, .int .i64 0, .int .i64 0, .int .i64 0, .int .i64 0, .int .i64 0, .int .i64 0, .int .i64 0, .int .i64 0, .int .i64 0, .slice none 0 0, .string ⟨#[]⟩, .string ⟨#[]⟩, .string ⟨#[]⟩, .bool false, .bool false] 27)).alloc (.cells #[.bool false] 4) = V0 at h1 h2 hB hN HG HT ⊢
  refine (Clean_c s (by omega) V0 HT.out).mono ?_
  rintro e w1 ⟨rfl, hb1⟩
  replace h1 := Lib.hid (obj_b hb1 h1.out)
  replace h2 := Lib.hid (obj_b hb1 h2.out)
  replace hB := Lib.hid (b_then hB.out hb1)
  replace hN := Lib.hid (Nat.le_trans hN.out hb1.size)
  replace HG := Lib.hid (HG.out.below hb1)
  clear hb1 HT
  have hU := Uparse_c (PM.clean s) (by omega) w1 HG.out
  have hpe : PM.urlParse s = PM.parseC (PM.clean s) := rfl
  obtain ⟨o, ho⟩ : ∃ o, PM.parseC (PM.clean s) = o := ⟨_, rfl⟩
  rw [ho] at hpe hU
  have HPE := Lib.hid hpe
  clear hpe ho hcl
  cases o with
  | none =>
    replace hU : Hid (Calls Tryz.prog 81 #[.string (mkS (PM.clean s))] w1 fun e w' => e = .panicked [{ v := .iface 108 (.agg #[]), recovered := false }] ∧ Below w1.heap.size w1 w') := Lib.hid hU
    go_wp2_with (first
      | (go_at_call 81; refine hU.out.mono ?_; rintro e w2 ⟨rfl, hb2⟩))
    have h12 := obj_b hb2 h1.out
    have h22 := obj_b hb2 h2.out
    refine leaves_cons (f := 80) (args := #[.pointer (some ⟨w.heap.size, 0, none⟩), .pointer (some ⟨w.heap.size + 1, 0, none⟩)]) (by simp) (by simp [go_sem]) ?_
    refine (catch_panicking _ _ (by omega) false [] w2 h12 h22).mono ?_
    rintro e u' w'' ⟨rfl, rfl, rfl⟩
    refine ⟨_, results_url_bool _ _ w.heap.size (w.heap.size + 1) zurl false rfl rfl rfl ?_ ?_, ?_⟩
    · exact heap_set_other (heap_setRow h12 _) _ _ _ (by omega)
    · refine setCell_heap (cs := #[.bool false]) ?_ 0 _
      rw [← h22]
      simp [World.setRow, Array.getElem?_modify]
    · rw [HPE.out]
      refine ⟨⟨uz, rfl, rfl, fun _ => ⟨by decide, by decide, by decide, by decide, by decide, by decide, by decide, by decide, by simp [uz], zrd _⟩⟩, ?_⟩
      exact b_set (below_setRow (b_then hB.out hb2) (Nat.le_refl _) _) _ (Nat.le_succ _) _
  | some p =>
    replace hU : Hid (Calls Tryz.prog 81 #[.string (mkS (PM.clean s))] w1 fun e w' => (∃ v : UV, e = .returned (.agg v.cells) ∧ v.pm = p ∧ From w1.heap.size v.a v.xs ∧ (p.path.length ≤ 10000 → v.Ok w')) ∧ Below w1.heap.size w1 w') := Lib.hid hU
    go_wp2_with fail
    refine hU.out.mono ?_
    rintro e w2 ⟨⟨v, rfl, hp, hfr, hok⟩, hb2⟩
    have h12 := obj_b hb2 h1.out
    have h22 := obj_b hb2 h2.out
    have h23 : (w2.setRow w.heap.size v.cells).heap[w.heap.size + 1]? = some (.cells #[.bool false] 4 (0, 0)) := by
      rw [← h22]
      simp [World.setRow, Array.getElem?_modify]
    have cb : (w2.setRow w.heap.size v.cells).cell? ⟨w.heap.size + 1, 0, none⟩ = some (.bool false) := by rw [Lib.cell_of_heap h23]; rfl
    have fb := Lib.frozen_of_heap h23 0
    have HP := Lib.hid hp
    have HFR := Lib.hid hfr
    have HOK := Lib.hid hok
    have HB2 := Lib.hid hb2
    have H23 := Lib.hid h23
    clear hp hfr hok hb2 h23 h22
    go_wp2_with (refine wpList_store_row rfl 27 _ _ rfl w.heap.size v.cells rfl rfl 27 _ h12 (by kernel_rfl) rfl (agg_one v) ?_)
    refine leaves_cons (f := 80) (args := #[.pointer (some ⟨w.heap.size, 0, none⟩), .pointer (some ⟨w.heap.size + 1, 0, none⟩)]) (by simp) (by simp [go_sem]) ?_
    refine (catch_idle _ _ _).mono ?_
    rintro e u' w'' ⟨rfl, rfl, rfl⟩
    refine ⟨_, results_url_bool _ _ w.heap.size (w.heap.size + 1) v.cells true rfl rfl rfl ?_ ?_, ?_⟩
    · exact heap_set_other (heap_setRow h12 _) _ _ _ (by omega)
    · exact setCell_heap (cs := #[.bool false]) H23.out 0 _
    · rw [HPE.out]
      refine ⟨⟨v, rfl, HP.out, fun hlen => ?_⟩, ?_⟩
      · have hk := HOK.out (by rw [← HP.out]; exact hlen)
        have hn := hN.out
        refine ⟨hk.sc, hk.us, hk.pa, hk.n, hk.op, hk.qu, hk.fr, hk.xn, hk.xl, hk.rd.frame (by simp [World.setRow, World.setCell]) fun g o e hx => ?_⟩
        have hg := HFR.out g o e hx
        rw [heap_set_other rfl _ _ _ (by omega)]
        simp [World.setRow, Array.getElem?_modify, show w.heap.size ≠ g by omega]
      · exact b_set (below_setRow (b_then hB.out HB2.out) (Nat.le_refl _) _) _ (Nat.le_succ _) _
end Go.Proofs.YtppbkblnjlbnfaaGreatDoor
