import Derived.Test.YtppbkblnjlbnfaaGreatDoorP15
/-! url.Parse: its contract, and whose the path's block is. -/
set_option linter.unusedVariables false
set_option linter.unusedSimpArgs false
namespace Go.Proofs.YtppbkblnjlbnfaaGreatDoor
open Go.RowKit
/-- What Parse leaves; the path lies in a block of its own. -/
def ParseRF (o : Option PM.Url) (B : Nat) (e : Ending) (w' : World) : Prop := ∃ v : UV, e = .returned (.tuple #[.agg v.cells, .bool o.isSome]) ∧ v.pm = o.getD uz.pm ∧ From B v.a v.xs ∧ (v.xs.length ≤ 10000 → v.Ok w')
set_option maxRecDepth 100000 in
set_option maxHeartbeats 1000000 in
theorem UrlParseF_c (s : List UInt8) (hs : s.length ≤ 30000) (w : World) (hg : Gl w) (hT : Lib.Utf8Tabs 2 3 w) : Calls Tryz.prog 45 #[.string (mkS s)] w fun e w' => ParseRF (PM.urlParse s) w.heap.size e w' ∧ Below w.heap.size w w' := by
  have hmf : ∀ (fn : Fn) (first cap : Array Value) (w : World), (Instr.makeFunc fn first cap).run Tryz.prog w = .ok (.func fn first cap) w := fun _ _ _ _ => rfl
  have hcl := clean_len s
  have h1 : Hid (((w.alloc (.cells zurl 27)).alloc (.cells #[.bool false] 4)).heap[w.heap.size]? = some (.cells zurl 27 (0, 0))) := Lib.hid (heap_two _ _ _)
  have h2 : Hid (((w.alloc (.cells zurl 27)).alloc (.cells #[.bool false] 4)).heap[w.heap.size + 1]? = some (.cells #[.bool false] 4 (0, 0))) := Lib.hid (Go.heap_alloc2_new _ _ _)
  have hB : Hid (Below w.heap.size w ((w.alloc (.cells zurl 27)).alloc (.cells #[.bool false] 4))) := Lib.hid (b_alloc (b_alloc (Below.refl _ _) _) _)
  have hN : Hid (w.heap.size + 2 ≤ ((w.alloc (.cells zurl 27)).alloc (.cells #[.bool false] 4)).heap.size) := Lib.hid (by simp)
  have HG := Lib.hid (hg.below hB.out)
  have HT := Lib.hid (tabs_below hT hB.out)
  clear hg hT
  unfold zurl at h1 h2 hB hN HG HT
  go_enter_defers Tryz.func45, Tryz.ntmps45
  go_wp2_with fail
  generalize (w.alloc (.cells #[.string ⟨#[]⟩, .string ⟨#[]⟩, .string ⟨#[]⟩, .int .i64 0, .string ⟨#[]⟩, .int .i64 0, .int .i64 0, .int .i64 0, .int .i64 0, .int .i64 0, .int .i64 0, .int .i64 0, .int .i64 0, .int .i64 0, .int .i64 0, .slice none 0 0, .string ⟨#[]⟩, .string ⟨#[]⟩, .string ⟨#[]⟩, .bool false, .bool false] 27)).alloc (.cells #[.bool false] 4) = V0 at h1 h2 hB hN HG HT ⊢
  refine (Clean_c s (by omega) V0 HT.out).mono ?_
  rintro e w1 ⟨rfl, hb1⟩
  replace h1 := Lib.hid (obj_b hb1 h1.out)
  replace h2 := Lib.hid (obj_b hb1 h2.out)
  replace hB := Lib.hid (b_then hB.out hb1)
  replace hN := Lib.hid (Nat.le_trans hN.out hb1.size)
  replace HG := Lib.hid (HG.out.below hb1)
  clear hb1 HT
  have hU := Uparse_c (PM.clean s) (by omega) w1 HG.out
  have hpe : PM.urlParse s = PM.parseC (PM.clean s) := rfl
  obtain ⟨o, ho⟩ : ∃ o, PM.parseC (PM.clean s) = o := ⟨_, rfl⟩
  rw [ho] at hpe hU
  have HPE := Lib.hid hpe
  clear hpe ho hcl
  cases o with
  | none =>
    replace hU : Hid (Calls Tryz.prog 81 #[.string (mkS (PM.clean s))] w1 fun e w' => e = .panicked [{ v := .iface 108 (.agg #[]), recovered := false }] ∧ Below w1.heap.size w1 w') := Lib.hid hU
    go_wp2_with (first
      | (go_at_call 81; refine hU.out.mono ?_; rintro e w2 ⟨rfl, hb2⟩))
    have h12 := obj_b hb2 h1.out
    have h22 := obj_b hb2 h2.out
    refine leaves_cons (f := 80) (args := #[.pointer (some ⟨w.heap.size, 0, none⟩), .pointer (some ⟨w.heap.size + 1, 0, none⟩)]) (by simp) (by simp [go_sem]) ?_
    refine (catch_panicking _ _ (by omega) false [] w2 h12 h22).mono ?_
    rintro e u' w'' ⟨rfl, rfl, rfl⟩
    refine ⟨_, results_url_bool _ _ w.heap.size (w.heap.size + 1) zurl false rfl rfl rfl ?_ ?_, ?_⟩
    · exact heap_set_other (heap_setRow h12 _) _ _ _ (by omega)
    · refine setCell_heap (cs := #[.bool false]) ?_ 0 _
      rw [← h22]
      simp [World.setRow, Array.getElem?_modify]
    · rw [HPE.out]
      refine ⟨⟨uz, rfl, rfl, (fun g o e _ => by cases e), fun _ => ⟨by decide, by decide, by decide, by decide, by decide, by decide, by decide, by decide, by simp [uz], zrd _⟩⟩, ?_⟩
      exact b_set (below_setRow (b_then hB.out hb2) (Nat.le_refl _) _) _ (Nat.le_succ _) _
  | some p =>
    replace hU : Hid (Calls Tryz.prog 81 #[.string (mkS (PM.clean s))] w1 fun e w' => (∃ v : UV, e = .returned (.agg v.cells) ∧ v.pm = p ∧ From w1.heap.size v.a v.xs ∧ (p.path.length ≤ 10000 → v.Ok w')) ∧ Below w1.heap.size w1 w') := Lib.hid hU
    go_wp2_with fail
    refine hU.out.mono ?_
    rintro e w2 ⟨⟨v, rfl, hp, hfr, hok⟩, hb2⟩
    have h12 := obj_b hb2 h1.out
    have h22 := obj_b hb2 h2.out
    have h23 : (w2.setRow w.heap.size v.cells).heap[w.heap.size + 1]? = some (.cells #[.bool false] 4 (0, 0)) := by
      rw [← h22]
      simp [World.setRow, Array.getElem?_modify]
    have cb : (w2.setRow w.heap.size v.cells).cell? ⟨w.heap.size + 1, 0, none⟩ = some (.bool false) := by rw [Lib.cell_of_heap h23]; rfl
    have fb := Lib.frozen_of_heap h23 0
    have HP := Lib.hid hp
    have HFR := Lib.hid hfr
    have HOK := Lib.hid hok
    have HB2 := Lib.hid hb2
    have H23 := Lib.hid h23
    clear hp hfr hok hb2 h23 h22
    go_wp2_with (refine wpList_store_row rfl 27 _ _ rfl w.heap.size v.cells rfl rfl 27 _ h12 (by kernel_rfl) rfl (agg_one v) ?_)
    refine leaves_cons (f := 80) (args := #[.pointer (some ⟨w.heap.size, 0, none⟩), .pointer (some ⟨w.heap.size + 1, 0, none⟩)]) (by simp) (by simp [go_sem]) ?_
    refine (catch_idle _ _ _).mono ?_
    rintro e u' w'' ⟨rfl, rfl, rfl⟩
    refine ⟨_, results_url_bool _ _ w.heap.size (w.heap.size + 1) v.cells true rfl rfl rfl ?_ ?_, ?_⟩
    · exact heap_set_other (heap_setRow h12 _) _ _ _ (by omega)
    · exact setCell_heap (cs := #[.bool false]) H23.out 0 _
    · rw [HPE.out]
      refine ⟨⟨v, rfl, HP.out, (fun g o e hx => by have := HFR.out g o e hx; have := hN.out; omega), fun hlen => ?_⟩, ?_⟩
      · have hk := HOK.out (by rw [← HP.out]; exact hlen)
        have hn := hN.out
        refine ⟨hk.sc, hk.us, hk.pa, hk.n, hk.op, hk.qu, hk.fr, hk.xn, hk.xl, hk.rd.frame (by simp [World.setRow, World.setCell]) fun g o e hx => ?_⟩
        have hg := HFR.out g o e hx
        rw [heap_set_other rfl _ _ _ (by omega)]
        simp [World.setRow, Array.getElem?_modify, show w.heap.size ≠ g by omega]
      · exact b_set (below_setRow (b_then hB.out HB2.out) (Nat.le_refl _) _) _ (Nat.le_succ _) _
end Go.Proofs.YtppbkblnjlbnfaaGreatDoor
