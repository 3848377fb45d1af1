/-
UrlMay: whatever comes in, the law's call returns true, and the arguments read behind the call as they did before; no condition on them. The row lists the two tables of unicode/utf8 (first, acceptRanges); the card ties them.
-/
import Derived.Test.YtgegnnojobmdcaaGreatDoorTz
import Derived.Test.YtgegnnojobmdcaaGreatDoorP15
import Derived.Test.YtgegnnojobmdcaaGreatDoorC23
set_option linter.unusedVariables false
set_option linter.unusedSimpArgs false
/-! Contract: postmarklaw09.awake. -/
namespace Go.Proofs.YtgegnnojobmdcaaGreatDoor
open Go.RowKit
def awT : List UInt8 := [72, 84, 84, 80, 58, 47, 47, 117, 64, 65, 46, 111, 114, 103, 58, 56, 48, 47, 98, 63, 99, 35, 100]
def awV (a : Option Addr) (pn pc : Nat) : UV := ⟨[104, 116, 116, 112], [117], [], 1, [97, 46, 111, 114, 103], 0, 0, 0, 0, 0, 0, 0, 0, 0, -1, a, pn, pc, [[98]], [], [99], [100], true, true⟩
theorem awT_parse : PM.urlParse awT = some (awV none 0 0).pm := by kernel_rfl
theorem awP (w : World) (hg : Gl w) (hT : Lib.Utf8Tabs 1 2 w) : Calls Tryz.prog 14 #[.string ⟨#[72, 84, 84, 80, 58, 47, 47, 117, 64, 65, 46, 111, 114, 103, 58, 56, 48, 47, 98, 63, 99, 35, 100]⟩] w fun e w' =>
    (∃ g o pc, e = .returned (.tuple #[.agg (awV (some ⟨g, o, none⟩) 1 pc).cells, .bool true]) ∧ (awV (some ⟨g, o, none⟩) 1 pc).Ok w' ∧ w'.cell? ⟨g, o, none⟩ = some (.string (mkS [98]))) ∧ Below w.heap.size w w' := by
  have h := UrlParse_c awT (by decide) w hg hT
  rw [awT_parse] at h
  refine h.mono ?_
  rintro e w' ⟨⟨v, h1, h2, h3⟩, hb⟩
  refine ⟨?_, hb⟩
  obtain ⟨sc, us, pa, k, n, m, s0, s1, s2, s3, s4, s5, s6, s7, port, a, pn, pc, xs, op, qu, fr, hq, hf⟩ := v
  have h2' : (⟨sc, us, pa, ⟨k, n, m, [s0, s1, s2, s3, s4, s5, s6, s7]⟩, port, xs, op, qu, fr, hq, hf⟩ : PM.Url) = ⟨[104, 116, 116, 112], [117], [], ⟨1, [97, 46, 111, 114, 103], 0, [0, 0, 0, 0, 0, 0, 0, 0]⟩, -1, [[98]], [], [99], [100], true, true⟩ := h2
  simp only [PM.Url.mk.injEq, PM.Host.mk.injEq, List.cons.injEq, and_true] at h2'
  obtain ⟨rfl, rfl, rfl, ⟨rfl, rfl, rfl, rfl, rfl, rfl, rfl, rfl, rfl, rfl, rfl⟩, rfl, rfl, rfl, rfl, rfl, rfl, rfl⟩ := h2'
  have hok := h3 (show ([[98]] : List (List UInt8)).length ≤ 10000 by decide)
  have hrd : RdS w' a pn [[98]] := hok.rd
  have hpn : pn = 1 := hrd.len.symm
  subst hpn
  rcases hrd.at_ with e0 | ⟨b, o, rfl, hlt, hc⟩
  · cases e0
  · exact ⟨b, o, pc, h1, hok, hc 0 (by decide)⟩
theorem aw_scheme : PM.scheme [72, 116, 116, 112, 58, 120] = ([104, 116, 116, 112], [120], true) := by kernel_rfl
theorem aw_tail : PM.tail [97, 63, 98, 35, 99, 63, 100] = ([97], [98], [99, 63, 100], true, true) := by kernel_rfl
theorem aw_may (a : Option Addr) (pn pc : Nat) : PM.urlMay (awV a pn pc).pm = true := by
  show PM.urlMay (awV none 0 0).pm = true
  kernel_rfl
theorem aw_host : PM.hostShow ⟨1, [97, 46, 111, 114, 103], 0, [0, 0, 0, 0, 0, 0, 0, 0]⟩ = [97, 46, 111, 114, 103] := by kernel_rfl
theorem aw_web : PM.web [104, 116, 116, 112, 115] = 443 := by kernel_rfl
set_option maxRecDepth 100000 in
set_option maxHeartbeats 4000000 in
theorem awake9_c (w : World) (hg : Gl w) (hT : Lib.Utf8Tabs 1 2 w) : Calls Tryz.prog 12 #[] w fun e w' => e = .returned (.bool true) ∧ Below w.heap.size w w' := by
  have hP := awP w hg hT
  have HG := Lib.hid hg
  have hS := fun W hg => Scheme_c [72, 116, 116, 112, 58, 120] (by decide) W hg
  rw [aw_scheme] at hS
  have hTl := fun W hg => Tail_c [97, 63, 98, 35, 99, 63, 100] (by decide) W hg
  rw [aw_tail] at hTl
  have HS : Hid (∀ W, Gl W → Calls Tryz.prog 17 #[.string ⟨#[72, 116, 116, 112, 58, 120]⟩] W fun e w' => e = .returned (.tuple #[.string (mkS [104, 116, 116, 112]), .string (mkS [120]), .bool true]) ∧ Below W.heap.size W w') := Lib.hid hS
  have HTl : Hid (∀ W, Gl W → Calls Tryz.prog 19 #[.string ⟨#[97, 63, 98, 35, 99, 63, 100]⟩] W fun e w' => e = .returned (.tuple #[.string (mkS [97]), .string (mkS [98]), .string (mkS [99, 63, 100]), .bool true, .bool true]) ∧ Below W.heap.size W w') := Lib.hid hTl
  have HP := Lib.hid hP
  clear hP hS hTl hg hT
  go_enter Tryz.func12, Tryz.ntmps12
  go_wp2_with fail
  refine HP.out.mono ?_
  rintro e V1 ⟨⟨g, o, pc, rfl, hok, hcell⟩, hb1⟩
  have HOK := Lib.hid hok
  have HCE := Lib.hid hcell
  have HB := Lib.hid hb1
  clear hok hcell hb1
  obtain ⟨v, hv⟩ : ∃ v, v = awV (some ⟨g, o, none⟩) 1 pc := ⟨_, rfl⟩
  have HN := Lib.hid (Go.heap_alloc_new V1 (.cells zurl 27))
  rw [← hv] at HOK ⊢
  have HV := Lib.hid hv
  clear hv
  go_upto_region 2 with (refine wpList_store_row rfl 27 _ _ rfl V1.heap.size v.cells rfl rfl 27 _ HN.out (by kernel_rfl) rfl (agg_one v) ?_)
  obtain ⟨V2, hV⟩ : ∃ V2, V2 = (V1.alloc (.cells #[.string ⟨#[]⟩, .string ⟨#[]⟩, .string ⟨#[]⟩, .int .i64 0, .string ⟨#[]⟩, .int .i64 0, .int .i64 0, .int .i64 0, .int .i64 0, .int .i64 0, .int .i64 0, .int .i64 0, .int .i64 0, .int .i64 0, .int .i64 0, .slice none 0 0, .string ⟨#[]⟩, .string ⟨#[]⟩, .string ⟨#[]⟩, .bool false, .bool false] 27)).setRow V1.heap.size v.cells := ⟨_, rfl⟩
  have hN : V2.heap[V1.heap.size]? = some (.cells v.cells 27 (0, 0)) := by rw [hV]; exact heap_setRow HN.out _
  have hb : Below V1.heap.size V1 V2 := by rw [hV]; exact below_setRow (b_alloc (Below.refl _ _) _) (Nat.le_refl _) _
  rw [← hV]
  clear hV HN
  have HX := Lib.hid hN
  replace HOK := Lib.hid (HOK.out.below hb)
  replace HCE := Lib.hid (cell_b hb HCE.out)
  replace HB := Lib.hid (b_then HB.out hb)
  clear hN hb
  generalize V1.heap.size = b at HX ⊢
  go_wp2_with fail
  refine (HS.out _ (HG.out.below HB.out)).mono ?_
  rintro e V3 ⟨rfl, hb⟩
  replace HX := Lib.hid (obj_b hb HX.out)
  replace HOK := Lib.hid (HOK.out.below hb)
  replace HCE := Lib.hid (cell_b hb HCE.out)
  replace HB := Lib.hid (b_then HB.out hb)
  clear hb
  go_wp2_with fail
  refine (HTl.out _ (HG.out.below HB.out)).mono ?_
  rintro e V4 ⟨rfl, hb⟩
  replace HX := Lib.hid (obj_b hb HX.out)
  replace HOK := Lib.hid (HOK.out.below hb)
  replace HCE := Lib.hid (cell_b hb HCE.out)
  replace HB := Lib.hid (b_then HB.out hb)
  clear hb
  obtain ⟨c0, c1, c2, c3, c4, c5, c6, c7, c8, c9, c10, c11, c12, c13, c14, c15, c16, c17, c18, c19, c20⟩ : UrlAt V4 b (awV (some ⟨g, o, none⟩) 1 pc) := by rw [← HV.out]; exact UrlAt.of_heap HX.out
  have ce := HCE.out
  unfold awV at c0 c1 c2 c3 c4 c5 c6 c7 c8 c9 c10 c11 c12 c13 c14 c15 c16 c17 c18 c19 c20
  dsimp only at c0 c1 c2 c3 c4 c5 c6 c7 c8 c9 c10 c11 c12 c13 c14 c15 c16 c17 c18 c19 c20
  go_wp2_with (refine wpList_load_g 27 _ rfl (by kernel_rfl) b rfl HX.out Tryz.underlying27 rfl (by kernel_rfl) ?_)
  refine (hostShow_c 1 [97, 46, 111, 114, 103] 0 0 0 0 0 0 0 0 0 (by decide) _ (HG.out.below HB.out)).mono ?_
  rw [aw_host]
  rintro e V5 ⟨rfl, hb⟩
  replace HX := Lib.hid (obj_b hb HX.out)
  replace HOK := Lib.hid (HOK.out.below hb)
  replace HCE := Lib.hid (cell_b hb HCE.out)
  replace HB := Lib.hid (b_then HB.out hb)
  clear hb ce c0 c1 c2 c3 c4 c5 c6 c7 c8 c9 c10 c11 c12 c13 c14 c15 c16 c17 c18 c19 c20
  obtain ⟨c0, c1, c2, c3, c4, c5, c6, c7, c8, c9, c10, c11, c12, c13, c14, c15, c16, c17, c18, c19, c20⟩ : UrlAt V5 b (awV (some ⟨g, o, none⟩) 1 pc) := by rw [← HV.out]; exact UrlAt.of_heap HX.out
  have ce := HCE.out
  unfold awV at c0 c1 c2 c3 c4 c5 c6 c7 c8 c9 c10 c11 c12 c13 c14 c15 c16 c17 c18 c19 c20
  dsimp only at c0 c1 c2 c3 c4 c5 c6 c7 c8 c9 c10 c11 c12 c13 c14 c15 c16 c17 c18 c19 c20
  go_wp2_with (refine wpList_load_g 27 _ rfl (by kernel_rfl) b rfl HX.out Tryz.underlying27 rfl (by kernel_rfl) ?_)
  refine (urlMay_c v _ HOK.out (HG.out.below HB.out)).mono ?_
  rw [show PM.urlMay v.pm = true from by rw [HV.out]; exact aw_may _ _ _]
  rintro e V6 ⟨rfl, hb⟩
  replace HX := Lib.hid (obj_b hb HX.out)
  replace HOK := Lib.hid (HOK.out.below hb)
  replace HCE := Lib.hid (cell_b hb HCE.out)
  replace HB := Lib.hid (b_then HB.out hb)
  clear hb ce c0 c1 c2 c3 c4 c5 c6 c7 c8 c9 c10 c11 c12 c13 c14 c15 c16 c17 c18 c19 c20
  obtain ⟨c0, c1, c2, c3, c4, c5, c6, c7, c8, c9, c10, c11, c12, c13, c14, c15, c16, c17, c18, c19, c20⟩ : UrlAt V6 b (awV (some ⟨g, o, none⟩) 1 pc) := by rw [← HV.out]; exact UrlAt.of_heap HX.out
  have ce := HCE.out
  unfold awV at c0 c1 c2 c3 c4 c5 c6 c7 c8 c9 c10 c11 c12 c13 c14 c15 c16 c17 c18 c19 c20
  dsimp only at c0 c1 c2 c3 c4 c5 c6 c7 c8 c9 c10 c11 c12 c13 c14 c15 c16 c17 c18 c19 c20
  go_wp2_with fail
  refine (Web_c [104, 116, 116, 112, 115] _).mono ?_
  rw [aw_web]
  rintro e V7 ⟨rfl, rfl⟩
  go_wp2_with (refine wpList_load_g 27 _ rfl (by kernel_rfl) b rfl HX.out Tryz.underlying27 rfl (by kernel_rfl) ?_)
  refine (UrlSame_c v v _ HOK.out HOK.out).mono ?_
  rw [(PM.urlSame_iff _ _).2 rfl]
  rintro e V8 ⟨rfl, hb⟩
  replace HB := Lib.hid (b_then HB.out hb)
  go_wp2
  go_ret
  exact ⟨rfl, HB.out⟩
end Go.Proofs.YtgegnnojobmdcaaGreatDoor
/-! url.Parse: its contract, and whose the path's block is. -/
namespace Go.Proofs.YtgegnnojobmdcaaGreatDoor
open Go.RowKit
/-- What Parse leaves; the path lies in a block of its own. -/
def ParseRF (o : Option PM.Url) (B : Nat) (e : Ending) (w' : World) : Prop := ∃ v : UV, e = .returned (.tuple #[.agg v.cells, .bool o.isSome]) ∧ v.pm = o.getD uz.pm ∧ From B v.a v.xs ∧ (v.xs.length ≤ 10000 → v.Ok w')
set_option maxRecDepth 100000 in
set_option maxHeartbeats 1000000 in
theorem UrlParseF_c (s : List UInt8) (hs : s.length ≤ 30000) (w : World) (hg : Gl w) (hT : Lib.Utf8Tabs 1 2 w) : Calls Tryz.prog 14 #[.string (mkS s)] w fun e w' => ParseRF (PM.urlParse s) w.heap.size e w' ∧ Below w.heap.size w w' := by
  have hmf : ∀ (fn : Fn) (first cap : Array Value) (w : World), (Instr.makeFunc fn first cap).run Tryz.prog w = .ok (.func fn first cap) w := fun _ _ _ _ => rfl
  have hcl := clean_len s
  have h1 : Hid (((w.alloc (.cells zurl 27)).alloc (.cells #[.bool false] 4)).heap[w.heap.size]? = some (.cells zurl 27 (0, 0))) := Lib.hid (heap_two _ _ _)
  have h2 : Hid (((w.alloc (.cells zurl 27)).alloc (.cells #[.bool false] 4)).heap[w.heap.size + 1]? = some (.cells #[.bool false] 4 (0, 0))) := Lib.hid (Go.heap_alloc2_new _ _ _)
  have hB : Hid (Below w.heap.size w ((w.alloc (.cells zurl 27)).alloc (.cells #[.bool false] 4))) := Lib.hid (b_alloc (b_alloc (Below.refl _ _) _) _)
  have hN : Hid (w.heap.size + 2 ≤ ((w.alloc (.cells zurl 27)).alloc (.cells #[.bool false] 4)).heap.size) := Lib.hid (by simp)
  have HG := Lib.hid (hg.below hB.out)
  have HT := Lib.hid (tabs_below hT hB.out)
  clear hg hT
  unfold zurl at h1 h2 hB hN HG HT
  go_enter_defers Tryz.func14, Tryz.ntmps14
  go_wp2_with fail
  generalize (w.alloc (.cells #[.string ⟨#[]⟩, .string ⟨#[]⟩, .string ⟨#[]⟩, .int .i64 0, .string ⟨#[]⟩, .int .i64 0, .int .i64 0, .int .i64 0, .int .i64 0, .int .i64 0, .int .i64 0, .int .i64 0, .int .i64 0, .int .i64 0, .int .i64 0, .slice none 0 0, .string ⟨#[]⟩, .string ⟨#[]⟩, .string ⟨#[]⟩, .bool false, .bool false] 27)).alloc (.cells #[.bool false] 4) = V0 at h1 h2 hB hN HG HT ⊢
  refine (Clean_c s (by omega) V0 HT.out).mono ?_
  rintro e w1 ⟨rfl, hb1⟩
  replace h1 := Lib.hid (obj_b hb1 h1.out)
  replace h2 := Lib.hid (obj_b hb1 h2.out)
  replace hB := Lib.hid (b_then hB.out hb1)
  replace hN := Lib.hid (Nat.le_trans hN.out hb1.size)
  replace HG := Lib.hid (HG.out.below hb1)
  clear hb1 HT
  have hU := Uparse_c (PM.clean s) (by omega) w1 HG.out
  have hpe : PM.urlParse s = PM.parseC (PM.clean s) := rfl
  obtain ⟨o, ho⟩ : ∃ o, PM.parseC (PM.clean s) = o := ⟨_, rfl⟩
  rw [ho] at hpe hU
  have HPE := Lib.hid hpe
  clear hpe ho hcl
  cases o with
  | none =>
    replace hU : Hid (Calls Tryz.prog 35 #[.string (mkS (PM.clean s))] w1 fun e w' => e = .panicked [{ v := .iface 53 (.agg #[]), recovered := false }] ∧ Below w1.heap.size w1 w') := Lib.hid hU
    go_wp2_with (first
      | (go_at_call 35; refine hU.out.mono ?_; rintro e w2 ⟨rfl, hb2⟩))
    have h12 := obj_b hb2 h1.out
    have h22 := obj_b hb2 h2.out
    refine leaves_cons (f := 34) (args := #[.pointer (some ⟨w.heap.size, 0, none⟩), .pointer (some ⟨w.heap.size + 1, 0, none⟩)]) (by simp) (by simp [go_sem]) ?_
    refine (catch_panicking _ _ (by omega) false [] w2 h12 h22).mono ?_
    rintro e u' w'' ⟨rfl, rfl, rfl⟩
    refine ⟨_, results_url_bool _ _ w.heap.size (w.heap.size + 1) zurl false rfl rfl rfl ?_ ?_, ?_⟩
    · exact heap_set_other (heap_setRow h12 _) _ _ _ (by omega)
    · refine setCell_heap (cs := #[.bool false]) ?_ 0 _
      rw [← h22]
      simp [World.setRow, Array.getElem?_modify]
    · rw [HPE.out]
      refine ⟨⟨uz, rfl, rfl, (fun g o e _ => by cases e), fun _ => ⟨by decide, by decide, by decide, by decide, by decide, by decide, by decide, by decide, by simp [uz], zrd _⟩⟩, ?_⟩
      exact b_set (below_setRow (b_then hB.out hb2) (Nat.le_refl _) _) _ (Nat.le_succ _) _
  | some p =>
    replace hU : Hid (Calls Tryz.prog 35 #[.string (mkS (PM.clean s))] w1 fun e w' => (∃ v : UV, e = .returned (.agg v.cells) ∧ v.pm = p ∧ From w1.heap.size v.a v.xs ∧ (p.path.length ≤ 10000 → v.Ok w')) ∧ Below w1.heap.size w1 w') := Lib.hid hU
    go_wp2_with fail
    refine hU.out.mono ?_
    rintro e w2 ⟨⟨v, rfl, hp, hfr, hok⟩, hb2⟩
    have h12 := obj_b hb2 h1.out
    have h22 := obj_b hb2 h2.out
    have h23 : (w2.setRow w.heap.size v.cells).heap[w.heap.size + 1]? = some (.cells #[.bool false] 4 (0, 0)) := by
      rw [← h22]
      simp [World.setRow, Array.getElem?_modify]
    have cb : (w2.setRow w.heap.size v.cells).cell? ⟨w.heap.size + 1, 0, none⟩ = some (.bool false) := by rw [Lib.cell_of_heap h23]; rfl
    have fb := Lib.frozen_of_heap h23 0
    have HP := Lib.hid hp
    have HFR := Lib.hid hfr
    have HOK := Lib.hid hok
    have HB2 := Lib.hid hb2
    have H23 := Lib.hid h23
    clear hp hfr hok hb2 h23 h22
    go_wp2_with (refine wpList_store_row rfl 27 _ _ rfl w.heap.size v.cells rfl rfl 27 _ h12 (by kernel_rfl) rfl (agg_one v) ?_)
    refine leaves_cons (f := 34) (args := #[.pointer (some ⟨w.heap.size, 0, none⟩), .pointer (some ⟨w.heap.size + 1, 0, none⟩)]) (by simp) (by simp [go_sem]) ?_
    refine (catch_idle _ _ _).mono ?_
    rintro e u' w'' ⟨rfl, rfl, rfl⟩
    refine ⟨_, results_url_bool _ _ w.heap.size (w.heap.size + 1) v.cells true rfl rfl rfl ?_ ?_, ?_⟩
    · exact heap_set_other (heap_setRow h12 _) _ _ _ (by omega)
    · exact setCell_heap (cs := #[.bool false]) H23.out 0 _
    · rw [HPE.out]
      refine ⟨⟨v, rfl, HP.out, (fun g o e hx => by have := HFR.out g o e hx; have := hN.out; omega), fun hlen => ?_⟩, ?_⟩
      · have hk := HOK.out (by rw [← HP.out]; exact hlen)
        have hn := hN.out
        refine ⟨hk.sc, hk.us, hk.pa, hk.n, hk.op, hk.qu, hk.fr, hk.xn, hk.xl, hk.rd.frame (by simp [World.setRow, World.setCell]) fun g o e hx => ?_⟩
        have hg := HFR.out g o e hx
        rw [heap_set_other rfl _ _ _ (by omega)]
        simp [World.setRow, Array.getElem?_modify, show w.heap.size ≠ g by omega]
      · exact b_set (below_setRow (b_then hB.out HB2.out) (Nat.le_refl _) _) _ (Nat.le_succ _) _
end Go.Proofs.YtgegnnojobmdcaaGreatDoor
/-! The walk of UrlMay. -/
namespace PM
theorem dw_filter (p q : UInt8 → Bool) (h : ∀ c, p c = false → q c = true) (s : L) : (s.filter p).dropWhile q = (s.dropWhile q).filter p := by
  induction s with
  | nil => rfl
  | cons c r ih =>
    by_cases hq : q c = true
    · rw [List.dropWhile_cons, if_pos hq]
      by_cases hp : p c = true
      · rw [List.filter_cons, if_pos hp, List.dropWhile_cons, if_pos hq, ih]
      · rw [List.filter_cons, if_neg hp, ih]
    · have hp : p c = true := by
        cases hpc : p c with
        | true => rfl
        | false => exact absurd (h c hpc) hq
      rw [List.dropWhile_cons, if_neg hq, List.filter_cons, if_pos hp, List.dropWhile_cons, if_neg hq]
theorem end_blank (c : UInt8) (h : (!isEnd c) = false) : blank c = true := by
  simp only [Bool.not_eq_false', isEnd, Bool.or_eq_true, beq_iff_eq] at h
  rcases h with (rfl | rfl) | rfl <;> rfl
/-- To clean is to leave the ends of lines, then to trim. -/
theorem clean_eq (s : L) : clean s = trim (s.filter fun c => !isEnd c) := by
  unfold clean trim
  rw [dw_filter _ _ end_blank, ← List.filter_reverse, dw_filter _ _ end_blank, ← List.filter_reverse]
theorem trim_pad (a s b : L) (ha : ∀ c ∈ a, blank c = true) (hb : ∀ c ∈ b, blank c = true) : trim (a ++ (s ++ b)) = trim s := by
  unfold trim
  rw [List.dropWhile_append_of_pos ha]
  by_cases h : s.dropWhile blank = []
  · have : (s ++ b).dropWhile blank = [] := by
      have hall : ∀ c ∈ s, blank c = true := by
        have := List.takeWhile_append_dropWhile (p := blank) (l := s)
        rw [h, List.append_nil] at this
        intro c hc
        rw [← this] at hc
        clear h this
        induction s with
        | nil => cases hc
        | cons x r ih =>
          rw [List.takeWhile_cons] at hc
          split at hc
          · rename_i hx
            simp only [List.mem_cons] at hc
            rcases hc with rfl | hc
            · exact hx
            · exact ih hc
          · cases hc
      have := List.dropWhile_append_of_pos (p := blank) (l₁ := s ++ b) (l₂ := []) (by
        intro c hc
        rcases List.mem_append.1 hc with hc | hc
        · exact hall c hc
        · exact hb c hc)
      simpa using this
    rw [this, h]
  · have : (s ++ b).dropWhile blank = s.dropWhile blank ++ b := by
      rw [List.dropWhile_append]
      have hne : (s.dropWhile blank).isEmpty = false := by
        cases hd : s.dropWhile blank with
        | nil => exact absurd hd h
        | cons _ _ => rfl
      rw [hne]
      rfl
    rw [this, List.reverse_append, List.dropWhile_append_of_pos (by intro c hc; exact hb c (by simpa using hc))]
theorem clean_pad (s : L) : clean (32 :: 10 :: (s ++ [9, 32])) = clean s := by
  rw [clean_eq, clean_eq]
  have e : (32 :: 10 :: (s ++ [9, 32])).filter (fun c => !isEnd c) = [32] ++ ((s.filter fun c => !isEnd c) ++ [32]) := by
    simp [isEnd]
  rw [e]
  exact trim_pad _ _ _ (by decide) (by decide)
theorem clean_tab (a b : L) : clean (a ++ 9 :: b) = clean (a ++ b) := by
  rw [clean_eq, clean_eq]
  have e : (a ++ 9 :: b).filter (fun c => !isEnd c) = (a ++ b).filter (fun c => !isEnd c) := by
    simp [isEnd]
  rw [e]
theorem parse_clean {s t : L} (h : clean t = clean s) : urlParse t = urlParse s := by
  unfold urlParse
  rw [h]
theorem may_host {u : Url} (h : urlMay u = true) : decide (0 < web u.scheme) = hostMay u.host := by
  by_cases hw : web u.scheme = 0
  · obtain ⟨_, _, _, hn, _⟩ := may_opq' h hw
    rw [hn, hw]
    decide
  · rw [(may_web h hw).1]
    have := web_nonneg u.scheme
    simp
    omega
end PM
namespace Go.Proofs.YtgegnnojobmdcaaGreatDoor
open Go.RowKit
/-- A text that is cleaned to the same is parsed to the same. -/
theorem may_p (s : List UInt8) (hs : s.length ≤ 400) (c : Bool) (p : PM.Url) (hc : (PM.urlParse s).isSome = c) (hp : (PM.urlParse s).getD uz.pm = p) (t : List UInt8) (ht : t.length ≤ 30000) (hcl : PM.clean t = PM.clean s) (W : World) (hg : Gl W) (hT : Lib.Utf8Tabs 1 2 W) :
    Calls Tryz.prog 14 #[.string (mkS t)] W fun e w' => (∃ x : UV, e = .returned (.tuple #[.agg x.cells, .bool c]) ∧ x.pm = p ∧ x.Ok w') ∧ Below W.heap.size W w' := by
  refine (UrlParse_c t ht W hg hT).mono ?_
  rintro e w' ⟨⟨x, h1, h2, h3⟩, hb⟩
  rw [PM.parse_clean hcl, hc] at h1
  rw [PM.parse_clean hcl, hp] at h2
  refine ⟨⟨x, h1, h2, h3 ?_⟩, hb⟩
  have hxs : x.xs = x.pm.path := rfl
  rw [hxs, h2, ← hp]
  cases ho : PM.urlParse s with
  | none => simp [uz, UV.pm]
  | some q =>
    have := (parse_short ho).pn
    show q.path.length ≤ 10000
    omega
theorem may_pf (s : List UInt8) (hs : s.length ≤ 400) (c : Bool) (p : PM.Url) (hc : (PM.urlParse s).isSome = c) (hp : (PM.urlParse s).getD uz.pm = p) (t : List UInt8) (ht : t.length ≤ 30000) (hcl : PM.clean t = PM.clean s) (W : World) (hg : Gl W) (hT : Lib.Utf8Tabs 1 2 W) :
    Calls Tryz.prog 14 #[.string (mkS t)] W fun e w' => (∃ x : UV, e = .returned (.tuple #[.agg x.cells, .bool c]) ∧ x.pm = p ∧ x.Ok w' ∧ From W.heap.size x.a x.xs) ∧ Below W.heap.size W w' := by
  refine (UrlParseF_c t ht W hg hT).mono ?_
  rintro e w' ⟨⟨x, h1, h2, h4, h3⟩, hb⟩
  rw [PM.parse_clean hcl, hc] at h1
  rw [PM.parse_clean hcl, hp] at h2
  refine ⟨⟨x, h1, h2, h3 ?_, h4⟩, hb⟩
  have hxs : x.xs = x.pm.path := rfl
  rw [hxs, h2, ← hp]
  cases ho : PM.urlParse s with
  | none => simp [uz, UV.pm]
  | some q =>
    have := (parse_short ho).pn
    show q.path.length ≤ 10000
    omega
theorem Ok_row {x : UV} {W : World} {b : Nat} {cs : Array Value} (h : x.Ok W) (hf : From (b + 1) x.a x.xs) : x.Ok (W.setRow b cs) :=
  ⟨h.sc, h.us, h.pa, h.n, h.op, h.qu, h.fr, h.xn, h.xl, h.rd.frame (by simp [World.setRow]) fun g o e hx => by
    have hg := hf g o e hx
    simp [World.setRow, Array.getElem?_modify, show b ≠ g by omega]⟩
theorem same_tt (u v : UV) (h : v.pm = u.pm) (w : World) (hu : u.Ok w) (hv : v.Ok w) : Calls Tryz.prog 23 #[.agg u.cells, .agg v.cells] w fun e w' => e = .returned (.bool true) ∧ Below w.heap.size w w' := by
  have := UrlSame_c u v w hu hv
  rwa [(PM.urlSame_iff _ _).2 h.symm] at this
set_option maxRecDepth 100000 in
set_option maxHeartbeats 16000000 in
theorem UrlMayL_c (s : List UInt8) (i : Int) (w : World) (hg : Gl w) (hT : Lib.Utf8Tabs 1 2 w) : Calls Tryz.prog 4 #[.string (mkS s), .int .i64 i] w fun e w' => e = .returned (.bool true) ∧ Below w.heap.size w w' := by
  have HA := Lib.hid (awake9_c w hg hT)
  have HG := Lib.hid hg
  have HTB := Lib.hid hT
  clear hg hT
  go_enter Tryz.func4, Tryz.ntmps4
  go_wp2_with fail
  refine HA.out.mono ?_
  rintro e V1 ⟨rfl, hb⟩
  have HB := Lib.hid hb
  clear hb
  by_cases hl : 400 < s.length
  · have hl2 : (400 : Int) < (s.length : Int) := by omega
    go_wp2
    go_ret
    exact ⟨rfl, HB.out⟩
  have hl2 : ¬ (400 : Int) < (s.length : Int) := by omega
  by_cases hi : i < 0
  · go_wp2
    go_ret
    exact ⟨rfl, HB.out⟩
  by_cases hi2 : (s.length : Int) < i
  · go_wp2
    go_ret
    exact ⟨rfl, HB.out⟩
  obtain ⟨k, rfl⟩ : ∃ k : Nat, i = (k : Int) := ⟨i.toNat, by omega⟩
  have hk : (k : Int) ≤ (s.length : Int) := by omega
  obtain ⟨c, hc⟩ : ∃ c, (PM.urlParse s).isSome = c := ⟨_, rfl⟩
  obtain ⟨p, hp⟩ : ∃ p, (PM.urlParse s).getD uz.pm = p := ⟨_, rfl⟩
  have hPA := fun t ht hcl W hg hT => may_p s (by omega) c p hc hp t ht hcl W hg hT
  have hP1 := fun W hg hT => hPA s (by omega) rfl W hg hT
  have hP2 := fun W hg hT => hPA (32 :: 10 :: (s ++ [9, 32])) (by simp; omega) (PM.clean_pad s) W hg hT
  have hP3 := fun W hg hT => may_pf s (by omega) c p hc hp (s.take k ++ 9 :: s.drop k) (by simp; omega) (by rw [PM.clean_tab, List.take_append_drop]) W hg hT
  have hc2 : mkS (32 :: 10 :: (s ++ [9, 32])) = ⟨#[32, 10]⟩ ++ mkS s ++ ⟨#[9, 32]⟩ := by
    apply ByteArray.ext
    simp [mkS]
  have hc3 : mkS (s.take k ++ 9 :: s.drop k) = mkS (s.take k) ++ ⟨#[9]⟩ ++ mkS (s.drop k) := by
    apply ByteArray.ext
    simp [mkS]
  rw [hc2] at hP2
  rw [hc3] at hP3
  have hA1 : ¬ 9223372036854775807 < min k s.length + 1 := by omega
  have hA2 : ¬ 9223372036854775807 < min k s.length + 1 + (s.length - k) := by omega
  have hfin : c = true → PM.urlMay p = true := by
    rintro rfl
    cases ho : PM.urlParse s with
    | none => rw [ho] at hc; cases hc
    | some q =>
      rw [ho] at hp
      have hp' : q = p := hp
      rw [← hp']
      exact (PM.parse_may ho).1
  have HP1 := Lib.hid hP1
  have HP2 := Lib.hid hP2
  have HP3 := Lib.hid hP3
  have HFIN := Lib.hid hfin
  clear hPA hP1 hP2 hP3 hc2 hc3 hc hp hfin HA
  go_wp2_with fail

  refine (HP1.out _ (HG.out.below HB.out) (tabs_below HTB.out HB.out)).mono ?_
  rintro e V2 ⟨⟨u, rfl, hup, huo⟩, hb⟩
  have HUP := Lib.hid hup
  have HUO := Lib.hid huo
  clear hup huo
  replace HB := Lib.hid (b_then HB.out hb)
  clear hb
  have HN := Lib.hid (Go.heap_alloc_new V2 (.cells zurl 27))
  go_upto_region 5 with (refine wpList_store_row rfl 27 _ _ rfl V2.heap.size u.cells rfl rfl 27 _ HN.out (by kernel_rfl) rfl (agg_one u) ?_)
  obtain ⟨V3, hV⟩ : ∃ V3, V3 = (V2.alloc (.cells #[.string ⟨#[]⟩, .string ⟨#[]⟩, .string ⟨#[]⟩, .int .i64 0, .string ⟨#[]⟩, .int .i64 0, .int .i64 0, .int .i64 0, .int .i64 0, .int .i64 0, .int .i64 0, .int .i64 0, .int .i64 0, .int .i64 0, .int .i64 0, .slice none 0 0, .string ⟨#[]⟩, .string ⟨#[]⟩, .string ⟨#[]⟩, .bool false, .bool false] 27)).setRow V2.heap.size u.cells := ⟨_, rfl⟩
  have hN : V3.heap[V2.heap.size]? = some (.cells u.cells 27 (0, 0)) := by rw [hV]; exact heap_setRow HN.out _
  have hb : Below V2.heap.size V2 V3 := by rw [hV]; exact below_setRow (b_alloc (Below.refl _ _) _) (Nat.le_refl _) _
  rw [← hV]
  clear hV HN
  have HU := Lib.hid hN
  clear hN
  replace HB := Lib.hid (b_then HB.out hb)
  replace HUO := Lib.hid (HUO.out.below hb)
  clear hb
  generalize V2.heap.size = bu at HU ⊢
  go_wp2_with fail
  refine (HP2.out _ (HG.out.below HB.out) (tabs_below HTB.out HB.out)).mono ?_
  rintro e V4 ⟨⟨v, rfl, hvp, hvo⟩, hb⟩
  have HVP := Lib.hid (hvp.trans HUP.out.symm)
  have HVO := Lib.hid hvo
  clear hvp hvo
  replace HB := Lib.hid (b_then HB.out hb)
  replace HU := Lib.hid (obj_b hb HU.out)
  replace HUO := Lib.hid (HUO.out.below hb)
  clear hb
  have HN := Lib.hid (Go.heap_alloc_new V4 (.cells zurl 27))
  go_upto_region 6 with (refine wpList_store_row rfl 27 _ _ rfl V4.heap.size v.cells rfl rfl 27 _ HN.out (by kernel_rfl) rfl (agg_one v) ?_)
  obtain ⟨V5, hV⟩ : ∃ V5, V5 = (V4.alloc (.cells #[.string ⟨#[]⟩, .string ⟨#[]⟩, .string ⟨#[]⟩, .int .i64 0, .string ⟨#[]⟩, .int .i64 0, .int .i64 0, .int .i64 0, .int .i64 0, .int .i64 0, .int .i64 0, .int .i64 0, .int .i64 0, .int .i64 0, .int .i64 0, .slice none 0 0, .string ⟨#[]⟩, .string ⟨#[]⟩, .string ⟨#[]⟩, .bool false, .bool false] 27)).setRow V4.heap.size v.cells := ⟨_, rfl⟩
  have hN : V5.heap[V4.heap.size]? = some (.cells v.cells 27 (0, 0)) := by rw [hV]; exact heap_setRow HN.out _
  have hb : Below V4.heap.size V4 V5 := by rw [hV]; exact below_setRow (b_alloc (Below.refl _ _) _) (Nat.le_refl _) _
  rw [← hV]
  clear hV HN
  have HV := Lib.hid hN
  clear hN
  replace HB := Lib.hid (b_then HB.out hb)
  replace HU := Lib.hid (obj_b hb HU.out)
  replace HUO := Lib.hid (HUO.out.below hb)
  replace HVO := Lib.hid (HVO.out.below hb)
  clear hb
  generalize V4.heap.size = bv at HV ⊢
  have HKK := Lib.hid hk
  go_cut [10, 11] (fun p q wr => q = .bool c ∧ ∃ (x : UV) (bx : Nat), p = .pointer (some ⟨bx, 0, none⟩) ∧ Hid (wr.heap[bx]? = some (.cells x.cells 27 (0, 0))) ∧ Hid (x.pm = u.pm) ∧ Hid (x.Ok wr) ∧ Hid (Below V5.heap.size V5 wr))
  case first =>
    go_wp2_with fail
    refine wp_region_noPanic ?_
    refine wp_region_held_drew (S := fun _ => True) (by kernel_rfl) trivial (fun hS0 => ?_)
    have hSn := hS0
    refine wpAnyH_take (i := 0) (v := ?_) rfl (by kernel_rfl) (by kernel_rfl) (by kernel_rfl) (fun _ _ _ h => h) (Or.inl ⟨by kernel_rfl, fun W hW => ?_⟩) (by assumption) ?_
    rotate_left
    · go_simp
      try with_reducible rfl
    (try simp only [List.getElem_toArray, List.getElem_cons_zero, List.getElem_cons_succ, Act.put, List.setIfInBounds_toArray, List.set_cons_zero, List.set_cons_succ])
    refine wpAnyH_take (i := 1) (v := ?_) rfl (by kernel_rfl) (by kernel_rfl) (by kernel_rfl) (fun _ _ _ h => h) (Or.inl ⟨by kernel_rfl, fun W hW => ?_⟩) (by assumption) ?_
    rotate_left
    · go_simp
      try with_reducible rfl
    (try simp only [List.getElem_toArray, List.getElem_cons_zero, List.getElem_cons_succ, Act.put, List.setIfInBounds_toArray, List.set_cons_zero, List.set_cons_succ])
    refine wpAnyH_take (i := 2) (v := ?_) rfl (by kernel_rfl) (by kernel_rfl) (by kernel_rfl) (fun _ _ _ h => h) (Or.inl ⟨by kernel_rfl, fun W hW => ?_⟩) (by assumption) ?_
    rotate_left
    · go_simp
      try with_reducible rfl
    (try simp only [List.getElem_toArray, List.getElem_cons_zero, List.getElem_cons_succ, Act.put, List.setIfInBounds_toArray, List.set_cons_zero, List.set_cons_succ])
    refine wpAnyH_take (i := 3) (v := ?_) rfl (by kernel_rfl) (by kernel_rfl) (by kernel_rfl) (fun _ _ _ h => h) (Or.inl ⟨by kernel_rfl, fun W hW => ?_⟩) (by assumption) ?_
    rotate_left
    · go_simp
      try with_reducible rfl
    (try simp only [List.getElem_toArray, List.getElem_cons_zero, List.getElem_cons_succ, Act.put, List.setIfInBounds_toArray, List.set_cons_zero, List.set_cons_succ])
    refine wpAnyH_take (i := 4) (v := ?_) rfl (by kernel_rfl) (by kernel_rfl) (by kernel_rfl) (fun _ _ _ h => h) (Or.inl ⟨by kernel_rfl, fun W hW => ?_⟩) (by assumption) ?_
    rotate_left
    · go_simp
      try with_reducible rfl
    (try simp only [List.getElem_toArray, List.getElem_cons_zero, List.getElem_cons_succ, Act.put, List.setIfInBounds_toArray, List.set_cons_zero, List.set_cons_succ])
    refine wpAnyH_take (i := 5) (v := ?_) rfl (by kernel_rfl) (by kernel_rfl) (by kernel_rfl) (fun _ _ _ h => h) (Or.inl ⟨by kernel_rfl, fun W hW => ?_⟩) (by assumption) ?_
    rotate_left
    · go_simp
      try with_reducible rfl
    (try simp only [List.getElem_toArray, List.getElem_cons_zero, List.getElem_cons_succ, Act.put, List.setIfInBounds_toArray, List.set_cons_zero, List.set_cons_succ])
    refine wpAnyH_take (i := 6) (v := ?_) rfl (by kernel_rfl) (by kernel_rfl) (by kernel_rfl) (fun _ _ _ h => h) (Or.inl ⟨by kernel_rfl, fun W hW => ?_⟩) (by assumption) ?_
    rotate_left
    · go_simp
      try with_reducible rfl
    (try simp only [List.getElem_toArray, List.getElem_cons_zero, List.getElem_cons_succ, Act.put, List.setIfInBounds_toArray, List.set_cons_zero, List.set_cons_succ])
    refine wpAnyH_take (i := 7) (v := ?_) rfl (by kernel_rfl) (by kernel_rfl) (by kernel_rfl) (fun _ _ _ h => h) (Or.inl ⟨by kernel_rfl, fun W hW => ?_⟩) (by assumption) ?_
    rotate_left
    · go_simp
      try with_reducible rfl
    (try simp only [List.getElem_toArray, List.getElem_cons_zero, List.getElem_cons_succ, Act.put, List.setIfInBounds_toArray, List.set_cons_zero, List.set_cons_succ])
    refine wpAnyH_ready (rs := [8, 12]) (by kernel_rfl) (by simp) ?_
    refine AllReadyH.cons rfl (fun K hK => ?_) (AllReadyH.cons rfl (fun K hK => ?_) AllReadyH.nil)
    · go_simp
      refine (HP3.out _ (HG.out.below (b_drew HB.out)) (tabs_below HTB.out (b_drew HB.out))).mono ?_
      rintro e V6 ⟨⟨x, rfl, hx1, hx2, hx3⟩, hb⟩
      refine hK.out _ _ trivial (fun _ => ?_)
      clear hK K
      (try simp only [List.getElem_toArray, List.getElem_cons_zero, List.getElem_cons_succ, Act.put, List.setIfInBounds_toArray, List.set_cons_zero, List.set_cons_succ])
      refine wpAnyH_take (i := 9) (v := ?_) rfl (by kernel_rfl) (by kernel_rfl) (by kernel_rfl) (fun _ _ _ h => h) (Or.inl ⟨by kernel_rfl, fun W hW => ?_⟩) (by assumption) ?_
      rotate_left
      · go_simp
        try with_reducible rfl
      (try simp only [List.getElem_toArray, List.getElem_cons_zero, List.getElem_cons_succ, Act.put, List.setIfInBounds_toArray, List.set_cons_zero, List.set_cons_succ])
      refine wpAnyH_take (i := 10) (v := ?_) rfl (by kernel_rfl) (by kernel_rfl) (by kernel_rfl) (fun _ _ _ h => h) (Or.inl ⟨by kernel_rfl, fun W hW => ?_⟩) (by assumption) ?_
      rotate_left
      · go_simp
        try with_reducible rfl
      (try simp only [List.getElem_toArray, List.getElem_cons_zero, List.getElem_cons_succ, Act.put, List.setIfInBounds_toArray, List.set_cons_zero, List.set_cons_succ])
      refine wpAnyH_take (i := 11) (v := ?_) rfl (by kernel_rfl) (by kernel_rfl) (by kernel_rfl) (fun _ _ _ h => h) (Or.inl ⟨by kernel_rfl, fun W hW => ?_⟩) (by assumption) ?_
      rotate_left
      · go_simp
        try with_reducible rfl
      (try simp only [List.getElem_toArray, List.getElem_cons_zero, List.getElem_cons_succ, Act.put, List.setIfInBounds_toArray, List.set_cons_zero, List.set_cons_succ])
      have hN : (V6.alloc (.cells zurl 27)).heap[V6.heap.size]? = some (.cells zurl 27 (0, 0)) := Go.heap_alloc_new _ _
      have HN := Lib.hid hN
      clear hN
      refine wpAnyH_ready (rs := [12]) (by kernel_rfl) (by simp) ?_
      refine AllReadyH.cons rfl (fun K hK => ?_) AllReadyH.nil
      go_simp
      refine hK.out _ _ trivial (fun _ => ?_)
      clear hK K
      (try simp only [List.getElem_toArray, List.getElem_cons_zero, List.getElem_cons_succ, Act.put, List.setIfInBounds_toArray, List.set_cons_zero, List.set_cons_succ])
      refine wpAnyH_ready (rs := [13]) (by kernel_rfl) (by simp) ?_
      refine AllReadyH.cons rfl (fun K hK => ?_) AllReadyH.nil
      rw [if_pos (by rfl)]
      refine wp_store_row 27 _ _ rfl V6.heap.size x.cells rfl rfl 27 _ HN.out (by kernel_rfl) rfl (agg_one x) ?_
      refine hK.out _ _ trivial (fun _ => ?_)
      clear hK K
      (try simp only [List.getElem_toArray, List.getElem_cons_zero, List.getElem_cons_succ, Act.put, List.setIfInBounds_toArray, List.set_cons_zero, List.set_cons_succ])
      refine wpAnyH_take (i := 14) (v := ?_) rfl (by kernel_rfl) (by kernel_rfl) (by kernel_rfl) (fun _ _ _ h => h) (Or.inl ⟨by kernel_rfl, fun W hW => ?_⟩) (by assumption) ?_
      rotate_left
      · go_simp
        try with_reducible rfl
      (try simp only [List.getElem_toArray, List.getElem_cons_zero, List.getElem_cons_succ, Act.put, List.setIfInBounds_toArray, List.set_cons_zero, List.set_cons_succ])
      refine wpAnyH_done (by kernel_rfl) ?_ _
      refine NoPanic.normal ?_
      go_wp2
      go_meet
      have hb2 : Below V6.heap.size V6 ((V6.alloc (.cells zurl 27)).setRow V6.heap.size x.cells) := below_setRow (b_alloc (Below.refl _ _) _) (Nat.le_refl _) _
      exact ⟨rfl, x, V6.heap.size, rfl, Lib.hid (heap_setRow HN.out _), Lib.hid (hx1.trans HUP.out.symm), Lib.hid (hx2.below hb2), Lib.hid (b_then (b_drew (Below.refl _ _)) (b_then hb hb2))⟩
    · go_simp
      have hN : (V5.alloc (.cells zurl 27)).drew.heap[V5.heap.size]? = some (.cells zurl 27 (0, 0)) := Go.heap_alloc_new V5 _
      have hb1 : Below V5.heap.size V5 (V5.alloc (.cells zurl 27)).drew := b_drew (b_alloc (Below.refl _ _) _)
      have hsz : (V5.alloc (.cells zurl 27)).drew.heap.size = V5.heap.size + 1 := by simp
      have HN := Lib.hid hN
      have HB1 := Lib.hid hb1
      have HSZ := Lib.hid hsz
      clear hN hb1 hsz
      unfold zurl at HN HB1 HSZ
      refine hK.out _ _ trivial (fun _ => ?_)
      clear hK K
      (try simp only [List.getElem_toArray, List.getElem_cons_zero, List.getElem_cons_succ, Act.put, List.setIfInBounds_toArray, List.set_cons_zero, List.set_cons_succ])
      generalize hW6 : (V5.alloc (Obj.cells _ 27)).drew = W6 at HN HB1 HSZ ⊢
      clear hW6
      refine wpAnyH_ready (rs := [8]) (by kernel_rfl) (by simp) ?_
      refine AllReadyH.cons rfl (fun K hK => ?_) AllReadyH.nil
      go_simp
      refine (HP3.out _ (HG.out.below (b_then HB.out HB1.out)) (tabs_below HTB.out (b_then HB.out HB1.out))).mono ?_
      rintro e V6 ⟨⟨x, rfl, hx1, hx2, hx3⟩, hb⟩
      have hN2 := obj_b hb HN.out
      have hs1 := HSZ.out
      refine hK.out _ _ trivial (fun _ => ?_)
      clear hK K
      (try simp only [List.getElem_toArray, List.getElem_cons_zero, List.getElem_cons_succ, Act.put, List.setIfInBounds_toArray, List.set_cons_zero, List.set_cons_succ])
      refine wpAnyH_take (i := 9) (v := ?_) rfl (by kernel_rfl) (by kernel_rfl) (by kernel_rfl) (fun _ _ _ h => h) (Or.inl ⟨by kernel_rfl, fun W hW => ?_⟩) (by assumption) ?_
      rotate_left
      · go_simp
        try with_reducible rfl
      (try simp only [List.getElem_toArray, List.getElem_cons_zero, List.getElem_cons_succ, Act.put, List.setIfInBounds_toArray, List.set_cons_zero, List.set_cons_succ])
      refine wpAnyH_take (i := 10) (v := ?_) rfl (by kernel_rfl) (by kernel_rfl) (by kernel_rfl) (fun _ _ _ h => h) (Or.inl ⟨by kernel_rfl, fun W hW => ?_⟩) (by assumption) ?_
      rotate_left
      · go_simp
        try with_reducible rfl
      (try simp only [List.getElem_toArray, List.getElem_cons_zero, List.getElem_cons_succ, Act.put, List.setIfInBounds_toArray, List.set_cons_zero, List.set_cons_succ])
      refine wpAnyH_take (i := 11) (v := ?_) rfl (by kernel_rfl) (by kernel_rfl) (by kernel_rfl) (fun _ _ _ h => h) (Or.inl ⟨by kernel_rfl, fun W hW => ?_⟩) (by assumption) ?_
      rotate_left
      · go_simp
        try with_reducible rfl
      (try simp only [List.getElem_toArray, List.getElem_cons_zero, List.getElem_cons_succ, Act.put, List.setIfInBounds_toArray, List.set_cons_zero, List.set_cons_succ])
      refine wpAnyH_ready (rs := [13]) (by kernel_rfl) (by simp) ?_
      refine AllReadyH.cons rfl (fun K hK => ?_) AllReadyH.nil
      rw [if_pos (by rfl)]
      refine wp_store_row 27 _ _ rfl V5.heap.size x.cells rfl rfl 27 _ hN2 (by kernel_rfl) rfl (agg_one x) ?_
      refine hK.out _ _ trivial (fun _ => ?_)
      clear hK K
      (try simp only [List.getElem_toArray, List.getElem_cons_zero, List.getElem_cons_succ, Act.put, List.setIfInBounds_toArray, List.set_cons_zero, List.set_cons_succ])
      refine wpAnyH_take (i := 14) (v := ?_) rfl (by kernel_rfl) (by kernel_rfl) (by kernel_rfl) (fun _ _ _ h => h) (Or.inl ⟨by kernel_rfl, fun W hW => ?_⟩) (by assumption) ?_
      rotate_left
      · go_simp
        try with_reducible rfl
      (try simp only [List.getElem_toArray, List.getElem_cons_zero, List.getElem_cons_succ, Act.put, List.setIfInBounds_toArray, List.set_cons_zero, List.set_cons_succ])
      refine wpAnyH_done (by kernel_rfl) ?_ _
      refine NoPanic.normal ?_
      go_wp2
      go_meet
      exact ⟨rfl, x, V5.heap.size, rfl, Lib.hid (heap_setRow hN2 _), Lib.hid (hx1.trans HUP.out.symm), Lib.hid (Ok_row hx2 (by rw [hs1] at hx3; exact hx3)), Lib.hid (below_setRow (b_then HB1.out hb) (Nat.le_refl _) _)⟩
  case rest =>
    obtain ⟨rfl, x, bx, rfl, HX, hxp, hxo, hb⟩ := hcut
    have HXP := hxp
    replace hb := hb.out
    clear hk hA1 hA2 hi hi2 hl hxp
    have HXO := hxo
    clear hxo
    replace HB := Lib.hid (b_then HB.out hb)
    replace HU := Lib.hid (obj_b hb HU.out)
    replace HV := Lib.hid (obj_b hb HV.out)
    replace HUO := Lib.hid (HUO.out.below hb)
    replace HVO := Lib.hid (HVO.out.below hb)
    clear hb
    go_wp2_with (first | (refine wpList_load_g 27 _ rfl (by kernel_rfl) bu rfl HU.out Tryz.underlying27 rfl (by kernel_rfl) ?_) | (refine wpList_load_g 27 _ rfl (by kernel_rfl) bv rfl HV.out Tryz.underlying27 rfl (by kernel_rfl) ?_))
    refine (same_tt u v HVP.out _ HUO.out HVO.out).mono ?_
    rintro e V7 ⟨rfl, hb⟩
    replace HB := Lib.hid (b_then HB.out hb)
    replace HU := Lib.hid (obj_b hb HU.out)
    replace HV := Lib.hid (obj_b hb HV.out)
    replace HX := Lib.hid (obj_b hb HX.out)
    replace HUO := Lib.hid (HUO.out.below hb)
    replace HVO := Lib.hid (HVO.out.below hb)
    replace HXO := Lib.hid (HXO.out.below hb)
    clear hb
    go_wp2_with (first | (refine wpList_load_g 27 _ rfl (by kernel_rfl) bu rfl HU.out Tryz.underlying27 rfl (by kernel_rfl) ?_) | (refine wpList_load_g 27 _ rfl (by kernel_rfl) bx rfl HX.out Tryz.underlying27 rfl (by kernel_rfl) ?_))
    refine (same_tt u x HXP.out _ HUO.out HXO.out).mono ?_
    rintro e V8 ⟨rfl, hb⟩
    replace HB := Lib.hid (b_then HB.out hb)
    replace HU := Lib.hid (obj_b hb HU.out)
    replace HV := Lib.hid (obj_b hb HV.out)
    replace HX := Lib.hid (obj_b hb HX.out)
    replace HUO := Lib.hid (HUO.out.below hb)
    replace HVO := Lib.hid (HVO.out.below hb)
    replace HXO := Lib.hid (HXO.out.below hb)
    clear hb
    have hnl := HUO.out.n
    have hok := HUO.out
    have hSn : V8.drew.heap[bu]? = some (.cells u.cells 27 (0, 0)) ∧ u.Ok V8.drew ∧ Below w.heap.size w V8.drew := ⟨HU.out, HUO.out.below (b_drew (Below.refl _ _)), b_drew HB.out⟩
    have hpmh : (⟨u.k, u.n, u.m, [u.s0, u.s1, u.s2, u.s3, u.s4, u.s5, u.s6, u.s7]⟩ : PM.Host) = u.pm.host := rfl
    have hpms : u.sc = u.pm.scheme := rfl
    have hHM := fun W hg => hostMay_c u.k u.n u.m u.s0 u.s1 u.s2 u.s3 u.s4 u.s5 u.s6 u.s7 hnl W hg
    rw [hpmh] at hHM
    have hW0 := fun W => Web_c u.sc W
    have hMY := fun W hu hg => urlMay_c u W hu hg
    have hwn := PM.web_nonneg u.pm.scheme
    rw [hpms] at hW0
    cases c with
    | false =>
      clear hHM hW0 hMY hpmh hpms hwn
      go_wp2_with fail
      go_quiet (fail)
      go_wp2
      go_ret
      exact ⟨rfl, b_drewN HB.out _⟩
    | true =>
      have hmay := HFIN.out rfl
      rw [← HUP.out] at hmay
      have hmh := PM.may_host hmay
      rw [hmay] at hMY
      obtain ⟨B, hB⟩ : ∃ B, PM.hostMay u.pm.host = B := ⟨_, rfl⟩
      obtain ⟨wv, hwv⟩ : ∃ x, PM.web u.pm.scheme = x := ⟨_, rfl⟩
      rw [hB] at hmh hHM
      rw [hwv] at hmh hW0 hwn
      rw [← hpms] at hW0
      clear hmay hB hwv hpmh hpms
      cases B with
      | true =>
        have hwp : 0 < wv := of_decide_eq_true hmh
        clear hmh hwn
        go_wp2_with fail
        refine wp_region_noPanic ?_
        refine wp_region_held_drew (S := fun W' => W'.heap[bu]? = some (.cells u.cells 27 (0, 0)) ∧ u.Ok W' ∧ Below w.heap.size w W') (by kernel_rfl) hSn (fun hS0 => ?_)
        refine wpAnyH_take (i := 0) (v := ?_) rfl (by kernel_rfl) (by kernel_rfl) (by kernel_rfl) (fun _ _ _ h => h) (Or.inl ⟨by kernel_rfl, fun W hW => ?_⟩) (by assumption) ?_
        rotate_left
        · obtain ⟨c0, c1, c2, c3, c4, c5, c6, c7, c8, c9, c10, c11, c12, c13, c14, c15, c16, c17, c18, c19, c20⟩ := UrlAt.of_heap hW.1
          go_simp
          try with_reducible rfl
        (try simp only [List.getElem_toArray, List.getElem_cons_zero, List.getElem_cons_succ, Act.put, List.setIfInBounds_toArray, List.set_cons_zero, List.set_cons_succ])
        refine wpAnyH_take (i := 1) (v := ?_) rfl (by kernel_rfl) (by kernel_rfl) (by kernel_rfl) (fun _ _ _ h => h) (Or.inl ⟨by kernel_rfl, fun W hW => ?_⟩) (by assumption) ?_
        rotate_left
        · obtain ⟨c0, c1, c2, c3, c4, c5, c6, c7, c8, c9, c10, c11, c12, c13, c14, c15, c16, c17, c18, c19, c20⟩ := UrlAt.of_heap hW.1
          go_simp
          try with_reducible rfl
        (try simp only [List.getElem_toArray, List.getElem_cons_zero, List.getElem_cons_succ, Act.put, List.setIfInBounds_toArray, List.set_cons_zero, List.set_cons_succ])
        refine wpAnyH_take (i := 2) (v := ?_) rfl (by kernel_rfl) (by kernel_rfl) (by kernel_rfl) (fun _ _ _ h => h) (Or.inl ⟨by kernel_rfl, fun W hW => ?_⟩) (by assumption) ?_
        rotate_left
        · obtain ⟨c0, c1, c2, c3, c4, c5, c6, c7, c8, c9, c10, c11, c12, c13, c14, c15, c16, c17, c18, c19, c20⟩ := UrlAt.of_heap hW.1
          go_simp
          try with_reducible rfl
        (try simp only [List.getElem_toArray, List.getElem_cons_zero, List.getElem_cons_succ, Act.put, List.setIfInBounds_toArray, List.set_cons_zero, List.set_cons_succ])
        refine wpAnyH_take (i := 3) (v := ?_) rfl (by kernel_rfl) (by kernel_rfl) (by kernel_rfl) (fun _ _ _ h => h) (Or.inl ⟨by kernel_rfl, fun W hW => ?_⟩) (by assumption) ?_
        rotate_left
        · refine yield_row 27 (.tmp 6) ?_ bu ?_ hW.1 Tryz.underlying27 rfl (by kernel_rfl)
          · rfl
          · rfl
        (try simp only [List.getElem_toArray, List.getElem_cons_zero, List.getElem_cons_succ, Act.put, List.setIfInBounds_toArray, List.set_cons_zero, List.set_cons_succ])
        refine wpAnyH_ready (rs := [4]) (by kernel_rfl) (by simp) ?_
        refine AllReadyH.cons rfl (fun K hK => ?_) AllReadyH.nil
        go_simp
        refine (hMY _ hSn.2.1 (HG.out.below hSn.2.2)).mono ?_
        rintro e U1 ⟨rfl, hb⟩
        replace hSn := And.intro (heap_b hb hSn.1) (And.intro (hSn.2.1.below hb) (b_then hSn.2.2 hb))
        clear hb
        refine hK.out _ _ hSn (fun _ => ?_)
        clear hK K
        (try simp only [List.getElem_toArray, List.getElem_cons_zero, List.getElem_cons_succ, Act.put, List.setIfInBounds_toArray, List.set_cons_zero, List.set_cons_succ])
        refine wpAnyH_take (i := 5) (v := ?_) rfl (by kernel_rfl) (by kernel_rfl) (by kernel_rfl) (fun _ _ _ h => h) (Or.inl ⟨by kernel_rfl, fun W hW => ?_⟩) (by assumption) ?_
        rotate_left
        · obtain ⟨c0, c1, c2, c3, c4, c5, c6, c7, c8, c9, c10, c11, c12, c13, c14, c15, c16, c17, c18, c19, c20⟩ := UrlAt.of_heap hW.1
          go_simp
          try with_reducible rfl
        (try simp only [List.getElem_toArray, List.getElem_cons_zero, List.getElem_cons_succ, Act.put, List.setIfInBounds_toArray, List.set_cons_zero, List.set_cons_succ])
        refine wpAnyH_take (i := 6) (v := ?_) rfl (by kernel_rfl) (by kernel_rfl) (by kernel_rfl) (fun _ _ _ h => h) (Or.inl ⟨by kernel_rfl, fun W hW => ?_⟩) (by assumption) ?_
        rotate_left
        · obtain ⟨c0, c1, c2, c3, c4, c5, c6, c7, c8, c9, c10, c11, c12, c13, c14, c15, c16, c17, c18, c19, c20⟩ := UrlAt.of_heap hW.1
          go_simp
          try with_reducible rfl
        (try simp only [List.getElem_toArray, List.getElem_cons_zero, List.getElem_cons_succ, Act.put, List.setIfInBounds_toArray, List.set_cons_zero, List.set_cons_succ])
        refine wpAnyH_take (i := 7) (v := ?_) rfl (by kernel_rfl) (by kernel_rfl) (by kernel_rfl) (fun _ _ _ h => h) (Or.inl ⟨by kernel_rfl, fun W hW => ?_⟩) (by assumption) ?_
        rotate_left
        · obtain ⟨c0, c1, c2, c3, c4, c5, c6, c7, c8, c9, c10, c11, c12, c13, c14, c15, c16, c17, c18, c19, c20⟩ := UrlAt.of_heap hW.1
          go_simp
          try with_reducible rfl
        (try simp only [List.getElem_toArray, List.getElem_cons_zero, List.getElem_cons_succ, Act.put, List.setIfInBounds_toArray, List.set_cons_zero, List.set_cons_succ])
        refine wpAnyH_take (i := 10) (v := ?_) rfl (by kernel_rfl) (by kernel_rfl) (by kernel_rfl) (fun _ _ _ h => h) (Or.inl ⟨by kernel_rfl, fun W hW => ?_⟩) (by assumption) ?_
        rotate_left
        · obtain ⟨c0, c1, c2, c3, c4, c5, c6, c7, c8, c9, c10, c11, c12, c13, c14, c15, c16, c17, c18, c19, c20⟩ := UrlAt.of_heap hW.1
          go_simp
          try with_reducible rfl
        (try simp only [List.getElem_toArray, List.getElem_cons_zero, List.getElem_cons_succ, Act.put, List.setIfInBounds_toArray, List.set_cons_zero, List.set_cons_succ])
        refine wpAnyH_take (i := 11) (v := ?_) rfl (by kernel_rfl) (by kernel_rfl) (by kernel_rfl) (fun _ _ _ h => h) (Or.inl ⟨by kernel_rfl, fun W hW => ?_⟩) (by assumption) ?_
        rotate_left
        · obtain ⟨c0, c1, c2, c3, c4, c5, c6, c7, c8, c9, c10, c11, c12, c13, c14, c15, c16, c17, c18, c19, c20⟩ := UrlAt.of_heap hW.1
          go_simp
          try with_reducible rfl
        (try simp only [List.getElem_toArray, List.getElem_cons_zero, List.getElem_cons_succ, Act.put, List.setIfInBounds_toArray, List.set_cons_zero, List.set_cons_succ])
        refine wpAnyH_ready (rs := [8]) (by kernel_rfl) (by simp) ?_
        refine AllReadyH.cons rfl (fun K hK => ?_) AllReadyH.nil
        go_simp
        refine (hW0 _).mono ?_
        rintro e U2 ⟨rfl, rfl⟩
        refine hK.out _ _ hSn (fun _ => ?_)
        clear hK K
        (try simp only [List.getElem_toArray, List.getElem_cons_zero, List.getElem_cons_succ, Act.put, List.setIfInBounds_toArray, List.set_cons_zero, List.set_cons_succ])
        refine wpAnyH_take (i := 9) (v := ?_) rfl (by kernel_rfl) (by kernel_rfl) (by kernel_rfl) (fun _ _ _ h => h) (Or.inl ⟨by kernel_rfl, fun W hW => ?_⟩) (by assumption) ?_
        rotate_left
        · obtain ⟨c0, c1, c2, c3, c4, c5, c6, c7, c8, c9, c10, c11, c12, c13, c14, c15, c16, c17, c18, c19, c20⟩ := UrlAt.of_heap hW.1
          go_simp
          try with_reducible rfl
        (try simp only [List.getElem_toArray, List.getElem_cons_zero, List.getElem_cons_succ, Act.put, List.setIfInBounds_toArray, List.set_cons_zero, List.set_cons_succ])
        refine wpAnyH_ready (rs := [12]) (by kernel_rfl) (by simp) ?_
        refine AllReadyH.cons rfl (fun K hK => ?_) AllReadyH.nil
        go_simp
        refine (hHM _ (HG.out.below hSn.2.2)).mono ?_
        rintro e U3 ⟨rfl, hb⟩
        replace hSn := And.intro (heap_b hb hSn.1) (And.intro (hSn.2.1.below hb) (b_then hSn.2.2 hb))
        clear hb
        refine hK.out _ _ hSn (fun _ => ?_)
        clear hK K
        (try simp only [List.getElem_toArray, List.getElem_cons_zero, List.getElem_cons_succ, Act.put, List.setIfInBounds_toArray, List.set_cons_zero, List.set_cons_succ])
        refine wpAnyH_take (i := 13) (v := ?_) rfl (by kernel_rfl) (by kernel_rfl) (by kernel_rfl) (fun _ _ _ h => h) (Or.inl ⟨by kernel_rfl, fun W hW => ?_⟩) (by assumption) ?_
        rotate_left
        · obtain ⟨c0, c1, c2, c3, c4, c5, c6, c7, c8, c9, c10, c11, c12, c13, c14, c15, c16, c17, c18, c19, c20⟩ := UrlAt.of_heap hW.1
          go_simp
          try with_reducible rfl
        (try simp only [List.getElem_toArray, List.getElem_cons_zero, List.getElem_cons_succ, Act.put, List.setIfInBounds_toArray, List.set_cons_zero, List.set_cons_succ])
        refine wpAnyH_take (i := 14) (v := ?_) rfl (by kernel_rfl) (by kernel_rfl) (by kernel_rfl) (fun _ _ _ h => h) (Or.inl ⟨by kernel_rfl, fun W hW => ?_⟩) (by assumption) ?_
        rotate_left
        · obtain ⟨c0, c1, c2, c3, c4, c5, c6, c7, c8, c9, c10, c11, c12, c13, c14, c15, c16, c17, c18, c19, c20⟩ := UrlAt.of_heap hW.1
          go_simp
          try with_reducible rfl
        (try simp only [List.getElem_toArray, List.getElem_cons_zero, List.getElem_cons_succ, Act.put, List.setIfInBounds_toArray, List.set_cons_zero, List.set_cons_succ])
        refine wpAnyH_take (i := 15) (v := ?_) rfl (by kernel_rfl) (by kernel_rfl) (by kernel_rfl) (fun _ _ _ h => h) (Or.inl ⟨by kernel_rfl, fun W hW => ?_⟩) (by assumption) ?_
        rotate_left
        · obtain ⟨c0, c1, c2, c3, c4, c5, c6, c7, c8, c9, c10, c11, c12, c13, c14, c15, c16, c17, c18, c19, c20⟩ := UrlAt.of_heap hW.1
          go_simp
          try with_reducible rfl
        (try simp only [List.getElem_toArray, List.getElem_cons_zero, List.getElem_cons_succ, Act.put, List.setIfInBounds_toArray, List.set_cons_zero, List.set_cons_succ])
        refine wpAnyH_take (i := 16) (v := ?_) rfl (by kernel_rfl) (by kernel_rfl) (by kernel_rfl) (fun _ _ _ h => h) (Or.inl ⟨by kernel_rfl, fun W hW => ?_⟩) (by assumption) ?_
        rotate_left
        · obtain ⟨c0, c1, c2, c3, c4, c5, c6, c7, c8, c9, c10, c11, c12, c13, c14, c15, c16, c17, c18, c19, c20⟩ := UrlAt.of_heap hW.1
          go_simp
          try with_reducible rfl
        (try simp only [List.getElem_toArray, List.getElem_cons_zero, List.getElem_cons_succ, Act.put, List.setIfInBounds_toArray, List.set_cons_zero, List.set_cons_succ])
        refine wpAnyH_done (by kernel_rfl) ?_ _
        refine NoPanic.normal ?_
        go_wp2
        go_ret
        exact ⟨rfl, hSn.2.2⟩
      | false =>
        have hwp : ¬ 0 < wv := of_decide_eq_false hmh
        obtain rfl : wv = 0 := by omega
        clear hmh hwn hwp
        go_wp2_with fail
        refine wp_region_noPanic ?_
        refine wp_region_held_drew (S := fun W' => W'.heap[bu]? = some (.cells u.cells 27 (0, 0)) ∧ u.Ok W' ∧ Below w.heap.size w W') (by kernel_rfl) hSn (fun hS0 => ?_)
        refine wpAnyH_take (i := 0) (v := ?_) rfl (by kernel_rfl) (by kernel_rfl) (by kernel_rfl) (fun _ _ _ h => h) (Or.inl ⟨by kernel_rfl, fun W hW => ?_⟩) (by assumption) ?_
        rotate_left
        · obtain ⟨c0, c1, c2, c3, c4, c5, c6, c7, c8, c9, c10, c11, c12, c13, c14, c15, c16, c17, c18, c19, c20⟩ := UrlAt.of_heap hW.1
          go_simp
          try with_reducible rfl
        (try simp only [List.getElem_toArray, List.getElem_cons_zero, List.getElem_cons_succ, Act.put, List.setIfInBounds_toArray, List.set_cons_zero, List.set_cons_succ])
        refine wpAnyH_take (i := 1) (v := ?_) rfl (by kernel_rfl) (by kernel_rfl) (by kernel_rfl) (fun _ _ _ h => h) (Or.inl ⟨by kernel_rfl, fun W hW => ?_⟩) (by assumption) ?_
        rotate_left
        · obtain ⟨c0, c1, c2, c3, c4, c5, c6, c7, c8, c9, c10, c11, c12, c13, c14, c15, c16, c17, c18, c19, c20⟩ := UrlAt.of_heap hW.1
          go_simp
          try with_reducible rfl
        (try simp only [List.getElem_toArray, List.getElem_cons_zero, List.getElem_cons_succ, Act.put, List.setIfInBounds_toArray, List.set_cons_zero, List.set_cons_succ])
        refine wpAnyH_take (i := 2) (v := ?_) rfl (by kernel_rfl) (by kernel_rfl) (by kernel_rfl) (fun _ _ _ h => h) (Or.inl ⟨by kernel_rfl, fun W hW => ?_⟩) (by assumption) ?_
        rotate_left
        · obtain ⟨c0, c1, c2, c3, c4, c5, c6, c7, c8, c9, c10, c11, c12, c13, c14, c15, c16, c17, c18, c19, c20⟩ := UrlAt.of_heap hW.1
          go_simp
          try with_reducible rfl
        (try simp only [List.getElem_toArray, List.getElem_cons_zero, List.getElem_cons_succ, Act.put, List.setIfInBounds_toArray, List.set_cons_zero, List.set_cons_succ])
        refine wpAnyH_take (i := 3) (v := ?_) rfl (by kernel_rfl) (by kernel_rfl) (by kernel_rfl) (fun _ _ _ h => h) (Or.inl ⟨by kernel_rfl, fun W hW => ?_⟩) (by assumption) ?_
        rotate_left
        · refine yield_row 27 (.tmp 6) ?_ bu ?_ hW.1 Tryz.underlying27 rfl (by kernel_rfl)
          · rfl
          · rfl
        (try simp only [List.getElem_toArray, List.getElem_cons_zero, List.getElem_cons_succ, Act.put, List.setIfInBounds_toArray, List.set_cons_zero, List.set_cons_succ])
        refine wpAnyH_ready (rs := [4]) (by kernel_rfl) (by simp) ?_
        refine AllReadyH.cons rfl (fun K hK => ?_) AllReadyH.nil
        go_simp
        refine (hMY _ hSn.2.1 (HG.out.below hSn.2.2)).mono ?_
        rintro e U4 ⟨rfl, hb⟩
        replace hSn := And.intro (heap_b hb hSn.1) (And.intro (hSn.2.1.below hb) (b_then hSn.2.2 hb))
        clear hb
        refine hK.out _ _ hSn (fun _ => ?_)
        clear hK K
        (try simp only [List.getElem_toArray, List.getElem_cons_zero, List.getElem_cons_succ, Act.put, List.setIfInBounds_toArray, List.set_cons_zero, List.set_cons_succ])
        refine wpAnyH_take (i := 5) (v := ?_) rfl (by kernel_rfl) (by kernel_rfl) (by kernel_rfl) (fun _ _ _ h => h) (Or.inl ⟨by kernel_rfl, fun W hW => ?_⟩) (by assumption) ?_
        rotate_left
        · obtain ⟨c0, c1, c2, c3, c4, c5, c6, c7, c8, c9, c10, c11, c12, c13, c14, c15, c16, c17, c18, c19, c20⟩ := UrlAt.of_heap hW.1
          go_simp
          try with_reducible rfl
        (try simp only [List.getElem_toArray, List.getElem_cons_zero, List.getElem_cons_succ, Act.put, List.setIfInBounds_toArray, List.set_cons_zero, List.set_cons_succ])
        refine wpAnyH_take (i := 6) (v := ?_) rfl (by kernel_rfl) (by kernel_rfl) (by kernel_rfl) (fun _ _ _ h => h) (Or.inl ⟨by kernel_rfl, fun W hW => ?_⟩) (by assumption) ?_
        rotate_left
        · obtain ⟨c0, c1, c2, c3, c4, c5, c6, c7, c8, c9, c10, c11, c12, c13, c14, c15, c16, c17, c18, c19, c20⟩ := UrlAt.of_heap hW.1
          go_simp
          try with_reducible rfl
        (try simp only [List.getElem_toArray, List.getElem_cons_zero, List.getElem_cons_succ, Act.put, List.setIfInBounds_toArray, List.set_cons_zero, List.set_cons_succ])
        refine wpAnyH_take (i := 7) (v := ?_) rfl (by kernel_rfl) (by kernel_rfl) (by kernel_rfl) (fun _ _ _ h => h) (Or.inl ⟨by kernel_rfl, fun W hW => ?_⟩) (by assumption) ?_
        rotate_left
        · obtain ⟨c0, c1, c2, c3, c4, c5, c6, c7, c8, c9, c10, c11, c12, c13, c14, c15, c16, c17, c18, c19, c20⟩ := UrlAt.of_heap hW.1
          go_simp
          try with_reducible rfl
        (try simp only [List.getElem_toArray, List.getElem_cons_zero, List.getElem_cons_succ, Act.put, List.setIfInBounds_toArray, List.set_cons_zero, List.set_cons_succ])
        refine wpAnyH_take (i := 10) (v := ?_) rfl (by kernel_rfl) (by kernel_rfl) (by kernel_rfl) (fun _ _ _ h => h) (Or.inl ⟨by kernel_rfl, fun W hW => ?_⟩) (by assumption) ?_
        rotate_left
        · obtain ⟨c0, c1, c2, c3, c4, c5, c6, c7, c8, c9, c10, c11, c12, c13, c14, c15, c16, c17, c18, c19, c20⟩ := UrlAt.of_heap hW.1
          go_simp
          try with_reducible rfl
        (try simp only [List.getElem_toArray, List.getElem_cons_zero, List.getElem_cons_succ, Act.put, List.setIfInBounds_toArray, List.set_cons_zero, List.set_cons_succ])
        refine wpAnyH_take (i := 11) (v := ?_) rfl (by kernel_rfl) (by kernel_rfl) (by kernel_rfl) (fun _ _ _ h => h) (Or.inl ⟨by kernel_rfl, fun W hW => ?_⟩) (by assumption) ?_
        rotate_left
        · obtain ⟨c0, c1, c2, c3, c4, c5, c6, c7, c8, c9, c10, c11, c12, c13, c14, c15, c16, c17, c18, c19, c20⟩ := UrlAt.of_heap hW.1
          go_simp
          try with_reducible rfl
        (try simp only [List.getElem_toArray, List.getElem_cons_zero, List.getElem_cons_succ, Act.put, List.setIfInBounds_toArray, List.set_cons_zero, List.set_cons_succ])
        refine wpAnyH_ready (rs := [8]) (by kernel_rfl) (by simp) ?_
        refine AllReadyH.cons rfl (fun K hK => ?_) AllReadyH.nil
        go_simp
        refine (hW0 _).mono ?_
        rintro e U5 ⟨rfl, rfl⟩
        refine hK.out _ _ hSn (fun _ => ?_)
        clear hK K
        (try simp only [List.getElem_toArray, List.getElem_cons_zero, List.getElem_cons_succ, Act.put, List.setIfInBounds_toArray, List.set_cons_zero, List.set_cons_succ])
        refine wpAnyH_take (i := 9) (v := ?_) rfl (by kernel_rfl) (by kernel_rfl) (by kernel_rfl) (fun _ _ _ h => h) (Or.inl ⟨by kernel_rfl, fun W hW => ?_⟩) (by assumption) ?_
        rotate_left
        · obtain ⟨c0, c1, c2, c3, c4, c5, c6, c7, c8, c9, c10, c11, c12, c13, c14, c15, c16, c17, c18, c19, c20⟩ := UrlAt.of_heap hW.1
          go_simp
          try with_reducible rfl
        (try simp only [List.getElem_toArray, List.getElem_cons_zero, List.getElem_cons_succ, Act.put, List.setIfInBounds_toArray, List.set_cons_zero, List.set_cons_succ])
        refine wpAnyH_ready (rs := [12]) (by kernel_rfl) (by simp) ?_
        refine AllReadyH.cons rfl (fun K hK => ?_) AllReadyH.nil
        go_simp
        refine (hHM _ (HG.out.below hSn.2.2)).mono ?_
        rintro e U6 ⟨rfl, hb⟩
        replace hSn := And.intro (heap_b hb hSn.1) (And.intro (hSn.2.1.below hb) (b_then hSn.2.2 hb))
        clear hb
        refine hK.out _ _ hSn (fun _ => ?_)
        clear hK K
        (try simp only [List.getElem_toArray, List.getElem_cons_zero, List.getElem_cons_succ, Act.put, List.setIfInBounds_toArray, List.set_cons_zero, List.set_cons_succ])
        refine wpAnyH_take (i := 13) (v := ?_) rfl (by kernel_rfl) (by kernel_rfl) (by kernel_rfl) (fun _ _ _ h => h) (Or.inl ⟨by kernel_rfl, fun W hW => ?_⟩) (by assumption) ?_
        rotate_left
        · obtain ⟨c0, c1, c2, c3, c4, c5, c6, c7, c8, c9, c10, c11, c12, c13, c14, c15, c16, c17, c18, c19, c20⟩ := UrlAt.of_heap hW.1
          go_simp
          try with_reducible rfl
        (try simp only [List.getElem_toArray, List.getElem_cons_zero, List.getElem_cons_succ, Act.put, List.setIfInBounds_toArray, List.set_cons_zero, List.set_cons_succ])
        refine wpAnyH_take (i := 14) (v := ?_) rfl (by kernel_rfl) (by kernel_rfl) (by kernel_rfl) (fun _ _ _ h => h) (Or.inl ⟨by kernel_rfl, fun W hW => ?_⟩) (by assumption) ?_
        rotate_left
        · obtain ⟨c0, c1, c2, c3, c4, c5, c6, c7, c8, c9, c10, c11, c12, c13, c14, c15, c16, c17, c18, c19, c20⟩ := UrlAt.of_heap hW.1
          go_simp
          try with_reducible rfl
        (try simp only [List.getElem_toArray, List.getElem_cons_zero, List.getElem_cons_succ, Act.put, List.setIfInBounds_toArray, List.set_cons_zero, List.set_cons_succ])
        refine wpAnyH_take (i := 15) (v := ?_) rfl (by kernel_rfl) (by kernel_rfl) (by kernel_rfl) (fun _ _ _ h => h) (Or.inl ⟨by kernel_rfl, fun W hW => ?_⟩) (by assumption) ?_
        rotate_left
        · obtain ⟨c0, c1, c2, c3, c4, c5, c6, c7, c8, c9, c10, c11, c12, c13, c14, c15, c16, c17, c18, c19, c20⟩ := UrlAt.of_heap hW.1
          go_simp
          try with_reducible rfl
        (try simp only [List.getElem_toArray, List.getElem_cons_zero, List.getElem_cons_succ, Act.put, List.setIfInBounds_toArray, List.set_cons_zero, List.set_cons_succ])
        refine wpAnyH_take (i := 16) (v := ?_) rfl (by kernel_rfl) (by kernel_rfl) (by kernel_rfl) (fun _ _ _ h => h) (Or.inl ⟨by kernel_rfl, fun W hW => ?_⟩) (by assumption) ?_
        rotate_left
        · obtain ⟨c0, c1, c2, c3, c4, c5, c6, c7, c8, c9, c10, c11, c12, c13, c14, c15, c16, c17, c18, c19, c20⟩ := UrlAt.of_heap hW.1
          go_simp
          try with_reducible rfl
        (try simp only [List.getElem_toArray, List.getElem_cons_zero, List.getElem_cons_succ, Act.put, List.setIfInBounds_toArray, List.set_cons_zero, List.set_cons_succ])
        refine wpAnyH_done (by kernel_rfl) ?_ _
        refine NoPanic.normal ?_
        go_wp2
        go_ret
        exact ⟨rfl, hSn.2.2⟩
end Go.Proofs.YtgegnnojobmdcaaGreatDoor
/-! The row of UrlMay. -/
namespace Go.Proofs.YtgegnnojobmdcaaGreatDoor
open Go.ChangeShapes Go.WideShapes Go.ChangeAt Go.RowKit
open Go.WideMaps Go.WideElems
open Go.ChangeMaps (open_string shut_string)
theorem urlMay_reads (os : Os) {H : Type} (enc : TypeId × Value → H) : ∃ x, DataW.whole enc Tryz.prog ((laidWorld os).forCall (fun _ _ => 0) ⟨#[], #[.string ⟨#[]⟩, .int .i64 0], []⟩).memory Tryz.f4.params.toList Rows.urlMaySpec.vars false (#[.string ⟨#[]⟩, .int .i64 0] : Array Value).toList 8 = some x :=
  Option.isSome_iff_exists.1 (by kernel_rfl)
set_option maxRecDepth 100000 in
theorem urlMay_lifted (os : Os) (started : os.Started) (H : Type) (enc : TypeId × Value → H) (F : Stop.Interp) :
    ReturnsInHanded {} Tryz.checked os 4 .any ((OpenSpec.ofChange Rows.urlMaySpec).preRow enc Tryz.prog Tryz.f4 Rows.urlMayRow.domain false Rows.urlMayRow.laid) (((OpenSpec.ofChange Rows.urlMaySpec).at F).post enc Tryz.prog Tryz.f4 false true false false) := by
  obtain ⟨x, hx⟩ := urlMay_reads os enc
  refine returnsInHanded_of_row (C := Tryz.checked) (s := OpenSpec.ofChange Rows.urlMaySpec) own started (by kernel_rfl) Tryz.func4
    (witness_row_atRef (enc := enc) (C := Tryz.checked) false (laidWorld os) #[.string ⟨#[]⟩, .int .i64 0] rfl (by kernel_rfl) (by kernel_rfl) (by kernel_rfl)
      (OpenSpec.preRow_of_cond 8 hx rfl (fun k hk => by cases hk) (by kernel_rfl) (laid_met os _))) ?_
  intro W base args ds gs before hval0 hW _ _ _ hL hsh _
  have hval : ∀ (j : Nat) t v, Tryz.f4.params[j]? = some t → args[j]? = some v → Value.okWide Tryz.prog W .any base t v := hval0
  have hW' := hW
  obtain ⟨p, q, hA0, hV, rfl, hfz, hnd⟩ := hW
  have hA : DataW.TrodAll enc Tryz.prog W 0 (fun _ => true) true Tryz.f4.params.toList args.toList ds p := hA0
  rw [Tryz.params4] at hA hval
  obtain ⟨v0, v1, d0, d1, p0, p1, rfl, rfl, rfl, h0, h1⟩ := trodAll_two hA
  obtain ⟨rfl, rfl⟩ := trodVars_none hV
  simp only [List.append_nil] at hfz hnd hW'
  have hlt : ∀ x ∈ p0 ++ p1, x.block < W.heap.size := fun x hx => hW'.lt x hx
  have h0k := h0
  obtain ⟨s0, e0, _, _, w0⟩ := open_string Tryz.underlying9 (hval 0 9 v0 rfl rfl) h0
  obtain ⟨l0, rfl⟩ := mkS_surj s0
  subst e0
  have h1k := h1
  obtain ⟨n1, e1, _, _, w1⟩ := open_int Tryz.underlying3 (hval 1 3 v1 rfl rfl) h1
  subst e1
  refine (UrlMayL_c l0 n1 W  (gl_of hsh) (tabs_laid hL)).mono fun e W' ⟨he, hb⟩ => ?_
  subst he
  refine ⟨_, rfl, _, _, _, [], p0 ++ p1, [], hW', ?_, ?_, ?_, hb.frame _, fun h => by cases h⟩
  · exact trodAll_mk1 (shut_bool Tryz.underlying4 _)
  · exact trodAll_mk2 (Below.trod laidOut (by kernel_rfl) (of_decide_eq_true (by kernel_rfl)) h0k hb (fun x hx => hlt x (by simp [hx]))) (Below.trod laidOut (by kernel_rfl) (of_decide_eq_true (by kernel_rfl)) h1k hb (fun x hx => hlt x (by simp [hx])))
  · rfl
theorem urlMay_said : Rows.UrlMaySaid :=
  OpenClaim.holds_of_cond 4 Tryz.f4 rfl rfl rfl rfl rfl rfl rfl ⟨rfl, rfl, rfl, rfl, rfl⟩ rfl rfl rfl rfl rfl (by kernel_rfl) Tryz.func4 (by kernel_rfl)
    (of_decide_eq_true (by kernel_rfl)) (by unfold Func.isWrapper; first | (rw [if_pos (by decide +kernel)]; kernel_rfl) | (rw [if_neg (by decide +kernel)]; exact ⟨rfl, rfl⟩))
    (fun os started H enc _ F => by rw [OpenClaim.pre_eq_preRow]; exact urlMay_lifted os started H enc F)
theorem urlMay_plain (f : FuncId) (fn : Func) (hf : Tryz.pinned.checked.prog.funcNamed "postmark/postmarklaw09.UrlMay" = some f) (hfn : Tryz.pinned.checked.prog.funcs[f]? = some fn) :
    true = Tryz.pinned.checked.prog.looks [] ∧ ∀ (j : Nat) t, fn.params[j]? = some t → Tryz.pinned.checked.prog.wantsStandIn t = false := by
  obtain rfl : f = 4 := Option.some.inj ((show Tryz.prog.funcNamed "postmark/postmarklaw09.UrlMay" = some 4 by kernel_rfl).symm.trans hf) |>.symm
  obtain rfl : fn = Tryz.f4 := (Option.some.inj (Tryz.func4.symm.trans hfn)).symm
  refine ⟨by kernel_rfl, fun j t ht => ?_⟩
  rw [Tryz.params4] at ht
  have hm := Array.mem_of_getElem? ht
  simp only [Array.mem_def, List.mem_cons, List.not_mem_nil, or_false] at hm
  rcases hm with rfl | rfl
  · exact (show Tryz.prog.wantsStandIn 9 = false by kernel_rfl)
  · exact (show Tryz.prog.wantsStandIn 3 = false by kernel_rfl)
theorem urlMay_holds : Rows.UrlMayCardSaid :=
  Claim7.holds_tied_plain_at .later [] _ _ _ _ urlMay_said (fun _ h => by cases h) (by kernel_rfl) (fun _ h => by cases h) urlMay_row_tie rfl ⟨rfl, rfl⟩ (by kernel_rfl) rfl urlMay_plain (by kernel_rfl)
#print axioms urlMay_holds
end Go.Proofs.YtgegnnojobmdcaaGreatDoor
