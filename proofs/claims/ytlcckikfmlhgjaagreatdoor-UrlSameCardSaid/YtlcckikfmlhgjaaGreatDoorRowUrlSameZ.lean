/-
UrlSame: whatever comes in, the law's call returns true, and the arguments read behind the call as they did before; no condition on them. The row lists the two tables of unicode/utf8 (first, acceptRanges); the card ties them.
-/
import Derived.Test.YtlcckikfmlhgjaaGreatDoorTz
import Derived.Test.YtlcckikfmlhgjaaGreatDoorP15
import Derived.Test.YtlcckikfmlhgjaaGreatDoorC23
set_option linter.unusedVariables false
set_option linter.unusedSimpArgs false
/-! Contract: postmarklaw09.awake. -/
namespace Go.Proofs.YtlcckikfmlhgjaaGreatDoor
open Go.RowKit
def awT : List UInt8 := [72, 84, 84, 80, 58, 47, 47, 117, 64, 65, 46, 111, 114, 103, 58, 56, 48, 47, 98, 63, 99, 35, 100]
def awV (a : Option Addr) (pn pc : Nat) : UV := ⟨[104, 116, 116, 112], [117], [], 1, [97, 46, 111, 114, 103], 0, 0, 0, 0, 0, 0, 0, 0, 0, -1, a, pn, pc, [[98]], [], [99], [100], true, true⟩
theorem awT_parse : PM.urlParse awT = some (awV none 0 0).pm := by kernel_rfl
theorem awP (w : World) (hg : Gl w) (hT : Lib.Utf8Tabs 1 2 w) : Calls Tryz.prog 39 #[.string ⟨#[72, 84, 84, 80, 58, 47, 47, 117, 64, 65, 46, 111, 114, 103, 58, 56, 48, 47, 98, 63, 99, 35, 100]⟩] w fun e w' =>
    (∃ g o pc, e = .returned (.tuple #[.agg (awV (some ⟨g, o, none⟩) 1 pc).cells, .bool true]) ∧ (awV (some ⟨g, o, none⟩) 1 pc).Ok w' ∧ w'.cell? ⟨g, o, none⟩ = some (.string (mkS [98]))) ∧ Below w.heap.size w w' := by
  have h := UrlParse_c awT (by decide) w hg hT
  rw [awT_parse] at h
  refine h.mono ?_
  rintro e w' ⟨⟨v, h1, h2, h3⟩, hb⟩
  refine ⟨?_, hb⟩
  obtain ⟨sc, us, pa, k, n, m, s0, s1, s2, s3, s4, s5, s6, s7, port, a, pn, pc, xs, op, qu, fr, hq, hf⟩ := v
  have h2' : (⟨sc, us, pa, ⟨k, n, m, [s0, s1, s2, s3, s4, s5, s6, s7]⟩, port, xs, op, qu, fr, hq, hf⟩ : PM.Url) = ⟨[104, 116, 116, 112], [117], [], ⟨1, [97, 46, 111, 114, 103], 0, [0, 0, 0, 0, 0, 0, 0, 0]⟩, -1, [[98]], [], [99], [100], true, true⟩ := h2
  simp only [PM.Url.mk.injEq, PM.Host.mk.injEq, List.cons.injEq, and_true] at h2'
  obtain ⟨rfl, rfl, rfl, ⟨rfl, rfl, rfl, rfl, rfl, rfl, rfl, rfl, rfl, rfl, rfl⟩, rfl, rfl, rfl, rfl, rfl, rfl, rfl⟩ := h2'
  have hok := h3 (show ([[98]] : List (List UInt8)).length ≤ 10000 by decide)
  have hrd : RdS w' a pn [[98]] := hok.rd
  have hpn : pn = 1 := hrd.len.symm
  subst hpn
  rcases hrd.at_ with e0 | ⟨b, o, rfl, hlt, hc⟩
  · cases e0
  · exact ⟨b, o, pc, h1, hok, hc 0 (by decide)⟩
theorem aw_scheme : PM.scheme [72, 116, 116, 112, 58, 120] = ([104, 116, 116, 112], [120], true) := by kernel_rfl
theorem aw_tail : PM.tail [97, 63, 98, 35, 99, 63, 100] = ([97], [98], [99, 63, 100], true, true) := by kernel_rfl
theorem aw_may (a : Option Addr) (pn pc : Nat) : PM.urlMay (awV a pn pc).pm = true := by
  show PM.urlMay (awV none 0 0).pm = true
  kernel_rfl
theorem aw_host : PM.hostShow ⟨1, [97, 46, 111, 114, 103], 0, [0, 0, 0, 0, 0, 0, 0, 0]⟩ = [97, 46, 111, 114, 103] := by kernel_rfl
theorem aw_web : PM.web [104, 116, 116, 112, 115] = 443 := by kernel_rfl
set_option maxRecDepth 100000 in
set_option maxHeartbeats 4000000 in
theorem awake9_c (w : World) (hg : Gl w) (hT : Lib.Utf8Tabs 1 2 w) : Calls Tryz.prog 19 #[] w fun e w' => e = .returned (.bool true) ∧ Below w.heap.size w w' := by
  have hP := awP w hg hT
  have HG := Lib.hid hg
  have hS := fun W hg => Scheme_c [72, 116, 116, 112, 58, 120] (by decide) W hg
  rw [aw_scheme] at hS
  have hTl := fun W hg => Tail_c [97, 63, 98, 35, 99, 63, 100] (by decide) W hg
  rw [aw_tail] at hTl
  have HS : Hid (∀ W, Gl W → Calls Tryz.prog 48 #[.string ⟨#[72, 116, 116, 112, 58, 120]⟩] W fun e w' => e = .returned (.tuple #[.string (mkS [104, 116, 116, 112]), .string (mkS [120]), .bool true]) ∧ Below W.heap.size W w') := Lib.hid hS
  have HTl : Hid (∀ W, Gl W → Calls Tryz.prog 49 #[.string ⟨#[97, 63, 98, 35, 99, 63, 100]⟩] W fun e w' => e = .returned (.tuple #[.string (mkS [97]), .string (mkS [98]), .string (mkS [99, 63, 100]), .bool true, .bool true]) ∧ Below W.heap.size W w') := Lib.hid hTl
  have HP := Lib.hid hP
  clear hP hS hTl hg hT
  go_enter Tryz.func19, Tryz.ntmps19
  go_wp2_with fail
  refine HP.out.mono ?_
  rintro e V1 ⟨⟨g, o, pc, rfl, hok, hcell⟩, hb1⟩
  have HOK := Lib.hid hok
  have HCE := Lib.hid hcell
  have HB := Lib.hid hb1
  clear hok hcell hb1
  obtain ⟨v, hv⟩ : ∃ v, v = awV (some ⟨g, o, none⟩) 1 pc := ⟨_, rfl⟩
  have HN := Lib.hid (Go.heap_alloc_new V1 (.cells zurl 27))
  rw [← hv] at HOK ⊢
  have HV := Lib.hid hv
  clear hv
  go_upto_region 2 with (refine wpList_store_row rfl 27 _ _ rfl V1.heap.size v.cells rfl rfl 27 _ HN.out (by kernel_rfl) rfl (agg_one v) ?_)
  obtain ⟨V2, hV⟩ : ∃ V2, V2 = (V1.alloc (.cells #[.string ⟨#[]⟩, .string ⟨#[]⟩, .string ⟨#[]⟩, .int .i64 0, .string ⟨#[]⟩, .int .i64 0, .int .i64 0, .int .i64 0, .int .i64 0, .int .i64 0, .int .i64 0, .int .i64 0, .int .i64 0, .int .i64 0, .int .i64 0, .slice none 0 0, .string ⟨#[]⟩, .string ⟨#[]⟩, .string ⟨#[]⟩, .bool false, .bool false] 27)).setRow V1.heap.size v.cells := ⟨_, rfl⟩
  have hN : V2.heap[V1.heap.size]? = some (.cells v.cells 27 (0, 0)) := by rw [hV]; exact heap_setRow HN.out _
  have hb : Below V1.heap.size V1 V2 := by rw [hV]; exact below_setRow (b_alloc (Below.refl _ _) _) (Nat.le_refl _) _
  rw [← hV]
  clear hV HN
  have HX := Lib.hid hN
  replace HOK := Lib.hid (HOK.out.below hb)
  replace HCE := Lib.hid (cell_b hb HCE.out)
  replace HB := Lib.hid (b_then HB.out hb)
  clear hN hb
  generalize V1.heap.size = b at HX ⊢
  go_wp2_with fail
  refine (HS.out _ (HG.out.below HB.out)).mono ?_
  rintro e V3 ⟨rfl, hb⟩
  replace HX := Lib.hid (obj_b hb HX.out)
  replace HOK := Lib.hid (HOK.out.below hb)
  replace HCE := Lib.hid (cell_b hb HCE.out)
  replace HB := Lib.hid (b_then HB.out hb)
  clear hb
  go_wp2_with fail
  refine (HTl.out _ (HG.out.below HB.out)).mono ?_
  rintro e V4 ⟨rfl, hb⟩
  replace HX := Lib.hid (obj_b hb HX.out)
  replace HOK := Lib.hid (HOK.out.below hb)
  replace HCE := Lib.hid (cell_b hb HCE.out)
  replace HB := Lib.hid (b_then HB.out hb)
  clear hb
  obtain ⟨c0, c1, c2, c3, c4, c5, c6, c7, c8, c9, c10, c11, c12, c13, c14, c15, c16, c17, c18, c19, c20⟩ : UrlAt V4 b (awV (some ⟨g, o, none⟩) 1 pc) := by rw [← HV.out]; exact UrlAt.of_heap HX.out
  have ce := HCE.out
  unfold awV at c0 c1 c2 c3 c4 c5 c6 c7 c8 c9 c10 c11 c12 c13 c14 c15 c16 c17 c18 c19 c20
  dsimp only at c0 c1 c2 c3 c4 c5 c6 c7 c8 c9 c10 c11 c12 c13 c14 c15 c16 c17 c18 c19 c20
  go_wp2_with (refine wpList_load_g 27 _ rfl (by kernel_rfl) b rfl HX.out Tryz.underlying27 rfl (by kernel_rfl) ?_)
  refine (hostShow_c 1 [97, 46, 111, 114, 103] 0 0 0 0 0 0 0 0 0 (by decide) _ (HG.out.below HB.out)).mono ?_
  rw [aw_host]
  rintro e V5 ⟨rfl, hb⟩
  replace HX := Lib.hid (obj_b hb HX.out)
  replace HOK := Lib.hid (HOK.out.below hb)
  replace HCE := Lib.hid (cell_b hb HCE.out)
  replace HB := Lib.hid (b_then HB.out hb)
  clear hb ce c0 c1 c2 c3 c4 c5 c6 c7 c8 c9 c10 c11 c12 c13 c14 c15 c16 c17 c18 c19 c20
  obtain ⟨c0, c1, c2, c3, c4, c5, c6, c7, c8, c9, c10, c11, c12, c13, c14, c15, c16, c17, c18, c19, c20⟩ : UrlAt V5 b (awV (some ⟨g, o, none⟩) 1 pc) := by rw [← HV.out]; exact UrlAt.of_heap HX.out
  have ce := HCE.out
  unfold awV at c0 c1 c2 c3 c4 c5 c6 c7 c8 c9 c10 c11 c12 c13 c14 c15 c16 c17 c18 c19 c20
  dsimp only at c0 c1 c2 c3 c4 c5 c6 c7 c8 c9 c10 c11 c12 c13 c14 c15 c16 c17 c18 c19 c20
  go_wp2_with (refine wpList_load_g 27 _ rfl (by kernel_rfl) b rfl HX.out Tryz.underlying27 rfl (by kernel_rfl) ?_)
  refine (urlMay_c v _ HOK.out (HG.out.below HB.out)).mono ?_
  rw [show PM.urlMay v.pm = true from by rw [HV.out]; exact aw_may _ _ _]
  rintro e V6 ⟨rfl, hb⟩
  replace HX := Lib.hid (obj_b hb HX.out)
  replace HOK := Lib.hid (HOK.out.below hb)
  replace HCE := Lib.hid (cell_b hb HCE.out)
  replace HB := Lib.hid (b_then HB.out hb)
  clear hb ce c0 c1 c2 c3 c4 c5 c6 c7 c8 c9 c10 c11 c12 c13 c14 c15 c16 c17 c18 c19 c20
  obtain ⟨c0, c1, c2, c3, c4, c5, c6, c7, c8, c9, c10, c11, c12, c13, c14, c15, c16, c17, c18, c19, c20⟩ : UrlAt V6 b (awV (some ⟨g, o, none⟩) 1 pc) := by rw [← HV.out]; exact UrlAt.of_heap HX.out
  have ce := HCE.out
  unfold awV at c0 c1 c2 c3 c4 c5 c6 c7 c8 c9 c10 c11 c12 c13 c14 c15 c16 c17 c18 c19 c20
  dsimp only at c0 c1 c2 c3 c4 c5 c6 c7 c8 c9 c10 c11 c12 c13 c14 c15 c16 c17 c18 c19 c20
  go_wp2_with fail
  refine (Web_c [104, 116, 116, 112, 115] _).mono ?_
  rw [aw_web]
  rintro e V7 ⟨rfl, rfl⟩
  go_wp2_with (refine wpList_load_g 27 _ rfl (by kernel_rfl) b rfl HX.out Tryz.underlying27 rfl (by kernel_rfl) ?_)
  refine (UrlSame_c v v _ HOK.out HOK.out).mono ?_
  rw [(PM.urlSame_iff _ _).2 rfl]
  rintro e V8 ⟨rfl, hb⟩
  replace HB := Lib.hid (b_then HB.out hb)
  go_wp2
  go_ret
  exact ⟨rfl, HB.out⟩
end Go.Proofs.YtlcckikfmlhgjaaGreatDoor
/-! The walk of UrlSame. -/
namespace Go.Proofs.YtlcckikfmlhgjaaGreatDoor
open Go.RowKit
def UV.wPort (u : UV) (k : Int) : UV := { u with port := k }
def UV.wHq (u : UV) (k : Bool) : UV := { u with hq := k }
def UV.wPath (u : UV) (a : Option Addr) (n c : Nat) (xs : List (List UInt8)) : UV := { u with a := a, pn := n, pc := c, xs := xs }
theorem port_cells (u : UV) (k : Int) : u.cells.setIfInBounds 14 (.int .i64 k) = (u.wPort k).cells := by kernel_rfl
theorem hq_cells (u : UV) (k : Bool) : u.cells.setIfInBounds 19 (.bool k) = (u.wHq k).cells := by kernel_rfl
theorem wpath_cells (u : UV) (a : Option Addr) (n c : Nat) (xs : List (List UInt8)) : u.cells.setIfInBounds 15 (.slice a n c) = (u.wPath a n c xs).cells := by kernel_rfl
theorem Ok_port {u : UV} {W : World} (h : u.Ok W) (k : Int) : (u.wPort k).Ok W := ⟨h.sc, h.us, h.pa, h.n, h.op, h.qu, h.fr, h.xn, h.xl, h.rd⟩
theorem Ok_hq {u : UV} {W : World} (h : u.Ok W) (k : Bool) : (u.wHq k).Ok W := ⟨h.sc, h.us, h.pa, h.n, h.op, h.qu, h.fr, h.xn, h.xl, h.rd⟩
theorem Ok_path {u : UV} {W : World} (h : u.Ok W) (hl : u.xs.length ≤ 60) {a : Option Addr} {c : Nat} (hr : RdS W a (u.xs.length + 1) (u.xs ++ [[]])) : (u.wPath a (u.xs.length + 1) c (u.xs ++ [[]])).Ok W :=
  ⟨h.sc, h.us, h.pa, h.n, h.op, h.qu, h.fr, by show (u.xs ++ [[]]).length ≤ _; simp; omega, fun s hs => by
    rcases List.mem_append.1 (show s ∈ u.xs ++ [[]] from hs) with hs | hs
    · exact h.xl s hs
    · simp at hs
      subst hs
      decide, hr⟩
theorem sym_same (a b : PM.Url) : PM.urlSame b a = PM.urlSame a b := by
  by_cases h : a = b
  · rw [h]
  · have h1 : PM.urlSame a b = false := Bool.eq_false_iff.2 fun e => h ((PM.urlSame_iff _ _).1 e)
    have h2 : PM.urlSame b a = false := Bool.eq_false_iff.2 fun e => h ((PM.urlSame_iff _ _).1 e).symm
    rw [h1, h2]
theorem ff_same {a b : PM.Url} (h : a ≠ b) : PM.urlSame a b = false := Bool.eq_false_iff.2 fun e => h ((PM.urlSame_iff _ _).1 e)
theorem wrap_ne (p : Int) : wrap64 (p + 1) ≠ p := by
  unfold wrap64
  omega
theorem ne_port (u : UV) (k : Int) (h : k ≠ u.port) : PM.urlSame u.pm (u.wPort k).pm = false := ff_same fun e => h (congrArg PM.Url.port e).symm
theorem ne_hq (u : UV) : PM.urlSame u.pm (u.wHq (!u.hq)).pm = false := ff_same fun e => by
  have h : u.hq = !u.hq := congrArg PM.Url.hasQuery e
  cases hb : u.hq <;> simp [hb] at h
theorem ne_path (u : UV) (a : Option Addr) (n c : Nat) : PM.urlSame u.pm (u.wPath a n c (u.xs ++ [[]])).pm = false := ff_same fun e => by
  have h : u.xs = u.xs ++ [[]] := congrArg PM.Url.path e
  have := congrArg List.length h
  simp at this
set_option maxRecDepth 100000 in
set_option maxHeartbeats 16000000 in
theorem UrlSameL_c (u v t : UV) (w : World) (hu : RdW w u.a u.pn u.xs) (hv : RdW w v.a v.pn v.xs) (ht : RdW w t.a t.pn t.xs) (hg : Gl w) (hT : Lib.Utf8Tabs 1 2 w) : Calls Tryz.prog 3 #[.agg u.cells, .agg v.cells, .agg t.cells] w fun e w' => e = .returned (.bool true) ∧ Below w.heap.size w w' := by
  have HG := Lib.hid hg
  have HTB := Lib.hid hT
  have RU := Lib.hid hu
  have RV := Lib.hid hv
  have RT := Lib.hid ht
  clear hg hT hu hv ht
  have HB : Hid (Below w.heap.size w (((w.alloc (.cells u.cells 27)).alloc (.cells v.cells 27)).alloc (.cells t.cells 27))) := Lib.hid (b_alloc (b_alloc (b_alloc (Below.refl _ _) _) _) _)
  have HT3 : Hid ((((w.alloc (.cells u.cells 27)).alloc (.cells v.cells 27)).alloc (.cells t.cells 27)).heap[w.heap.size + 1 + 1]? = some (.cells t.cells 27 (0, 0))) := Lib.hid (by have h := Go.heap_alloc_new ((w.alloc (.cells u.cells 27)).alloc (.cells v.cells 27)) (.cells t.cells 27); simpa using h)
  have HV : Hid ((((w.alloc (.cells u.cells 27)).alloc (.cells v.cells 27)).alloc (.cells t.cells 27)).heap[w.heap.size + 1]? = some (.cells v.cells 27 (0, 0))) := Lib.hid (heap_b (b_alloc (Below.refl _ _) _) (by have h := Go.heap_alloc_new (w.alloc (.cells u.cells 27)) (.cells v.cells 27); simpa using h))
  have HU : Hid ((((w.alloc (.cells u.cells 27)).alloc (.cells v.cells 27)).alloc (.cells t.cells 27)).heap[w.heap.size]? = some (.cells u.cells 27 (0, 0))) := Lib.hid (heap_b (b_alloc (b_alloc (Below.refl _ _) _) _) (Go.heap_alloc_new w (.cells u.cells 27)))
  go_enter Tryz.func3, Tryz.ntmps3
  go_upto_region 1 with fail
  generalize ((w.alloc (.cells u.cells 27)).alloc (.cells v.cells 27)).alloc (.cells t.cells 27) = V0 at HB HT3 HV HU ⊢
  generalize w.heap.size + 1 + 1 = bt at HT3 ⊢
  generalize w.heap.size + 1 = bv at HV ⊢
  go_wp2_with fail
  refine (awake9_c _ (HG.out.below HB.out) (tabs_below HTB.out HB.out)).mono ?_
  rintro e V1 ⟨rfl, hb⟩
  replace HB := Lib.hid (b_then HB.out hb)
  replace HU := Lib.hid (obj_b hb HU.out)
  replace HV := Lib.hid (obj_b hb HV.out)
  replace HT3 := Lib.hid (obj_b hb HT3.out)
  clear hb
  go_wp2_with (refine wpList_load_g 27 _ rfl (by kernel_rfl) w.heap.size rfl HU.out Tryz.underlying27 rfl (by kernel_rfl) ?_)
  refine (Few_c u _ (RU.out.below HB.out)).mono ?_
  rintro e W0 ⟨rfl, hb⟩
  replace HB := Lib.hid (b_then HB.out hb)
  replace HU := Lib.hid (obj_b hb HU.out)
  replace HV := Lib.hid (obj_b hb HV.out)
  replace HT3 := Lib.hid (obj_b hb HT3.out)
  clear hb
  go_wp2_with (refine wpList_load_g 27 _ rfl (by kernel_rfl) bv rfl HV.out Tryz.underlying27 rfl (by kernel_rfl) ?_)
  refine (Few_c v _ (RV.out.below HB.out)).mono ?_
  rintro e W1 ⟨rfl, hb⟩
  replace HB := Lib.hid (b_then HB.out hb)
  replace HU := Lib.hid (obj_b hb HU.out)
  replace HV := Lib.hid (obj_b hb HV.out)
  replace HT3 := Lib.hid (obj_b hb HT3.out)
  clear hb
  go_wp2_with (refine wpList_load_g 27 _ rfl (by kernel_rfl) bt rfl HT3.out Tryz.underlying27 rfl (by kernel_rfl) ?_)
  refine (Few_c t _ (RT.out.below HB.out)).mono ?_
  rintro e W2 ⟨rfl, hb⟩
  replace HB := Lib.hid (b_then HB.out hb)
  replace HU := Lib.hid (obj_b hb HU.out)
  replace HV := Lib.hid (obj_b hb HV.out)
  replace HT3 := Lib.hid (obj_b hb HT3.out)
  clear hb
  cases hfu : PM.few u.pm
  · go_wp2
    go_ret
    exact ⟨rfl, HB.out⟩
  have OU := Lib.hid (few_ok (RU.out.below HB.out) hfu)
  have HFu := Lib.hid hfu
  clear hfu
  cases hfv : PM.few v.pm
  · go_wp2
    go_ret
    exact ⟨rfl, HB.out⟩
  have OV := Lib.hid (few_ok (RV.out.below HB.out) hfv)
  have HFv := Lib.hid hfv
  clear hfv
  cases hft : PM.few t.pm
  · go_wp2
    go_ret
    exact ⟨rfl, HB.out⟩
  have OT := Lib.hid (few_ok (RT.out.below HB.out) hft)
  have HFt := Lib.hid hft
  clear hft
  have HN := Lib.hid (Go.heap_alloc_new W2 (.cells zurl 27))
  have HU2 := Lib.hid (obj_b (b_alloc (Below.refl _ _) (.cells zurl 27)) HU.out)
  unfold zurl at HN HU2
  go_upto_region 8 with (first | (refine wpList_load_g 27 _ rfl (by kernel_rfl) w.heap.size rfl HU2.out Tryz.underlying27 rfl (by kernel_rfl) ?_) | (refine wpList_load_g 27 _ rfl (by kernel_rfl) w.heap.size rfl HU.out Tryz.underlying27 rfl (by kernel_rfl) ?_) | (refine wpList_store_row rfl 27 _ _ rfl W2.heap.size u.cells rfl rfl 27 _ HN.out (by kernel_rfl) rfl (agg_one u) ?_))
  obtain ⟨W3, hV⟩ : ∃ W3, W3 = (W2.alloc (.cells #[.string ⟨#[]⟩, .string ⟨#[]⟩, .string ⟨#[]⟩, .int .i64 0, .string ⟨#[]⟩, .int .i64 0, .int .i64 0, .int .i64 0, .int .i64 0, .int .i64 0, .int .i64 0, .int .i64 0, .int .i64 0, .int .i64 0, .int .i64 0, .slice none 0 0, .string ⟨#[]⟩, .string ⟨#[]⟩, .string ⟨#[]⟩, .bool false, .bool false] 27)).setRow W2.heap.size u.cells := ⟨_, rfl⟩
  have hN : W3.heap[W2.heap.size]? = some (.cells u.cells 27 (0, 0)) := by rw [hV]; exact heap_setRow HN.out _
  have hb : Below W2.heap.size W2 W3 := by rw [hV]; exact below_setRow (b_alloc (Below.refl _ _) _) (Nat.le_refl _) _
  rw [← hV]
  clear hV HN HU2
  have HX := Lib.hid hN
  clear hN
  have hlw := HB.out.size
  have hltbx : w.heap.size < W2.heap.size ∧ bv < W2.heap.size ∧ bt < W2.heap.size := ⟨h_lt HU.out, h_lt HV.out, h_lt HT3.out⟩
  replace HB := Lib.hid (b_then HB.out hb)
  replace HU := Lib.hid (obj_b hb HU.out)
  replace HV := Lib.hid (obj_b hb HV.out)
  replace HT3 := Lib.hid (obj_b hb HT3.out)
  replace OU := Lib.hid (OU.out.below hb)
  replace OV := Lib.hid (OV.out.below hb)
  replace OT := Lib.hid (OT.out.below hb)
  clear hb
  generalize W2.heap.size = bx at HX hlw hltbx ⊢
  have hlwbx := hlw
  clear hlw
  simp only [Act.put]
  have c14 : W3.cell? ⟨w.heap.size, 14, none⟩ = some (.int .i64 u.port) := by rw [Lib.cell_of_heap HU.out]; rfl
  have d14 : W3.cell? ⟨bx, 14, none⟩ = some (.int .i64 u.port) := by rw [Lib.cell_of_heap HX.out]; rfl
  have f14 := Lib.frozen_of_heap HX.out 14
  go_upto_region 9 with fail
  clear c14 d14 f14

  obtain ⟨W4, hV⟩ : ∃ W4, W4 = W3.setCell ⟨bx, 14, none⟩ (.int .i64 (wrap64 (u.port + 1))) := ⟨_, rfl⟩
  rw [← hV]
  replace HX := Lib.hid (show W4.heap[bx]? = some (.cells (u.wPort (wrap64 (u.port + 1))).cells 27 (0, 0)) from by rw [hV]; exact setCell_heap HX.out 14 _)
  replace HU := Lib.hid (show W4.heap[w.heap.size]? = some (.cells _ 27 (0, 0)) from by rw [hV]; exact heap_set_other HU.out _ _ _ (by omega))
  replace HV := Lib.hid (show W4.heap[bv]? = some (.cells _ 27 (0, 0)) from by rw [hV]; exact heap_set_other HV.out _ _ _ (by omega))
  replace HT3 := Lib.hid (show W4.heap[bt]? = some (.cells _ 27 (0, 0)) from by rw [hV]; exact heap_set_other HT3.out _ _ _ (by omega))
  replace HB := Lib.hid (show Below w.heap.size w W4 from by rw [hV]; exact b_set HB.out _ hlwbx _)
  replace OU := Lib.hid (few_ok (RU.out.below HB.out) HFu.out)
  replace OV := Lib.hid (few_ok (RV.out.below HB.out) HFv.out)
  replace OT := Lib.hid (few_ok (RT.out.below HB.out) HFt.out)
  clear hV
  have HN := Lib.hid (Go.heap_alloc_new W4 (.cells zurl 27))
  have HU2 := Lib.hid (obj_b (b_alloc (Below.refl _ _) (.cells zurl 27)) HU.out)
  unfold zurl at HN HU2
  go_upto_region 10 with (first | (refine wpList_load_g 27 _ rfl (by kernel_rfl) w.heap.size rfl HU2.out Tryz.underlying27 rfl (by kernel_rfl) ?_) | (refine wpList_load_g 27 _ rfl (by kernel_rfl) w.heap.size rfl HU.out Tryz.underlying27 rfl (by kernel_rfl) ?_) | (refine wpList_store_row rfl 27 _ _ rfl W4.heap.size u.cells rfl rfl 27 _ HN.out (by kernel_rfl) rfl (agg_one u) ?_))
  obtain ⟨W5, hV⟩ : ∃ W5, W5 = (W4.alloc (.cells #[.string ⟨#[]⟩, .string ⟨#[]⟩, .string ⟨#[]⟩, .int .i64 0, .string ⟨#[]⟩, .int .i64 0, .int .i64 0, .int .i64 0, .int .i64 0, .int .i64 0, .int .i64 0, .int .i64 0, .int .i64 0, .int .i64 0, .int .i64 0, .slice none 0 0, .string ⟨#[]⟩, .string ⟨#[]⟩, .string ⟨#[]⟩, .bool false, .bool false] 27)).setRow W4.heap.size u.cells := ⟨_, rfl⟩
  have hN : W5.heap[W4.heap.size]? = some (.cells u.cells 27 (0, 0)) := by rw [hV]; exact heap_setRow HN.out _
  have hb : Below W4.heap.size W4 W5 := by rw [hV]; exact below_setRow (b_alloc (Below.refl _ _) _) (Nat.le_refl _) _
  rw [← hV]
  clear hV HN HU2
  have HY := Lib.hid hN
  clear hN
  have hlw := HB.out.size
  have hltby_ : w.heap.size < W4.heap.size ∧ bv < W4.heap.size ∧ bt < W4.heap.size := ⟨h_lt HU.out, h_lt HV.out, h_lt HT3.out⟩
  have hmtby_ : bx < W4.heap.size := h_lt HX.out
  replace HB := Lib.hid (b_then HB.out hb)
  replace HU := Lib.hid (obj_b hb HU.out)
  replace HV := Lib.hid (obj_b hb HV.out)
  replace HT3 := Lib.hid (obj_b hb HT3.out)
  replace HX := Lib.hid (obj_b hb HX.out)
  replace OU := Lib.hid (OU.out.below hb)
  replace OV := Lib.hid (OV.out.below hb)
  replace OT := Lib.hid (OT.out.below hb)
  clear hb
  generalize W4.heap.size = by_ at HY hlw hltby_ hmtby_ ⊢
  have hlwby_ := hlw
  clear hlw
  simp only [Act.put]
  have c19 : W5.cell? ⟨w.heap.size, 19, none⟩ = some (.bool u.hq) := by rw [Lib.cell_of_heap HU.out]; rfl
  have d19 : W5.cell? ⟨by_, 19, none⟩ = some (.bool u.hq) := by rw [Lib.cell_of_heap HY.out]; rfl
  have f19 := Lib.frozen_of_heap HY.out 19
  go_upto_region 11 with fail
  clear c19 d19 f19
  obtain ⟨W6, hV⟩ : ∃ W6, W6 = W5.setCell ⟨by_, 19, none⟩ (.bool (!u.hq)) := ⟨_, rfl⟩
  rw [← hV]
  replace HY := Lib.hid (show W6.heap[by_]? = some (.cells (u.wHq (!u.hq)).cells 27 (0, 0)) from by rw [hV]; exact setCell_heap HY.out 19 _)
  replace HU := Lib.hid (show W6.heap[w.heap.size]? = some (.cells _ 27 (0, 0)) from by rw [hV]; exact heap_set_other HU.out _ _ _ (by omega))
  replace HV := Lib.hid (show W6.heap[bv]? = some (.cells _ 27 (0, 0)) from by rw [hV]; exact heap_set_other HV.out _ _ _ (by omega))
  replace HT3 := Lib.hid (show W6.heap[bt]? = some (.cells _ 27 (0, 0)) from by rw [hV]; exact heap_set_other HT3.out _ _ _ (by omega))
  replace HX := Lib.hid (show W6.heap[bx]? = some (.cells _ 27 (0, 0)) from by rw [hV]; exact heap_set_other HX.out _ _ _ (by omega))
  replace HB := Lib.hid (show Below w.heap.size w W6 from by rw [hV]; exact b_set HB.out _ hlwby_ _)
  replace OU := Lib.hid (few_ok (RU.out.below HB.out) HFu.out)
  replace OV := Lib.hid (few_ok (RV.out.below HB.out) HFv.out)
  replace OT := Lib.hid (few_ok (RT.out.below HB.out) HFt.out)
  clear hV
  have HN := Lib.hid (Go.heap_alloc_new W6 (.cells zurl 27))
  have HU2 := Lib.hid (obj_b (b_alloc (Below.refl _ _) (.cells zurl 27)) HU.out)
  unfold zurl at HN HU2
  go_upto_region 12 with (first | (refine wpList_load_g 27 _ rfl (by kernel_rfl) w.heap.size rfl HU2.out Tryz.underlying27 rfl (by kernel_rfl) ?_) | (refine wpList_load_g 27 _ rfl (by kernel_rfl) w.heap.size rfl HU.out Tryz.underlying27 rfl (by kernel_rfl) ?_) | (refine wpList_store_row rfl 27 _ _ rfl W6.heap.size u.cells rfl rfl 27 _ HN.out (by kernel_rfl) rfl (agg_one u) ?_))
  obtain ⟨W7, hV⟩ : ∃ W7, W7 = (W6.alloc (.cells #[.string ⟨#[]⟩, .string ⟨#[]⟩, .string ⟨#[]⟩, .int .i64 0, .string ⟨#[]⟩, .int .i64 0, .int .i64 0, .int .i64 0, .int .i64 0, .int .i64 0, .int .i64 0, .int .i64 0, .int .i64 0, .int .i64 0, .int .i64 0, .slice none 0 0, .string ⟨#[]⟩, .string ⟨#[]⟩, .string ⟨#[]⟩, .bool false, .bool false] 27)).setRow W6.heap.size u.cells := ⟨_, rfl⟩
  have hN : W7.heap[W6.heap.size]? = some (.cells u.cells 27 (0, 0)) := by rw [hV]; exact heap_setRow HN.out _
  have hb : Below W6.heap.size W6 W7 := by rw [hV]; exact below_setRow (b_alloc (Below.refl _ _) _) (Nat.le_refl _) _
  rw [← hV]
  clear hV HN HU2
  have HZ := Lib.hid hN
  clear hN
  have hlw := HB.out.size
  have hltbz : w.heap.size < W6.heap.size ∧ bv < W6.heap.size ∧ bt < W6.heap.size := ⟨h_lt HU.out, h_lt HV.out, h_lt HT3.out⟩
  have hmtbz : bx < W6.heap.size := h_lt HX.out
  have hntbz : by_ < W6.heap.size := h_lt HY.out
  replace HB := Lib.hid (b_then HB.out hb)
  replace HU := Lib.hid (obj_b hb HU.out)
  replace HV := Lib.hid (obj_b hb HV.out)
  replace HT3 := Lib.hid (obj_b hb HT3.out)
  replace HX := Lib.hid (obj_b hb HX.out)
  replace HY := Lib.hid (obj_b hb HY.out)
  replace OU := Lib.hid (OU.out.below hb)
  replace OV := Lib.hid (OV.out.below hb)
  replace OT := Lib.hid (OT.out.below hb)
  clear hb
  generalize W6.heap.size = bz at HZ hlw hltbz hmtbz hntbz ⊢
  have hlwbz := hlw
  clear hlw
  simp only [Act.put]
  have c15 : W7.cell? ⟨w.heap.size, 15, none⟩ = some (.slice u.a u.pn u.pc) := by rw [Lib.cell_of_heap HU.out]; rfl
  have hrd := OU.out.rd
  have hxn : u.xs.length ≤ 60 := (PM.few_all HFu.out).1
  go_cut [] (fun wr => ∃ a' c', Hid (wr.heap[bz]? = some (.cells (u.wPath a' (u.xs.length + 1) c' (u.xs ++ [[]])).cells 27 (0, 0))) ∧ Hid (RdS wr a' (u.xs.length + 1) (u.xs ++ [[]])) ∧ Hid (Below w.heap.size w wr) ∧ Hid (wr.heap[w.heap.size]? = some (.cells u.cells 27 (0, 0))) ∧ Hid (wr.heap[bv]? = some (.cells v.cells 27 (0, 0))) ∧ Hid (wr.heap[bt]? = some (.cells t.cells 27 (0, 0))) ∧ Hid (wr.heap[bx]? = some (.cells (u.wPort (wrap64 (u.port + 1))).cells 27 (0, 0))) ∧ Hid (wr.heap[by_]? = some (.cells (u.wHq (!u.hq)).cells 27 (0, 0))))
  case first =>
    obtain ⟨i0, hi, hz0, hz1, hz2⟩ := info_parts infoText
    generalize hua : u.a = a at c15 hrd
    generalize hun : u.pn = n at c15 hrd
    generalize huc : u.pc = c at c15
    clear hua hun huc
    have hlen := hrd.len
    rcases hrd.at_ with hxe | ⟨b, o, rfl, hlt, hc⟩
    · have hn : n = 0 := by rw [hxe] at hlen; simpa using hlen.symm
      subst hn
      have HXE := Lib.hid hxe
      clear hxe hrd hlen hxn
      cases a
      · skip
        go_wp2_with (at_builtin; refine wpList_append_own_at _ rfl _ _ 25 rfl W7.heap.size 9 i0 (.string ⟨#[]⟩) 1 16 Tryz.underlying25 hi hz0 hz1 hz2 rfl (by decide) _ _ _ rfl (own_alloc (World.ownsRow_nil _ _ _ _) _) ⟨W7.heap.size, 0, none⟩ 1 1 [.string ⟨#[]⟩] rfl rfl (cell_one_new _ _ _) ?c2 ?c3 ?c4 ?c5 ?_)
        case c2 => intro u hu; simp at hu; subst hu; rfl
        case c3 => unfold maxLen; omega
        case c4 => omega
        case c5 => simp
        intro v' w3 hown' hgrow _ hat
        have hb3 : Below W7.heap.size W7 w3 := (b_alloc (Below.refl _ _) _).grown hgrow (by simp) (fun k hk => by simp [Value.ownBlock] at hk)
        replace hown' : w3.ownsRow W7.heap.size 9 1 v' (u.xs.length + 1) (strs (u.xs ++ [[]])) := by rw [HXE.out]; exact hown'
        obtain ⟨a2, c2, rfl, hr2, hf2⟩ := own_rdS hown' (by simp) (by rw [HXE.out]; decide)
        have HZ3 := obj_b hb3 HZ.out
        have d15 : w3.cell? ⟨bz, 15, none⟩ = some (.slice u.a u.pn u.pc) := by rw [Lib.cell_of_heap HZ3]; rfl
        have f15 := Lib.frozen_of_heap HZ3 15
        have HZ4 := Lib.hid HZ3
        have HR2 := Lib.hid hr2
        have HF2 := Lib.hid hf2
        have HB3 := Lib.hid hb3
        clear hown' hgrow hat HZ3 hr2 hf2 hb3 hi hz0 hz1 hz2
        go_wp2
        go_meet
        have hb4 := b_then HB.out HB3.out
        refine ⟨a2, c2, Lib.hid (setCell_heap HZ4.out 15 _), Lib.hid (HR2.out.frame (by simp [World.setCell]) fun g o' e hx => ?_), Lib.hid (b_set hb4 _ hlwbz _), Lib.hid (heap_set_other (obj_b HB3.out HU.out) _ _ _ (by omega)), Lib.hid (heap_set_other (obj_b HB3.out HV.out) _ _ _ (by omega)), Lib.hid (heap_set_other (obj_b HB3.out HT3.out) _ _ _ (by omega)), Lib.hid (heap_set_other (obj_b HB3.out HX.out) _ _ _ (by omega)), Lib.hid (heap_set_other (obj_b HB3.out HY.out) _ _ _ (by omega))⟩
        have := HF2.out g o' e hx
        have hz := h_lt HZ.out
        exact heap_set_other rfl _ _ _ (by omega)
      · skip
        go_wp2_with (at_builtin; refine wpList_append_own_at _ rfl _ _ 25 rfl W7.heap.size 9 i0 (.string ⟨#[]⟩) 1 16 Tryz.underlying25 hi hz0 hz1 hz2 rfl (by decide) _ _ _ rfl (own_alloc (World.ownsRow_nil _ _ _ _) _) ⟨W7.heap.size, 0, none⟩ 1 1 [.string ⟨#[]⟩] rfl rfl (cell_one_new _ _ _) ?c2 ?c3 ?c4 ?c5 ?_)
        case c2 => intro u hu; simp at hu; subst hu; rfl
        case c3 => unfold maxLen; omega
        case c4 => omega
        case c5 => simp
        intro v' w3 hown' hgrow _ hat
        have hb3 : Below W7.heap.size W7 w3 := (b_alloc (Below.refl _ _) _).grown hgrow (by simp) (fun k hk => by simp [Value.ownBlock] at hk)
        replace hown' : w3.ownsRow W7.heap.size 9 1 v' (u.xs.length + 1) (strs (u.xs ++ [[]])) := by rw [HXE.out]; exact hown'
        obtain ⟨a2, c2, rfl, hr2, hf2⟩ := own_rdS hown' (by simp) (by rw [HXE.out]; decide)
        have HZ3 := obj_b hb3 HZ.out
        have d15 : w3.cell? ⟨bz, 15, none⟩ = some (.slice u.a u.pn u.pc) := by rw [Lib.cell_of_heap HZ3]; rfl
        have f15 := Lib.frozen_of_heap HZ3 15
        have HZ4 := Lib.hid HZ3
        have HR2 := Lib.hid hr2
        have HF2 := Lib.hid hf2
        have HB3 := Lib.hid hb3
        clear hown' hgrow hat HZ3 hr2 hf2 hb3 hi hz0 hz1 hz2
        go_wp2
        go_meet
        have hb4 := b_then HB.out HB3.out
        refine ⟨a2, c2, Lib.hid (setCell_heap HZ4.out 15 _), Lib.hid (HR2.out.frame (by simp [World.setCell]) fun g o' e hx => ?_), Lib.hid (b_set hb4 _ hlwbz _), Lib.hid (heap_set_other (obj_b HB3.out HU.out) _ _ _ (by omega)), Lib.hid (heap_set_other (obj_b HB3.out HV.out) _ _ _ (by omega)), Lib.hid (heap_set_other (obj_b HB3.out HT3.out) _ _ _ (by omega)), Lib.hid (heap_set_other (obj_b HB3.out HX.out) _ _ _ (by omega)), Lib.hid (heap_set_other (obj_b HB3.out HY.out) _ _ _ (by omega))⟩
        have := HF2.out g o' e hx
        have hz := h_lt HZ.out
        exact heap_set_other rfl _ _ _ (by omega)
    · clear hrd
      have hnews : ∀ j x, (strs u.xs)[j]? = some x → W7.cell? ((⟨b, o, none⟩ : Addr).add j) = some x := by
        intro j x hj
        obtain ⟨hj1, hj2⟩ := List.getElem?_eq_some_iff.1 hj
        have hj3 : j < u.xs.length := by simpa [strs] using hj1
        have := hc j hj3
        rw [← hj2]
        simp only [strs, List.getElem_map, Addr.add]
        split
        · rename_i h0
          subst h0
          exact this
        · exact this
      have HN7 := Lib.hid hnews
      clear hnews hc
      subst hlen
      go_wp2_with (at_builtin; refine wpList_append_own_at _ rfl _ _ 25 rfl W7.heap.size 9 i0 (.string ⟨#[]⟩) 1 16 Tryz.underlying25 hi hz0 hz1 hz2 rfl (by decide) _ _ _ rfl (World.ownsRow_nil _ _ _ _) ⟨b, o, none⟩ u.xs.length c (strs u.xs) rfl (by simp [strs]) HN7.out ?c2 ?c3 ?c4 ?c5 ?_)
      case c2 => intro u hu; simp [strs] at hu; obtain ⟨_, _, rfl⟩ := hu; rfl
      case c3 => unfold maxLen; omega
      case c4 => omega
      case c5 => exact Nat.le_refl _
      intro v1 w1 hown1 hgrow1 _ hat1
      have hb1 : Below W7.heap.size W7 w1 := (Below.refl _ _).grown hgrow1 (Nat.le_refl _) (fun k hk => by simp [Value.ownBlock] at hk)
      have HO1 := Lib.hid hown1
      have HB1 := Lib.hid hb1
      clear hgrow1 hat1 hown1 hb1
      go_wp2_with (at_builtin; refine wpList_append_own_at _ rfl _ _ 25 rfl W7.heap.size 9 i0 (.string ⟨#[]⟩) 1 16 Tryz.underlying25 hi hz0 hz1 hz2 rfl (by decide) _ _ _ rfl (own_alloc HO1.out _) ⟨w1.heap.size, 0, none⟩ 1 1 [.string ⟨#[]⟩] rfl rfl (cell_one_new _ _ _) ?c2 ?c3 ?c4 ?c5 ?_)
      case c2 => intro u hu; simp at hu; subst hu; rfl
      case c3 => unfold maxLen; omega
      case c4 => omega
      case c5 => have := HB1.out.size; simp; omega
      intro v' w3 hown' hgrow _ hat
      have hb3 : Below W7.heap.size W7 w3 := (b_alloc HB1.out _).grown hgrow (by have := HB1.out.size; simp; omega) (fun k hk => (HO1.out.lt k hk).1)
      replace hown' : w3.ownsRow W7.heap.size 9 1 v' (u.xs.length + 1) (strs (u.xs ++ [[]])) := by
        rw [show ([.string ⟨#[]⟩] : List Value) = [.string (mkS [])] from rfl, strs_snoc] at hown'
        exact hown'
      obtain ⟨a2, c2, rfl, hr2, hf2⟩ := own_rdS hown' (by simp) (by omega)
      have HZ3 := obj_b hb3 HZ.out
      have d15 : w3.cell? ⟨bz, 15, none⟩ = some (.slice u.a u.pn u.pc) := by rw [Lib.cell_of_heap HZ3]; rfl
      have f15 := Lib.frozen_of_heap HZ3 15
      have HZ4 := Lib.hid HZ3
      have HR2 := Lib.hid hr2
      have HF2 := Lib.hid hf2
      have HB3 := Lib.hid hb3
      clear hown' hgrow hat HZ3 hr2 hf2 hb3 hi hz0 hz1 hz2
      go_wp2
      go_meet
      have hb4 := b_then HB.out HB3.out
      refine ⟨a2, c2, Lib.hid (setCell_heap HZ4.out 15 _), Lib.hid (HR2.out.frame (by simp [World.setCell]) fun g o' e hx => ?_), Lib.hid (b_set hb4 _ hlwbz _), Lib.hid (heap_set_other (obj_b HB3.out HU.out) _ _ _ (by omega)), Lib.hid (heap_set_other (obj_b HB3.out HV.out) _ _ _ (by omega)), Lib.hid (heap_set_other (obj_b HB3.out HT3.out) _ _ _ (by omega)), Lib.hid (heap_set_other (obj_b HB3.out HX.out) _ _ _ (by omega)), Lib.hid (heap_set_other (obj_b HB3.out HY.out) _ _ _ (by omega))⟩
      have := HF2.out g o' e hx
      have hz := h_lt HZ.out
      exact heap_set_other rfl _ _ _ (by omega)
  case rest =>
    obtain ⟨a2, c2, HZ, HRZ, HB, HU, HV, HT3, HX, HY⟩ := hcut
    clear c15 hrd
    replace OU := Lib.hid (few_ok (RU.out.below HB.out) HFu.out)
    replace OV := Lib.hid (few_ok (RV.out.below HB.out) HFv.out)
    replace OT := Lib.hid (few_ok (RT.out.below HB.out) HFt.out)
    go_wp2_with (first | (refine wpList_load_g 27 _ rfl (by kernel_rfl) w.heap.size rfl HU.out Tryz.underlying27 rfl (by kernel_rfl) ?_) | (refine wpList_load_g 27 _ rfl (by kernel_rfl) bv rfl HV.out Tryz.underlying27 rfl (by kernel_rfl) ?_))
    refine (UrlSame_c u v _ OU.out OV.out).mono ?_
    rintro e W8 ⟨rfl, hb⟩
    replace HB := Lib.hid (b_then HB.out hb)
    replace HU := Lib.hid (obj_b hb HU.out)
    replace HV := Lib.hid (obj_b hb HV.out)
    replace HT3 := Lib.hid (obj_b hb HT3.out)
    replace HX := Lib.hid (obj_b hb HX.out)
    replace HY := Lib.hid (obj_b hb HY.out)
    replace HZ := Lib.hid (obj_b hb HZ.out)
    replace OU := Lib.hid (OU.out.below hb)
    replace OV := Lib.hid (OV.out.below hb)
    replace OT := Lib.hid (OT.out.below hb)
    replace HRZ := Lib.hid (HRZ.out.below hb)
    clear hb
    obtain ⟨S, hS⟩ : ∃ S, PM.urlSame u.pm v.pm = S := ⟨_, rfl⟩
    rw [hS]
    have HSS := Lib.hid hS
    clear hS
    have hUU := fun W h => UrlSame_c u u W h h
    rw [(PM.urlSame_iff _ _).2 rfl] at hUU
    have hVU := fun W hv hu => UrlSame_c v u W hv hu
    rw [sym_same u.pm v.pm, HSS.out] at hVU
    have hUX := fun W hu => UrlSame_c u (u.wPort (wrap64 (u.port + 1))) W hu (Ok_port hu _)
    rw [ne_port u _ (wrap_ne _)] at hUX
    have hUY := fun W hu => UrlSame_c u (u.wHq (!u.hq)) W hu (Ok_hq hu _)
    rw [ne_hq u] at hUY
    have hUZ := fun W hu hr => UrlSame_c u (u.wPath a2 (u.xs.length + 1) c2 (u.xs ++ [[]])) W hu (Ok_path hu hxn hr)
    rw [ne_path u] at hUZ
    have HUU := Lib.hid hUU
    have HVU := Lib.hid hVU
    have HUX := Lib.hid hUX
    have HUY := Lib.hid hUY
    have HUZ := Lib.hid hUZ
    obtain ⟨ux, hux⟩ : ∃ x, u.wPort (wrap64 (u.port + 1)) = x := ⟨_, rfl⟩
    obtain ⟨uy, huy⟩ : ∃ x, u.wHq (!u.hq) = x := ⟨_, rfl⟩
    obtain ⟨uz, huz⟩ : ∃ x, u.wPath a2 (u.xs.length + 1) c2 (u.xs ++ [[]]) = x := ⟨_, rfl⟩
    rw [hux] at HX HUX
    rw [huy] at HY HUY
    rw [huz] at HZ HUZ
    clear hUU hVU hUX hUY hUZ hux huy huz
    cases S with
    | true =>
      have huv : u.pm = v.pm := (PM.urlSame_iff _ _).1 HSS.out
      have hVT := fun W hv ht => UrlSame_c v t W hv ht
      have hUT := fun W hu ht => UrlSame_c u t W hu ht
      have hMU := fun W hu hg => urlMay_c u W hu hg
      have hMV := fun W hv hg => urlMay_c v W hv hg
      rw [← huv] at hVT hMV
      clear huv
      generalize PM.urlSame u.pm t.pm = T at hVT hUT
      generalize PM.urlMay u.pm = M at hMU hMV
      have hSn : (fun W' => W'.heap[w.heap.size]? = some (.cells u.cells 27 (0, 0)) ∧ W'.heap[bv]? = some (.cells v.cells 27 (0, 0)) ∧ W'.heap[bt]? = some (.cells t.cells 27 (0, 0)) ∧ W'.heap[bx]? = some (.cells ux.cells 27 (0, 0)) ∧ W'.heap[by_]? = some (.cells uy.cells 27 (0, 0)) ∧ W'.heap[bz]? = some (.cells uz.cells 27 (0, 0)) ∧ u.Ok W' ∧ v.Ok W' ∧ t.Ok W' ∧ RdS W' a2 (u.xs.length + 1) (u.xs ++ [[]]) ∧ Below w.heap.size w W') W8.drew := ⟨HU.out, HV.out, HT3.out, HX.out, HY.out, HZ.out, OU.out.below (b_drew (Below.refl _ _)), OV.out.below (b_drew (Below.refl _ _)), OT.out.below (b_drew (Below.refl _ _)), HRZ.out.below (b_drew (Below.refl _ _)), b_drew HB.out⟩
      go_wp2_with fail
      refine wp_region_noPanic ?_
      refine wp_region_held_drew (S := fun W' => W'.heap[w.heap.size]? = some (.cells u.cells 27 (0, 0)) ∧ W'.heap[bv]? = some (.cells v.cells 27 (0, 0)) ∧ W'.heap[bt]? = some (.cells t.cells 27 (0, 0)) ∧ W'.heap[bx]? = some (.cells ux.cells 27 (0, 0)) ∧ W'.heap[by_]? = some (.cells uy.cells 27 (0, 0)) ∧ W'.heap[bz]? = some (.cells uz.cells 27 (0, 0)) ∧ u.Ok W' ∧ v.Ok W' ∧ t.Ok W' ∧ RdS W' a2 (u.xs.length + 1) (u.xs ++ [[]]) ∧ Below w.heap.size w W') (by kernel_rfl) hSn (fun hS0 => ?_)
      refine wpAnyH_take (i := 0) (v := ?_) rfl (by kernel_rfl) (by kernel_rfl) (by kernel_rfl) (fun _ _ _ h => h) (Or.inl ⟨by kernel_rfl, fun W hW => ?_⟩) (by assumption) ?_
      rotate_left
      · refine yield_row 27 (.tmp 3) ?_ w.heap.size ?_ hW.1 Tryz.underlying27 rfl (by kernel_rfl)
        · rfl
        · rfl
      (try simp only [List.getElem_toArray, List.getElem_cons_zero, List.getElem_cons_succ, Act.put, List.setIfInBounds_toArray, List.set_cons_zero, List.set_cons_succ])
      refine wpAnyH_take (i := 1) (v := ?_) rfl (by kernel_rfl) (by kernel_rfl) (by kernel_rfl) (fun _ _ _ h => h) (Or.inl ⟨by kernel_rfl, fun W hW => ?_⟩) (by assumption) ?_
      rotate_left
      · refine yield_row 27 (.tmp 3) ?_ w.heap.size ?_ hW.1 Tryz.underlying27 rfl (by kernel_rfl)
        · rfl
        · rfl
      (try simp only [List.getElem_toArray, List.getElem_cons_zero, List.getElem_cons_succ, Act.put, List.setIfInBounds_toArray, List.set_cons_zero, List.set_cons_succ])
      refine wpAnyH_ready (rs := [2]) (by kernel_rfl) (by simp) ?_
      refine AllReadyH.cons rfl (fun K hK => ?_) AllReadyH.nil
      go_simp
      refine (HUU.out _ hSn.2.2.2.2.2.2.1).mono ?_
      rintro e U1 ⟨rfl, hb⟩
      replace hSn := And.intro (heap_b hb hSn.1) (And.intro (heap_b hb hSn.2.1) (And.intro (heap_b hb hSn.2.2.1) (And.intro (heap_b hb hSn.2.2.2.1) (And.intro (heap_b hb hSn.2.2.2.2.1) (And.intro (heap_b hb hSn.2.2.2.2.2.1) (And.intro (hSn.2.2.2.2.2.2.1.below hb) (And.intro (hSn.2.2.2.2.2.2.2.1.below hb) (And.intro (hSn.2.2.2.2.2.2.2.2.1.below hb) (And.intro (hSn.2.2.2.2.2.2.2.2.2.1.below hb) (b_then hSn.2.2.2.2.2.2.2.2.2.2 hb))))))))))
      clear hb
      refine hK.out _ _ hSn (fun _ => ?_)
      clear hK K
      (try simp only [List.getElem_toArray, List.getElem_cons_zero, List.getElem_cons_succ, Act.put, List.setIfInBounds_toArray, List.set_cons_zero, List.set_cons_succ])
      refine wpAnyH_take (i := 3) (v := ?_) rfl (by kernel_rfl) (by kernel_rfl) (by kernel_rfl) (fun _ _ _ h => h) (Or.inl ⟨by kernel_rfl, fun W hW => ?_⟩) (by assumption) ?_
      rotate_left
      · go_simp
        try with_reducible rfl
      (try simp only [List.getElem_toArray, List.getElem_cons_zero, List.getElem_cons_succ, Act.put, List.setIfInBounds_toArray, List.set_cons_zero, List.set_cons_succ])
      refine wpAnyH_take (i := 4) (v := ?_) rfl (by kernel_rfl) (by kernel_rfl) (by kernel_rfl) (fun _ _ _ h => h) (Or.inl ⟨by kernel_rfl, fun W hW => ?_⟩) (by assumption) ?_
      rotate_left
      · go_simp
        try with_reducible rfl
      (try simp only [List.getElem_toArray, List.getElem_cons_zero, List.getElem_cons_succ, Act.put, List.setIfInBounds_toArray, List.set_cons_zero, List.set_cons_succ])
      refine wpAnyH_take (i := 5) (v := ?_) rfl (by kernel_rfl) (by kernel_rfl) (by kernel_rfl) (fun _ _ _ h => h) (Or.inl ⟨by kernel_rfl, fun W hW => ?_⟩) (by assumption) ?_
      rotate_left
      · refine yield_row 27 (.tmp 4) ?_ bv ?_ hW.2.1 Tryz.underlying27 rfl (by kernel_rfl)
        · rfl
        · rfl
      (try simp only [List.getElem_toArray, List.getElem_cons_zero, List.getElem_cons_succ, Act.put, List.setIfInBounds_toArray, List.set_cons_zero, List.set_cons_succ])
      refine wpAnyH_take (i := 6) (v := ?_) rfl (by kernel_rfl) (by kernel_rfl) (by kernel_rfl) (fun _ _ _ h => h) (Or.inl ⟨by kernel_rfl, fun W hW => ?_⟩) (by assumption) ?_
      rotate_left
      · refine yield_row 27 (.tmp 3) ?_ w.heap.size ?_ hW.1 Tryz.underlying27 rfl (by kernel_rfl)
        · rfl
        · rfl
      (try simp only [List.getElem_toArray, List.getElem_cons_zero, List.getElem_cons_succ, Act.put, List.setIfInBounds_toArray, List.set_cons_zero, List.set_cons_succ])
      refine wpAnyH_ready (rs := [7]) (by kernel_rfl) (by simp) ?_
      refine AllReadyH.cons rfl (fun K hK => ?_) AllReadyH.nil
      go_simp
      refine (HVU.out _ hSn.2.2.2.2.2.2.2.1 hSn.2.2.2.2.2.2.1).mono ?_
      rintro e U2 ⟨rfl, hb⟩
      replace hSn := And.intro (heap_b hb hSn.1) (And.intro (heap_b hb hSn.2.1) (And.intro (heap_b hb hSn.2.2.1) (And.intro (heap_b hb hSn.2.2.2.1) (And.intro (heap_b hb hSn.2.2.2.2.1) (And.intro (heap_b hb hSn.2.2.2.2.2.1) (And.intro (hSn.2.2.2.2.2.2.1.below hb) (And.intro (hSn.2.2.2.2.2.2.2.1.below hb) (And.intro (hSn.2.2.2.2.2.2.2.2.1.below hb) (And.intro (hSn.2.2.2.2.2.2.2.2.2.1.below hb) (b_then hSn.2.2.2.2.2.2.2.2.2.2 hb))))))))))
      clear hb
      refine hK.out _ _ hSn (fun _ => ?_)
      clear hK K
      (try simp only [List.getElem_toArray, List.getElem_cons_zero, List.getElem_cons_succ, Act.put, List.setIfInBounds_toArray, List.set_cons_zero, List.set_cons_succ])
      refine wpAnyH_take (i := 8) (v := ?_) rfl (by kernel_rfl) (by kernel_rfl) (by kernel_rfl) (fun _ _ _ h => h) (Or.inl ⟨by kernel_rfl, fun W hW => ?_⟩) (by assumption) ?_
      rotate_left
      · go_simp
        try with_reducible rfl
      (try simp only [List.getElem_toArray, List.getElem_cons_zero, List.getElem_cons_succ, Act.put, List.setIfInBounds_toArray, List.set_cons_zero, List.set_cons_succ])
      refine wpAnyH_take (i := 9) (v := ?_) rfl (by kernel_rfl) (by kernel_rfl) (by kernel_rfl) (fun _ _ _ h => h) (Or.inl ⟨by kernel_rfl, fun W hW => ?_⟩) (by assumption) ?_
      rotate_left
      · go_simp
        try with_reducible rfl
      (try simp only [List.getElem_toArray, List.getElem_cons_zero, List.getElem_cons_succ, Act.put, List.setIfInBounds_toArray, List.set_cons_zero, List.set_cons_succ])
      refine wpAnyH_take (i := 10) (v := ?_) rfl (by kernel_rfl) (by kernel_rfl) (by kernel_rfl) (fun _ _ _ h => h) (Or.inl ⟨by kernel_rfl, fun W hW => ?_⟩) (by assumption) ?_
      rotate_left
      · go_simp
        try with_reducible rfl
      (try simp only [List.getElem_toArray, List.getElem_cons_zero, List.getElem_cons_succ, Act.put, List.setIfInBounds_toArray, List.set_cons_zero, List.set_cons_succ])
      refine wpAnyH_take (i := 11) (v := ?_) rfl (by kernel_rfl) (by kernel_rfl) (by kernel_rfl) (fun _ _ _ h => h) (Or.inl ⟨by kernel_rfl, fun W hW => ?_⟩) (by assumption) ?_
      rotate_left
      · go_simp
        try with_reducible rfl
      (try simp only [List.getElem_toArray, List.getElem_cons_zero, List.getElem_cons_succ, Act.put, List.setIfInBounds_toArray, List.set_cons_zero, List.set_cons_succ])
      refine wpAnyH_take (i := 12) (v := ?_) rfl (by kernel_rfl) (by kernel_rfl) (by kernel_rfl) (fun _ _ _ h => h) (Or.inl ⟨by kernel_rfl, fun W hW => ?_⟩) (by assumption) ?_
      rotate_left
      · go_simp
        try with_reducible rfl
      (try simp only [List.getElem_toArray, List.getElem_cons_zero, List.getElem_cons_succ, Act.put, List.setIfInBounds_toArray, List.set_cons_zero, List.set_cons_succ])
      refine wpAnyH_take (i := 13) (v := ?_) rfl (by kernel_rfl) (by kernel_rfl) (by kernel_rfl) (fun _ _ _ h => h) (Or.inl ⟨by kernel_rfl, fun W hW => ?_⟩) (by assumption) ?_
      rotate_left
      · go_simp
        try with_reducible rfl
      (try simp only [List.getElem_toArray, List.getElem_cons_zero, List.getElem_cons_succ, Act.put, List.setIfInBounds_toArray, List.set_cons_zero, List.set_cons_succ])
      refine wpAnyH_take (i := 14) (v := ?_) rfl (by kernel_rfl) (by kernel_rfl) (by kernel_rfl) (fun _ _ _ h => h) (Or.inl ⟨by kernel_rfl, fun W hW => ?_⟩) (by assumption) ?_
      rotate_left
      · refine yield_row 27 (.tmp 4) ?_ bv ?_ hW.2.1 Tryz.underlying27 rfl (by kernel_rfl)
        · rfl
        · rfl
      (try simp only [List.getElem_toArray, List.getElem_cons_zero, List.getElem_cons_succ, Act.put, List.setIfInBounds_toArray, List.set_cons_zero, List.set_cons_succ])
      refine wpAnyH_take (i := 15) (v := ?_) rfl (by kernel_rfl) (by kernel_rfl) (by kernel_rfl) (fun _ _ _ h => h) (Or.inl ⟨by kernel_rfl, fun W hW => ?_⟩) (by assumption) ?_
      rotate_left
      · refine yield_row 27 (.tmp 5) ?_ bt ?_ hW.2.2.1 Tryz.underlying27 rfl (by kernel_rfl)
        · rfl
        · rfl
      (try simp only [List.getElem_toArray, List.getElem_cons_zero, List.getElem_cons_succ, Act.put, List.setIfInBounds_toArray, List.set_cons_zero, List.set_cons_succ])
      refine wpAnyH_take (i := 17) (v := ?_) rfl (by kernel_rfl) (by kernel_rfl) (by kernel_rfl) (fun _ _ _ h => h) (Or.inl ⟨by kernel_rfl, fun W hW => ?_⟩) (by assumption) ?_
      rotate_left
      · refine yield_row 27 (.tmp 3) ?_ w.heap.size ?_ hW.1 Tryz.underlying27 rfl (by kernel_rfl)
        · rfl
        · rfl
      (try simp only [List.getElem_toArray, List.getElem_cons_zero, List.getElem_cons_succ, Act.put, List.setIfInBounds_toArray, List.set_cons_zero, List.set_cons_succ])
      refine wpAnyH_take (i := 18) (v := ?_) rfl (by kernel_rfl) (by kernel_rfl) (by kernel_rfl) (fun _ _ _ h => h) (Or.inl ⟨by kernel_rfl, fun W hW => ?_⟩) (by assumption) ?_
      rotate_left
      · refine yield_row 27 (.tmp 5) ?_ bt ?_ hW.2.2.1 Tryz.underlying27 rfl (by kernel_rfl)
        · rfl
        · rfl
      (try simp only [List.getElem_toArray, List.getElem_cons_zero, List.getElem_cons_succ, Act.put, List.setIfInBounds_toArray, List.set_cons_zero, List.set_cons_succ])
      refine wpAnyH_ready (rs := [16]) (by kernel_rfl) (by simp) ?_
      refine AllReadyH.cons rfl (fun K hK => ?_) AllReadyH.nil
      go_simp
      refine (hVT _ hSn.2.2.2.2.2.2.2.1 hSn.2.2.2.2.2.2.2.2.1).mono ?_
      rintro e U3 ⟨rfl, hb⟩
      replace hSn := And.intro (heap_b hb hSn.1) (And.intro (heap_b hb hSn.2.1) (And.intro (heap_b hb hSn.2.2.1) (And.intro (heap_b hb hSn.2.2.2.1) (And.intro (heap_b hb hSn.2.2.2.2.1) (And.intro (heap_b hb hSn.2.2.2.2.2.1) (And.intro (hSn.2.2.2.2.2.2.1.below hb) (And.intro (hSn.2.2.2.2.2.2.2.1.below hb) (And.intro (hSn.2.2.2.2.2.2.2.2.1.below hb) (And.intro (hSn.2.2.2.2.2.2.2.2.2.1.below hb) (b_then hSn.2.2.2.2.2.2.2.2.2.2 hb))))))))))
      clear hb
      refine hK.out _ _ hSn (fun _ => ?_)
      clear hK K
      (try simp only [List.getElem_toArray, List.getElem_cons_zero, List.getElem_cons_succ, Act.put, List.setIfInBounds_toArray, List.set_cons_zero, List.set_cons_succ])
      refine wpAnyH_ready (rs := [19]) (by kernel_rfl) (by simp) ?_
      refine AllReadyH.cons rfl (fun K hK => ?_) AllReadyH.nil
      go_simp
      refine (hUT _ hSn.2.2.2.2.2.2.1 hSn.2.2.2.2.2.2.2.2.1).mono ?_
      rintro e U4 ⟨rfl, hb⟩
      replace hSn := And.intro (heap_b hb hSn.1) (And.intro (heap_b hb hSn.2.1) (And.intro (heap_b hb hSn.2.2.1) (And.intro (heap_b hb hSn.2.2.2.1) (And.intro (heap_b hb hSn.2.2.2.2.1) (And.intro (heap_b hb hSn.2.2.2.2.2.1) (And.intro (hSn.2.2.2.2.2.2.1.below hb) (And.intro (hSn.2.2.2.2.2.2.2.1.below hb) (And.intro (hSn.2.2.2.2.2.2.2.2.1.below hb) (And.intro (hSn.2.2.2.2.2.2.2.2.2.1.below hb) (b_then hSn.2.2.2.2.2.2.2.2.2.2 hb))))))))))
      clear hb
      refine hK.out _ _ hSn (fun _ => ?_)
      clear hK K
      (try simp only [List.getElem_toArray, List.getElem_cons_zero, List.getElem_cons_succ, Act.put, List.setIfInBounds_toArray, List.set_cons_zero, List.set_cons_succ])
      refine wpAnyH_take (i := 20) (v := ?_) rfl (by kernel_rfl) (by kernel_rfl) (by kernel_rfl) (fun _ _ _ h => h) (Or.inl ⟨by kernel_rfl, fun W hW => ?_⟩) (by assumption) ?_
      rotate_left
      · go_simp
        try with_reducible rfl
      (try simp only [List.getElem_toArray, List.getElem_cons_zero, List.getElem_cons_succ, Act.put, List.setIfInBounds_toArray, List.set_cons_zero, List.set_cons_succ])
      refine wpAnyH_take (i := 21) (v := ?_) rfl (by kernel_rfl) (by kernel_rfl) (by kernel_rfl) (fun _ _ _ h => h) (Or.inl ⟨by kernel_rfl, fun W hW => ?_⟩) (by assumption) ?_
      rotate_left
      · go_simp
        try with_reducible rfl
      (try simp only [List.getElem_toArray, List.getElem_cons_zero, List.getElem_cons_succ, Act.put, List.setIfInBounds_toArray, List.set_cons_zero, List.set_cons_succ])
      refine wpAnyH_take (i := 22) (v := ?_) rfl (by kernel_rfl) (by kernel_rfl) (by kernel_rfl) (fun _ _ _ h => h) (Or.inl ⟨by kernel_rfl, fun W hW => ?_⟩) (by assumption) ?_
      rotate_left
      · refine yield_row 27 (.tmp 3) ?_ w.heap.size ?_ hW.1 Tryz.underlying27 rfl (by kernel_rfl)
        · rfl
        · rfl
      (try simp only [List.getElem_toArray, List.getElem_cons_zero, List.getElem_cons_succ, Act.put, List.setIfInBounds_toArray, List.set_cons_zero, List.set_cons_succ])
      refine wpAnyH_take (i := 24) (v := ?_) rfl (by kernel_rfl) (by kernel_rfl) (by kernel_rfl) (fun _ _ _ h => h) (Or.inl ⟨by kernel_rfl, fun W hW => ?_⟩) (by assumption) ?_
      rotate_left
      · refine yield_row 27 (.tmp 4) ?_ bv ?_ hW.2.1 Tryz.underlying27 rfl (by kernel_rfl)
        · rfl
        · rfl
      (try simp only [List.getElem_toArray, List.getElem_cons_zero, List.getElem_cons_succ, Act.put, List.setIfInBounds_toArray, List.set_cons_zero, List.set_cons_succ])
      refine wpAnyH_ready (rs := [23]) (by kernel_rfl) (by simp) ?_
      refine AllReadyH.cons rfl (fun K hK => ?_) AllReadyH.nil
      go_simp
      refine (hMU _ hSn.2.2.2.2.2.2.1 (HG.out.below hSn.2.2.2.2.2.2.2.2.2.2)).mono ?_
      rintro e U5 ⟨rfl, hb⟩
      replace hSn := And.intro (heap_b hb hSn.1) (And.intro (heap_b hb hSn.2.1) (And.intro (heap_b hb hSn.2.2.1) (And.intro (heap_b hb hSn.2.2.2.1) (And.intro (heap_b hb hSn.2.2.2.2.1) (And.intro (heap_b hb hSn.2.2.2.2.2.1) (And.intro (hSn.2.2.2.2.2.2.1.below hb) (And.intro (hSn.2.2.2.2.2.2.2.1.below hb) (And.intro (hSn.2.2.2.2.2.2.2.2.1.below hb) (And.intro (hSn.2.2.2.2.2.2.2.2.2.1.below hb) (b_then hSn.2.2.2.2.2.2.2.2.2.2 hb))))))))))
      clear hb
      refine hK.out _ _ hSn (fun _ => ?_)
      clear hK K
      (try simp only [List.getElem_toArray, List.getElem_cons_zero, List.getElem_cons_succ, Act.put, List.setIfInBounds_toArray, List.set_cons_zero, List.set_cons_succ])
      refine wpAnyH_ready (rs := [25]) (by kernel_rfl) (by simp) ?_
      refine AllReadyH.cons rfl (fun K hK => ?_) AllReadyH.nil
      go_simp
      refine (hMV _ hSn.2.2.2.2.2.2.2.1 (HG.out.below hSn.2.2.2.2.2.2.2.2.2.2)).mono ?_
      rintro e U6 ⟨rfl, hb⟩
      replace hSn := And.intro (heap_b hb hSn.1) (And.intro (heap_b hb hSn.2.1) (And.intro (heap_b hb hSn.2.2.1) (And.intro (heap_b hb hSn.2.2.2.1) (And.intro (heap_b hb hSn.2.2.2.2.1) (And.intro (heap_b hb hSn.2.2.2.2.2.1) (And.intro (hSn.2.2.2.2.2.2.1.below hb) (And.intro (hSn.2.2.2.2.2.2.2.1.below hb) (And.intro (hSn.2.2.2.2.2.2.2.2.1.below hb) (And.intro (hSn.2.2.2.2.2.2.2.2.2.1.below hb) (b_then hSn.2.2.2.2.2.2.2.2.2.2 hb))))))))))
      clear hb
      refine hK.out _ _ hSn (fun _ => ?_)
      clear hK K
      (try simp only [List.getElem_toArray, List.getElem_cons_zero, List.getElem_cons_succ, Act.put, List.setIfInBounds_toArray, List.set_cons_zero, List.set_cons_succ])
      refine wpAnyH_take (i := 26) (v := ?_) rfl (by kernel_rfl) (by kernel_rfl) (by kernel_rfl) (fun _ _ _ h => h) (Or.inl ⟨by kernel_rfl, fun W hW => ?_⟩) (by assumption) ?_
      rotate_left
      · go_simp
        try with_reducible rfl
      (try simp only [List.getElem_toArray, List.getElem_cons_zero, List.getElem_cons_succ, Act.put, List.setIfInBounds_toArray, List.set_cons_zero, List.set_cons_succ])
      refine wpAnyH_take (i := 27) (v := ?_) rfl (by kernel_rfl) (by kernel_rfl) (by kernel_rfl) (fun _ _ _ h => h) (Or.inl ⟨by kernel_rfl, fun W hW => ?_⟩) (by assumption) ?_
      rotate_left
      · go_simp
        try with_reducible rfl
      (try simp only [List.getElem_toArray, List.getElem_cons_zero, List.getElem_cons_succ, Act.put, List.setIfInBounds_toArray, List.set_cons_zero, List.set_cons_succ])
      refine wpAnyH_take (i := 28) (v := ?_) rfl (by kernel_rfl) (by kernel_rfl) (by kernel_rfl) (fun _ _ _ h => h) (Or.inl ⟨by kernel_rfl, fun W hW => ?_⟩) (by assumption) ?_
      rotate_left
      · go_simp
        try with_reducible rfl
      (try simp only [List.getElem_toArray, List.getElem_cons_zero, List.getElem_cons_succ, Act.put, List.setIfInBounds_toArray, List.set_cons_zero, List.set_cons_succ])
      refine wpAnyH_take (i := 29) (v := ?_) rfl (by kernel_rfl) (by kernel_rfl) (by kernel_rfl) (fun _ _ _ h => h) (Or.inl ⟨by kernel_rfl, fun W hW => ?_⟩) (by assumption) ?_
      rotate_left
      · go_simp
        try with_reducible rfl
      (try simp only [List.getElem_toArray, List.getElem_cons_zero, List.getElem_cons_succ, Act.put, List.setIfInBounds_toArray, List.set_cons_zero, List.set_cons_succ])
      refine wpAnyH_take (i := 30) (v := ?_) rfl (by kernel_rfl) (by kernel_rfl) (by kernel_rfl) (fun _ _ _ h => h) (Or.inl ⟨by kernel_rfl, fun W hW => ?_⟩) (by assumption) ?_
      rotate_left
      · go_simp
        try with_reducible rfl
      (try simp only [List.getElem_toArray, List.getElem_cons_zero, List.getElem_cons_succ, Act.put, List.setIfInBounds_toArray, List.set_cons_zero, List.set_cons_succ])
      refine wpAnyH_take (i := 31) (v := ?_) rfl (by kernel_rfl) (by kernel_rfl) (by kernel_rfl) (fun _ _ _ h => h) (Or.inl ⟨by kernel_rfl, fun W hW => ?_⟩) (by assumption) ?_
      rotate_left
      · refine yield_row 27 (.tmp 3) ?_ w.heap.size ?_ hW.1 Tryz.underlying27 rfl (by kernel_rfl)
        · rfl
        · rfl
      (try simp only [List.getElem_toArray, List.getElem_cons_zero, List.getElem_cons_succ, Act.put, List.setIfInBounds_toArray, List.set_cons_zero, List.set_cons_succ])
      refine wpAnyH_take (i := 32) (v := ?_) rfl (by kernel_rfl) (by kernel_rfl) (by kernel_rfl) (fun _ _ _ h => h) (Or.inl ⟨by kernel_rfl, fun W hW => ?_⟩) (by assumption) ?_
      rotate_left
      · refine yield_row 27 (.tmp 11) ?_ bx ?_ hW.2.2.2.1 Tryz.underlying27 rfl (by kernel_rfl)
        · rfl
        · rfl
      (try simp only [List.getElem_toArray, List.getElem_cons_zero, List.getElem_cons_succ, Act.put, List.setIfInBounds_toArray, List.set_cons_zero, List.set_cons_succ])
      refine wpAnyH_ready (rs := [33]) (by kernel_rfl) (by simp) ?_
      refine AllReadyH.cons rfl (fun K hK => ?_) AllReadyH.nil
      go_simp
      refine (HUX.out _ hSn.2.2.2.2.2.2.1).mono ?_
      rintro e U7 ⟨rfl, hb⟩
      replace hSn := And.intro (heap_b hb hSn.1) (And.intro (heap_b hb hSn.2.1) (And.intro (heap_b hb hSn.2.2.1) (And.intro (heap_b hb hSn.2.2.2.1) (And.intro (heap_b hb hSn.2.2.2.2.1) (And.intro (heap_b hb hSn.2.2.2.2.2.1) (And.intro (hSn.2.2.2.2.2.2.1.below hb) (And.intro (hSn.2.2.2.2.2.2.2.1.below hb) (And.intro (hSn.2.2.2.2.2.2.2.2.1.below hb) (And.intro (hSn.2.2.2.2.2.2.2.2.2.1.below hb) (b_then hSn.2.2.2.2.2.2.2.2.2.2 hb))))))))))
      clear hb
      refine hK.out _ _ hSn (fun _ => ?_)
      clear hK K
      (try simp only [List.getElem_toArray, List.getElem_cons_zero, List.getElem_cons_succ, Act.put, List.setIfInBounds_toArray, List.set_cons_zero, List.set_cons_succ])
      refine wpAnyH_take (i := 34) (v := ?_) rfl (by kernel_rfl) (by kernel_rfl) (by kernel_rfl) (fun _ _ _ h => h) (Or.inl ⟨by kernel_rfl, fun W hW => ?_⟩) (by assumption) ?_
      rotate_left
      · go_simp
        try with_reducible rfl
      (try simp only [List.getElem_toArray, List.getElem_cons_zero, List.getElem_cons_succ, Act.put, List.setIfInBounds_toArray, List.set_cons_zero, List.set_cons_succ])
      refine wpAnyH_take (i := 35) (v := ?_) rfl (by kernel_rfl) (by kernel_rfl) (by kernel_rfl) (fun _ _ _ h => h) (Or.inl ⟨by kernel_rfl, fun W hW => ?_⟩) (by assumption) ?_
      rotate_left
      · go_simp
        try with_reducible rfl
      (try simp only [List.getElem_toArray, List.getElem_cons_zero, List.getElem_cons_succ, Act.put, List.setIfInBounds_toArray, List.set_cons_zero, List.set_cons_succ])
      refine wpAnyH_take (i := 36) (v := ?_) rfl (by kernel_rfl) (by kernel_rfl) (by kernel_rfl) (fun _ _ _ h => h) (Or.inl ⟨by kernel_rfl, fun W hW => ?_⟩) (by assumption) ?_
      rotate_left
      · go_simp
        try with_reducible rfl
      (try simp only [List.getElem_toArray, List.getElem_cons_zero, List.getElem_cons_succ, Act.put, List.setIfInBounds_toArray, List.set_cons_zero, List.set_cons_succ])
      refine wpAnyH_take (i := 37) (v := ?_) rfl (by kernel_rfl) (by kernel_rfl) (by kernel_rfl) (fun _ _ _ h => h) (Or.inl ⟨by kernel_rfl, fun W hW => ?_⟩) (by assumption) ?_
      rotate_left
      · refine yield_row 27 (.tmp 3) ?_ w.heap.size ?_ hW.1 Tryz.underlying27 rfl (by kernel_rfl)
        · rfl
        · rfl
      (try simp only [List.getElem_toArray, List.getElem_cons_zero, List.getElem_cons_succ, Act.put, List.setIfInBounds_toArray, List.set_cons_zero, List.set_cons_succ])
      refine wpAnyH_take (i := 38) (v := ?_) rfl (by kernel_rfl) (by kernel_rfl) (by kernel_rfl) (fun _ _ _ h => h) (Or.inl ⟨by kernel_rfl, fun W hW => ?_⟩) (by assumption) ?_
      rotate_left
      · refine yield_row 27 (.tmp 12) ?_ by_ ?_ hW.2.2.2.2.1 Tryz.underlying27 rfl (by kernel_rfl)
        · rfl
        · rfl
      (try simp only [List.getElem_toArray, List.getElem_cons_zero, List.getElem_cons_succ, Act.put, List.setIfInBounds_toArray, List.set_cons_zero, List.set_cons_succ])
      refine wpAnyH_ready (rs := [39]) (by kernel_rfl) (by simp) ?_
      refine AllReadyH.cons rfl (fun K hK => ?_) AllReadyH.nil
      go_simp
      refine (HUY.out _ hSn.2.2.2.2.2.2.1).mono ?_
      rintro e U8 ⟨rfl, hb⟩
      replace hSn := And.intro (heap_b hb hSn.1) (And.intro (heap_b hb hSn.2.1) (And.intro (heap_b hb hSn.2.2.1) (And.intro (heap_b hb hSn.2.2.2.1) (And.intro (heap_b hb hSn.2.2.2.2.1) (And.intro (heap_b hb hSn.2.2.2.2.2.1) (And.intro (hSn.2.2.2.2.2.2.1.below hb) (And.intro (hSn.2.2.2.2.2.2.2.1.below hb) (And.intro (hSn.2.2.2.2.2.2.2.2.1.below hb) (And.intro (hSn.2.2.2.2.2.2.2.2.2.1.below hb) (b_then hSn.2.2.2.2.2.2.2.2.2.2 hb))))))))))
      clear hb
      refine hK.out _ _ hSn (fun _ => ?_)
      clear hK K
      (try simp only [List.getElem_toArray, List.getElem_cons_zero, List.getElem_cons_succ, Act.put, List.setIfInBounds_toArray, List.set_cons_zero, List.set_cons_succ])
      refine wpAnyH_take (i := 40) (v := ?_) rfl (by kernel_rfl) (by kernel_rfl) (by kernel_rfl) (fun _ _ _ h => h) (Or.inl ⟨by kernel_rfl, fun W hW => ?_⟩) (by assumption) ?_
      rotate_left
      · go_simp
        try with_reducible rfl
      (try simp only [List.getElem_toArray, List.getElem_cons_zero, List.getElem_cons_succ, Act.put, List.setIfInBounds_toArray, List.set_cons_zero, List.set_cons_succ])
      refine wpAnyH_take (i := 41) (v := ?_) rfl (by kernel_rfl) (by kernel_rfl) (by kernel_rfl) (fun _ _ _ h => h) (Or.inl ⟨by kernel_rfl, fun W hW => ?_⟩) (by assumption) ?_
      rotate_left
      · go_simp
        try with_reducible rfl
      (try simp only [List.getElem_toArray, List.getElem_cons_zero, List.getElem_cons_succ, Act.put, List.setIfInBounds_toArray, List.set_cons_zero, List.set_cons_succ])
      refine wpAnyH_take (i := 42) (v := ?_) rfl (by kernel_rfl) (by kernel_rfl) (by kernel_rfl) (fun _ _ _ h => h) (Or.inl ⟨by kernel_rfl, fun W hW => ?_⟩) (by assumption) ?_
      rotate_left
      · go_simp
        try with_reducible rfl
      (try simp only [List.getElem_toArray, List.getElem_cons_zero, List.getElem_cons_succ, Act.put, List.setIfInBounds_toArray, List.set_cons_zero, List.set_cons_succ])
      refine wpAnyH_take (i := 43) (v := ?_) rfl (by kernel_rfl) (by kernel_rfl) (by kernel_rfl) (fun _ _ _ h => h) (Or.inl ⟨by kernel_rfl, fun W hW => ?_⟩) (by assumption) ?_
      rotate_left
      · refine yield_row 27 (.tmp 3) ?_ w.heap.size ?_ hW.1 Tryz.underlying27 rfl (by kernel_rfl)
        · rfl
        · rfl
      (try simp only [List.getElem_toArray, List.getElem_cons_zero, List.getElem_cons_succ, Act.put, List.setIfInBounds_toArray, List.set_cons_zero, List.set_cons_succ])
      refine wpAnyH_take (i := 44) (v := ?_) rfl (by kernel_rfl) (by kernel_rfl) (by kernel_rfl) (fun _ _ _ h => h) (Or.inl ⟨by kernel_rfl, fun W hW => ?_⟩) (by assumption) ?_
      rotate_left
      · refine yield_row 27 (.tmp 13) ?_ bz ?_ hW.2.2.2.2.2.1 Tryz.underlying27 rfl (by kernel_rfl)
        · rfl
        · rfl
      (try simp only [List.getElem_toArray, List.getElem_cons_zero, List.getElem_cons_succ, Act.put, List.setIfInBounds_toArray, List.set_cons_zero, List.set_cons_succ])
      refine wpAnyH_ready (rs := [45]) (by kernel_rfl) (by simp) ?_
      refine AllReadyH.cons rfl (fun K hK => ?_) AllReadyH.nil
      go_simp
      refine (HUZ.out _ hSn.2.2.2.2.2.2.1 hSn.2.2.2.2.2.2.2.2.2.1).mono ?_
      rintro e U9 ⟨rfl, hb⟩
      replace hSn := And.intro (heap_b hb hSn.1) (And.intro (heap_b hb hSn.2.1) (And.intro (heap_b hb hSn.2.2.1) (And.intro (heap_b hb hSn.2.2.2.1) (And.intro (heap_b hb hSn.2.2.2.2.1) (And.intro (heap_b hb hSn.2.2.2.2.2.1) (And.intro (hSn.2.2.2.2.2.2.1.below hb) (And.intro (hSn.2.2.2.2.2.2.2.1.below hb) (And.intro (hSn.2.2.2.2.2.2.2.2.1.below hb) (And.intro (hSn.2.2.2.2.2.2.2.2.2.1.below hb) (b_then hSn.2.2.2.2.2.2.2.2.2.2 hb))))))))))
      clear hb
      refine hK.out _ _ hSn (fun _ => ?_)
      clear hK K
      (try simp only [List.getElem_toArray, List.getElem_cons_zero, List.getElem_cons_succ, Act.put, List.setIfInBounds_toArray, List.set_cons_zero, List.set_cons_succ])
      refine wpAnyH_take (i := 46) (v := ?_) rfl (by kernel_rfl) (by kernel_rfl) (by kernel_rfl) (fun _ _ _ h => h) (Or.inl ⟨by kernel_rfl, fun W hW => ?_⟩) (by assumption) ?_
      rotate_left
      · go_simp
        try with_reducible rfl
      (try simp only [List.getElem_toArray, List.getElem_cons_zero, List.getElem_cons_succ, Act.put, List.setIfInBounds_toArray, List.set_cons_zero, List.set_cons_succ])
      refine wpAnyH_take (i := 47) (v := ?_) rfl (by kernel_rfl) (by kernel_rfl) (by kernel_rfl) (fun _ _ _ h => h) (Or.inl ⟨by kernel_rfl, fun W hW => ?_⟩) (by assumption) ?_
      rotate_left
      · go_simp
        try with_reducible rfl
      (try simp only [List.getElem_toArray, List.getElem_cons_zero, List.getElem_cons_succ, Act.put, List.setIfInBounds_toArray, List.set_cons_zero, List.set_cons_succ])
      refine wpAnyH_take (i := 48) (v := ?_) rfl (by kernel_rfl) (by kernel_rfl) (by kernel_rfl) (fun _ _ _ h => h) (Or.inl ⟨by kernel_rfl, fun W hW => ?_⟩) (by assumption) ?_
      rotate_left
      · go_simp
        try with_reducible rfl
      (try simp only [List.getElem_toArray, List.getElem_cons_zero, List.getElem_cons_succ, Act.put, List.setIfInBounds_toArray, List.set_cons_zero, List.set_cons_succ])
      refine wpAnyH_done (by kernel_rfl) ?_ _
      refine NoPanic.normal ?_
      go_wp2
      go_ret
      exact ⟨rfl, hSn.2.2.2.2.2.2.2.2.2.2⟩
    | false =>
      have hSn : (fun W' => W'.heap[w.heap.size]? = some (.cells u.cells 27 (0, 0)) ∧ W'.heap[bv]? = some (.cells v.cells 27 (0, 0)) ∧ W'.heap[bt]? = some (.cells t.cells 27 (0, 0)) ∧ W'.heap[bx]? = some (.cells ux.cells 27 (0, 0)) ∧ W'.heap[by_]? = some (.cells uy.cells 27 (0, 0)) ∧ W'.heap[bz]? = some (.cells uz.cells 27 (0, 0)) ∧ u.Ok W' ∧ v.Ok W' ∧ t.Ok W' ∧ RdS W' a2 (u.xs.length + 1) (u.xs ++ [[]]) ∧ Below w.heap.size w W') W8.drew := ⟨HU.out, HV.out, HT3.out, HX.out, HY.out, HZ.out, OU.out.below (b_drew (Below.refl _ _)), OV.out.below (b_drew (Below.refl _ _)), OT.out.below (b_drew (Below.refl _ _)), HRZ.out.below (b_drew (Below.refl _ _)), b_drew HB.out⟩
      go_wp2_with fail
      refine wp_region_noPanic ?_
      refine wp_region_held_drew (S := fun W' => W'.heap[w.heap.size]? = some (.cells u.cells 27 (0, 0)) ∧ W'.heap[bv]? = some (.cells v.cells 27 (0, 0)) ∧ W'.heap[bt]? = some (.cells t.cells 27 (0, 0)) ∧ W'.heap[bx]? = some (.cells ux.cells 27 (0, 0)) ∧ W'.heap[by_]? = some (.cells uy.cells 27 (0, 0)) ∧ W'.heap[bz]? = some (.cells uz.cells 27 (0, 0)) ∧ u.Ok W' ∧ v.Ok W' ∧ t.Ok W' ∧ RdS W' a2 (u.xs.length + 1) (u.xs ++ [[]]) ∧ Below w.heap.size w W') (by kernel_rfl) hSn (fun hS0 => ?_)
      refine wpAnyH_take (i := 0) (v := ?_) rfl (by kernel_rfl) (by kernel_rfl) (by kernel_rfl) (fun _ _ _ h => h) (Or.inl ⟨by kernel_rfl, fun W hW => ?_⟩) (by assumption) ?_
      rotate_left
      · refine yield_row 27 (.tmp 3) ?_ w.heap.size ?_ hW.1 Tryz.underlying27 rfl (by kernel_rfl)
        · rfl
        · rfl
      (try simp only [List.getElem_toArray, List.getElem_cons_zero, List.getElem_cons_succ, Act.put, List.setIfInBounds_toArray, List.set_cons_zero, List.set_cons_succ])
      refine wpAnyH_take (i := 1) (v := ?_) rfl (by kernel_rfl) (by kernel_rfl) (by kernel_rfl) (fun _ _ _ h => h) (Or.inl ⟨by kernel_rfl, fun W hW => ?_⟩) (by assumption) ?_
      rotate_left
      · refine yield_row 27 (.tmp 3) ?_ w.heap.size ?_ hW.1 Tryz.underlying27 rfl (by kernel_rfl)
        · rfl
        · rfl
      (try simp only [List.getElem_toArray, List.getElem_cons_zero, List.getElem_cons_succ, Act.put, List.setIfInBounds_toArray, List.set_cons_zero, List.set_cons_succ])
      refine wpAnyH_ready (rs := [2]) (by kernel_rfl) (by simp) ?_
      refine AllReadyH.cons rfl (fun K hK => ?_) AllReadyH.nil
      go_simp
      refine (HUU.out _ hSn.2.2.2.2.2.2.1).mono ?_
      rintro e U10 ⟨rfl, hb⟩
      replace hSn := And.intro (heap_b hb hSn.1) (And.intro (heap_b hb hSn.2.1) (And.intro (heap_b hb hSn.2.2.1) (And.intro (heap_b hb hSn.2.2.2.1) (And.intro (heap_b hb hSn.2.2.2.2.1) (And.intro (heap_b hb hSn.2.2.2.2.2.1) (And.intro (hSn.2.2.2.2.2.2.1.below hb) (And.intro (hSn.2.2.2.2.2.2.2.1.below hb) (And.intro (hSn.2.2.2.2.2.2.2.2.1.below hb) (And.intro (hSn.2.2.2.2.2.2.2.2.2.1.below hb) (b_then hSn.2.2.2.2.2.2.2.2.2.2 hb))))))))))
      clear hb
      refine hK.out _ _ hSn (fun _ => ?_)
      clear hK K
      (try simp only [List.getElem_toArray, List.getElem_cons_zero, List.getElem_cons_succ, Act.put, List.setIfInBounds_toArray, List.set_cons_zero, List.set_cons_succ])
      refine wpAnyH_take (i := 3) (v := ?_) rfl (by kernel_rfl) (by kernel_rfl) (by kernel_rfl) (fun _ _ _ h => h) (Or.inl ⟨by kernel_rfl, fun W hW => ?_⟩) (by assumption) ?_
      rotate_left
      · go_simp
        try with_reducible rfl
      (try simp only [List.getElem_toArray, List.getElem_cons_zero, List.getElem_cons_succ, Act.put, List.setIfInBounds_toArray, List.set_cons_zero, List.set_cons_succ])
      refine wpAnyH_take (i := 4) (v := ?_) rfl (by kernel_rfl) (by kernel_rfl) (by kernel_rfl) (fun _ _ _ h => h) (Or.inl ⟨by kernel_rfl, fun W hW => ?_⟩) (by assumption) ?_
      rotate_left
      · go_simp
        try with_reducible rfl
      (try simp only [List.getElem_toArray, List.getElem_cons_zero, List.getElem_cons_succ, Act.put, List.setIfInBounds_toArray, List.set_cons_zero, List.set_cons_succ])
      refine wpAnyH_take (i := 5) (v := ?_) rfl (by kernel_rfl) (by kernel_rfl) (by kernel_rfl) (fun _ _ _ h => h) (Or.inl ⟨by kernel_rfl, fun W hW => ?_⟩) (by assumption) ?_
      rotate_left
      · refine yield_row 27 (.tmp 4) ?_ bv ?_ hW.2.1 Tryz.underlying27 rfl (by kernel_rfl)
        · rfl
        · rfl
      (try simp only [List.getElem_toArray, List.getElem_cons_zero, List.getElem_cons_succ, Act.put, List.setIfInBounds_toArray, List.set_cons_zero, List.set_cons_succ])
      refine wpAnyH_take (i := 6) (v := ?_) rfl (by kernel_rfl) (by kernel_rfl) (by kernel_rfl) (fun _ _ _ h => h) (Or.inl ⟨by kernel_rfl, fun W hW => ?_⟩) (by assumption) ?_
      rotate_left
      · refine yield_row 27 (.tmp 3) ?_ w.heap.size ?_ hW.1 Tryz.underlying27 rfl (by kernel_rfl)
        · rfl
        · rfl
      (try simp only [List.getElem_toArray, List.getElem_cons_zero, List.getElem_cons_succ, Act.put, List.setIfInBounds_toArray, List.set_cons_zero, List.set_cons_succ])
      refine wpAnyH_ready (rs := [7]) (by kernel_rfl) (by simp) ?_
      refine AllReadyH.cons rfl (fun K hK => ?_) AllReadyH.nil
      go_simp
      refine (HVU.out _ hSn.2.2.2.2.2.2.2.1 hSn.2.2.2.2.2.2.1).mono ?_
      rintro e U11 ⟨rfl, hb⟩
      replace hSn := And.intro (heap_b hb hSn.1) (And.intro (heap_b hb hSn.2.1) (And.intro (heap_b hb hSn.2.2.1) (And.intro (heap_b hb hSn.2.2.2.1) (And.intro (heap_b hb hSn.2.2.2.2.1) (And.intro (heap_b hb hSn.2.2.2.2.2.1) (And.intro (hSn.2.2.2.2.2.2.1.below hb) (And.intro (hSn.2.2.2.2.2.2.2.1.below hb) (And.intro (hSn.2.2.2.2.2.2.2.2.1.below hb) (And.intro (hSn.2.2.2.2.2.2.2.2.2.1.below hb) (b_then hSn.2.2.2.2.2.2.2.2.2.2 hb))))))))))
      clear hb
      refine hK.out _ _ hSn (fun _ => ?_)
      clear hK K
      (try simp only [List.getElem_toArray, List.getElem_cons_zero, List.getElem_cons_succ, Act.put, List.setIfInBounds_toArray, List.set_cons_zero, List.set_cons_succ])
      refine wpAnyH_take (i := 8) (v := ?_) rfl (by kernel_rfl) (by kernel_rfl) (by kernel_rfl) (fun _ _ _ h => h) (Or.inl ⟨by kernel_rfl, fun W hW => ?_⟩) (by assumption) ?_
      rotate_left
      · go_simp
        try with_reducible rfl
      (try simp only [List.getElem_toArray, List.getElem_cons_zero, List.getElem_cons_succ, Act.put, List.setIfInBounds_toArray, List.set_cons_zero, List.set_cons_succ])
      refine wpAnyH_take (i := 9) (v := ?_) rfl (by kernel_rfl) (by kernel_rfl) (by kernel_rfl) (fun _ _ _ h => h) (Or.inl ⟨by kernel_rfl, fun W hW => ?_⟩) (by assumption) ?_
      rotate_left
      · go_simp
        try with_reducible rfl
      (try simp only [List.getElem_toArray, List.getElem_cons_zero, List.getElem_cons_succ, Act.put, List.setIfInBounds_toArray, List.set_cons_zero, List.set_cons_succ])
      refine wpAnyH_take (i := 10) (v := ?_) rfl (by kernel_rfl) (by kernel_rfl) (by kernel_rfl) (fun _ _ _ h => h) (Or.inl ⟨by kernel_rfl, fun W hW => ?_⟩) (by assumption) ?_
      rotate_left
      · go_simp
        try with_reducible rfl
      (try simp only [List.getElem_toArray, List.getElem_cons_zero, List.getElem_cons_succ, Act.put, List.setIfInBounds_toArray, List.set_cons_zero, List.set_cons_succ])
      refine wpAnyH_take (i := 11) (v := ?_) rfl (by kernel_rfl) (by kernel_rfl) (by kernel_rfl) (fun _ _ _ h => h) (Or.inl ⟨by kernel_rfl, fun W hW => ?_⟩) (by assumption) ?_
      rotate_left
      · go_simp
        try with_reducible rfl
      (try simp only [List.getElem_toArray, List.getElem_cons_zero, List.getElem_cons_succ, Act.put, List.setIfInBounds_toArray, List.set_cons_zero, List.set_cons_succ])
      refine wpAnyH_take (i := 12) (v := ?_) rfl (by kernel_rfl) (by kernel_rfl) (by kernel_rfl) (fun _ _ _ h => h) (Or.inl ⟨by kernel_rfl, fun W hW => ?_⟩) (by assumption) ?_
      rotate_left
      · go_simp
        try with_reducible rfl
      (try simp only [List.getElem_toArray, List.getElem_cons_zero, List.getElem_cons_succ, Act.put, List.setIfInBounds_toArray, List.set_cons_zero, List.set_cons_succ])
      refine wpAnyH_take (i := 13) (v := ?_) rfl (by kernel_rfl) (by kernel_rfl) (by kernel_rfl) (fun _ _ _ h => h) (Or.inl ⟨by kernel_rfl, fun W hW => ?_⟩) (by assumption) ?_
      rotate_left
      · go_simp
        try with_reducible rfl
      (try simp only [List.getElem_toArray, List.getElem_cons_zero, List.getElem_cons_succ, Act.put, List.setIfInBounds_toArray, List.set_cons_zero, List.set_cons_succ])
      refine wpAnyH_take (i := 14) (v := undef) rfl (by kernel_rfl) (by kernel_rfl) (by kernel_rfl) (fun _ _ _ h => h) (Or.inr ⟨by kernel_rfl, rfl⟩) (by assumption) ?_
      (try simp only [List.getElem_toArray, List.getElem_cons_zero, List.getElem_cons_succ, Act.put, List.setIfInBounds_toArray, List.set_cons_zero, List.set_cons_succ])
      refine wpAnyH_take (i := 15) (v := undef) rfl (by kernel_rfl) (by kernel_rfl) (by kernel_rfl) (fun _ _ _ h => h) (Or.inr ⟨by kernel_rfl, rfl⟩) (by assumption) ?_
      (try simp only [List.getElem_toArray, List.getElem_cons_zero, List.getElem_cons_succ, Act.put, List.setIfInBounds_toArray, List.set_cons_zero, List.set_cons_succ])
      refine wpAnyH_take (i := 16) (v := undef) rfl (by kernel_rfl) (by kernel_rfl) (by kernel_rfl) (fun _ _ _ h => h) (Or.inr ⟨by kernel_rfl, rfl⟩) (by assumption) ?_
      (try simp only [List.getElem_toArray, List.getElem_cons_zero, List.getElem_cons_succ, Act.put, List.setIfInBounds_toArray, List.set_cons_zero, List.set_cons_succ])
      refine wpAnyH_take (i := 17) (v := undef) rfl (by kernel_rfl) (by kernel_rfl) (by kernel_rfl) (fun _ _ _ h => h) (Or.inr ⟨by kernel_rfl, rfl⟩) (by assumption) ?_
      (try simp only [List.getElem_toArray, List.getElem_cons_zero, List.getElem_cons_succ, Act.put, List.setIfInBounds_toArray, List.set_cons_zero, List.set_cons_succ])
      refine wpAnyH_take (i := 18) (v := undef) rfl (by kernel_rfl) (by kernel_rfl) (by kernel_rfl) (fun _ _ _ h => h) (Or.inr ⟨by kernel_rfl, rfl⟩) (by assumption) ?_
      (try simp only [List.getElem_toArray, List.getElem_cons_zero, List.getElem_cons_succ, Act.put, List.setIfInBounds_toArray, List.set_cons_zero, List.set_cons_succ])
      refine wpAnyH_take (i := 19) (v := undef) rfl (by kernel_rfl) (by kernel_rfl) (by kernel_rfl) (fun _ _ _ h => h) (Or.inr ⟨by kernel_rfl, rfl⟩) (by assumption) ?_
      (try simp only [List.getElem_toArray, List.getElem_cons_zero, List.getElem_cons_succ, Act.put, List.setIfInBounds_toArray, List.set_cons_zero, List.set_cons_succ])
      refine wpAnyH_take (i := 20) (v := undef) rfl (by kernel_rfl) (by kernel_rfl) (by kernel_rfl) (fun _ _ _ h => h) (Or.inr ⟨by kernel_rfl, rfl⟩) (by assumption) ?_
      (try simp only [List.getElem_toArray, List.getElem_cons_zero, List.getElem_cons_succ, Act.put, List.setIfInBounds_toArray, List.set_cons_zero, List.set_cons_succ])
      refine wpAnyH_take (i := 21) (v := undef) rfl (by kernel_rfl) (by kernel_rfl) (by kernel_rfl) (fun _ _ _ h => h) (Or.inr ⟨by kernel_rfl, rfl⟩) (by assumption) ?_
      (try simp only [List.getElem_toArray, List.getElem_cons_zero, List.getElem_cons_succ, Act.put, List.setIfInBounds_toArray, List.set_cons_zero, List.set_cons_succ])
      refine wpAnyH_take (i := 22) (v := undef) rfl (by kernel_rfl) (by kernel_rfl) (by kernel_rfl) (fun _ _ _ h => h) (Or.inr ⟨by kernel_rfl, rfl⟩) (by assumption) ?_
      (try simp only [List.getElem_toArray, List.getElem_cons_zero, List.getElem_cons_succ, Act.put, List.setIfInBounds_toArray, List.set_cons_zero, List.set_cons_succ])
      refine wpAnyH_take (i := 23) (v := undef) rfl (by kernel_rfl) (by kernel_rfl) (by kernel_rfl) (fun _ _ _ h => h) (Or.inr ⟨by kernel_rfl, rfl⟩) (by assumption) ?_
      (try simp only [List.getElem_toArray, List.getElem_cons_zero, List.getElem_cons_succ, Act.put, List.setIfInBounds_toArray, List.set_cons_zero, List.set_cons_succ])
      refine wpAnyH_take (i := 24) (v := undef) rfl (by kernel_rfl) (by kernel_rfl) (by kernel_rfl) (fun _ _ _ h => h) (Or.inr ⟨by kernel_rfl, rfl⟩) (by assumption) ?_
      (try simp only [List.getElem_toArray, List.getElem_cons_zero, List.getElem_cons_succ, Act.put, List.setIfInBounds_toArray, List.set_cons_zero, List.set_cons_succ])
      refine wpAnyH_take (i := 25) (v := undef) rfl (by kernel_rfl) (by kernel_rfl) (by kernel_rfl) (fun _ _ _ h => h) (Or.inr ⟨by kernel_rfl, rfl⟩) (by assumption) ?_
      (try simp only [List.getElem_toArray, List.getElem_cons_zero, List.getElem_cons_succ, Act.put, List.setIfInBounds_toArray, List.set_cons_zero, List.set_cons_succ])
      refine wpAnyH_take (i := 26) (v := undef) rfl (by kernel_rfl) (by kernel_rfl) (by kernel_rfl) (fun _ _ _ h => h) (Or.inr ⟨by kernel_rfl, rfl⟩) (by assumption) ?_
      (try simp only [List.getElem_toArray, List.getElem_cons_zero, List.getElem_cons_succ, Act.put, List.setIfInBounds_toArray, List.set_cons_zero, List.set_cons_succ])
      refine wpAnyH_take (i := 27) (v := undef) rfl (by kernel_rfl) (by kernel_rfl) (by kernel_rfl) (fun _ _ _ h => h) (Or.inr ⟨by kernel_rfl, rfl⟩) (by assumption) ?_
      (try simp only [List.getElem_toArray, List.getElem_cons_zero, List.getElem_cons_succ, Act.put, List.setIfInBounds_toArray, List.set_cons_zero, List.set_cons_succ])
      refine wpAnyH_take (i := 28) (v := ?_) rfl (by kernel_rfl) (by kernel_rfl) (by kernel_rfl) (fun _ _ _ h => h) (Or.inl ⟨by kernel_rfl, fun W hW => ?_⟩) (by assumption) ?_
      rotate_left
      · go_simp
        try with_reducible rfl
      (try simp only [List.getElem_toArray, List.getElem_cons_zero, List.getElem_cons_succ, Act.put, List.setIfInBounds_toArray, List.set_cons_zero, List.set_cons_succ])
      refine wpAnyH_take (i := 29) (v := ?_) rfl (by kernel_rfl) (by kernel_rfl) (by kernel_rfl) (fun _ _ _ h => h) (Or.inl ⟨by kernel_rfl, fun W hW => ?_⟩) (by assumption) ?_
      rotate_left
      · go_simp
        try with_reducible rfl
      (try simp only [List.getElem_toArray, List.getElem_cons_zero, List.getElem_cons_succ, Act.put, List.setIfInBounds_toArray, List.set_cons_zero, List.set_cons_succ])
      refine wpAnyH_take (i := 30) (v := ?_) rfl (by kernel_rfl) (by kernel_rfl) (by kernel_rfl) (fun _ _ _ h => h) (Or.inl ⟨by kernel_rfl, fun W hW => ?_⟩) (by assumption) ?_
      rotate_left
      · go_simp
        try with_reducible rfl
      (try simp only [List.getElem_toArray, List.getElem_cons_zero, List.getElem_cons_succ, Act.put, List.setIfInBounds_toArray, List.set_cons_zero, List.set_cons_succ])
      refine wpAnyH_take (i := 31) (v := ?_) rfl (by kernel_rfl) (by kernel_rfl) (by kernel_rfl) (fun _ _ _ h => h) (Or.inl ⟨by kernel_rfl, fun W hW => ?_⟩) (by assumption) ?_
      rotate_left
      · refine yield_row 27 (.tmp 3) ?_ w.heap.size ?_ hW.1 Tryz.underlying27 rfl (by kernel_rfl)
        · rfl
        · rfl
      (try simp only [List.getElem_toArray, List.getElem_cons_zero, List.getElem_cons_succ, Act.put, List.setIfInBounds_toArray, List.set_cons_zero, List.set_cons_succ])
      refine wpAnyH_take (i := 32) (v := ?_) rfl (by kernel_rfl) (by kernel_rfl) (by kernel_rfl) (fun _ _ _ h => h) (Or.inl ⟨by kernel_rfl, fun W hW => ?_⟩) (by assumption) ?_
      rotate_left
      · refine yield_row 27 (.tmp 11) ?_ bx ?_ hW.2.2.2.1 Tryz.underlying27 rfl (by kernel_rfl)
        · rfl
        · rfl
      (try simp only [List.getElem_toArray, List.getElem_cons_zero, List.getElem_cons_succ, Act.put, List.setIfInBounds_toArray, List.set_cons_zero, List.set_cons_succ])
      refine wpAnyH_ready (rs := [33]) (by kernel_rfl) (by simp) ?_
      refine AllReadyH.cons rfl (fun K hK => ?_) AllReadyH.nil
      go_simp
      refine (HUX.out _ hSn.2.2.2.2.2.2.1).mono ?_
      rintro e U12 ⟨rfl, hb⟩
      replace hSn := And.intro (heap_b hb hSn.1) (And.intro (heap_b hb hSn.2.1) (And.intro (heap_b hb hSn.2.2.1) (And.intro (heap_b hb hSn.2.2.2.1) (And.intro (heap_b hb hSn.2.2.2.2.1) (And.intro (heap_b hb hSn.2.2.2.2.2.1) (And.intro (hSn.2.2.2.2.2.2.1.below hb) (And.intro (hSn.2.2.2.2.2.2.2.1.below hb) (And.intro (hSn.2.2.2.2.2.2.2.2.1.below hb) (And.intro (hSn.2.2.2.2.2.2.2.2.2.1.below hb) (b_then hSn.2.2.2.2.2.2.2.2.2.2 hb))))))))))
      clear hb
      refine hK.out _ _ hSn (fun _ => ?_)
      clear hK K
      (try simp only [List.getElem_toArray, List.getElem_cons_zero, List.getElem_cons_succ, Act.put, List.setIfInBounds_toArray, List.set_cons_zero, List.set_cons_succ])
      refine wpAnyH_take (i := 34) (v := ?_) rfl (by kernel_rfl) (by kernel_rfl) (by kernel_rfl) (fun _ _ _ h => h) (Or.inl ⟨by kernel_rfl, fun W hW => ?_⟩) (by assumption) ?_
      rotate_left
      · go_simp
        try with_reducible rfl
      (try simp only [List.getElem_toArray, List.getElem_cons_zero, List.getElem_cons_succ, Act.put, List.setIfInBounds_toArray, List.set_cons_zero, List.set_cons_succ])
      refine wpAnyH_take (i := 35) (v := ?_) rfl (by kernel_rfl) (by kernel_rfl) (by kernel_rfl) (fun _ _ _ h => h) (Or.inl ⟨by kernel_rfl, fun W hW => ?_⟩) (by assumption) ?_
      rotate_left
      · go_simp
        try with_reducible rfl
      (try simp only [List.getElem_toArray, List.getElem_cons_zero, List.getElem_cons_succ, Act.put, List.setIfInBounds_toArray, List.set_cons_zero, List.set_cons_succ])
      refine wpAnyH_take (i := 36) (v := ?_) rfl (by kernel_rfl) (by kernel_rfl) (by kernel_rfl) (fun _ _ _ h => h) (Or.inl ⟨by kernel_rfl, fun W hW => ?_⟩) (by assumption) ?_
      rotate_left
      · go_simp
        try with_reducible rfl
      (try simp only [List.getElem_toArray, List.getElem_cons_zero, List.getElem_cons_succ, Act.put, List.setIfInBounds_toArray, List.set_cons_zero, List.set_cons_succ])
      refine wpAnyH_take (i := 37) (v := ?_) rfl (by kernel_rfl) (by kernel_rfl) (by kernel_rfl) (fun _ _ _ h => h) (Or.inl ⟨by kernel_rfl, fun W hW => ?_⟩) (by assumption) ?_
      rotate_left
      · refine yield_row 27 (.tmp 3) ?_ w.heap.size ?_ hW.1 Tryz.underlying27 rfl (by kernel_rfl)
        · rfl
        · rfl
      (try simp only [List.getElem_toArray, List.getElem_cons_zero, List.getElem_cons_succ, Act.put, List.setIfInBounds_toArray, List.set_cons_zero, List.set_cons_succ])
      refine wpAnyH_take (i := 38) (v := ?_) rfl (by kernel_rfl) (by kernel_rfl) (by kernel_rfl) (fun _ _ _ h => h) (Or.inl ⟨by kernel_rfl, fun W hW => ?_⟩) (by assumption) ?_
      rotate_left
      · refine yield_row 27 (.tmp 12) ?_ by_ ?_ hW.2.2.2.2.1 Tryz.underlying27 rfl (by kernel_rfl)
        · rfl
        · rfl
      (try simp only [List.getElem_toArray, List.getElem_cons_zero, List.getElem_cons_succ, Act.put, List.setIfInBounds_toArray, List.set_cons_zero, List.set_cons_succ])
      refine wpAnyH_ready (rs := [39]) (by kernel_rfl) (by simp) ?_
      refine AllReadyH.cons rfl (fun K hK => ?_) AllReadyH.nil
      go_simp
      refine (HUY.out _ hSn.2.2.2.2.2.2.1).mono ?_
      rintro e U13 ⟨rfl, hb⟩
      replace hSn := And.intro (heap_b hb hSn.1) (And.intro (heap_b hb hSn.2.1) (And.intro (heap_b hb hSn.2.2.1) (And.intro (heap_b hb hSn.2.2.2.1) (And.intro (heap_b hb hSn.2.2.2.2.1) (And.intro (heap_b hb hSn.2.2.2.2.2.1) (And.intro (hSn.2.2.2.2.2.2.1.below hb) (And.intro (hSn.2.2.2.2.2.2.2.1.below hb) (And.intro (hSn.2.2.2.2.2.2.2.2.1.below hb) (And.intro (hSn.2.2.2.2.2.2.2.2.2.1.below hb) (b_then hSn.2.2.2.2.2.2.2.2.2.2 hb))))))))))
      clear hb
      refine hK.out _ _ hSn (fun _ => ?_)
      clear hK K
      (try simp only [List.getElem_toArray, List.getElem_cons_zero, List.getElem_cons_succ, Act.put, List.setIfInBounds_toArray, List.set_cons_zero, List.set_cons_succ])
      refine wpAnyH_take (i := 40) (v := ?_) rfl (by kernel_rfl) (by kernel_rfl) (by kernel_rfl) (fun _ _ _ h => h) (Or.inl ⟨by kernel_rfl, fun W hW => ?_⟩) (by assumption) ?_
      rotate_left
      · go_simp
        try with_reducible rfl
      (try simp only [List.getElem_toArray, List.getElem_cons_zero, List.getElem_cons_succ, Act.put, List.setIfInBounds_toArray, List.set_cons_zero, List.set_cons_succ])
      refine wpAnyH_take (i := 41) (v := ?_) rfl (by kernel_rfl) (by kernel_rfl) (by kernel_rfl) (fun _ _ _ h => h) (Or.inl ⟨by kernel_rfl, fun W hW => ?_⟩) (by assumption) ?_
      rotate_left
      · go_simp
        try with_reducible rfl
      (try simp only [List.getElem_toArray, List.getElem_cons_zero, List.getElem_cons_succ, Act.put, List.setIfInBounds_toArray, List.set_cons_zero, List.set_cons_succ])
      refine wpAnyH_take (i := 42) (v := ?_) rfl (by kernel_rfl) (by kernel_rfl) (by kernel_rfl) (fun _ _ _ h => h) (Or.inl ⟨by kernel_rfl, fun W hW => ?_⟩) (by assumption) ?_
      rotate_left
      · go_simp
        try with_reducible rfl
      (try simp only [List.getElem_toArray, List.getElem_cons_zero, List.getElem_cons_succ, Act.put, List.setIfInBounds_toArray, List.set_cons_zero, List.set_cons_succ])
      refine wpAnyH_take (i := 43) (v := ?_) rfl (by kernel_rfl) (by kernel_rfl) (by kernel_rfl) (fun _ _ _ h => h) (Or.inl ⟨by kernel_rfl, fun W hW => ?_⟩) (by assumption) ?_
      rotate_left
      · refine yield_row 27 (.tmp 3) ?_ w.heap.size ?_ hW.1 Tryz.underlying27 rfl (by kernel_rfl)
        · rfl
        · rfl
      (try simp only [List.getElem_toArray, List.getElem_cons_zero, List.getElem_cons_succ, Act.put, List.setIfInBounds_toArray, List.set_cons_zero, List.set_cons_succ])
      refine wpAnyH_take (i := 44) (v := ?_) rfl (by kernel_rfl) (by kernel_rfl) (by kernel_rfl) (fun _ _ _ h => h) (Or.inl ⟨by kernel_rfl, fun W hW => ?_⟩) (by assumption) ?_
      rotate_left
      · refine yield_row 27 (.tmp 13) ?_ bz ?_ hW.2.2.2.2.2.1 Tryz.underlying27 rfl (by kernel_rfl)
        · rfl
        · rfl
      (try simp only [List.getElem_toArray, List.getElem_cons_zero, List.getElem_cons_succ, Act.put, List.setIfInBounds_toArray, List.set_cons_zero, List.set_cons_succ])
      refine wpAnyH_ready (rs := [45]) (by kernel_rfl) (by simp) ?_
      refine AllReadyH.cons rfl (fun K hK => ?_) AllReadyH.nil
      go_simp
      refine (HUZ.out _ hSn.2.2.2.2.2.2.1 hSn.2.2.2.2.2.2.2.2.2.1).mono ?_
      rintro e U14 ⟨rfl, hb⟩
      replace hSn := And.intro (heap_b hb hSn.1) (And.intro (heap_b hb hSn.2.1) (And.intro (heap_b hb hSn.2.2.1) (And.intro (heap_b hb hSn.2.2.2.1) (And.intro (heap_b hb hSn.2.2.2.2.1) (And.intro (heap_b hb hSn.2.2.2.2.2.1) (And.intro (hSn.2.2.2.2.2.2.1.below hb) (And.intro (hSn.2.2.2.2.2.2.2.1.below hb) (And.intro (hSn.2.2.2.2.2.2.2.2.1.below hb) (And.intro (hSn.2.2.2.2.2.2.2.2.2.1.below hb) (b_then hSn.2.2.2.2.2.2.2.2.2.2 hb))))))))))
      clear hb
      refine hK.out _ _ hSn (fun _ => ?_)
      clear hK K
      (try simp only [List.getElem_toArray, List.getElem_cons_zero, List.getElem_cons_succ, Act.put, List.setIfInBounds_toArray, List.set_cons_zero, List.set_cons_succ])
      refine wpAnyH_take (i := 46) (v := ?_) rfl (by kernel_rfl) (by kernel_rfl) (by kernel_rfl) (fun _ _ _ h => h) (Or.inl ⟨by kernel_rfl, fun W hW => ?_⟩) (by assumption) ?_
      rotate_left
      · go_simp
        try with_reducible rfl
      (try simp only [List.getElem_toArray, List.getElem_cons_zero, List.getElem_cons_succ, Act.put, List.setIfInBounds_toArray, List.set_cons_zero, List.set_cons_succ])
      refine wpAnyH_take (i := 47) (v := ?_) rfl (by kernel_rfl) (by kernel_rfl) (by kernel_rfl) (fun _ _ _ h => h) (Or.inl ⟨by kernel_rfl, fun W hW => ?_⟩) (by assumption) ?_
      rotate_left
      · go_simp
        try with_reducible rfl
      (try simp only [List.getElem_toArray, List.getElem_cons_zero, List.getElem_cons_succ, Act.put, List.setIfInBounds_toArray, List.set_cons_zero, List.set_cons_succ])
      refine wpAnyH_take (i := 48) (v := ?_) rfl (by kernel_rfl) (by kernel_rfl) (by kernel_rfl) (fun _ _ _ h => h) (Or.inl ⟨by kernel_rfl, fun W hW => ?_⟩) (by assumption) ?_
      rotate_left
      · go_simp
        try with_reducible rfl
      (try simp only [List.getElem_toArray, List.getElem_cons_zero, List.getElem_cons_succ, Act.put, List.setIfInBounds_toArray, List.set_cons_zero, List.set_cons_succ])
      refine wpAnyH_done (by kernel_rfl) ?_ _
      refine NoPanic.normal ?_
      go_wp2
      go_ret
      exact ⟨rfl, hSn.2.2.2.2.2.2.2.2.2.2⟩
end Go.Proofs.YtlcckikfmlhgjaaGreatDoor
/-! The row of UrlSame. -/
namespace Go.Proofs.YtlcckikfmlhgjaaGreatDoor
open Go.ChangeShapes Go.WideShapes Go.ChangeAt Go.RowKit
open Go.WideMaps Go.WideElems
open Go.ChangeMaps (open_string shut_string)
theorem urlSame_reads (os : Os) {H : Type} (enc : TypeId × Value → H) : ∃ x, DataW.whole enc Tryz.prog ((laidWorld os).forCall (fun _ _ => 0) ⟨#[], #[.agg #[.string ⟨#[]⟩, .string ⟨#[]⟩, .string ⟨#[]⟩, .int .i64 0, .string ⟨#[]⟩, .int .i64 0, .int .i64 0, .int .i64 0, .int .i64 0, .int .i64 0, .int .i64 0, .int .i64 0, .int .i64 0, .int .i64 0, .int .i64 0, .slice none 0 0, .string ⟨#[]⟩, .string ⟨#[]⟩, .string ⟨#[]⟩, .bool false, .bool false], .agg #[.string ⟨#[]⟩, .string ⟨#[]⟩, .string ⟨#[]⟩, .int .i64 0, .string ⟨#[]⟩, .int .i64 0, .int .i64 0, .int .i64 0, .int .i64 0, .int .i64 0, .int .i64 0, .int .i64 0, .int .i64 0, .int .i64 0, .int .i64 0, .slice none 0 0, .string ⟨#[]⟩, .string ⟨#[]⟩, .string ⟨#[]⟩, .bool false, .bool false], .agg #[.string ⟨#[]⟩, .string ⟨#[]⟩, .string ⟨#[]⟩, .int .i64 0, .string ⟨#[]⟩, .int .i64 0, .int .i64 0, .int .i64 0, .int .i64 0, .int .i64 0, .int .i64 0, .int .i64 0, .int .i64 0, .int .i64 0, .int .i64 0, .slice none 0 0, .string ⟨#[]⟩, .string ⟨#[]⟩, .string ⟨#[]⟩, .bool false, .bool false]], []⟩).memory Tryz.f3.params.toList Rows.urlSameSpec.vars false (#[.agg #[.string ⟨#[]⟩, .string ⟨#[]⟩, .string ⟨#[]⟩, .int .i64 0, .string ⟨#[]⟩, .int .i64 0, .int .i64 0, .int .i64 0, .int .i64 0, .int .i64 0, .int .i64 0, .int .i64 0, .int .i64 0, .int .i64 0, .int .i64 0, .slice none 0 0, .string ⟨#[]⟩, .string ⟨#[]⟩, .string ⟨#[]⟩, .bool false, .bool false], .agg #[.string ⟨#[]⟩, .string ⟨#[]⟩, .string ⟨#[]⟩, .int .i64 0, .string ⟨#[]⟩, .int .i64 0, .int .i64 0, .int .i64 0, .int .i64 0, .int .i64 0, .int .i64 0, .int .i64 0, .int .i64 0, .int .i64 0, .int .i64 0, .slice none 0 0, .string ⟨#[]⟩, .string ⟨#[]⟩, .string ⟨#[]⟩, .bool false, .bool false], .agg #[.string ⟨#[]⟩, .string ⟨#[]⟩, .string ⟨#[]⟩, .int .i64 0, .string ⟨#[]⟩, .int .i64 0, .int .i64 0, .int .i64 0, .int .i64 0, .int .i64 0, .int .i64 0, .int .i64 0, .int .i64 0, .int .i64 0, .int .i64 0, .slice none 0 0, .string ⟨#[]⟩, .string ⟨#[]⟩, .string ⟨#[]⟩, .bool false, .bool false]] : Array Value).toList 8 = some x :=
  Option.isSome_iff_exists.1 (by kernel_rfl)
set_option maxRecDepth 100000 in
theorem urlSame_lifted (os : Os) (started : os.Started) (H : Type) (enc : TypeId × Value → H) (F : Stop.Interp) :
    ReturnsInHanded {} Tryz.checked os 3 .any ((OpenSpec.ofChange Rows.urlSameSpec).preRow enc Tryz.prog Tryz.f3 Rows.urlSameRow.domain false Rows.urlSameRow.laid) (((OpenSpec.ofChange Rows.urlSameSpec).at F).post enc Tryz.prog Tryz.f3 false true false false) := by
  obtain ⟨x, hx⟩ := urlSame_reads os enc
  refine returnsInHanded_of_row (C := Tryz.checked) (s := OpenSpec.ofChange Rows.urlSameSpec) own started (by kernel_rfl) Tryz.func3
    (witness_row_atRef (enc := enc) (C := Tryz.checked) false (laidWorld os) #[.agg #[.string ⟨#[]⟩, .string ⟨#[]⟩, .string ⟨#[]⟩, .int .i64 0, .string ⟨#[]⟩, .int .i64 0, .int .i64 0, .int .i64 0, .int .i64 0, .int .i64 0, .int .i64 0, .int .i64 0, .int .i64 0, .int .i64 0, .int .i64 0, .slice none 0 0, .string ⟨#[]⟩, .string ⟨#[]⟩, .string ⟨#[]⟩, .bool false, .bool false], .agg #[.string ⟨#[]⟩, .string ⟨#[]⟩, .string ⟨#[]⟩, .int .i64 0, .string ⟨#[]⟩, .int .i64 0, .int .i64 0, .int .i64 0, .int .i64 0, .int .i64 0, .int .i64 0, .int .i64 0, .int .i64 0, .int .i64 0, .int .i64 0, .slice none 0 0, .string ⟨#[]⟩, .string ⟨#[]⟩, .string ⟨#[]⟩, .bool false, .bool false], .agg #[.string ⟨#[]⟩, .string ⟨#[]⟩, .string ⟨#[]⟩, .int .i64 0, .string ⟨#[]⟩, .int .i64 0, .int .i64 0, .int .i64 0, .int .i64 0, .int .i64 0, .int .i64 0, .int .i64 0, .int .i64 0, .int .i64 0, .int .i64 0, .slice none 0 0, .string ⟨#[]⟩, .string ⟨#[]⟩, .string ⟨#[]⟩, .bool false, .bool false]] rfl (by kernel_rfl) (by kernel_rfl) (by kernel_rfl)
      (OpenSpec.preRow_of_cond 8 hx rfl (fun k hk => by cases hk) (by kernel_rfl) (laid_met os _))) ?_
  intro W base args ds gs before hval0 hW _ _ _ hL hsh _
  have hval : ∀ (j : Nat) t v, Tryz.f3.params[j]? = some t → args[j]? = some v → Value.okWide Tryz.prog W .any base t v := hval0
  have hW' := hW
  obtain ⟨p, q, hA0, hV, rfl, hfz, hnd⟩ := hW
  have hA : DataW.TrodAll enc Tryz.prog W 0 (fun _ => true) true Tryz.f3.params.toList args.toList ds p := hA0
  rw [Tryz.params3] at hA hval
  obtain ⟨v0, v1, v2, d0, d1, d2, p0, p1, p2, rfl, rfl, rfl, h0, h1, h2⟩ := trodAll_three hA
  obtain ⟨rfl, rfl⟩ := trodVars_none hV
  simp only [List.append_nil] at hfz hnd hW'
  have hlt : ∀ x ∈ p0 ++ p1 ++ p2, x.block < W.heap.size := fun x hx => hW'.lt x hx
  have h0k := h0
  obtain ⟨u0, rfl, hr0⟩ := open_url (hval 0 27 v0 rfl rfl) h0
  have h1k := h1
  obtain ⟨u1, rfl, hr1⟩ := open_url (hval 1 27 v1 rfl rfl) h1
  have h2k := h2
  obtain ⟨u2, rfl, hr2⟩ := open_url (hval 2 27 v2 rfl rfl) h2
  refine (UrlSameL_c u0 u1 u2 W hr0 hr1 hr2 (gl_of hsh) (tabs_laid hL)).mono fun e W' ⟨he, hb⟩ => ?_
  subst he
  refine ⟨_, rfl, _, _, _, [], p0 ++ p1 ++ p2, [], hW', ?_, ?_, ?_, hb.frame _, fun h => by cases h⟩
  · exact trodAll_mk1 (shut_bool Tryz.underlying4 _)
  · have h3 := trodAll_mk3 (Below.trod laidOut (by kernel_rfl) (of_decide_eq_true (by kernel_rfl)) h0k hb (fun x hx => hlt x (by simp [hx]))) (Below.trod laidOut (by kernel_rfl) (of_decide_eq_true (by kernel_rfl)) h1k hb (fun x hx => hlt x (by simp [hx]))) (Below.trod laidOut (by kernel_rfl) (of_decide_eq_true (by kernel_rfl)) h2k hb (fun x hx => hlt x (by simp [hx])))
    rw [← List.append_assoc] at h3
    exact h3
  · rfl
theorem urlSame_k0 : Rows.urlSameRow.wf (OpenSpec.ofChange (OpenSpec.ofChange Rows.urlSameSpec).bare) = true := by kernel_rfl
theorem urlSame_k3 : Tryz.f3.params.all (PP.readableRec ·) = true := by kernel_rfl
theorem urlSame_k4 : namedTie PP Rows.urlSameRow.named (OpenSpec.ofChange Rows.urlSameSpec).bare.vars = true := by kernel_rfl
theorem urlSame_k5 : (Rows.urlSameRow.stops == []) = true := by kernel_rfl
theorem urlSame_k7 : (Rows.urlSameRow.knobs == []) = true := by kernel_rfl
theorem urlSame_k9 : (Rows.urlSameRow.inPlace == PP.inPlace 3) = true := by kernel_rfl
theorem urlSame_k10 : (Rows.urlSameRow.unfollowed == PP.unfollowed 3) = true := by kernel_rfl
theorem urlSame_k11 : (Rows.urlSameRow.recurses == PP.recurses 3) = true := by kernel_rfl
theorem urlSame_k12 : (Rows.urlSameRow.named == PP.varsNamed 3) = true := by kernel_rfl
theorem urlSame_k13 : (Rows.urlSameRow.maps == (Tryz.f3.params.toList ++ (OpenSpec.ofChange Rows.urlSameSpec).bare.plain.varTypes PP).any (PP.mapsRec ·)) = true := by kernel_rfl
theorem urlSame_k14 : (Rows.urlSameRow.ifaces == (Tryz.f3.params.toList ++ (OpenSpec.ofChange Rows.urlSameSpec).bare.plain.varTypes PP).any (PP.ifacesRec ·)) = true := by kernel_rfl
theorem urlSame_k15 : (Rows.urlSameRow.mapsOut == PP.mapsAmong Tryz.f3.resultTypes.toList) = true := by kernel_rfl
theorem urlSame_k16 : (Rows.urlSameRow.loops == (Tryz.f3.params.toList ++ (OpenSpec.ofChange Rows.urlSameSpec).bare.plain.varTypes PP).any (PP.loopsFrom ·)) = true := by kernel_rfl
theorem urlSame_k17 : (Rows.urlSameRow.wideKeys == (Tryz.f3.params.toList ++ (OpenSpec.ofChange Rows.urlSameSpec).bare.plain.varTypes PP ++ Tryz.f3.resultTypes.toList).any (PP.wideKeysFrom ·)) = true := by kernel_rfl
theorem urlSame_k18 : (OpenSpec.ofChange Rows.urlSameSpec).bare.vars.all (PP.varReadable ·) = true := by kernel_rfl
theorem urlSame_k19 : Tryz.f3.resultTypes.all (fun t => PP.readableRec t && decide (t < PP.types.size)) = true := by kernel_rfl
theorem urlSame_k20 : (Rows.urlSameRow.ifacesOut == Tryz.f3.resultTypes.toList.any (PP.ifacesRec ·)) = true := by kernel_rfl
theorem urlSame_k21 : (Rows.urlSameRow.loopsOut == Tryz.f3.resultTypes.toList.any (PP.loopsFrom ·)) = true := by kernel_rfl
theorem urlSame_k23 : Rows.urlSameRow.shortTexts.isNone = true := by kernel_rfl
theorem urlSame_k28 : (Rows.urlSameRow.kinds == (if Rows.urlSameRow.domain.isEmpty then [] else Tryz.f3.params.toList.map fun t => match PP.underlying t with | some (.int k) => some k | _ => none)) = true := by kernel_rfl
theorem urlSame_k29 : (Rows.urlSameRow.pinned == Rows.urlSameRow.pinnedBy) = true := by kernel_rfl
theorem urlSame_k30 : (Rows.urlSameRow.veiled == (Tryz.f3.params.toList ++ (OpenSpec.ofChange Rows.urlSameSpec).bare.plain.varTypes PP ++ Tryz.f3.resultTypes.toList).any (PP.veiledRec ·)) = true := by kernel_rfl
theorem urlSame_k31 : Rows.urlSameRow.veiledFits PP Tryz.f3.params.toList (Tryz.f3.params.toList ++ (OpenSpec.ofChange Rows.urlSameSpec).bare.plain.varTypes PP ++ Tryz.f3.resultTypes.toList) = true := by kernel_rfl
set_option maxRecDepth 100000 in
theorem urlSame_closed : joinedFacts PP 3 Tryz.f3 (OpenSpec.ofChange Rows.urlSameSpec).bare Rows.urlSameRow = true := and2 (and2 (and2 (and2 (and2 (and2 (and2 (and2 (and2 (and2 (and2 (and2 (and2 (and2 (and2 (and2 (and2 (and2 (and2 (and2 (and2 (and2 (and2 (and2 (and2 (and2 (and2 (and2 (and2 (and2 (and2 (urlSame_k0) j_laidOut) j_rowed) urlSame_k3) urlSame_k4) urlSame_k5) j_stops) urlSame_k7) j_knobs) urlSame_k9) urlSame_k10) urlSame_k11) urlSame_k12) urlSame_k13) urlSame_k14) urlSame_k15) urlSame_k16) urlSame_k17) urlSame_k18) urlSame_k19) urlSame_k20) urlSame_k21) j_plain) urlSame_k23) j_heard) j_enter) j_lift) j_make) urlSame_k28) urlSame_k29) urlSame_k30) urlSame_k31
theorem urlSame_named : Tryz.pinned.checked.prog.funcNamed Rows.urlSameRow.func = some 3 := by kernel_rfl
theorem urlSame_text : Rows.urlSameRow.wfByText (OpenSpec.ofChange Rows.urlSameSpec) = true := by kernel_rfl
theorem urlSame_goes : false = Rows.urlSameRow.goesBy Tryz.pinned.checked.prog := by kernel_rfl
theorem urlSame_said : Rows.UrlSameSaid :=
  OpenClaim.holds_of_cond 3 Tryz.f3 rfl rfl rfl rfl rfl rfl rfl ⟨rfl, rfl, rfl, rfl, rfl⟩ rfl rfl rfl rfl rfl urlSame_named Tryz.func3 urlSame_closed
    (of_decide_eq_true (by kernel_rfl)) (by unfold Func.isWrapper; first | (rw [if_pos (by decide +kernel)]; kernel_rfl) | (rw [if_neg (by decide +kernel)]; exact ⟨rfl, rfl⟩))
    (fun os started H enc _ F => by rw [OpenClaim.pre_eq_preRow]; exact urlSame_lifted os started H enc F)
theorem urlSame_plain (f : FuncId) (fn : Func) (hf : Tryz.pinned.checked.prog.funcNamed "postmark/postmarklaw09.UrlSame" = some f) (hfn : Tryz.pinned.checked.prog.funcs[f]? = some fn) :
    true = Tryz.pinned.checked.prog.looks [] ∧ ∀ (j : Nat) t, fn.params[j]? = some t → Tryz.pinned.checked.prog.wantsStandIn t = false := by
  obtain rfl : f = 3 := Option.some.inj ((show Tryz.prog.funcNamed "postmark/postmarklaw09.UrlSame" = some 3 by kernel_rfl).symm.trans hf) |>.symm
  obtain rfl : fn = Tryz.f3 := (Option.some.inj (Tryz.func3.symm.trans hfn)).symm
  refine ⟨by kernel_rfl, fun j t ht => ?_⟩
  rw [Tryz.params3] at ht
  have hm := Array.mem_of_getElem? ht
  simp only [Array.mem_def, List.mem_cons, List.not_mem_nil, or_false] at hm
  rcases hm with rfl | rfl | rfl
  · exact (show Tryz.prog.wantsStandIn 27 = false by kernel_rfl)
  · exact (show Tryz.prog.wantsStandIn 27 = false by kernel_rfl)
  · exact (show Tryz.prog.wantsStandIn 27 = false by kernel_rfl)
theorem urlSame_holds : Rows.UrlSameCardSaid :=
  Claim7.holds_tied_plain_at .later [] _ _ _ _ urlSame_said (fun _ h => by cases h) urlSame_text (fun _ h => by cases h) urlSame_row_tie rfl ⟨rfl, rfl⟩ j_main rfl urlSame_plain urlSame_goes
#print axioms urlSame_holds
end Go.Proofs.YtlcckikfmlhgjaaGreatDoor
