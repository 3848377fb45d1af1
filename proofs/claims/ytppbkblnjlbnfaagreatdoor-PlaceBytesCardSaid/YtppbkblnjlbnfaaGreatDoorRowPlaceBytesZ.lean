/-
PlaceBytes: whatever comes in, the law's call returns true, and the arguments read behind the call as they did before; no condition on them. The row lists the two tables of unicode/utf8 (first, acceptRanges); the card ties them.
-/
import Derived.Test.YtppbkblnjlbnfaaGreatDoorTz
import Derived.Test.YtppbkblnjlbnfaaGreatDoorPw
set_option linter.unusedVariables false
set_option linter.unusedSimpArgs false
/-! The walk of PlaceBytes. -/
namespace Go.Proofs.YtppbkblnjlbnfaaGreatDoor
open Go.RowKit
theorem one_small {a : PM.L} (h : a.length ≤ 1000) : ∀ f ∈ ([(PM.LOC, a)] : PM.Fs), f.1.length ≤ 1000 ∧ f.2.length ≤ 1000 := by
  intro f hf
  simp at hf
  subst hf
  exact ⟨show PM.LOC.length ≤ 1000 by decide, h⟩
theorem res_path_few {b u : PM.Url} {s : List UInt8} (h : PM.resolve b s = some u) (hs : s.length ≤ 220) (hb : b.path.length ≤ 60) : u.path.length ≤ 900 := by
  rw [PM.resolve_eq] at h
  have hcl := clean_len s
  split at h
  · cases h
  · split at h
    · have := (parse_short h).pn
      omega
    · split at h
      · cases h
      · rename_i h0
        split at h
        · have h1 := (parse_short h).pn
          have h2 : b.scheme.length ≤ 5 := by rcases PM.web_cases h0 with e | e <;> rw [e] <;> decide
          simp at h1
          omega
        · simp at h
          subst h
          have ht := (tail_len3 (PM.clean s)).1
          show (PM.wayP b.path (PM.tail (PM.clean s)).1).length ≤ 900
          have hsp := pathSplit_len (PM.tail (PM.clean s)).1
          unfold PM.wayP
          split
          · omega
          · split
            · have hc := normGo_cnt (PM.pathSplit (PM.tail (PM.clean s)).1) []
              have : (PM.pathParse (PM.tail (PM.clean s)).1).length ≤ 0 + (PM.pathSplit (PM.tail (PM.clean s)).1).length := hc
              omega
            · have hc := normGo_cnt (b.path.dropLast ++ PM.pathSplit (PM.tail (PM.clean s)).1) []
              have : (PM.mergeP b.path (PM.tail (PM.clean s)).1).length ≤ 0 + (b.path.dropLast ++ PM.pathSplit (PM.tail (PM.clean s)).1).length := hc
              simp at this
              omega
theorem place_path {a : PM.L} {cur p : PM.Url} (h : PM.placeP [(PM.LOC, a)] cur = (p, 1)) (ha : a.length ≤ 100) (hc : cur.path.length ≤ 60) : p.path.length ≤ 900 := by
  obtain ⟨h1, v, hv, hx⟩ := PM.placeOf_some h
  rw [PM.raw_one (by decide)] at hv
  have hw := wide_len a
  have := res_path_few hv (show (PM.wide a).length ≤ 220 by omega) hc
  rw [hx]
  unfold PM.inherit
  split
  · exact this
  · exact this
theorem parse_okF {o : Option PM.Url} {B : Nat} {e : Ending} {w' : World} {p : PM.Url} (h : ParseRF o B e w') (ho : o = some p) (hl : p.path.length ≤ 10000) : ∃ v : UV, e = .returned (.tuple #[.agg v.cells, .bool true]) ∧ v.pm = p ∧ From B v.a v.xs ∧ v.Ok w' := by
  subst ho
  obtain ⟨v, h1, h2, h4, h3⟩ := h
  have h2' : v.pm = p := h2
  have hx : v.xs = v.pm.path := rfl
  exact ⟨v, h1, h2', h4, h3 (by rw [hx, h2']; exact hl)⟩
theorem parse_noF {o : Option PM.Url} {B : Nat} {e : Ending} {w' : World} (h : ParseRF o B e w') (ho : o = none) : ∃ v : UV, e = .returned (.tuple #[.agg v.cells, .bool false]) ∧ v.pm = uz.pm ∧ From B v.a v.xs ∧ v.Ok w' := by
  subst ho
  obtain ⟨v, h1, h2, h4, h3⟩ := h
  have h2' : v.pm = uz.pm := h2
  have hx : v.xs = v.pm.path := rfl
  exact ⟨v, h1, h2', h4, h3 (by rw [hx, h2']; decide)⟩
set_option maxRecDepth 100000 in
set_option maxHeartbeats 16000000 in
theorem Resolve3_c (b : UV) (s : List UInt8) (w : World) (hs : s.length ≤ 30000) (hs2 : PM.whole s = false → s.length ≤ 3000) (hb0 : b.Ok w) (hn : b.xs.length ≤ 900) (hg : Gl w) (hT : Lib.Utf8Tabs 2 3 w) : Calls Tryz.prog 41 #[.agg b.cells, .string (mkS s)] w fun e w' => ParseRF (PM.resolve b.pm s) w.heap.size e w' ∧ Below w.heap.size w w' := by
  have HG := Lib.hid hg
  have HTB := Lib.hid hT
  have OB := Lib.hid hb0
  have HN := Lib.hid hn
  have HC : Hid (∀ W, Lib.Utf8Tabs 2 3 W → Calls Tryz.prog 70 #[.string (mkS s)] W fun e w' => e = .returned (.string (mkS (PM.clean s))) ∧ Below W.heap.size W w') := Lib.hid fun W h => Clean_c s (by omega) W h
  have hcl := clean_len s
  have hr : PM.resolve b.pm s = PM.resolveC b.pm (PM.clean s) := rfl
  rw [hr]
  have hwc : PM.whole (PM.clean s) = false → (PM.clean s).length ≤ 3000 := fun h => Nat.le_trans hcl (hs2 (by rw [← PM.whole_clean]; exact h))
  obtain ⟨c, hc⟩ : ∃ c, PM.clean s = c := ⟨_, rfl⟩
  rw [hc] at hcl HC hwc ⊢
  have HCL : Hid (c.length ≤ 30000) := Lib.hid (by omega)
  have HWC := Lib.hid hwc
  clear hg hT hb0 hn hs hcl hr hc hs2 hwc
  have hrc : PM.resolveC b.pm c = if !PM.urlMay b.pm then none else if PM.whole c then PM.urlParse c else if PM.web b.pm.scheme = 0 then none else if PM.two47 c then PM.urlParse (b.pm.scheme ++ 58 :: c) else some (PM.beside b.pm c) := rfl
  have HR := Lib.hid hrc
  clear hrc
  have HB : Hid (Below w.heap.size w ((w.alloc (.cells b.cells 27)).alloc (.cells #[.string ⟨#[]⟩, .string ⟨#[]⟩, .string ⟨#[]⟩, .int .i64 0, .string ⟨#[]⟩, .int .i64 0, .int .i64 0, .int .i64 0, .int .i64 0, .int .i64 0, .int .i64 0, .int .i64 0, .int .i64 0, .int .i64 0, .int .i64 0, .slice none 0 0, .string ⟨#[]⟩, .string ⟨#[]⟩, .string ⟨#[]⟩, .bool false, .bool false] 27))) := Lib.hid (b_alloc (b_alloc (Below.refl _ _) _) _)
  have Hb : Hid (((w.alloc (.cells b.cells 27)).alloc (.cells #[.string ⟨#[]⟩, .string ⟨#[]⟩, .string ⟨#[]⟩, .int .i64 0, .string ⟨#[]⟩, .int .i64 0, .int .i64 0, .int .i64 0, .int .i64 0, .int .i64 0, .int .i64 0, .int .i64 0, .int .i64 0, .int .i64 0, .int .i64 0, .slice none 0 0, .string ⟨#[]⟩, .string ⟨#[]⟩, .string ⟨#[]⟩, .bool false, .bool false] 27)).heap[w.heap.size]? = some (.cells b.cells 27 (0, 0))) := Lib.hid (heap_b (b_alloc (Below.refl _ _) _) (by have h := Go.heap_alloc_new w (.cells b.cells 27); simpa using h))
  have Hz : Hid (((w.alloc (.cells b.cells 27)).alloc (.cells #[.string ⟨#[]⟩, .string ⟨#[]⟩, .string ⟨#[]⟩, .int .i64 0, .string ⟨#[]⟩, .int .i64 0, .int .i64 0, .int .i64 0, .int .i64 0, .int .i64 0, .int .i64 0, .int .i64 0, .int .i64 0, .int .i64 0, .int .i64 0, .slice none 0 0, .string ⟨#[]⟩, .string ⟨#[]⟩, .string ⟨#[]⟩, .bool false, .bool false] 27)).heap[w.heap.size + 1]? = some (.cells #[.string ⟨#[]⟩, .string ⟨#[]⟩, .string ⟨#[]⟩, .int .i64 0, .string ⟨#[]⟩, .int .i64 0, .int .i64 0, .int .i64 0, .int .i64 0, .int .i64 0, .int .i64 0, .int .i64 0, .int .i64 0, .int .i64 0, .int .i64 0, .slice none 0 0, .string ⟨#[]⟩, .string ⟨#[]⟩, .string ⟨#[]⟩, .bool false, .bool false] 27 (0, 0))) := Lib.hid ((by have h := Go.heap_alloc_new (w.alloc (.cells b.cells 27)) (.cells #[.string ⟨#[]⟩, .string ⟨#[]⟩, .string ⟨#[]⟩, .int .i64 0, .string ⟨#[]⟩, .int .i64 0, .int .i64 0, .int .i64 0, .int .i64 0, .int .i64 0, .int .i64 0, .int .i64 0, .int .i64 0, .int .i64 0, .int .i64 0, .slice none 0 0, .string ⟨#[]⟩, .string ⟨#[]⟩, .string ⟨#[]⟩, .bool false, .bool false] 27); simpa using h))
  go_enter Tryz.func41, Tryz.ntmps41
  go_upto_region 1 with fail
  generalize (w.alloc (.cells b.cells 27)).alloc (.cells #[.string ⟨#[]⟩, .string ⟨#[]⟩, .string ⟨#[]⟩, .int .i64 0, .string ⟨#[]⟩, .int .i64 0, .int .i64 0, .int .i64 0, .int .i64 0, .int .i64 0, .int .i64 0, .int .i64 0, .int .i64 0, .int .i64 0, .int .i64 0, .slice none 0 0, .string ⟨#[]⟩, .string ⟨#[]⟩, .string ⟨#[]⟩, .bool false, .bool false] 27) = V0 at HB Hb Hz ⊢
  generalize hbz : w.heap.size + 1 = bz at Hz ⊢
  have hlw_bz : w.heap.size ≤ bz := by omega
  have hne_z_b : w.heap.size < bz := by omega
  clear hbz
  have OB2 := Lib.hid (OB.out.below HB.out)
  clear OB
  go_wp2_with fail
  refine (HC.out _ (tabs_below HTB.out HB.out)).mono ?_
  rintro e V1 ⟨rfl, hb⟩
  replace HB := Lib.hid (b_then HB.out hb)
  replace Hz := Lib.hid (obj_b hb Hz.out)
  replace Hb := Lib.hid (obj_b hb Hb.out)
  replace OB2 := Lib.hid (OB2.out.below hb)
  clear hb
  clear HC
  obtain ⟨m, hm⟩ : ∃ m, PM.urlMay b.pm = m := ⟨_, rfl⟩
  have HM := Lib.hid hm
  rw [hm] at HR
  clear hm
  obtain ⟨p, hp⟩ : ∃ p, PM.whole c = p := ⟨_, rfl⟩
  have HP := Lib.hid hp
  rw [hp] at HR
  clear hp
  go_wp2_with (first | go_skip | (refine wpList_load_g 27 _ rfl (by kernel_rfl) w.heap.size rfl Hb.out Tryz.underlying27 rfl (by kernel_rfl) ?_))
  refine (urlMay_c b _ OB2.out (HG.out.below HB.out)).mono ?_
  rw [HM.out]
  rintro e V2 ⟨rfl, hb⟩
  replace HB := Lib.hid (b_then HB.out hb)
  replace Hz := Lib.hid (obj_b hb Hz.out)
  replace Hb := Lib.hid (obj_b hb Hb.out)
  replace OB2 := Lib.hid (OB2.out.below hb)
  clear hb
  cases m
  · skip
    go_wp2_with (first | go_skip | (refine wpList_store_row rfl 27 _ _ rfl bz uz.cells rfl rfl 27 _ Hz.out (by kernel_rfl) rfl (agg_one uz) ?_))
    refine bodyPost_ret (results_cell_tmp (fr := (0, 0)) rfl _ _ bz 27 uz.cells _ rfl (heap_setRow Hz.out _) Tryz.underlying27 rfl (by kernel_rfl)) rfl ?_
    exact ⟨by rw [HR.out]; exact ⟨uz, rfl, rfl, (fun g o e _ => by cases e), fun _ => ⟨by decide, by decide, by decide, by decide, by decide, by decide, by decide, by decide, by simp [uz], zrd _⟩⟩, below_setRow HB.out hlw_bz _⟩
  go_wp2_with fail
  refine (Whole_c c (Nat.le_trans HCL.out (by decide)) _ (HG.out.below HB.out) (tabs_below HTB.out HB.out)).mono ?_
  rw [HP.out]
  rintro e V3 ⟨rfl, hb⟩
  replace HB := Lib.hid (b_then HB.out hb)
  replace Hz := Lib.hid (obj_b hb Hz.out)
  replace Hb := Lib.hid (obj_b hb Hb.out)
  replace OB2 := Lib.hid (OB2.out.below hb)
  clear hb
  cases p
  rotate_left
  · skip
    have hlt : bz < V3.heap.size := h_lt Hz.out
    have HLT := Lib.hid hlt
    clear hlt
    go_wp2_with fail
    refine (UrlParseF_c c (Nat.le_trans HCL.out (by decide)) _ (HG.out.below HB.out) (tabs_below HTB.out HB.out)).mono ?_
    unfold ParseRF
    rintro e V4 ⟨⟨v, rfl, hvp, hvf, hvo⟩, hb⟩
    replace HB := Lib.hid (b_then HB.out hb)
    replace Hz := Lib.hid (obj_b hb Hz.out)
    replace Hb := Lib.hid (obj_b hb Hb.out)
    replace OB2 := Lib.hid (OB2.out.below hb)
    clear hb
    have VP := Lib.hid hvp
    have VO := Lib.hid hvo
    clear hvp hvo
    have hbz2 : From (bz + 1) v.a v.xs := fun g o e hx => by have := hvf g o e hx; have := HLT.out; omega
    have HVF := Lib.hid hbz2
    clear hvf hbz2
    go_wp2_with (first | go_skip | (refine wpList_store_row rfl 27 _ _ rfl bz v.cells rfl rfl 27 _ Hz.out (by kernel_rfl) rfl (agg_one v) ?_))
    refine bodyPost_ret (results_cell_tmp (fr := (0, 0)) rfl _ _ bz 27 v.cells _ rfl (heap_setRow Hz.out _) Tryz.underlying27 rfl (by kernel_rfl)) rfl ?_
    exact ⟨by rw [HR.out]; exact ⟨v, rfl, VP.out, (fun g o e hx => by have := HVF.out g o e hx; omega), fun h => Ok_row (VO.out h) HVF.out (Nat.lt_succ_self _) _⟩, below_setRow HB.out hlw_bz _⟩
  replace HCL : Hid (c.length ≤ 3000) := Lib.hid (HWC.out HP.out)
  clear HWC
  obtain ⟨c0, c1, c2, c3, c4, c5, c6, c7, c8, c9, c10, c11, c12, c13, c14, c15, c16, c17, c18, c19, c20⟩ := UrlAt.of_heap Hb.out
  go_wp2_with fail
  refine (Web_c b.sc _).mono ?_
  rintro e V50 ⟨rfl, rfl⟩
  clear c0 c1 c2 c3 c4 c5 c6 c7 c8 c9 c10 c11 c12 c13 c14 c15 c16 c17 c18 c19 c20
  by_cases hw : PM.web b.sc = 0
  · have hw2 : (PM.web b.sc == 0) = true := by simpa using hw
    have HW := Lib.hid hw
    clear hw
    replace HR : Hid (PM.resolveC b.pm c = none) := Lib.hid (by rw [HR.out, if_neg (by simp), if_neg (by simp), if_pos (show PM.web b.pm.scheme = 0 from HW.out)])
    go_wp2_with (first | go_skip | (refine wpList_store_row rfl 27 _ _ rfl bz uz.cells rfl rfl 27 _ Hz.out (by kernel_rfl) rfl (agg_one uz) ?_))
    refine bodyPost_ret (results_cell_tmp (fr := (0, 0)) rfl _ _ bz 27 uz.cells _ rfl (heap_setRow Hz.out _) Tryz.underlying27 rfl (by kernel_rfl)) rfl ?_
    exact ⟨by rw [HR.out]; exact ⟨uz, rfl, rfl, (fun g o e _ => by cases e), fun _ => ⟨by decide, by decide, by decide, by decide, by decide, by decide, by decide, by decide, by simp [uz], zrd _⟩⟩, below_setRow HB.out hlw_bz _⟩
  have hw2 : (PM.web b.sc == 0) = false := by simpa using hw
  have HW := Lib.hid hw
  clear hw
  obtain ⟨r, hr⟩ : ∃ r, PM.two47 c = r := ⟨_, rfl⟩
  have HRR := Lib.hid hr
  rw [hr] at HR
  clear hr
  replace HR : Hid (PM.resolveC b.pm c = if r then PM.urlParse (b.pm.scheme ++ 58 :: c) else some (PM.beside b.pm c)) := Lib.hid (by rw [HR.out, if_neg (by simp), if_neg (by simp), if_neg (show PM.web b.pm.scheme ≠ 0 from HW.out)])
  have HSC : Hid (b.sc.length ≤ 5) := Lib.hid (by rcases PM.web_cases HW.out with e | e <;> rw [e] <;> decide)
  go_wp2_with fail
  refine (HasP2_c c _).mono ?_
  rw [HRR.out]
  rintro e V51 ⟨rfl, rfl⟩
  clear hw2
  cases r
  rotate_left
  · have hlt : bz < V51.heap.size := h_lt Hz.out
    have HLT := Lib.hid hlt
    clear hlt
    replace HR : Hid (PM.resolveC b.pm c = PM.urlParse (b.sc ++ 58 :: c)) := Lib.hid (HR.out.trans (if_pos rfl))
    have c0 : V51.cell? ⟨w.heap.size, 0, none⟩ = some (.string (mkS b.sc)) := by rw [Lib.cell_of_heap Hb.out]; rfl
    have l1 : ¬ 9223372036854775807 < b.sc.length + 1 := by have := HSC.out; omega
    have l2 : ¬ 9223372036854775807 < b.sc.length + 1 + c.length := by have := HSC.out; have := HCL.out; omega
    have he : mkS b.sc ++ { data := #[58] } ++ mkS c = mkS (b.sc ++ 58 :: c) := by
      show mkS b.sc ++ mkS [58] ++ mkS c = _
      rw [mkS_append, mkS_append]
      simp
    have HE := Lib.hid he
    clear he
    go_wp2_with fail
    rw [HE.out]
    refine (UrlParseF_c (b.sc ++ 58 :: c) (by have := HSC.out; have := HCL.out; simp; omega) _ (HG.out.below HB.out) (tabs_below HTB.out HB.out)).mono ?_
    unfold ParseRF
    rintro e V52 ⟨⟨v, rfl, hvp, hvf, hvo⟩, hb⟩
    clear c0 l1 l2
    replace HB := Lib.hid (b_then HB.out hb)
    replace Hz := Lib.hid (obj_b hb Hz.out)
    replace Hb := Lib.hid (obj_b hb Hb.out)
    replace OB2 := Lib.hid (OB2.out.below hb)
    clear hb
    have VP := Lib.hid hvp
    have VO := Lib.hid hvo
    clear hvp hvo
    have hbz2 : From (bz + 1) v.a v.xs := fun g o e hx => by have := hvf g o e hx; have := HLT.out; omega
    have HVF := Lib.hid hbz2
    clear hvf hbz2
    go_wp2_with (first | go_skip | (refine wpList_store_row rfl 27 _ _ rfl bz v.cells rfl rfl 27 _ Hz.out (by kernel_rfl) rfl (agg_one v) ?_))
    refine bodyPost_ret (results_cell_tmp (fr := (0, 0)) rfl _ _ bz 27 v.cells _ rfl (heap_setRow Hz.out _) Tryz.underlying27 rfl (by kernel_rfl)) rfl ?_
    exact ⟨by rw [HR.out]; exact ⟨v, rfl, VP.out, (fun g o e hx => by have := HVF.out g o e hx; omega), fun h => Ok_row (VO.out h) HVF.out (Nat.lt_succ_self _) _⟩, below_setRow HB.out hlw_bz _⟩
  replace HR : Hid (PM.resolveC b.pm c = some (PM.beside b.pm c)) := Lib.hid (HR.out.trans (if_neg (by simp)))
  have HBW : Hid (PM.urlMay b.pm = true ∧ PM.web b.pm.scheme ≠ 0) := Lib.hid ⟨HM.out, HW.out⟩
  have hlz : bz < V51.heap.size := h_lt Hz.out
  have HLZ := Lib.hid hlz
  clear hlz
  go_wp2_with (first | go_skip | (refine wpList_load_g 27 _ rfl (by kernel_rfl) w.heap.size rfl Hb.out Tryz.underlying27 rfl (by kernel_rfl) ?_))
  refine (Bare2_c b _ OB2.out).mono ?_
  rintro e V3 ⟨x, rfl, hxp, hxo, hxf, hcap, hb⟩
  replace HB := Lib.hid (b_then HB.out hb)
  replace Hz := Lib.hid (obj_b hb Hz.out)
  replace Hb := Lib.hid (obj_b hb Hb.out)
  replace OB2 := Lib.hid (OB2.out.below hb)
  clear hb
  have XP := Lib.hid hxp
  have XO := Lib.hid hxo
  have hoff : Off V3.heap.size x := ⟨fun g o e hx => by
      obtain ⟨b', o', e', hl, _⟩ := hxo.rd.at_.resolve_left hx
      rw [e] at e'
      cases e'
      omega, hcap⟩
  have HOFF := Lib.hid hoff
  have hxf2 : From (bz + 1) x.a x.xs := fun g o e hx => by have := hxf g o e hx; have : bz < V51.heap.size := HLZ.out; omega
  have XF := Lib.hid hxf2
  clear hxp hxo hxf hcap hoff OB2 hxf2
  go_upto_region 11 with (first | go_skip | (refine wpList_work rfl _ rfl x rfl ?_))
  obtain ⟨V4, hV⟩ : ∃ V4, V4 = V3.alloc (.cells (newX x).cells 102) := ⟨_, rfl⟩
  rw [← hV]
  have hb : Below V3.heap.size V3 V4 := by rw [hV]; exact b_alloc (Below.refl _ _) _
  have hxa : XAt V3.heap.size (newX x) V4 := ⟨by rw [hV]; exact Go.heap_alloc_new _ _, XO.out.below hb, HOFF.out⟩
  have HXA := Lib.hid hxa
  clear hV hxa XO HOFF
  have hltz : bz < V3.heap.size := h_lt Hz.out
  have hlb : w.heap.size < V3.heap.size := h_lt Hb.out
  replace HB := Lib.hid (b_then HB.out hb)
  replace Hz := Lib.hid (obj_b hb Hz.out)
  replace Hb := Lib.hid (obj_b hb Hb.out)
  clear hb
  generalize V3.heap.size = bw at HXA hltz hlb ⊢
  obtain ⟨t, y, z, q, f, htl⟩ : ∃ t y z q f, PM.tail c = (t, y, z, q, f) := ⟨_, _, _, _, _, rfl⟩
  have HTL := Lib.hid htl
  have hT := fun W h => Tail_c c (Nat.le_trans HCL.out (by decide)) W h
  rw [htl] at hT
  have HT := Lib.hid hT
  have htlen : t.length ≤ 3000 ∧ y.length ≤ 3000 ∧ z.length ≤ 3000 := by
    have h := tail_len3 c
    rw [htl] at h
    have := HCL.out
    exact ⟨Nat.le_trans h.1 this, Nat.le_trans h.2.1 this, Nat.le_trans h.2.2 this⟩
  have HTN := Lib.hid htlen
  clear htl hT htlen
  go_wp2_with fail
  refine (HT.out _ (HG.out.below HB.out)).mono ?_
  rintro e V5 ⟨rfl, hb⟩
  replace HXA := Lib.hid (HXA.out.below hb)
  replace HB := Lib.hid (b_then HB.out hb)
  replace Hz := Lib.hid (obj_b hb Hz.out)
  replace Hb := Lib.hid (obj_b hb Hb.out)
  clear hb
  have c21 : V5.cell? ⟨bw, 21, none⟩ = some (.string (mkS [])) := (Lib.cell_of_heap HXA.out.at_ 21).trans rfl
  have f21 := Lib.frozen_of_heap HXA.out.at_ 21
  have c22 : V5.cell? ⟨bw, 22, none⟩ = some (.string (mkS [])) := (Lib.cell_of_heap HXA.out.at_ 22).trans rfl
  have f22 := Lib.frozen_of_heap HXA.out.at_ 22
  have c23 : V5.cell? ⟨bw, 23, none⟩ = some (.string (mkS [])) := (Lib.cell_of_heap HXA.out.at_ 23).trans rfl
  have f23 := Lib.frozen_of_heap HXA.out.at_ 23
  have c24 : V5.cell? ⟨bw, 24, none⟩ = some (.bool false) := (Lib.cell_of_heap HXA.out.at_ 24).trans rfl
  have f24 := Lib.frozen_of_heap HXA.out.at_ 24
  have c25 : V5.cell? ⟨bw, 25, none⟩ = some (.bool false) := (Lib.cell_of_heap HXA.out.at_ 25).trans rfl
  have f25 := Lib.frozen_of_heap HXA.out.at_ 25
  go_upto_region 12 with fail
  clear c21 f21 c22 f22 c23 f23 c24 f24 c25 f25
  obtain ⟨V6, hV⟩ : ∃ V6, V6 = ((((V5.setCell ⟨bw, 21, none⟩ (.string (mkS t))).setCell ⟨bw, 22, none⟩ (.string (mkS y))).setCell ⟨bw, 23, none⟩ (.string (mkS z))).setCell ⟨bw, 24, none⟩ (.bool q)).setCell ⟨bw, 25, none⟩ (.bool f) := ⟨_, rfl⟩
  rw [← hV]
  have h5 := five_store HXA.out t y z q f
  rw [← hV] at h5
  clear hV
  replace HXA := Lib.hid h5.1
  replace Hz := Lib.hid (h5.2.2 _ _ (by omega) Hz.out)
  replace HB : Hid (Below w.heap.size w V6) := Lib.hid (HB.out.trans (h5.2.1.mono (Nat.le_of_lt hlb)))
  clear h5 Hb
  have hmf : ∀ (fn : Fn) (first cap : Array Value) (w : World), (Instr.makeFunc fn first cap).run Tryz.prog w = .ok (.func fn first cap) w := fun _ _ _ _ => rfl
  go_wp2_with fail
  obtain ⟨V7, hV⟩ : ∃ V7, V7 = V6.alloc (.cells #[.func (Fn.func 73) #[.pointer (some ⟨bw, 0, none⟩)] #[], .func (Fn.func 74) #[.pointer (some ⟨bw, 0, none⟩)] #[]] 1) := ⟨_, rfl⟩
  rw [← hV]
  have hfs : V7.heap[V6.heap.size]? = some (.cells #[.func (Fn.func 73) #[.pointer (some ⟨bw, 0, none⟩)] #[], .func (Fn.func 74) #[.pointer (some ⟨bw, 0, none⟩)] #[]] 1 (0, 0)) := by rw [hV]; exact Go.heap_alloc_new _ _
  have hb : Below V6.heap.size V6 V7 := by rw [hV]; exact b_alloc (Below.refl _ _) _
  have hbs : bw < V6.heap.size := h_lt HXA.out.at_
  replace HXA := Lib.hid (HXA.out.below hb)
  replace Hz := Lib.hid (obj_b hb Hz.out)
  replace HB := Lib.hid (b_then HB.out hb)
  have HFS := Lib.hid hfs
  clear hV hfs hb hmf
  generalize V6.heap.size = bs at HFS hbs ⊢
  have hxs : x.xs = b.xs := by
    have h := congrArg PM.Url.path XP.out
    exact h
  have hxne : x.xs ≠ [] := by rw [hxs]; exact (PM.pathMay_segs (PM.may_web HBW.out.1 HBW.out.2).2.2.2.1).1
  have HXNE := Lib.hid hxne
  have HXN : Hid (x.xs.length ≤ 900) := Lib.hid (by rw [hxs]; exact HN.out)
  clear hxs hxne
  go_loopw [74] (fun i wr => Hid (Below w.heap.size w wr) ∧ Hid (wr.heap[bz]? = some (.cells #[.string ⟨#[]⟩, .string ⟨#[]⟩, .string ⟨#[]⟩, .int .i64 0, .string ⟨#[]⟩, .int .i64 0, .int .i64 0, .int .i64 0, .int .i64 0, .int .i64 0, .int .i64 0, .int .i64 0, .int .i64 0, .int .i64 0, .int .i64 0, .slice none 0 0, .string ⟨#[]⟩, .string ⟨#[]⟩, .string ⟨#[]⟩, .bool false, .bool false] 27 (0, 0))) ∧ Hid (wr.heap[bs]? = some (.cells #[.func (Fn.func 73) #[.pointer (some ⟨bw, 0, none⟩)] #[], .func (Fn.func 74) #[.pointer (some ⟨bw, 0, none⟩)] #[]] 1 (0, 0))) ∧ ((i = .int .i64 0 ∧ Hid (XAt bw ⟨x, t, y, z, q, f⟩ wr)) ∨ (i = .int .i64 1 ∧ ∃ u1 : UV, Hid (XAt bw ⟨u1, t, y, z, q, f⟩ wr) ∧ Hid (u1.pm = { x.pm with path := PM.wayP x.pm.path t }) ∧ Hid (From (bz + 1) u1.a u1.xs)) ∨ (i = .int .i64 2 ∧ ∃ u1 : UV, Hid (XAt bw ⟨tailV ⟨u1, t, y, z, q, f⟩, t, y, z, q, f⟩ wr) ∧ Hid (u1.pm = { x.pm with path := PM.wayP x.pm.path t }) ∧ Hid (From (bz + 1) u1.a u1.xs)))) (fun i _ => 4 - (intOf i).toNat)
  case atStart => exact ⟨HB, Hz, HFS, .inl ⟨rfl, HXA⟩⟩
  case round =>
    obtain ⟨HB, Hz, HFS, hrel⟩ := hrel
    rcases hrel with ⟨rfl, HXA⟩ | ⟨rfl, u1, HXA, HPM, HFR⟩ | ⟨rfl, u1, HXA, HPM, HFR⟩
    · have q0 : wr.cell? ⟨bs, 0, none⟩ = some (.func (Fn.func 73) #[.pointer (some ⟨bw, 0, none⟩)] #[]) := by rw [Lib.cell_of_heap HFS.out]; rfl
      have hltw : bz + 1 ≤ wr.heap.size := h_lt Hz.out
      have HLTW := Lib.hid hltw
      clear hltw
      go_wp2_with fail
      refine (way_c bw ⟨x, t, y, z, q, f⟩ _ HXA.out HXNE.out HTN.out.1 HXN.out (HG.out.below HB.out)).mono ?_
      rintro e V8 ⟨rfl, u1, hxa, hpm, hbe, hkp, hfr⟩
      have H1 := Lib.hid hxa
      have H2 := Lib.hid hpm
      have H3 := Lib.hid (hfr (bz + 1) HLTW.out XF.out)
      have H4 := Lib.hid (hkp _ _ (by omega) Hz.out)
      have H5 := Lib.hid (hkp _ _ (by omega) HFS.out)
      have H6 : Hid (Below w.heap.size w V8) := Lib.hid (HB.out.trans (hbe.mono (Nat.le_of_lt hlb)))
      clear hxa hpm hbe hkp hfr q0
      go_wp2
      exact ⟨⟨H6, H4, H5, .inr (.inl ⟨rfl, u1, H1, H2, H3⟩)⟩, by simp only [intOf]; omega⟩
    · have q1 : wr.cell? ⟨bs, 1, none⟩ = some (.func (Fn.func 74) #[.pointer (some ⟨bw, 0, none⟩)] #[]) := by rw [Lib.cell_of_heap HFS.out]; rfl
      go_wp2_with fail
      refine (tail_c bw u1 t y z q f _ HXA.out HTN.out.2.1 HTN.out.2.2).mono ?_
      rintro e V9 ⟨rfl, hxa, hbe, hkp⟩
      have H1 := Lib.hid hxa
      have H4 := Lib.hid (hkp _ _ (by omega) Hz.out)
      have H5 := Lib.hid (hkp _ _ (by omega) HFS.out)
      have H6 : Hid (Below w.heap.size w V9) := Lib.hid (HB.out.trans (hbe.mono (Nat.le_of_lt hlb)))
      clear hxa hbe hkp q1
      go_wp2
      exact ⟨⟨H6, H4, H5, .inr (.inr ⟨rfl, u1, H1, HPM, HFR⟩)⟩, by simp only [intOf]; omega⟩
    · go_wp2_with (first | go_skip | (refine wpList_load_mg 27 _ rfl (by kernel_rfl) bw 0 rfl (tailV ⟨u1, t, y, z, q, f⟩).cells (x_url HXA.out.at_) Tryz.underlying27 rfl (by kernel_rfl) ?_) | (refine wpList_store_row rfl 27 _ _ rfl bz (tailV ⟨u1, t, y, z, q, f⟩).cells rfl rfl 27 _ Hz.out (by kernel_rfl) rfl (agg_one (tailV ⟨u1, t, y, z, q, f⟩)) ?_))
      refine bodyPost_ret (results_cell_tmp (fr := (0, 0)) rfl _ _ bz 27 (tailV ⟨u1, t, y, z, q, f⟩).cells _ rfl (heap_setRow Hz.out _) Tryz.underlying27 rfl (by kernel_rfl)) rfl ?_
      exact ⟨by rw [HR.out]; exact ⟨(tailV ⟨u1, t, y, z, q, f⟩), rfl, tail_pm HTL.out XP.out HPM.out, (fun g o e hx => by have h : From (bz + 1) u1.a u1.xs := HFR.out; have := h g o e hx; omega), fun h => Ok_row HXA.out.ok HFR.out (Nat.lt_succ_self _) _⟩, below_setRow HB.out hlw_bz _⟩
set_option maxRecDepth 100000 in
set_option maxHeartbeats 16000000 in
theorem PlaceBytesL_c (s : List UInt8) (cur : UV) (w : World) (hrcur : RdW w cur.a cur.pn cur.xs) (hg : Gl w) (hT : Lib.Utf8Tabs 2 3 w) : Calls Tryz.prog 13 #[.string (mkS s), .agg cur.cells] w fun e w' => e = .returned (.bool true) ∧ Below w.heap.size w w' := by
  have HG := Lib.hid hg
  have HTB := Lib.hid hT
  have Rcur := Lib.hid hrcur
  clear hg hT hrcur
  have HB : Hid (Below w.heap.size w (w.alloc (.cells cur.cells 27))) := Lib.hid (b_alloc (Below.refl _ _) _)
  have Hcur : Hid ((w.alloc (.cells cur.cells 27)).heap[w.heap.size]? = some (.cells cur.cells 27 (0, 0))) := Lib.hid ((by have h := Go.heap_alloc_new w (.cells cur.cells 27); simpa using h))
  go_enter Tryz.func13, Tryz.ntmps13
  go_upto_region 1 with fail
  generalize w.alloc (.cells cur.cells 27) = V0 at HB Hcur ⊢
  go_wp2_with fail
  refine (awake18_c _ (HG.out.below HB.out) (tabs_below HTB.out HB.out)).mono ?_
  rintro e V1 ⟨rfl, hb⟩
  replace HB := Lib.hid (b_then HB.out hb)
  replace Hcur := Lib.hid (obj_b hb Hcur.out)
  clear hb
  go_wp2_with (first | go_skip | (refine wpList_load_g 27 _ rfl (by kernel_rfl) w.heap.size rfl Hcur.out Tryz.underlying27 rfl (by kernel_rfl) ?_))
  refine (Few_c cur _ (Rcur.out.below HB.out)).mono ?_
  rintro e V2 ⟨rfl, hb⟩
  replace HB := Lib.hid (b_then HB.out hb)
  replace Hcur := Lib.hid (obj_b hb Hcur.out)
  clear hb
  cases hfcur : PM.few cur.pm
  · go_wp2
    go_ret
    exact ⟨rfl, HB.out⟩
  have Ocur := Lib.hid (few_ok (Rcur.out.below HB.out) hfcur)
  have Fcur := Lib.hid hfcur
  clear hfcur
  by_cases hls : 300 < s.length
  · have hls2 : (300 : Int) < s.length := by omega
    go_wp2
    go_ret
    exact ⟨rfl, HB.out⟩
  have hls2 : decide ((300 : Int) < (s.length : Int)) = false := decide_eq_false (by omega)
  have HLs : Hid (s.length ≤ 300) := Lib.hid (by omega)
  clear hls
  have Ncur : Hid (cur.xs.length ≤ 900) := Lib.hid (few_path Fcur.out).1
  go_upto_region 6 with fail
  clear hls2
  have hb : Below V2.heap.size V2 (V2.alloc (.cells #[.string ⟨#[76, 111, 99, 97, 116, 105, 111, 110]⟩, .string (mkS s)] 50)) := b_alloc (Below.refl _ _) _
  have hN : (V2.alloc (.cells #[.string ⟨#[76, 111, 99, 97, 116, 105, 111, 110]⟩, .string (mkS s)] 50)).heap[V2.heap.size]? = some (.cells #[.string ⟨#[76, 111, 99, 97, 116, 105, 111, 110]⟩, .string (mkS s)] 50 (0, 0)) := Go.heap_alloc_new _ _
  have HF := Lib.hid hN
  clear hN
  replace HB := Lib.hid (b_then HB.out hb)
  replace Hcur := Lib.hid (obj_b hb Hcur.out)
  replace Ocur := Lib.hid (Ocur.out.below hb)
  clear hb
  generalize V2.alloc (.cells #[.string ⟨#[76, 111, 99, 97, 116, 105, 111, 110]⟩, .string (mkS s)] 50) = V3 at HB Hcur Ocur HF ⊢
  generalize V2.heap.size = bl at HF ⊢
  have hraw : PM.rawP [(PM.LOC, s)] = (PM.wide s, 1) := PM.raw_one (by decide) s
  have HRAW := Lib.hid hraw
  clear hraw
  go_wp2_with fail
  refine (Raw_c (some ⟨bl, 0, none⟩) 1 1 [(PM.LOC, s)] _ (RdFW.one HF.out) (by decide) (fun f hf => by have := one_small (Nat.le_trans HLs.out (by decide)) f hf; exact ⟨by omega, by omega⟩)).mono ?_
  rw [HRAW.out]
  rintro e V4 ⟨rfl, hb⟩
  replace HB := Lib.hid (b_then HB.out hb)
  replace Hcur := Lib.hid (obj_b hb Hcur.out)
  replace HF := Lib.hid (obj_b hb HF.out)
  replace Ocur := Lib.hid (Ocur.out.below hb)
  clear hb
  obtain ⟨o, ho⟩ : ∃ o, PM.resolve cur.pm (PM.wide s) = o := ⟨_, rfl⟩
  have HO := Lib.hid ho
  have hpl : PM.placeP [(PM.LOC, s)] cur.pm = PM.afterP o cur.pm := by rw [← ho, PM.place_bytes (by decide)]; rfl
  have HPL := Lib.hid hpl
  clear ho hpl
  have HWL : Hid ((PM.wide s).length ≤ 600) := Lib.hid (by have := wide_len s; have := HLs.out; omega)
  go_wp2_with (first | go_skip | (refine wpList_load_g 27 _ rfl (by kernel_rfl) w.heap.size rfl Hcur.out Tryz.underlying27 rfl (by kernel_rfl) ?_) | (refine wpList_load_g 27 _ rfl (by kernel_rfl) w.heap.size rfl (obj_b (b_alloc (Below.refl _ _) _) Hcur.out) Tryz.underlying27 rfl (by kernel_rfl) ?_))
  refine (Place_sm_c (some ⟨bl, 0, none⟩) 1 1 [(PM.LOC, s)] cur _ (RdFW.one HF.out) (by decide) (one_small (Nat.le_trans HLs.out (by decide))) Ocur.out Ncur.out (HG.out.below HB.out) (tabs_below HTB.out HB.out)).mono ?_
  rw [HPL.out]
  rintro e V5 ⟨⟨u, rfl, hxp, hxo⟩, hb⟩
  clear HF
  have Pu := Lib.hid hxp
  have Ou := Lib.hid hxo
  clear hxp hxo
  replace HB := Lib.hid (b_then HB.out hb)
  replace Hcur := Lib.hid (obj_b hb Hcur.out)
  replace Ocur := Lib.hid (Ocur.out.below hb)
  clear hb
  have HN := Lib.hid (Go.heap_alloc_new V5 (.cells zurl 27))
  unfold zurl at HN 
  go_upto_region 8 with (first | (refine wpList_store_row rfl 27 _ _ rfl V5.heap.size u.cells rfl rfl 27 _ HN.out (by kernel_rfl) rfl (agg_one u) ?_))
  obtain ⟨V6, hV⟩ : ∃ V6, V6 = (V5.alloc (.cells #[.string ⟨#[]⟩, .string ⟨#[]⟩, .string ⟨#[]⟩, .int .i64 0, .string ⟨#[]⟩, .int .i64 0, .int .i64 0, .int .i64 0, .int .i64 0, .int .i64 0, .int .i64 0, .int .i64 0, .int .i64 0, .int .i64 0, .int .i64 0, .slice none 0 0, .string ⟨#[]⟩, .string ⟨#[]⟩, .string ⟨#[]⟩, .bool false, .bool false] 27)).setRow V5.heap.size u.cells := ⟨_, rfl⟩
  have hN : V6.heap[V5.heap.size]? = some (.cells u.cells 27 (0, 0)) := by rw [hV]; exact heap_setRow HN.out _
  have hb : Below V5.heap.size V5 V6 := by rw [hV]; exact below_setRow (b_alloc (Below.refl _ _) _) (Nat.le_refl _) _
  rw [← hV]
  clear hV HN 
  have Hu := Lib.hid hN
  clear hN
  have hlt_ku_Hcur : w.heap.size < V5.heap.size := h_lt Hcur.out
  have hlw_ku : w.heap.size ≤ V5.heap.size := HB.out.size
  replace HB := Lib.hid (b_then HB.out hb)
  replace Hcur := Lib.hid (obj_b hb Hcur.out)
  replace Ocur := Lib.hid (Ocur.out.below hb)
  replace Ou := Lib.hid (Ou.out.below hb)
  clear hb
  generalize V5.heap.size = ku at Hu hlt_ku_Hcur hlw_ku ⊢
  (try simp only [Act.put])
  cases o with
  | none =>
    go_wp2_with fail
    go_cut [12, 13] (fun pt vt wr => ∃ (ky : Nat) (y : UV) (W9 : World), W9 = wr ∧ pt = .pointer (some ⟨ky, 0, none⟩) ∧ vt = .bool false ∧ Hid (y.pm = uz.pm) ∧ Hid (y.Ok wr) ∧ Hid (wr.heap[ky]? = some (.cells y.cells 27 (0, 0))) ∧ Hid (Bx [(w.heap.size, cur), (ku, u)] w wr))
    case first =>
      have hbx : Bx [(w.heap.size, cur), (ku, u)] w V6 := (Bx.cons (Bx.cons (Bx.nil _ _ HB.out) Hu.out Ou.out) Hcur.out Ocur.out)
      have far : ∀ k, V6.heap.size ≤ k → (∀ p ∈ ([(w.heap.size, cur), (ku, u)] : List (Nat × UV)), p.1 ≠ k ∧ Nb k p.2) ∧ w.heap.size ≤ k := fun k hk => hbx.far hk
      have FAR := Lib.hid far
      clear far
      refine wp_region_noPanic ?_
      refine wp_region_held_drew (S := fun W' => Bx [(w.heap.size, cur), (ku, u)] w W') (by kernel_rfl) (Bx.below hbx (b_drew (Below.refl _ _))) (fun hS0 => ?_)
      have hS : Bx [(w.heap.size, cur), (ku, u)] w V6.drew := hS0
      clear hS0 hbx
      have SZ : Hid (V6.heap.size ≤ V6.drew.heap.size) := Lib.hid (Nat.le_refl _)
      refine wpAnyH_take (i := 0) (v := ?_) rfl (by kernel_rfl) (by kernel_rfl) (by kernel_rfl) (fun _ _ _ h => h) (Or.inl ⟨by kernel_rfl, fun W hW => ?_⟩) (by assumption) ?_
      rotate_left
      · refine yield_row 27 (.tmp 3) ?_ w.heap.size ?_ (hW.hp (.head _)) Tryz.underlying27 rfl (by kernel_rfl)
        · rfl
        · rfl
      (try simp only [List.getElem_toArray, List.getElem_cons_zero, List.getElem_cons_succ, Act.put, List.setIfInBounds_toArray, List.set_cons_zero, List.set_cons_succ])
      refine wpAnyH_take (i := 1) (v := ?_) rfl (by kernel_rfl) (by kernel_rfl) (by kernel_rfl) (fun _ _ _ h => h) (Or.inl ⟨by kernel_rfl, fun W hW => ?_⟩) (by assumption) ?_
      rotate_left
      · go_simp
        try with_reducible rfl
      (try simp only [List.getElem_toArray, List.getElem_cons_zero, List.getElem_cons_succ, Act.put, List.setIfInBounds_toArray, List.set_cons_zero, List.set_cons_succ])
      refine wpAnyH_ready (rs := [2, 7]) (by kernel_rfl) (by simp) ?_
      refine AllReadyH.cons rfl (fun K hK => ?_) (AllReadyH.cons rfl (fun K hK => ?_) AllReadyH.nil)
      · go_simp
        refine (Wide_c s (Nat.le_trans HLs.out (by decide)) _).mono ?_
        rintro e U1 ⟨rfl, hb⟩
        replace hS := hS.below hb
        replace SZ : Hid (V6.heap.size ≤ U1.heap.size) := Lib.hid (Nat.le_trans SZ.out hb.size)
        clear hb
        refine hK.out _ _ hS (fun _ => ?_)
        clear hK K
        (try simp only [List.getElem_toArray, List.getElem_cons_zero, List.getElem_cons_succ, Act.put, List.setIfInBounds_toArray, List.set_cons_zero, List.set_cons_succ])
        refine wpAnyH_ready (rs := [3, 7]) (by kernel_rfl) (by simp) ?_
        refine AllReadyH.cons rfl (fun K hK => ?_) (AllReadyH.cons rfl (fun K hK => ?_) AllReadyH.nil)
        · go_simp
          refine (Resolve3_c cur (PM.wide s) _ (Nat.le_trans HWL.out (by decide)) (fun _ => Nat.le_trans HWL.out (by decide)) (hS.ok (.head _)) Ncur.out (HG.out.below hS.be) (tabs_below HTB.out hS.be)).mono ?_
          rintro e U2 ⟨hp, hb⟩
          obtain ⟨v, rfl, hyp, hyf, hyo⟩ := parse_noF hp HO.out
          clear hp
          replace hS := hS.below hb
          replace SZ : Hid (V6.heap.size ≤ U2.heap.size) := Lib.hid (Nat.le_trans SZ.out hb.size)
          have Pv := Lib.hid hyp
          have Ov := Lib.hid hyo
          clear hb hyp hyf hyo
          refine hK.out _ _ hS (fun _ => ?_)
          clear hK K
          (try simp only [List.getElem_toArray, List.getElem_cons_zero, List.getElem_cons_succ, Act.put, List.setIfInBounds_toArray, List.set_cons_zero, List.set_cons_succ])
          refine wpAnyH_take (i := 4) (v := ?_) rfl (by kernel_rfl) (by kernel_rfl) (by kernel_rfl) (fun _ _ _ h => h) (Or.inl ⟨by kernel_rfl, fun W hW => ?_⟩) (by assumption) ?_
          rotate_left
          · go_simp
            try with_reducible rfl
          (try simp only [List.getElem_toArray, List.getElem_cons_zero, List.getElem_cons_succ, Act.put, List.setIfInBounds_toArray, List.set_cons_zero, List.set_cons_succ])
          refine wpAnyH_take (i := 5) (v := ?_) rfl (by kernel_rfl) (by kernel_rfl) (by kernel_rfl) (fun _ _ _ h => h) (Or.inl ⟨by kernel_rfl, fun W hW => ?_⟩) (by assumption) ?_
          rotate_left
          · go_simp
            try with_reducible rfl
          (try simp only [List.getElem_toArray, List.getElem_cons_zero, List.getElem_cons_succ, Act.put, List.setIfInBounds_toArray, List.set_cons_zero, List.set_cons_succ])
          refine wpAnyH_take (i := 6) (v := ?_) rfl (by kernel_rfl) (by kernel_rfl) (by kernel_rfl) (fun _ _ _ h => h) (Or.inl ⟨by kernel_rfl, fun W hW => ?_⟩) (by assumption) ?_
          rotate_left
          · go_simp
            try with_reducible rfl
          (try simp only [List.getElem_toArray, List.getElem_cons_zero, List.getElem_cons_succ, Act.put, List.setIfInBounds_toArray, List.set_cons_zero, List.set_cons_succ])
          refine wpAnyH_ready (rs := [7]) (by kernel_rfl) (by simp) ?_
          refine AllReadyH.cons rfl (fun K hK => ?_) AllReadyH.nil
          go_simp
          have hN : (U2.alloc (.cells #[.string ⟨#[]⟩, .string ⟨#[]⟩, .string ⟨#[]⟩, .int .i64 0, .string ⟨#[]⟩, .int .i64 0, .int .i64 0, .int .i64 0, .int .i64 0, .int .i64 0, .int .i64 0, .int .i64 0, .int .i64 0, .int .i64 0, .int .i64 0, .slice none 0 0, .string ⟨#[]⟩, .string ⟨#[]⟩, .string ⟨#[]⟩, .bool false, .bool false] 27)).heap[U2.heap.size]? = some (.cells #[.string ⟨#[]⟩, .string ⟨#[]⟩, .string ⟨#[]⟩, .int .i64 0, .string ⟨#[]⟩, .int .i64 0, .int .i64 0, .int .i64 0, .int .i64 0, .int .i64 0, .int .i64 0, .int .i64 0, .int .i64 0, .int .i64 0, .int .i64 0, .slice none 0 0, .string ⟨#[]⟩, .string ⟨#[]⟩, .string ⟨#[]⟩, .bool false, .bool false] 27 (0, 0)) := Go.heap_alloc_new U2 _
          have hb : Below U2.heap.size U2 (U2.alloc (.cells #[.string ⟨#[]⟩, .string ⟨#[]⟩, .string ⟨#[]⟩, .int .i64 0, .string ⟨#[]⟩, .int .i64 0, .int .i64 0, .int .i64 0, .int .i64 0, .int .i64 0, .int .i64 0, .int .i64 0, .int .i64 0, .int .i64 0, .int .i64 0, .slice none 0 0, .string ⟨#[]⟩, .string ⟨#[]⟩, .string ⟨#[]⟩, .bool false, .bool false] 27)) := b_alloc (Below.refl _ _) _
          have hny : Nb (U2.heap.size) v := Ok_nb Ov.out (Nat.le_refl _)
          have NY := Lib.hid hny
          clear hny
          have HLB : Hid (V6.heap.size ≤ U2.heap.size) := Lib.hid SZ.out
          replace hS := hS.below hb
          replace SZ : Hid (V6.heap.size ≤ (U2.alloc (.cells #[.string ⟨#[]⟩, .string ⟨#[]⟩, .string ⟨#[]⟩, .int .i64 0, .string ⟨#[]⟩, .int .i64 0, .int .i64 0, .int .i64 0, .int .i64 0, .int .i64 0, .int .i64 0, .int .i64 0, .int .i64 0, .int .i64 0, .int .i64 0, .slice none 0 0, .string ⟨#[]⟩, .string ⟨#[]⟩, .string ⟨#[]⟩, .bool false, .bool false] 27)).heap.size) := Lib.hid (Nat.le_trans SZ.out hb.size)
          replace Ov := Lib.hid (Ov.out.below hb)
          have HN := Lib.hid hN
          clear hb hN
          refine hK.out _ _ hS (fun _ => ?_)
          clear hK K
          (try simp only [List.getElem_toArray, List.getElem_cons_zero, List.getElem_cons_succ, Act.put, List.setIfInBounds_toArray, List.set_cons_zero, List.set_cons_succ])
          generalize (U2.alloc (.cells #[.string ⟨#[]⟩, .string ⟨#[]⟩, .string ⟨#[]⟩, .int .i64 0, .string ⟨#[]⟩, .int .i64 0, .int .i64 0, .int .i64 0, .int .i64 0, .int .i64 0, .int .i64 0, .int .i64 0, .int .i64 0, .int .i64 0, .int .i64 0, .slice none 0 0, .string ⟨#[]⟩, .string ⟨#[]⟩, .string ⟨#[]⟩, .bool false, .bool false] 27)) = U3 at hS SZ Ov HN ⊢
          refine wpAnyH_ready (rs := [8]) (by kernel_rfl) (by simp) ?_
          refine AllReadyH.cons rfl (fun K hK => ?_) AllReadyH.nil
          try rw [if_pos (by rfl)]
          refine wp_store_row 27 _ _ rfl (U2.heap.size) v.cells rfl rfl 27 _ HN.out (by kernel_rfl) rfl (agg_one v) ?_
          have hS8 : Bx [(w.heap.size, cur), (ku, u)] w (U3.setRow (U2.heap.size) v.cells) := hS.row v.cells (FAR.out _ HLB.out)
          refine hK.out _ _ hS8 (fun _ => ?_)
          clear hK K
          (try simp only [List.getElem_toArray, List.getElem_cons_zero, List.getElem_cons_succ, Act.put, List.setIfInBounds_toArray, List.set_cons_zero, List.set_cons_succ])
          refine wpAnyH_take (i := 9) (v := ?_) rfl (by kernel_rfl) (by kernel_rfl) (by kernel_rfl) (fun _ _ _ h => h) (Or.inl ⟨by kernel_rfl, fun W hW => ?_⟩) (by assumption) ?_
          rotate_left
          · go_simp
            try with_reducible rfl
          (try simp only [List.getElem_toArray, List.getElem_cons_zero, List.getElem_cons_succ, Act.put, List.setIfInBounds_toArray, List.set_cons_zero, List.set_cons_succ])
          refine wpAnyH_done (by kernel_rfl) ?_ _
          refine NoPanic.normal ?_
          go_wp2
          go_meet
          exact ⟨_, v, _, rfl, rfl, rfl, Pv, Lib.hid (Ok_rowN Ov.out NY.out _), Lib.hid (heap_setRow HN.out _), Lib.hid hS8⟩
        · go_simp
          have hN : (U1.alloc (.cells #[.string ⟨#[]⟩, .string ⟨#[]⟩, .string ⟨#[]⟩, .int .i64 0, .string ⟨#[]⟩, .int .i64 0, .int .i64 0, .int .i64 0, .int .i64 0, .int .i64 0, .int .i64 0, .int .i64 0, .int .i64 0, .int .i64 0, .int .i64 0, .slice none 0 0, .string ⟨#[]⟩, .string ⟨#[]⟩, .string ⟨#[]⟩, .bool false, .bool false] 27)).heap[U1.heap.size]? = some (.cells #[.string ⟨#[]⟩, .string ⟨#[]⟩, .string ⟨#[]⟩, .int .i64 0, .string ⟨#[]⟩, .int .i64 0, .int .i64 0, .int .i64 0, .int .i64 0, .int .i64 0, .int .i64 0, .int .i64 0, .int .i64 0, .int .i64 0, .int .i64 0, .slice none 0 0, .string ⟨#[]⟩, .string ⟨#[]⟩, .string ⟨#[]⟩, .bool false, .bool false] 27 (0, 0)) := Go.heap_alloc_new U1 _
          have hb : Below U1.heap.size U1 (U1.alloc (.cells #[.string ⟨#[]⟩, .string ⟨#[]⟩, .string ⟨#[]⟩, .int .i64 0, .string ⟨#[]⟩, .int .i64 0, .int .i64 0, .int .i64 0, .int .i64 0, .int .i64 0, .int .i64 0, .int .i64 0, .int .i64 0, .int .i64 0, .int .i64 0, .slice none 0 0, .string ⟨#[]⟩, .string ⟨#[]⟩, .string ⟨#[]⟩, .bool false, .bool false] 27)) := b_alloc (Below.refl _ _) _
          have HLB : Hid (V6.heap.size ≤ U1.heap.size) := Lib.hid SZ.out
          replace hS := hS.below hb
          replace SZ : Hid (V6.heap.size ≤ (U1.alloc (.cells #[.string ⟨#[]⟩, .string ⟨#[]⟩, .string ⟨#[]⟩, .int .i64 0, .string ⟨#[]⟩, .int .i64 0, .int .i64 0, .int .i64 0, .int .i64 0, .int .i64 0, .int .i64 0, .int .i64 0, .int .i64 0, .int .i64 0, .int .i64 0, .slice none 0 0, .string ⟨#[]⟩, .string ⟨#[]⟩, .string ⟨#[]⟩, .bool false, .bool false] 27)).heap.size) := Lib.hid (Nat.le_trans SZ.out hb.size)
          have HN := Lib.hid hN
          clear hb hN
          refine hK.out _ _ hS (fun _ => ?_)
          clear hK K
          (try simp only [List.getElem_toArray, List.getElem_cons_zero, List.getElem_cons_succ, Act.put, List.setIfInBounds_toArray, List.set_cons_zero, List.set_cons_succ])
          generalize (U1.alloc (.cells #[.string ⟨#[]⟩, .string ⟨#[]⟩, .string ⟨#[]⟩, .int .i64 0, .string ⟨#[]⟩, .int .i64 0, .int .i64 0, .int .i64 0, .int .i64 0, .int .i64 0, .int .i64 0, .int .i64 0, .int .i64 0, .int .i64 0, .int .i64 0, .slice none 0 0, .string ⟨#[]⟩, .string ⟨#[]⟩, .string ⟨#[]⟩, .bool false, .bool false] 27)) = U4 at hS SZ HN ⊢
          refine wpAnyH_ready (rs := [3]) (by kernel_rfl) (by simp) ?_
          refine AllReadyH.cons rfl (fun K hK => ?_) AllReadyH.nil
          go_simp
          have hlt8 := h_lt HN.out
          refine (Resolve3_c cur (PM.wide s) _ (Nat.le_trans HWL.out (by decide)) (fun _ => Nat.le_trans HWL.out (by decide)) (hS.ok (.head _)) Ncur.out (HG.out.below hS.be) (tabs_below HTB.out hS.be)).mono ?_
          rintro e U5 ⟨hp, hb⟩
          obtain ⟨v, rfl, hyp, hyf, hyo⟩ := parse_noF hp HO.out
          clear hp
          have hny : Nb (U1.heap.size) v := fun g o e hx => by have := hyf g o e hx; omega
          have NY := Lib.hid hny
          clear hny hlt8
          replace hS := hS.below hb
          replace SZ : Hid (V6.heap.size ≤ U5.heap.size) := Lib.hid (Nat.le_trans SZ.out hb.size)
          replace HN := Lib.hid (obj_b hb HN.out)
          have Pv := Lib.hid hyp
          have Ov := Lib.hid hyo
          clear hb hyp hyf hyo
          refine hK.out _ _ hS (fun _ => ?_)
          clear hK K
          (try simp only [List.getElem_toArray, List.getElem_cons_zero, List.getElem_cons_succ, Act.put, List.setIfInBounds_toArray, List.set_cons_zero, List.set_cons_succ])
          refine wpAnyH_take (i := 4) (v := ?_) rfl (by kernel_rfl) (by kernel_rfl) (by kernel_rfl) (fun _ _ _ h => h) (Or.inl ⟨by kernel_rfl, fun W hW => ?_⟩) (by assumption) ?_
          rotate_left
          · go_simp
            try with_reducible rfl
          (try simp only [List.getElem_toArray, List.getElem_cons_zero, List.getElem_cons_succ, Act.put, List.setIfInBounds_toArray, List.set_cons_zero, List.set_cons_succ])
          refine wpAnyH_take (i := 5) (v := ?_) rfl (by kernel_rfl) (by kernel_rfl) (by kernel_rfl) (fun _ _ _ h => h) (Or.inl ⟨by kernel_rfl, fun W hW => ?_⟩) (by assumption) ?_
          rotate_left
          · go_simp
            try with_reducible rfl
          (try simp only [List.getElem_toArray, List.getElem_cons_zero, List.getElem_cons_succ, Act.put, List.setIfInBounds_toArray, List.set_cons_zero, List.set_cons_succ])
          refine wpAnyH_take (i := 6) (v := ?_) rfl (by kernel_rfl) (by kernel_rfl) (by kernel_rfl) (fun _ _ _ h => h) (Or.inl ⟨by kernel_rfl, fun W hW => ?_⟩) (by assumption) ?_
          rotate_left
          · go_simp
            try with_reducible rfl
          (try simp only [List.getElem_toArray, List.getElem_cons_zero, List.getElem_cons_succ, Act.put, List.setIfInBounds_toArray, List.set_cons_zero, List.set_cons_succ])
          refine wpAnyH_ready (rs := [8]) (by kernel_rfl) (by simp) ?_
          refine AllReadyH.cons rfl (fun K hK => ?_) AllReadyH.nil
          try rw [if_pos (by rfl)]
          refine wp_store_row 27 _ _ rfl (U1.heap.size) v.cells rfl rfl 27 _ HN.out (by kernel_rfl) rfl (agg_one v) ?_
          have hS8 : Bx [(w.heap.size, cur), (ku, u)] w (U5.setRow (U1.heap.size) v.cells) := hS.row v.cells (FAR.out _ HLB.out)
          refine hK.out _ _ hS8 (fun _ => ?_)
          clear hK K
          (try simp only [List.getElem_toArray, List.getElem_cons_zero, List.getElem_cons_succ, Act.put, List.setIfInBounds_toArray, List.set_cons_zero, List.set_cons_succ])
          refine wpAnyH_take (i := 9) (v := ?_) rfl (by kernel_rfl) (by kernel_rfl) (by kernel_rfl) (fun _ _ _ h => h) (Or.inl ⟨by kernel_rfl, fun W hW => ?_⟩) (by assumption) ?_
          rotate_left
          · go_simp
            try with_reducible rfl
          (try simp only [List.getElem_toArray, List.getElem_cons_zero, List.getElem_cons_succ, Act.put, List.setIfInBounds_toArray, List.set_cons_zero, List.set_cons_succ])
          refine wpAnyH_done (by kernel_rfl) ?_ _
          refine NoPanic.normal ?_
          go_wp2
          go_meet
          exact ⟨_, v, _, rfl, rfl, rfl, Pv, Lib.hid (Ok_rowN Ov.out NY.out _), Lib.hid (heap_setRow HN.out _), Lib.hid hS8⟩
      · go_simp
        have hN : (V6.alloc (.cells #[.string ⟨#[]⟩, .string ⟨#[]⟩, .string ⟨#[]⟩, .int .i64 0, .string ⟨#[]⟩, .int .i64 0, .int .i64 0, .int .i64 0, .int .i64 0, .int .i64 0, .int .i64 0, .int .i64 0, .int .i64 0, .int .i64 0, .int .i64 0, .slice none 0 0, .string ⟨#[]⟩, .string ⟨#[]⟩, .string ⟨#[]⟩, .bool false, .bool false] 27)).drew.heap[V6.heap.size]? = some (.cells #[.string ⟨#[]⟩, .string ⟨#[]⟩, .string ⟨#[]⟩, .int .i64 0, .string ⟨#[]⟩, .int .i64 0, .int .i64 0, .int .i64 0, .int .i64 0, .int .i64 0, .int .i64 0, .int .i64 0, .int .i64 0, .int .i64 0, .int .i64 0, .slice none 0 0, .string ⟨#[]⟩, .string ⟨#[]⟩, .string ⟨#[]⟩, .bool false, .bool false] 27 (0, 0)) := Go.heap_alloc_new V6 _
        have hb : Below V6.drew.heap.size (V6.drew) (V6.alloc (.cells #[.string ⟨#[]⟩, .string ⟨#[]⟩, .string ⟨#[]⟩, .int .i64 0, .string ⟨#[]⟩, .int .i64 0, .int .i64 0, .int .i64 0, .int .i64 0, .int .i64 0, .int .i64 0, .int .i64 0, .int .i64 0, .int .i64 0, .int .i64 0, .slice none 0 0, .string ⟨#[]⟩, .string ⟨#[]⟩, .string ⟨#[]⟩, .bool false, .bool false] 27)).drew := b_alloc (Below.refl (V6.drew).heap.size (V6.drew)) _
        have HLB : Hid (V6.heap.size ≤ V6.heap.size) := Lib.hid SZ.out
        replace hS := hS.below hb
        replace SZ : Hid (V6.heap.size ≤ (V6.alloc (.cells #[.string ⟨#[]⟩, .string ⟨#[]⟩, .string ⟨#[]⟩, .int .i64 0, .string ⟨#[]⟩, .int .i64 0, .int .i64 0, .int .i64 0, .int .i64 0, .int .i64 0, .int .i64 0, .int .i64 0, .int .i64 0, .int .i64 0, .int .i64 0, .slice none 0 0, .string ⟨#[]⟩, .string ⟨#[]⟩, .string ⟨#[]⟩, .bool false, .bool false] 27)).drew.heap.size) := Lib.hid (Nat.le_trans SZ.out hb.size)
        have HN := Lib.hid hN
        clear hb hN
        refine hK.out _ _ hS (fun _ => ?_)
        clear hK K
        (try simp only [List.getElem_toArray, List.getElem_cons_zero, List.getElem_cons_succ, Act.put, List.setIfInBounds_toArray, List.set_cons_zero, List.set_cons_succ])
        generalize (V6.alloc (.cells #[.string ⟨#[]⟩, .string ⟨#[]⟩, .string ⟨#[]⟩, .int .i64 0, .string ⟨#[]⟩, .int .i64 0, .int .i64 0, .int .i64 0, .int .i64 0, .int .i64 0, .int .i64 0, .int .i64 0, .int .i64 0, .int .i64 0, .int .i64 0, .slice none 0 0, .string ⟨#[]⟩, .string ⟨#[]⟩, .string ⟨#[]⟩, .bool false, .bool false] 27)).drew = U6 at hS SZ HN ⊢
        refine wpAnyH_ready (rs := [2]) (by kernel_rfl) (by simp) ?_
        refine AllReadyH.cons rfl (fun K hK => ?_) AllReadyH.nil
        go_simp
        refine (Wide_c s (Nat.le_trans HLs.out (by decide)) _).mono ?_
        rintro e U7 ⟨rfl, hb⟩
        replace hS := hS.below hb
        replace SZ : Hid (V6.heap.size ≤ U7.heap.size) := Lib.hid (Nat.le_trans SZ.out hb.size)
        replace HN := Lib.hid (obj_b hb HN.out)
        clear hb
        refine hK.out _ _ hS (fun _ => ?_)
        clear hK K
        (try simp only [List.getElem_toArray, List.getElem_cons_zero, List.getElem_cons_succ, Act.put, List.setIfInBounds_toArray, List.set_cons_zero, List.set_cons_succ])
        refine wpAnyH_ready (rs := [3]) (by kernel_rfl) (by simp) ?_
        refine AllReadyH.cons rfl (fun K hK => ?_) AllReadyH.nil
        go_simp
        have hlt8 := h_lt HN.out
        refine (Resolve3_c cur (PM.wide s) _ (Nat.le_trans HWL.out (by decide)) (fun _ => Nat.le_trans HWL.out (by decide)) (hS.ok (.head _)) Ncur.out (HG.out.below hS.be) (tabs_below HTB.out hS.be)).mono ?_
        rintro e U8 ⟨hp, hb⟩
        obtain ⟨v, rfl, hyp, hyf, hyo⟩ := parse_noF hp HO.out
        clear hp
        have hny : Nb (V6.heap.size) v := fun g o e hx => by have := hyf g o e hx; omega
        have NY := Lib.hid hny
        clear hny hlt8
        replace hS := hS.below hb
        replace SZ : Hid (V6.heap.size ≤ U8.heap.size) := Lib.hid (Nat.le_trans SZ.out hb.size)
        replace HN := Lib.hid (obj_b hb HN.out)
        have Pv := Lib.hid hyp
        have Ov := Lib.hid hyo
        clear hb hyp hyf hyo
        refine hK.out _ _ hS (fun _ => ?_)
        clear hK K
        (try simp only [List.getElem_toArray, List.getElem_cons_zero, List.getElem_cons_succ, Act.put, List.setIfInBounds_toArray, List.set_cons_zero, List.set_cons_succ])
        refine wpAnyH_take (i := 4) (v := ?_) rfl (by kernel_rfl) (by kernel_rfl) (by kernel_rfl) (fun _ _ _ h => h) (Or.inl ⟨by kernel_rfl, fun W hW => ?_⟩) (by assumption) ?_
        rotate_left
        · go_simp
          try with_reducible rfl
        (try simp only [List.getElem_toArray, List.getElem_cons_zero, List.getElem_cons_succ, Act.put, List.setIfInBounds_toArray, List.set_cons_zero, List.set_cons_succ])
        refine wpAnyH_take (i := 5) (v := ?_) rfl (by kernel_rfl) (by kernel_rfl) (by kernel_rfl) (fun _ _ _ h => h) (Or.inl ⟨by kernel_rfl, fun W hW => ?_⟩) (by assumption) ?_
        rotate_left
        · go_simp
          try with_reducible rfl
        (try simp only [List.getElem_toArray, List.getElem_cons_zero, List.getElem_cons_succ, Act.put, List.setIfInBounds_toArray, List.set_cons_zero, List.set_cons_succ])
        refine wpAnyH_take (i := 6) (v := ?_) rfl (by kernel_rfl) (by kernel_rfl) (by kernel_rfl) (fun _ _ _ h => h) (Or.inl ⟨by kernel_rfl, fun W hW => ?_⟩) (by assumption) ?_
        rotate_left
        · go_simp
          try with_reducible rfl
        (try simp only [List.getElem_toArray, List.getElem_cons_zero, List.getElem_cons_succ, Act.put, List.setIfInBounds_toArray, List.set_cons_zero, List.set_cons_succ])
        refine wpAnyH_ready (rs := [8]) (by kernel_rfl) (by simp) ?_
        refine AllReadyH.cons rfl (fun K hK => ?_) AllReadyH.nil
        try rw [if_pos (by rfl)]
        refine wp_store_row 27 _ _ rfl (V6.heap.size) v.cells rfl rfl 27 _ HN.out (by kernel_rfl) rfl (agg_one v) ?_
        have hS8 : Bx [(w.heap.size, cur), (ku, u)] w (U8.setRow (V6.heap.size) v.cells) := hS.row v.cells (FAR.out _ HLB.out)
        refine hK.out _ _ hS8 (fun _ => ?_)
        clear hK K
        (try simp only [List.getElem_toArray, List.getElem_cons_zero, List.getElem_cons_succ, Act.put, List.setIfInBounds_toArray, List.set_cons_zero, List.set_cons_succ])
        refine wpAnyH_take (i := 9) (v := ?_) rfl (by kernel_rfl) (by kernel_rfl) (by kernel_rfl) (fun _ _ _ h => h) (Or.inl ⟨by kernel_rfl, fun W hW => ?_⟩) (by assumption) ?_
        rotate_left
        · go_simp
          try with_reducible rfl
        (try simp only [List.getElem_toArray, List.getElem_cons_zero, List.getElem_cons_succ, Act.put, List.setIfInBounds_toArray, List.set_cons_zero, List.set_cons_succ])
        refine wpAnyH_done (by kernel_rfl) ?_ _
        refine NoPanic.normal ?_
        go_wp2
        go_meet
        exact ⟨_, v, _, rfl, rfl, rfl, Pv, Lib.hid (Ok_rowN Ov.out NY.out _), Lib.hid (heap_setRow HN.out _), Lib.hid hS8⟩
    case rest =>
      obtain ⟨kv, v, W9, rfl, rfl, rfl, Pv, Ov, Hv, hEA⟩ := hcut
      clear HB Hcur Ocur Hu Ou
      have Hcur := Lib.hid (hEA.out.hp (.head _))
      have Hu := Lib.hid (hEA.out.hp (.tail _ (.head _)))
      have Ocur := Lib.hid (hEA.out.ok (.head _))
      have Ou := Lib.hid (hEA.out.ok (.tail _ (.head _)))
      have HB := Lib.hid hEA.out.be
      clear hEA
      go_wp2_with fail
      refine wp_region_noPanic ?_
      refine wp_region_held_drew (S := fun W' => Bx [(w.heap.size, cur), (ku, u), (kv, v)] w W') (by kernel_rfl) (Bx.below (Bx.cons (Bx.cons (Bx.cons (Bx.nil _ _ HB.out) Hv.out Ov.out) Hu.out Ou.out) Hcur.out Ocur.out) (b_drew (Below.refl _ _))) (fun hS0 => ?_)
      refine wpAnyH_take (i := 0) (v := ?_) rfl (by kernel_rfl) (by kernel_rfl) (by kernel_rfl) (fun _ _ _ h => h) (Or.inl ⟨by kernel_rfl, fun W hW => ?_⟩) (by assumption) ?_
      rotate_left
      · go_simp
        try with_reducible rfl
      (try simp only [List.getElem_toArray, List.getElem_cons_zero, List.getElem_cons_succ, Act.put, List.setIfInBounds_toArray, List.set_cons_zero, List.set_cons_succ])
      refine wpAnyH_take (i := 1) (v := ?_) rfl (by kernel_rfl) (by kernel_rfl) (by kernel_rfl) (fun _ _ _ h => h) (Or.inl ⟨by kernel_rfl, fun W hW => ?_⟩) (by assumption) ?_
      rotate_left
      · go_simp
        try with_reducible rfl
      (try simp only [List.getElem_toArray, List.getElem_cons_zero, List.getElem_cons_succ, Act.put, List.setIfInBounds_toArray, List.set_cons_zero, List.set_cons_succ])
      refine wpAnyH_take (i := 2) (v := ?_) rfl (by kernel_rfl) (by kernel_rfl) (by kernel_rfl) (fun _ _ _ h => h) (Or.inl ⟨by kernel_rfl, fun W hW => ?_⟩) (by assumption) ?_
      rotate_left
      · go_simp
        try with_reducible rfl
      (try simp only [List.getElem_toArray, List.getElem_cons_zero, List.getElem_cons_succ, Act.put, List.setIfInBounds_toArray, List.set_cons_zero, List.set_cons_succ])
      refine wpAnyH_take (i := 3) (v := ?_) rfl (by kernel_rfl) (by kernel_rfl) (by kernel_rfl) (fun _ _ _ h => h) (Or.inl ⟨by kernel_rfl, fun W hW => ?_⟩) (by assumption) ?_
      rotate_left
      · go_simp
        try with_reducible rfl
      (try simp only [List.getElem_toArray, List.getElem_cons_zero, List.getElem_cons_succ, Act.put, List.setIfInBounds_toArray, List.set_cons_zero, List.set_cons_succ])
      refine wpAnyH_take (i := 4) (v := ?_) rfl (by kernel_rfl) (by kernel_rfl) (by kernel_rfl) (fun _ _ _ h => h) (Or.inl ⟨by kernel_rfl, fun W hW => ?_⟩) (by assumption) ?_
      rotate_left
      · go_simp
        try with_reducible rfl
      (try simp only [List.getElem_toArray, List.getElem_cons_zero, List.getElem_cons_succ, Act.put, List.setIfInBounds_toArray, List.set_cons_zero, List.set_cons_succ])
      refine wpAnyH_ready (rs := [5]) (by kernel_rfl) (by simp) ?_
      refine AllReadyH.cons rfl (fun K hK => ?_) AllReadyH.nil
      go_simp
      refine (Wide_c s (Nat.le_trans HLs.out (by decide)) _).mono ?_
      rintro e U1 ⟨rfl, hb⟩
      have hSn := hS0.below hb
      clear hb hS0
      refine hK.out _ _ hSn (fun _ => ?_)
      clear hK K
      (try simp only [List.getElem_toArray, List.getElem_cons_zero, List.getElem_cons_succ, Act.put, List.setIfInBounds_toArray, List.set_cons_zero, List.set_cons_succ])
      refine wpAnyH_take (i := 6) (v := ?_) rfl (by kernel_rfl) (by kernel_rfl) (by kernel_rfl) (fun _ _ _ h => h) (Or.inl ⟨by kernel_rfl, fun W hW => ?_⟩) (by assumption) ?_
      rotate_left
      · go_simp
        try with_reducible rfl
      (try simp only [List.getElem_toArray, List.getElem_cons_zero, List.getElem_cons_succ, Act.put, List.setIfInBounds_toArray, List.set_cons_zero, List.set_cons_succ])
      refine wpAnyH_take (i := 7) (v := ?_) rfl (by kernel_rfl) (by kernel_rfl) (by kernel_rfl) (fun _ _ _ h => h) (Or.inl ⟨by kernel_rfl, fun W hW => ?_⟩) (by assumption) ?_
      rotate_left
      · go_simp
        try with_reducible rfl
      (try simp only [List.getElem_toArray, List.getElem_cons_zero, List.getElem_cons_succ, Act.put, List.setIfInBounds_toArray, List.set_cons_zero, List.set_cons_succ])
      refine wpAnyH_take (i := 8) (v := ?_) rfl (by kernel_rfl) (by kernel_rfl) (by kernel_rfl) (fun _ _ _ h => h) (Or.inl ⟨by kernel_rfl, fun W hW => ?_⟩) (by assumption) ?_
      rotate_left
      · go_simp
        try with_reducible rfl
      (try simp only [List.getElem_toArray, List.getElem_cons_zero, List.getElem_cons_succ, Act.put, List.setIfInBounds_toArray, List.set_cons_zero, List.set_cons_succ])
      refine wpAnyH_take (i := 9) (v := ?_) rfl (by kernel_rfl) (by kernel_rfl) (by kernel_rfl) (fun _ _ _ h => h) (Or.inl ⟨by kernel_rfl, fun W hW => ?_⟩) (by assumption) ?_
      rotate_left
      · go_simp
        try with_reducible rfl
      (try simp only [List.getElem_toArray, List.getElem_cons_zero, List.getElem_cons_succ, Act.put, List.setIfInBounds_toArray, List.set_cons_zero, List.set_cons_succ])
      refine wpAnyH_take (i := 10) (v := ?_) rfl (by kernel_rfl) (by kernel_rfl) (by kernel_rfl) (fun _ _ _ h => h) (Or.inl ⟨by kernel_rfl, fun W hW => ?_⟩) (by assumption) ?_
      rotate_left
      · go_simp
        try with_reducible rfl
      (try simp only [List.getElem_toArray, List.getElem_cons_zero, List.getElem_cons_succ, Act.put, List.setIfInBounds_toArray, List.set_cons_zero, List.set_cons_succ])
      refine wpAnyH_take (i := 11) (v := ?_) rfl (by kernel_rfl) (by kernel_rfl) (by kernel_rfl) (fun _ _ _ h => h) (Or.inl ⟨by kernel_rfl, fun W hW => ?_⟩) (by assumption) ?_
      rotate_left
      · go_simp
        try with_reducible rfl
      (try simp only [List.getElem_toArray, List.getElem_cons_zero, List.getElem_cons_succ, Act.put, List.setIfInBounds_toArray, List.set_cons_zero, List.set_cons_succ])
      refine wpAnyH_take (i := 12) (v := ?_) rfl (by kernel_rfl) (by kernel_rfl) (by kernel_rfl) (fun _ _ _ h => h) (Or.inl ⟨by kernel_rfl, fun W hW => ?_⟩) (by assumption) ?_
      rotate_left
      · go_simp
        try with_reducible rfl
      (try simp only [List.getElem_toArray, List.getElem_cons_zero, List.getElem_cons_succ, Act.put, List.setIfInBounds_toArray, List.set_cons_zero, List.set_cons_succ])
      refine wpAnyH_take (i := 13) (v := ?_) rfl (by kernel_rfl) (by kernel_rfl) (by kernel_rfl) (fun _ _ _ h => h) (Or.inl ⟨by kernel_rfl, fun W hW => ?_⟩) (by assumption) ?_
      rotate_left
      · go_simp
        try with_reducible rfl
      (try simp only [List.getElem_toArray, List.getElem_cons_zero, List.getElem_cons_succ, Act.put, List.setIfInBounds_toArray, List.set_cons_zero, List.set_cons_succ])
      refine wpAnyH_take (i := 14) (v := ?_) rfl (by kernel_rfl) (by kernel_rfl) (by kernel_rfl) (fun _ _ _ h => h) (Or.inl ⟨by kernel_rfl, fun W hW => ?_⟩) (by assumption) ?_
      rotate_left
      · go_simp
        try with_reducible rfl
      (try simp only [List.getElem_toArray, List.getElem_cons_zero, List.getElem_cons_succ, Act.put, List.setIfInBounds_toArray, List.set_cons_zero, List.set_cons_succ])
      refine wpAnyH_take (i := 15) (v := ?_) rfl (by kernel_rfl) (by kernel_rfl) (by kernel_rfl) (fun _ _ _ h => h) (Or.inl ⟨by kernel_rfl, fun W hW => ?_⟩) (by assumption) ?_
      rotate_left
      · go_simp
        try with_reducible rfl
      (try simp only [List.getElem_toArray, List.getElem_cons_zero, List.getElem_cons_succ, Act.put, List.setIfInBounds_toArray, List.set_cons_zero, List.set_cons_succ])
      refine wpAnyH_take (i := 16) (v := ?_) rfl (by kernel_rfl) (by kernel_rfl) (by kernel_rfl) (fun _ _ _ h => h) (Or.inl ⟨by kernel_rfl, fun W hW => ?_⟩) (by assumption) ?_
      rotate_left
      · go_simp
        try with_reducible rfl
      (try simp only [List.getElem_toArray, List.getElem_cons_zero, List.getElem_cons_succ, Act.put, List.setIfInBounds_toArray, List.set_cons_zero, List.set_cons_succ])
      refine wpAnyH_take (i := 17) (v := ?_) rfl (by kernel_rfl) (by kernel_rfl) (by kernel_rfl) (fun _ _ _ h => h) (Or.inl ⟨by kernel_rfl, fun W hW => ?_⟩) (by assumption) ?_
      rotate_left
      · go_simp
        try with_reducible rfl
      (try simp only [List.getElem_toArray, List.getElem_cons_zero, List.getElem_cons_succ, Act.put, List.setIfInBounds_toArray, List.set_cons_zero, List.set_cons_succ])
      refine wpAnyH_take (i := 18) (v := ?_) rfl (by kernel_rfl) (by kernel_rfl) (by kernel_rfl) (fun _ _ _ h => h) (Or.inl ⟨by kernel_rfl, fun W hW => ?_⟩) (by assumption) ?_
      rotate_left
      · go_simp
        try with_reducible rfl
      (try simp only [List.getElem_toArray, List.getElem_cons_zero, List.getElem_cons_succ, Act.put, List.setIfInBounds_toArray, List.set_cons_zero, List.set_cons_succ])
      refine wpAnyH_take (i := 19) (v := ?_) rfl (by kernel_rfl) (by kernel_rfl) (by kernel_rfl) (fun _ _ _ h => h) (Or.inl ⟨by kernel_rfl, fun W hW => ?_⟩) (by assumption) ?_
      rotate_left
      · go_simp
        try with_reducible rfl
      (try simp only [List.getElem_toArray, List.getElem_cons_zero, List.getElem_cons_succ, Act.put, List.setIfInBounds_toArray, List.set_cons_zero, List.set_cons_succ])
      refine wpAnyH_take (i := 20) (v := ?_) rfl (by kernel_rfl) (by kernel_rfl) (by kernel_rfl) (fun _ _ _ h => h) (Or.inl ⟨by kernel_rfl, fun W hW => ?_⟩) (by assumption) ?_
      rotate_left
      · go_simp
        try with_reducible rfl
      (try simp only [List.getElem_toArray, List.getElem_cons_zero, List.getElem_cons_succ, Act.put, List.setIfInBounds_toArray, List.set_cons_zero, List.set_cons_succ])
      refine wpAnyH_take (i := 21) (v := ?_) rfl (by kernel_rfl) (by kernel_rfl) (by kernel_rfl) (fun _ _ _ h => h) (Or.inl ⟨by kernel_rfl, fun W hW => ?_⟩) (by assumption) ?_
      rotate_left
      · go_simp
        try with_reducible rfl
      (try simp only [List.getElem_toArray, List.getElem_cons_zero, List.getElem_cons_succ, Act.put, List.setIfInBounds_toArray, List.set_cons_zero, List.set_cons_succ])
      refine wpAnyH_take (i := 22) (v := undef) rfl (by kernel_rfl) (by kernel_rfl) (by kernel_rfl) (fun _ _ _ h => h) (Or.inr ⟨by kernel_rfl, rfl⟩) (by assumption) ?_
      (try simp only [List.getElem_toArray, List.getElem_cons_zero, List.getElem_cons_succ, Act.put, List.setIfInBounds_toArray, List.set_cons_zero, List.set_cons_succ])
      refine wpAnyH_take (i := 23) (v := undef) rfl (by kernel_rfl) (by kernel_rfl) (by kernel_rfl) (fun _ _ _ h => h) (Or.inr ⟨by kernel_rfl, rfl⟩) (by assumption) ?_
      (try simp only [List.getElem_toArray, List.getElem_cons_zero, List.getElem_cons_succ, Act.put, List.setIfInBounds_toArray, List.set_cons_zero, List.set_cons_succ])
      refine wpAnyH_take (i := 24) (v := undef) rfl (by kernel_rfl) (by kernel_rfl) (by kernel_rfl) (fun _ _ _ h => h) (Or.inr ⟨by kernel_rfl, rfl⟩) (by assumption) ?_
      (try simp only [List.getElem_toArray, List.getElem_cons_zero, List.getElem_cons_succ, Act.put, List.setIfInBounds_toArray, List.set_cons_zero, List.set_cons_succ])
      refine wpAnyH_take (i := 25) (v := undef) rfl (by kernel_rfl) (by kernel_rfl) (by kernel_rfl) (fun _ _ _ h => h) (Or.inr ⟨by kernel_rfl, rfl⟩) (by assumption) ?_
      (try simp only [List.getElem_toArray, List.getElem_cons_zero, List.getElem_cons_succ, Act.put, List.setIfInBounds_toArray, List.set_cons_zero, List.set_cons_succ])
      refine wpAnyH_take (i := 26) (v := undef) rfl (by kernel_rfl) (by kernel_rfl) (by kernel_rfl) (fun _ _ _ h => h) (Or.inr ⟨by kernel_rfl, rfl⟩) (by assumption) ?_
      (try simp only [List.getElem_toArray, List.getElem_cons_zero, List.getElem_cons_succ, Act.put, List.setIfInBounds_toArray, List.set_cons_zero, List.set_cons_succ])
      refine wpAnyH_take (i := 27) (v := ?_) rfl (by kernel_rfl) (by kernel_rfl) (by kernel_rfl) (fun _ _ _ h => h) (Or.inl ⟨by kernel_rfl, fun W hW => ?_⟩) (by assumption) ?_
      rotate_left
      · go_simp
        try with_reducible rfl
      (try simp only [List.getElem_toArray, List.getElem_cons_zero, List.getElem_cons_succ, Act.put, List.setIfInBounds_toArray, List.set_cons_zero, List.set_cons_succ])
      refine wpAnyH_take (i := 28) (v := ?_) rfl (by kernel_rfl) (by kernel_rfl) (by kernel_rfl) (fun _ _ _ h => h) (Or.inl ⟨by kernel_rfl, fun W hW => ?_⟩) (by assumption) ?_
      rotate_left
      · go_simp
        try with_reducible rfl
      (try simp only [List.getElem_toArray, List.getElem_cons_zero, List.getElem_cons_succ, Act.put, List.setIfInBounds_toArray, List.set_cons_zero, List.set_cons_succ])
      refine wpAnyH_take (i := 29) (v := ?_) rfl (by kernel_rfl) (by kernel_rfl) (by kernel_rfl) (fun _ _ _ h => h) (Or.inl ⟨by kernel_rfl, fun W hW => ?_⟩) (by assumption) ?_
      rotate_left
      · go_simp
        try with_reducible rfl
      (try simp only [List.getElem_toArray, List.getElem_cons_zero, List.getElem_cons_succ, Act.put, List.setIfInBounds_toArray, List.set_cons_zero, List.set_cons_succ])
      refine wpAnyH_done (by kernel_rfl) ?_ _
      refine NoPanic.normal ?_
      go_wp2
      go_ret
      exact ⟨rfl, hSn.be⟩
  | some p =>
    go_wp2_with fail
    go_cut [12, 13] (fun pt vt wr => ∃ (ky : Nat) (y : UV) (W9 : World), W9 = wr ∧ pt = .pointer (some ⟨ky, 0, none⟩) ∧ vt = .bool true ∧ Hid (y.pm = p) ∧ Hid (y.Ok wr) ∧ Hid (wr.heap[ky]? = some (.cells y.cells 27 (0, 0))) ∧ Hid (Bx [(w.heap.size, cur), (ku, u)] w wr))
    case first =>
      have hbx : Bx [(w.heap.size, cur), (ku, u)] w V6 := (Bx.cons (Bx.cons (Bx.nil _ _ HB.out) Hu.out Ou.out) Hcur.out Ocur.out)
      have far : ∀ k, V6.heap.size ≤ k → (∀ p ∈ ([(w.heap.size, cur), (ku, u)] : List (Nat × UV)), p.1 ≠ k ∧ Nb k p.2) ∧ w.heap.size ≤ k := fun k hk => hbx.far hk
      have FAR := Lib.hid far
      clear far
      refine wp_region_noPanic ?_
      refine wp_region_held_drew (S := fun W' => Bx [(w.heap.size, cur), (ku, u)] w W') (by kernel_rfl) (Bx.below hbx (b_drew (Below.refl _ _))) (fun hS0 => ?_)
      have hS : Bx [(w.heap.size, cur), (ku, u)] w V6.drew := hS0
      clear hS0 hbx
      have SZ : Hid (V6.heap.size ≤ V6.drew.heap.size) := Lib.hid (Nat.le_refl _)
      refine wpAnyH_take (i := 0) (v := ?_) rfl (by kernel_rfl) (by kernel_rfl) (by kernel_rfl) (fun _ _ _ h => h) (Or.inl ⟨by kernel_rfl, fun W hW => ?_⟩) (by assumption) ?_
      rotate_left
      · refine yield_row 27 (.tmp 3) ?_ w.heap.size ?_ (hW.hp (.head _)) Tryz.underlying27 rfl (by kernel_rfl)
        · rfl
        · rfl
      (try simp only [List.getElem_toArray, List.getElem_cons_zero, List.getElem_cons_succ, Act.put, List.setIfInBounds_toArray, List.set_cons_zero, List.set_cons_succ])
      refine wpAnyH_take (i := 1) (v := ?_) rfl (by kernel_rfl) (by kernel_rfl) (by kernel_rfl) (fun _ _ _ h => h) (Or.inl ⟨by kernel_rfl, fun W hW => ?_⟩) (by assumption) ?_
      rotate_left
      · go_simp
        try with_reducible rfl
      (try simp only [List.getElem_toArray, List.getElem_cons_zero, List.getElem_cons_succ, Act.put, List.setIfInBounds_toArray, List.set_cons_zero, List.set_cons_succ])
      refine wpAnyH_ready (rs := [2, 7]) (by kernel_rfl) (by simp) ?_
      refine AllReadyH.cons rfl (fun K hK => ?_) (AllReadyH.cons rfl (fun K hK => ?_) AllReadyH.nil)
      · go_simp
        refine (Wide_c s (Nat.le_trans HLs.out (by decide)) _).mono ?_
        rintro e U1 ⟨rfl, hb⟩
        replace hS := hS.below hb
        replace SZ : Hid (V6.heap.size ≤ U1.heap.size) := Lib.hid (Nat.le_trans SZ.out hb.size)
        clear hb
        refine hK.out _ _ hS (fun _ => ?_)
        clear hK K
        (try simp only [List.getElem_toArray, List.getElem_cons_zero, List.getElem_cons_succ, Act.put, List.setIfInBounds_toArray, List.set_cons_zero, List.set_cons_succ])
        refine wpAnyH_ready (rs := [3, 7]) (by kernel_rfl) (by simp) ?_
        refine AllReadyH.cons rfl (fun K hK => ?_) (AllReadyH.cons rfl (fun K hK => ?_) AllReadyH.nil)
        · go_simp
          refine (Resolve3_c cur (PM.wide s) _ (Nat.le_trans HWL.out (by decide)) (fun _ => Nat.le_trans HWL.out (by decide)) (hS.ok (.head _)) Ncur.out (HG.out.below hS.be) (tabs_below HTB.out hS.be)).mono ?_
          rintro e U2 ⟨hp, hb⟩
          obtain ⟨v, rfl, hyp, hyf, hyo⟩ := parse_okF hp HO.out (res_path HO.out (Nat.le_trans HWL.out (by decide)) (few_path Fcur.out).1 (few_path Fcur.out).2)
          clear hp
          replace hS := hS.below hb
          replace SZ : Hid (V6.heap.size ≤ U2.heap.size) := Lib.hid (Nat.le_trans SZ.out hb.size)
          have Pv := Lib.hid hyp
          have Ov := Lib.hid hyo
          clear hb hyp hyf hyo
          refine hK.out _ _ hS (fun _ => ?_)
          clear hK K
          (try simp only [List.getElem_toArray, List.getElem_cons_zero, List.getElem_cons_succ, Act.put, List.setIfInBounds_toArray, List.set_cons_zero, List.set_cons_succ])
          refine wpAnyH_take (i := 4) (v := ?_) rfl (by kernel_rfl) (by kernel_rfl) (by kernel_rfl) (fun _ _ _ h => h) (Or.inl ⟨by kernel_rfl, fun W hW => ?_⟩) (by assumption) ?_
          rotate_left
          · go_simp
            try with_reducible rfl
          (try simp only [List.getElem_toArray, List.getElem_cons_zero, List.getElem_cons_succ, Act.put, List.setIfInBounds_toArray, List.set_cons_zero, List.set_cons_succ])
          refine wpAnyH_take (i := 5) (v := ?_) rfl (by kernel_rfl) (by kernel_rfl) (by kernel_rfl) (fun _ _ _ h => h) (Or.inl ⟨by kernel_rfl, fun W hW => ?_⟩) (by assumption) ?_
          rotate_left
          · go_simp
            try with_reducible rfl
          (try simp only [List.getElem_toArray, List.getElem_cons_zero, List.getElem_cons_succ, Act.put, List.setIfInBounds_toArray, List.set_cons_zero, List.set_cons_succ])
          refine wpAnyH_take (i := 6) (v := ?_) rfl (by kernel_rfl) (by kernel_rfl) (by kernel_rfl) (fun _ _ _ h => h) (Or.inl ⟨by kernel_rfl, fun W hW => ?_⟩) (by assumption) ?_
          rotate_left
          · go_simp
            try with_reducible rfl
          (try simp only [List.getElem_toArray, List.getElem_cons_zero, List.getElem_cons_succ, Act.put, List.setIfInBounds_toArray, List.set_cons_zero, List.set_cons_succ])
          refine wpAnyH_ready (rs := [7]) (by kernel_rfl) (by simp) ?_
          refine AllReadyH.cons rfl (fun K hK => ?_) AllReadyH.nil
          go_simp
          have hN : (U2.alloc (.cells #[.string ⟨#[]⟩, .string ⟨#[]⟩, .string ⟨#[]⟩, .int .i64 0, .string ⟨#[]⟩, .int .i64 0, .int .i64 0, .int .i64 0, .int .i64 0, .int .i64 0, .int .i64 0, .int .i64 0, .int .i64 0, .int .i64 0, .int .i64 0, .slice none 0 0, .string ⟨#[]⟩, .string ⟨#[]⟩, .string ⟨#[]⟩, .bool false, .bool false] 27)).heap[U2.heap.size]? = some (.cells #[.string ⟨#[]⟩, .string ⟨#[]⟩, .string ⟨#[]⟩, .int .i64 0, .string ⟨#[]⟩, .int .i64 0, .int .i64 0, .int .i64 0, .int .i64 0, .int .i64 0, .int .i64 0, .int .i64 0, .int .i64 0, .int .i64 0, .int .i64 0, .slice none 0 0, .string ⟨#[]⟩, .string ⟨#[]⟩, .string ⟨#[]⟩, .bool false, .bool false] 27 (0, 0)) := Go.heap_alloc_new U2 _
          have hb : Below U2.heap.size U2 (U2.alloc (.cells #[.string ⟨#[]⟩, .string ⟨#[]⟩, .string ⟨#[]⟩, .int .i64 0, .string ⟨#[]⟩, .int .i64 0, .int .i64 0, .int .i64 0, .int .i64 0, .int .i64 0, .int .i64 0, .int .i64 0, .int .i64 0, .int .i64 0, .int .i64 0, .slice none 0 0, .string ⟨#[]⟩, .string ⟨#[]⟩, .string ⟨#[]⟩, .bool false, .bool false] 27)) := b_alloc (Below.refl _ _) _
          have hny : Nb (U2.heap.size) v := Ok_nb Ov.out (Nat.le_refl _)
          have NY := Lib.hid hny
          clear hny
          have HLB : Hid (V6.heap.size ≤ U2.heap.size) := Lib.hid SZ.out
          replace hS := hS.below hb
          replace SZ : Hid (V6.heap.size ≤ (U2.alloc (.cells #[.string ⟨#[]⟩, .string ⟨#[]⟩, .string ⟨#[]⟩, .int .i64 0, .string ⟨#[]⟩, .int .i64 0, .int .i64 0, .int .i64 0, .int .i64 0, .int .i64 0, .int .i64 0, .int .i64 0, .int .i64 0, .int .i64 0, .int .i64 0, .slice none 0 0, .string ⟨#[]⟩, .string ⟨#[]⟩, .string ⟨#[]⟩, .bool false, .bool false] 27)).heap.size) := Lib.hid (Nat.le_trans SZ.out hb.size)
          replace Ov := Lib.hid (Ov.out.below hb)
          have HN := Lib.hid hN
          clear hb hN
          refine hK.out _ _ hS (fun _ => ?_)
          clear hK K
          (try simp only [List.getElem_toArray, List.getElem_cons_zero, List.getElem_cons_succ, Act.put, List.setIfInBounds_toArray, List.set_cons_zero, List.set_cons_succ])
          generalize (U2.alloc (.cells #[.string ⟨#[]⟩, .string ⟨#[]⟩, .string ⟨#[]⟩, .int .i64 0, .string ⟨#[]⟩, .int .i64 0, .int .i64 0, .int .i64 0, .int .i64 0, .int .i64 0, .int .i64 0, .int .i64 0, .int .i64 0, .int .i64 0, .int .i64 0, .slice none 0 0, .string ⟨#[]⟩, .string ⟨#[]⟩, .string ⟨#[]⟩, .bool false, .bool false] 27)) = U3 at hS SZ Ov HN ⊢
          refine wpAnyH_ready (rs := [8]) (by kernel_rfl) (by simp) ?_
          refine AllReadyH.cons rfl (fun K hK => ?_) AllReadyH.nil
          try rw [if_pos (by rfl)]
          refine wp_store_row 27 _ _ rfl (U2.heap.size) v.cells rfl rfl 27 _ HN.out (by kernel_rfl) rfl (agg_one v) ?_
          have hS8 : Bx [(w.heap.size, cur), (ku, u)] w (U3.setRow (U2.heap.size) v.cells) := hS.row v.cells (FAR.out _ HLB.out)
          refine hK.out _ _ hS8 (fun _ => ?_)
          clear hK K
          (try simp only [List.getElem_toArray, List.getElem_cons_zero, List.getElem_cons_succ, Act.put, List.setIfInBounds_toArray, List.set_cons_zero, List.set_cons_succ])
          refine wpAnyH_take (i := 9) (v := ?_) rfl (by kernel_rfl) (by kernel_rfl) (by kernel_rfl) (fun _ _ _ h => h) (Or.inl ⟨by kernel_rfl, fun W hW => ?_⟩) (by assumption) ?_
          rotate_left
          · go_simp
            try with_reducible rfl
          (try simp only [List.getElem_toArray, List.getElem_cons_zero, List.getElem_cons_succ, Act.put, List.setIfInBounds_toArray, List.set_cons_zero, List.set_cons_succ])
          refine wpAnyH_done (by kernel_rfl) ?_ _
          refine NoPanic.normal ?_
          go_wp2
          go_meet
          exact ⟨_, v, _, rfl, rfl, rfl, Pv, Lib.hid (Ok_rowN Ov.out NY.out _), Lib.hid (heap_setRow HN.out _), Lib.hid hS8⟩
        · go_simp
          have hN : (U1.alloc (.cells #[.string ⟨#[]⟩, .string ⟨#[]⟩, .string ⟨#[]⟩, .int .i64 0, .string ⟨#[]⟩, .int .i64 0, .int .i64 0, .int .i64 0, .int .i64 0, .int .i64 0, .int .i64 0, .int .i64 0, .int .i64 0, .int .i64 0, .int .i64 0, .slice none 0 0, .string ⟨#[]⟩, .string ⟨#[]⟩, .string ⟨#[]⟩, .bool false, .bool false] 27)).heap[U1.heap.size]? = some (.cells #[.string ⟨#[]⟩, .string ⟨#[]⟩, .string ⟨#[]⟩, .int .i64 0, .string ⟨#[]⟩, .int .i64 0, .int .i64 0, .int .i64 0, .int .i64 0, .int .i64 0, .int .i64 0, .int .i64 0, .int .i64 0, .int .i64 0, .int .i64 0, .slice none 0 0, .string ⟨#[]⟩, .string ⟨#[]⟩, .string ⟨#[]⟩, .bool false, .bool false] 27 (0, 0)) := Go.heap_alloc_new U1 _
          have hb : Below U1.heap.size U1 (U1.alloc (.cells #[.string ⟨#[]⟩, .string ⟨#[]⟩, .string ⟨#[]⟩, .int .i64 0, .string ⟨#[]⟩, .int .i64 0, .int .i64 0, .int .i64 0, .int .i64 0, .int .i64 0, .int .i64 0, .int .i64 0, .int .i64 0, .int .i64 0, .int .i64 0, .slice none 0 0, .string ⟨#[]⟩, .string ⟨#[]⟩, .string ⟨#[]⟩, .bool false, .bool false] 27)) := b_alloc (Below.refl _ _) _
          have HLB : Hid (V6.heap.size ≤ U1.heap.size) := Lib.hid SZ.out
          replace hS := hS.below hb
          replace SZ : Hid (V6.heap.size ≤ (U1.alloc (.cells #[.string ⟨#[]⟩, .string ⟨#[]⟩, .string ⟨#[]⟩, .int .i64 0, .string ⟨#[]⟩, .int .i64 0, .int .i64 0, .int .i64 0, .int .i64 0, .int .i64 0, .int .i64 0, .int .i64 0, .int .i64 0, .int .i64 0, .int .i64 0, .slice none 0 0, .string ⟨#[]⟩, .string ⟨#[]⟩, .string ⟨#[]⟩, .bool false, .bool false] 27)).heap.size) := Lib.hid (Nat.le_trans SZ.out hb.size)
          have HN := Lib.hid hN
          clear hb hN
          refine hK.out _ _ hS (fun _ => ?_)
          clear hK K
          (try simp only [List.getElem_toArray, List.getElem_cons_zero, List.getElem_cons_succ, Act.put, List.setIfInBounds_toArray, List.set_cons_zero, List.set_cons_succ])
          generalize (U1.alloc (.cells #[.string ⟨#[]⟩, .string ⟨#[]⟩, .string ⟨#[]⟩, .int .i64 0, .string ⟨#[]⟩, .int .i64 0, .int .i64 0, .int .i64 0, .int .i64 0, .int .i64 0, .int .i64 0, .int .i64 0, .int .i64 0, .int .i64 0, .int .i64 0, .slice none 0 0, .string ⟨#[]⟩, .string ⟨#[]⟩, .string ⟨#[]⟩, .bool false, .bool false] 27)) = U4 at hS SZ HN ⊢
          refine wpAnyH_ready (rs := [3]) (by kernel_rfl) (by simp) ?_
          refine AllReadyH.cons rfl (fun K hK => ?_) AllReadyH.nil
          go_simp
          have hlt8 := h_lt HN.out
          refine (Resolve3_c cur (PM.wide s) _ (Nat.le_trans HWL.out (by decide)) (fun _ => Nat.le_trans HWL.out (by decide)) (hS.ok (.head _)) Ncur.out (HG.out.below hS.be) (tabs_below HTB.out hS.be)).mono ?_
          rintro e U5 ⟨hp, hb⟩
          obtain ⟨v, rfl, hyp, hyf, hyo⟩ := parse_okF hp HO.out (res_path HO.out (Nat.le_trans HWL.out (by decide)) (few_path Fcur.out).1 (few_path Fcur.out).2)
          clear hp
          have hny : Nb (U1.heap.size) v := fun g o e hx => by have := hyf g o e hx; omega
          have NY := Lib.hid hny
          clear hny hlt8
          replace hS := hS.below hb
          replace SZ : Hid (V6.heap.size ≤ U5.heap.size) := Lib.hid (Nat.le_trans SZ.out hb.size)
          replace HN := Lib.hid (obj_b hb HN.out)
          have Pv := Lib.hid hyp
          have Ov := Lib.hid hyo
          clear hb hyp hyf hyo
          refine hK.out _ _ hS (fun _ => ?_)
          clear hK K
          (try simp only [List.getElem_toArray, List.getElem_cons_zero, List.getElem_cons_succ, Act.put, List.setIfInBounds_toArray, List.set_cons_zero, List.set_cons_succ])
          refine wpAnyH_take (i := 4) (v := ?_) rfl (by kernel_rfl) (by kernel_rfl) (by kernel_rfl) (fun _ _ _ h => h) (Or.inl ⟨by kernel_rfl, fun W hW => ?_⟩) (by assumption) ?_
          rotate_left
          · go_simp
            try with_reducible rfl
          (try simp only [List.getElem_toArray, List.getElem_cons_zero, List.getElem_cons_succ, Act.put, List.setIfInBounds_toArray, List.set_cons_zero, List.set_cons_succ])
          refine wpAnyH_take (i := 5) (v := ?_) rfl (by kernel_rfl) (by kernel_rfl) (by kernel_rfl) (fun _ _ _ h => h) (Or.inl ⟨by kernel_rfl, fun W hW => ?_⟩) (by assumption) ?_
          rotate_left
          · go_simp
            try with_reducible rfl
          (try simp only [List.getElem_toArray, List.getElem_cons_zero, List.getElem_cons_succ, Act.put, List.setIfInBounds_toArray, List.set_cons_zero, List.set_cons_succ])
          refine wpAnyH_take (i := 6) (v := ?_) rfl (by kernel_rfl) (by kernel_rfl) (by kernel_rfl) (fun _ _ _ h => h) (Or.inl ⟨by kernel_rfl, fun W hW => ?_⟩) (by assumption) ?_
          rotate_left
          · go_simp
            try with_reducible rfl
          (try simp only [List.getElem_toArray, List.getElem_cons_zero, List.getElem_cons_succ, Act.put, List.setIfInBounds_toArray, List.set_cons_zero, List.set_cons_succ])
          refine wpAnyH_ready (rs := [8]) (by kernel_rfl) (by simp) ?_
          refine AllReadyH.cons rfl (fun K hK => ?_) AllReadyH.nil
          try rw [if_pos (by rfl)]
          refine wp_store_row 27 _ _ rfl (U1.heap.size) v.cells rfl rfl 27 _ HN.out (by kernel_rfl) rfl (agg_one v) ?_
          have hS8 : Bx [(w.heap.size, cur), (ku, u)] w (U5.setRow (U1.heap.size) v.cells) := hS.row v.cells (FAR.out _ HLB.out)
          refine hK.out _ _ hS8 (fun _ => ?_)
          clear hK K
          (try simp only [List.getElem_toArray, List.getElem_cons_zero, List.getElem_cons_succ, Act.put, List.setIfInBounds_toArray, List.set_cons_zero, List.set_cons_succ])
          refine wpAnyH_take (i := 9) (v := ?_) rfl (by kernel_rfl) (by kernel_rfl) (by kernel_rfl) (fun _ _ _ h => h) (Or.inl ⟨by kernel_rfl, fun W hW => ?_⟩) (by assumption) ?_
          rotate_left
          · go_simp
            try with_reducible rfl
          (try simp only [List.getElem_toArray, List.getElem_cons_zero, List.getElem_cons_succ, Act.put, List.setIfInBounds_toArray, List.set_cons_zero, List.set_cons_succ])
          refine wpAnyH_done (by kernel_rfl) ?_ _
          refine NoPanic.normal ?_
          go_wp2
          go_meet
          exact ⟨_, v, _, rfl, rfl, rfl, Pv, Lib.hid (Ok_rowN Ov.out NY.out _), Lib.hid (heap_setRow HN.out _), Lib.hid hS8⟩
      · go_simp
        have hN : (V6.alloc (.cells #[.string ⟨#[]⟩, .string ⟨#[]⟩, .string ⟨#[]⟩, .int .i64 0, .string ⟨#[]⟩, .int .i64 0, .int .i64 0, .int .i64 0, .int .i64 0, .int .i64 0, .int .i64 0, .int .i64 0, .int .i64 0, .int .i64 0, .int .i64 0, .slice none 0 0, .string ⟨#[]⟩, .string ⟨#[]⟩, .string ⟨#[]⟩, .bool false, .bool false] 27)).drew.heap[V6.heap.size]? = some (.cells #[.string ⟨#[]⟩, .string ⟨#[]⟩, .string ⟨#[]⟩, .int .i64 0, .string ⟨#[]⟩, .int .i64 0, .int .i64 0, .int .i64 0, .int .i64 0, .int .i64 0, .int .i64 0, .int .i64 0, .int .i64 0, .int .i64 0, .int .i64 0, .slice none 0 0, .string ⟨#[]⟩, .string ⟨#[]⟩, .string ⟨#[]⟩, .bool false, .bool false] 27 (0, 0)) := Go.heap_alloc_new V6 _
        have hb : Below V6.drew.heap.size (V6.drew) (V6.alloc (.cells #[.string ⟨#[]⟩, .string ⟨#[]⟩, .string ⟨#[]⟩, .int .i64 0, .string ⟨#[]⟩, .int .i64 0, .int .i64 0, .int .i64 0, .int .i64 0, .int .i64 0, .int .i64 0, .int .i64 0, .int .i64 0, .int .i64 0, .int .i64 0, .slice none 0 0, .string ⟨#[]⟩, .string ⟨#[]⟩, .string ⟨#[]⟩, .bool false, .bool false] 27)).drew := b_alloc (Below.refl (V6.drew).heap.size (V6.drew)) _
        have HLB : Hid (V6.heap.size ≤ V6.heap.size) := Lib.hid SZ.out
        replace hS := hS.below hb
        replace SZ : Hid (V6.heap.size ≤ (V6.alloc (.cells #[.string ⟨#[]⟩, .string ⟨#[]⟩, .string ⟨#[]⟩, .int .i64 0, .string ⟨#[]⟩, .int .i64 0, .int .i64 0, .int .i64 0, .int .i64 0, .int .i64 0, .int .i64 0, .int .i64 0, .int .i64 0, .int .i64 0, .int .i64 0, .slice none 0 0, .string ⟨#[]⟩, .string ⟨#[]⟩, .string ⟨#[]⟩, .bool false, .bool false] 27)).drew.heap.size) := Lib.hid (Nat.le_trans SZ.out hb.size)
        have HN := Lib.hid hN
        clear hb hN
        refine hK.out _ _ hS (fun _ => ?_)
        clear hK K
        (try simp only [List.getElem_toArray, List.getElem_cons_zero, List.getElem_cons_succ, Act.put, List.setIfInBounds_toArray, List.set_cons_zero, List.set_cons_succ])
        generalize (V6.alloc (.cells #[.string ⟨#[]⟩, .string ⟨#[]⟩, .string ⟨#[]⟩, .int .i64 0, .string ⟨#[]⟩, .int .i64 0, .int .i64 0, .int .i64 0, .int .i64 0, .int .i64 0, .int .i64 0, .int .i64 0, .int .i64 0, .int .i64 0, .int .i64 0, .slice none 0 0, .string ⟨#[]⟩, .string ⟨#[]⟩, .string ⟨#[]⟩, .bool false, .bool false] 27)).drew = U6 at hS SZ HN ⊢
        refine wpAnyH_ready (rs := [2]) (by kernel_rfl) (by simp) ?_
        refine AllReadyH.cons rfl (fun K hK => ?_) AllReadyH.nil
        go_simp
        refine (Wide_c s (Nat.le_trans HLs.out (by decide)) _).mono ?_
        rintro e U7 ⟨rfl, hb⟩
        replace hS := hS.below hb
        replace SZ : Hid (V6.heap.size ≤ U7.heap.size) := Lib.hid (Nat.le_trans SZ.out hb.size)
        replace HN := Lib.hid (obj_b hb HN.out)
        clear hb
        refine hK.out _ _ hS (fun _ => ?_)
        clear hK K
        (try simp only [List.getElem_toArray, List.getElem_cons_zero, List.getElem_cons_succ, Act.put, List.setIfInBounds_toArray, List.set_cons_zero, List.set_cons_succ])
        refine wpAnyH_ready (rs := [3]) (by kernel_rfl) (by simp) ?_
        refine AllReadyH.cons rfl (fun K hK => ?_) AllReadyH.nil
        go_simp
        have hlt8 := h_lt HN.out
        refine (Resolve3_c cur (PM.wide s) _ (Nat.le_trans HWL.out (by decide)) (fun _ => Nat.le_trans HWL.out (by decide)) (hS.ok (.head _)) Ncur.out (HG.out.below hS.be) (tabs_below HTB.out hS.be)).mono ?_
        rintro e U8 ⟨hp, hb⟩
        obtain ⟨v, rfl, hyp, hyf, hyo⟩ := parse_okF hp HO.out (res_path HO.out (Nat.le_trans HWL.out (by decide)) (few_path Fcur.out).1 (few_path Fcur.out).2)
        clear hp
        have hny : Nb (V6.heap.size) v := fun g o e hx => by have := hyf g o e hx; omega
        have NY := Lib.hid hny
        clear hny hlt8
        replace hS := hS.below hb
        replace SZ : Hid (V6.heap.size ≤ U8.heap.size) := Lib.hid (Nat.le_trans SZ.out hb.size)
        replace HN := Lib.hid (obj_b hb HN.out)
        have Pv := Lib.hid hyp
        have Ov := Lib.hid hyo
        clear hb hyp hyf hyo
        refine hK.out _ _ hS (fun _ => ?_)
        clear hK K
        (try simp only [List.getElem_toArray, List.getElem_cons_zero, List.getElem_cons_succ, Act.put, List.setIfInBounds_toArray, List.set_cons_zero, List.set_cons_succ])
        refine wpAnyH_take (i := 4) (v := ?_) rfl (by kernel_rfl) (by kernel_rfl) (by kernel_rfl) (fun _ _ _ h => h) (Or.inl ⟨by kernel_rfl, fun W hW => ?_⟩) (by assumption) ?_
        rotate_left
        · go_simp
          try with_reducible rfl
        (try simp only [List.getElem_toArray, List.getElem_cons_zero, List.getElem_cons_succ, Act.put, List.setIfInBounds_toArray, List.set_cons_zero, List.set_cons_succ])
        refine wpAnyH_take (i := 5) (v := ?_) rfl (by kernel_rfl) (by kernel_rfl) (by kernel_rfl) (fun _ _ _ h => h) (Or.inl ⟨by kernel_rfl, fun W hW => ?_⟩) (by assumption) ?_
        rotate_left
        · go_simp
          try with_reducible rfl
        (try simp only [List.getElem_toArray, List.getElem_cons_zero, List.getElem_cons_succ, Act.put, List.setIfInBounds_toArray, List.set_cons_zero, List.set_cons_succ])
        refine wpAnyH_take (i := 6) (v := ?_) rfl (by kernel_rfl) (by kernel_rfl) (by kernel_rfl) (fun _ _ _ h => h) (Or.inl ⟨by kernel_rfl, fun W hW => ?_⟩) (by assumption) ?_
        rotate_left
        · go_simp
          try with_reducible rfl
        (try simp only [List.getElem_toArray, List.getElem_cons_zero, List.getElem_cons_succ, Act.put, List.setIfInBounds_toArray, List.set_cons_zero, List.set_cons_succ])
        refine wpAnyH_ready (rs := [8]) (by kernel_rfl) (by simp) ?_
        refine AllReadyH.cons rfl (fun K hK => ?_) AllReadyH.nil
        try rw [if_pos (by rfl)]
        refine wp_store_row 27 _ _ rfl (V6.heap.size) v.cells rfl rfl 27 _ HN.out (by kernel_rfl) rfl (agg_one v) ?_
        have hS8 : Bx [(w.heap.size, cur), (ku, u)] w (U8.setRow (V6.heap.size) v.cells) := hS.row v.cells (FAR.out _ HLB.out)
        refine hK.out _ _ hS8 (fun _ => ?_)
        clear hK K
        (try simp only [List.getElem_toArray, List.getElem_cons_zero, List.getElem_cons_succ, Act.put, List.setIfInBounds_toArray, List.set_cons_zero, List.set_cons_succ])
        refine wpAnyH_take (i := 9) (v := ?_) rfl (by kernel_rfl) (by kernel_rfl) (by kernel_rfl) (fun _ _ _ h => h) (Or.inl ⟨by kernel_rfl, fun W hW => ?_⟩) (by assumption) ?_
        rotate_left
        · go_simp
          try with_reducible rfl
        (try simp only [List.getElem_toArray, List.getElem_cons_zero, List.getElem_cons_succ, Act.put, List.setIfInBounds_toArray, List.set_cons_zero, List.set_cons_succ])
        refine wpAnyH_done (by kernel_rfl) ?_ _
        refine NoPanic.normal ?_
        go_wp2
        go_meet
        exact ⟨_, v, _, rfl, rfl, rfl, Pv, Lib.hid (Ok_rowN Ov.out NY.out _), Lib.hid (heap_setRow HN.out _), Lib.hid hS8⟩
    case rest =>
      obtain ⟨kv, v, W9, rfl, rfl, rfl, Pv, Ov, Hv, hEA⟩ := hcut
      clear HB Hcur Ocur Hu Ou
      have Hcur := Lib.hid (hEA.out.hp (.head _))
      have Hu := Lib.hid (hEA.out.hp (.tail _ (.head _)))
      have Ocur := Lib.hid (hEA.out.ok (.head _))
      have Ou := Lib.hid (hEA.out.ok (.tail _ (.head _)))
      have HB := Lib.hid hEA.out.be
      clear hEA
      go_wp2_with fail
      refine wp_region_noPanic ?_
      refine wp_region_held_drew (S := fun W' => Bx [(w.heap.size, cur), (ku, u), (kv, v)] w W') (by kernel_rfl) (Bx.below (Bx.cons (Bx.cons (Bx.cons (Bx.nil _ _ HB.out) Hv.out Ov.out) Hu.out Ou.out) Hcur.out Ocur.out) (b_drew (Below.refl _ _))) (fun hS0 => ?_)
      refine wpAnyH_take (i := 0) (v := ?_) rfl (by kernel_rfl) (by kernel_rfl) (by kernel_rfl) (fun _ _ _ h => h) (Or.inl ⟨by kernel_rfl, fun W hW => ?_⟩) (by assumption) ?_
      rotate_left
      · go_simp
        try with_reducible rfl
      (try simp only [List.getElem_toArray, List.getElem_cons_zero, List.getElem_cons_succ, Act.put, List.setIfInBounds_toArray, List.set_cons_zero, List.set_cons_succ])
      refine wpAnyH_take (i := 1) (v := ?_) rfl (by kernel_rfl) (by kernel_rfl) (by kernel_rfl) (fun _ _ _ h => h) (Or.inl ⟨by kernel_rfl, fun W hW => ?_⟩) (by assumption) ?_
      rotate_left
      · go_simp
        try with_reducible rfl
      (try simp only [List.getElem_toArray, List.getElem_cons_zero, List.getElem_cons_succ, Act.put, List.setIfInBounds_toArray, List.set_cons_zero, List.set_cons_succ])
      refine wpAnyH_take (i := 2) (v := ?_) rfl (by kernel_rfl) (by kernel_rfl) (by kernel_rfl) (fun _ _ _ h => h) (Or.inl ⟨by kernel_rfl, fun W hW => ?_⟩) (by assumption) ?_
      rotate_left
      · go_simp
        try with_reducible rfl
      (try simp only [List.getElem_toArray, List.getElem_cons_zero, List.getElem_cons_succ, Act.put, List.setIfInBounds_toArray, List.set_cons_zero, List.set_cons_succ])
      refine wpAnyH_take (i := 3) (v := ?_) rfl (by kernel_rfl) (by kernel_rfl) (by kernel_rfl) (fun _ _ _ h => h) (Or.inl ⟨by kernel_rfl, fun W hW => ?_⟩) (by assumption) ?_
      rotate_left
      · go_simp
        try with_reducible rfl
      (try simp only [List.getElem_toArray, List.getElem_cons_zero, List.getElem_cons_succ, Act.put, List.setIfInBounds_toArray, List.set_cons_zero, List.set_cons_succ])
      refine wpAnyH_take (i := 4) (v := ?_) rfl (by kernel_rfl) (by kernel_rfl) (by kernel_rfl) (fun _ _ _ h => h) (Or.inl ⟨by kernel_rfl, fun W hW => ?_⟩) (by assumption) ?_
      rotate_left
      · go_simp
        try with_reducible rfl
      (try simp only [List.getElem_toArray, List.getElem_cons_zero, List.getElem_cons_succ, Act.put, List.setIfInBounds_toArray, List.set_cons_zero, List.set_cons_succ])
      refine wpAnyH_ready (rs := [5]) (by kernel_rfl) (by simp) ?_
      refine AllReadyH.cons rfl (fun K hK => ?_) AllReadyH.nil
      go_simp
      refine (Wide_c s (Nat.le_trans HLs.out (by decide)) _).mono ?_
      rintro e U2 ⟨rfl, hb⟩
      have hSn := hS0.below hb
      clear hb hS0
      refine hK.out _ _ hSn (fun _ => ?_)
      clear hK K
      (try simp only [List.getElem_toArray, List.getElem_cons_zero, List.getElem_cons_succ, Act.put, List.setIfInBounds_toArray, List.set_cons_zero, List.set_cons_succ])
      refine wpAnyH_take (i := 6) (v := ?_) rfl (by kernel_rfl) (by kernel_rfl) (by kernel_rfl) (fun _ _ _ h => h) (Or.inl ⟨by kernel_rfl, fun W hW => ?_⟩) (by assumption) ?_
      rotate_left
      · go_simp
        try with_reducible rfl
      (try simp only [List.getElem_toArray, List.getElem_cons_zero, List.getElem_cons_succ, Act.put, List.setIfInBounds_toArray, List.set_cons_zero, List.set_cons_succ])
      refine wpAnyH_take (i := 7) (v := ?_) rfl (by kernel_rfl) (by kernel_rfl) (by kernel_rfl) (fun _ _ _ h => h) (Or.inl ⟨by kernel_rfl, fun W hW => ?_⟩) (by assumption) ?_
      rotate_left
      · go_simp
        try with_reducible rfl
      (try simp only [List.getElem_toArray, List.getElem_cons_zero, List.getElem_cons_succ, Act.put, List.setIfInBounds_toArray, List.set_cons_zero, List.set_cons_succ])
      refine wpAnyH_take (i := 8) (v := ?_) rfl (by kernel_rfl) (by kernel_rfl) (by kernel_rfl) (fun _ _ _ h => h) (Or.inl ⟨by kernel_rfl, fun W hW => ?_⟩) (by assumption) ?_
      rotate_left
      · go_simp
        try with_reducible rfl
      (try simp only [List.getElem_toArray, List.getElem_cons_zero, List.getElem_cons_succ, Act.put, List.setIfInBounds_toArray, List.set_cons_zero, List.set_cons_succ])
      refine wpAnyH_take (i := 9) (v := ?_) rfl (by kernel_rfl) (by kernel_rfl) (by kernel_rfl) (fun _ _ _ h => h) (Or.inl ⟨by kernel_rfl, fun W hW => ?_⟩) (by assumption) ?_
      rotate_left
      · go_simp
        try with_reducible rfl
      (try simp only [List.getElem_toArray, List.getElem_cons_zero, List.getElem_cons_succ, Act.put, List.setIfInBounds_toArray, List.set_cons_zero, List.set_cons_succ])
      refine wpAnyH_take (i := 10) (v := ?_) rfl (by kernel_rfl) (by kernel_rfl) (by kernel_rfl) (fun _ _ _ h => h) (Or.inl ⟨by kernel_rfl, fun W hW => ?_⟩) (by assumption) ?_
      rotate_left
      · go_simp
        try with_reducible rfl
      (try simp only [List.getElem_toArray, List.getElem_cons_zero, List.getElem_cons_succ, Act.put, List.setIfInBounds_toArray, List.set_cons_zero, List.set_cons_succ])
      refine wpAnyH_take (i := 11) (v := ?_) rfl (by kernel_rfl) (by kernel_rfl) (by kernel_rfl) (fun _ _ _ h => h) (Or.inl ⟨by kernel_rfl, fun W hW => ?_⟩) (by assumption) ?_
      rotate_left
      · go_simp
        try with_reducible rfl
      (try simp only [List.getElem_toArray, List.getElem_cons_zero, List.getElem_cons_succ, Act.put, List.setIfInBounds_toArray, List.set_cons_zero, List.set_cons_succ])
      refine wpAnyH_take (i := 12) (v := ?_) rfl (by kernel_rfl) (by kernel_rfl) (by kernel_rfl) (fun _ _ _ h => h) (Or.inl ⟨by kernel_rfl, fun W hW => ?_⟩) (by assumption) ?_
      rotate_left
      · go_simp
        try with_reducible rfl
      (try simp only [List.getElem_toArray, List.getElem_cons_zero, List.getElem_cons_succ, Act.put, List.setIfInBounds_toArray, List.set_cons_zero, List.set_cons_succ])
      refine wpAnyH_take (i := 13) (v := ?_) rfl (by kernel_rfl) (by kernel_rfl) (by kernel_rfl) (fun _ _ _ h => h) (Or.inl ⟨by kernel_rfl, fun W hW => ?_⟩) (by assumption) ?_
      rotate_left
      · go_simp
        try with_reducible rfl
      (try simp only [List.getElem_toArray, List.getElem_cons_zero, List.getElem_cons_succ, Act.put, List.setIfInBounds_toArray, List.set_cons_zero, List.set_cons_succ])
      refine wpAnyH_take (i := 14) (v := ?_) rfl (by kernel_rfl) (by kernel_rfl) (by kernel_rfl) (fun _ _ _ h => h) (Or.inl ⟨by kernel_rfl, fun W hW => ?_⟩) (by assumption) ?_
      rotate_left
      · go_simp
        try with_reducible rfl
      (try simp only [List.getElem_toArray, List.getElem_cons_zero, List.getElem_cons_succ, Act.put, List.setIfInBounds_toArray, List.set_cons_zero, List.set_cons_succ])
      refine wpAnyH_take (i := 15) (v := ?_) rfl (by kernel_rfl) (by kernel_rfl) (by kernel_rfl) (fun _ _ _ h => h) (Or.inl ⟨by kernel_rfl, fun W hW => ?_⟩) (by assumption) ?_
      rotate_left
      · go_simp
        try with_reducible rfl
      (try simp only [List.getElem_toArray, List.getElem_cons_zero, List.getElem_cons_succ, Act.put, List.setIfInBounds_toArray, List.set_cons_zero, List.set_cons_succ])
      refine wpAnyH_take (i := 16) (v := ?_) rfl (by kernel_rfl) (by kernel_rfl) (by kernel_rfl) (fun _ _ _ h => h) (Or.inl ⟨by kernel_rfl, fun W hW => ?_⟩) (by assumption) ?_
      rotate_left
      · go_simp
        try with_reducible rfl
      (try simp only [List.getElem_toArray, List.getElem_cons_zero, List.getElem_cons_succ, Act.put, List.setIfInBounds_toArray, List.set_cons_zero, List.set_cons_succ])
      refine wpAnyH_take (i := 17) (v := ?_) rfl (by kernel_rfl) (by kernel_rfl) (by kernel_rfl) (fun _ _ _ h => h) (Or.inl ⟨by kernel_rfl, fun W hW => ?_⟩) (by assumption) ?_
      rotate_left
      · go_simp
        try with_reducible rfl
      (try simp only [List.getElem_toArray, List.getElem_cons_zero, List.getElem_cons_succ, Act.put, List.setIfInBounds_toArray, List.set_cons_zero, List.set_cons_succ])
      refine wpAnyH_take (i := 18) (v := ?_) rfl (by kernel_rfl) (by kernel_rfl) (by kernel_rfl) (fun _ _ _ h => h) (Or.inl ⟨by kernel_rfl, fun W hW => ?_⟩) (by assumption) ?_
      rotate_left
      · go_simp
        try with_reducible rfl
      (try simp only [List.getElem_toArray, List.getElem_cons_zero, List.getElem_cons_succ, Act.put, List.setIfInBounds_toArray, List.set_cons_zero, List.set_cons_succ])
      refine wpAnyH_take (i := 19) (v := ?_) rfl (by kernel_rfl) (by kernel_rfl) (by kernel_rfl) (fun _ _ _ h => h) (Or.inl ⟨by kernel_rfl, fun W hW => ?_⟩) (by assumption) ?_
      rotate_left
      · go_simp
        try with_reducible rfl
      (try simp only [List.getElem_toArray, List.getElem_cons_zero, List.getElem_cons_succ, Act.put, List.setIfInBounds_toArray, List.set_cons_zero, List.set_cons_succ])
      refine wpAnyH_take (i := 20) (v := ?_) rfl (by kernel_rfl) (by kernel_rfl) (by kernel_rfl) (fun _ _ _ h => h) (Or.inl ⟨by kernel_rfl, fun W hW => ?_⟩) (by assumption) ?_
      rotate_left
      · go_simp
        try with_reducible rfl
      (try simp only [List.getElem_toArray, List.getElem_cons_zero, List.getElem_cons_succ, Act.put, List.setIfInBounds_toArray, List.set_cons_zero, List.set_cons_succ])
      refine wpAnyH_take (i := 21) (v := ?_) rfl (by kernel_rfl) (by kernel_rfl) (by kernel_rfl) (fun _ _ _ h => h) (Or.inl ⟨by kernel_rfl, fun W hW => ?_⟩) (by assumption) ?_
      rotate_left
      · go_simp
        try with_reducible rfl
      (try simp only [List.getElem_toArray, List.getElem_cons_zero, List.getElem_cons_succ, Act.put, List.setIfInBounds_toArray, List.set_cons_zero, List.set_cons_succ])
      refine wpAnyH_take (i := 22) (v := ?_) rfl (by kernel_rfl) (by kernel_rfl) (by kernel_rfl) (fun _ _ _ h => h) (Or.inl ⟨by kernel_rfl, fun W hW => ?_⟩) (by assumption) ?_
      rotate_left
      · refine yield_row 27 (.tmp 10) ?_ ku ?_ (hW.hp (.tail _ (.head _))) Tryz.underlying27 rfl (by kernel_rfl)
        · rfl
        · rfl
      (try simp only [List.getElem_toArray, List.getElem_cons_zero, List.getElem_cons_succ, Act.put, List.setIfInBounds_toArray, List.set_cons_zero, List.set_cons_succ])
      refine wpAnyH_take (i := 23) (v := ?_) rfl (by kernel_rfl) (by kernel_rfl) (by kernel_rfl) (fun _ _ _ h => h) (Or.inl ⟨by kernel_rfl, fun W hW => ?_⟩) (by assumption) ?_
      rotate_left
      · refine yield_row 27 (.tmp 12) ?_ kv ?_ (hW.hp (.tail _ (.tail _ (.head _)))) Tryz.underlying27 rfl (by kernel_rfl)
        · rfl
        · rfl
      (try simp only [List.getElem_toArray, List.getElem_cons_zero, List.getElem_cons_succ, Act.put, List.setIfInBounds_toArray, List.set_cons_zero, List.set_cons_succ])
      refine wpAnyH_take (i := 24) (v := ?_) rfl (by kernel_rfl) (by kernel_rfl) (by kernel_rfl) (fun _ _ _ h => h) (Or.inl ⟨by kernel_rfl, fun W hW => ?_⟩) (by assumption) ?_
      rotate_left
      · refine yield_row 27 (.tmp 3) ?_ w.heap.size ?_ (hW.hp (.head _)) Tryz.underlying27 rfl (by kernel_rfl)
        · rfl
        · rfl
      (try simp only [List.getElem_toArray, List.getElem_cons_zero, List.getElem_cons_succ, Act.put, List.setIfInBounds_toArray, List.set_cons_zero, List.set_cons_succ])
      refine wpAnyH_ready (rs := [25]) (by kernel_rfl) (by simp) ?_
      refine AllReadyH.cons rfl (fun K hK => ?_) AllReadyH.nil
      go_simp
      refine (Inherit_c v cur _ (hSn.ok (.tail _ (.tail _ (.head _)))) (hSn.ok (.head _)).fr).mono ?_
      rintro e U3 ⟨x, rfl, hxp, hxo, -, -, hb⟩
      replace hSn := hSn.below hb
      clear hb
      have PX := Lib.hid hxp
      have OX := Lib.hid hxo
      clear hxp hxo
      refine hK.out _ _ hSn (fun _ => ?_)
      clear hK K
      (try simp only [List.getElem_toArray, List.getElem_cons_zero, List.getElem_cons_succ, Act.put, List.setIfInBounds_toArray, List.set_cons_zero, List.set_cons_succ])
      refine wpAnyH_ready (rs := [26]) (by kernel_rfl) (by simp) ?_
      refine AllReadyH.cons rfl (fun K hK => ?_) AllReadyH.nil
      go_simp
      refine (UrlSame_c u x _ (hSn.ok (.tail _ (.head _))) OX.out).mono ?_
      rw [PX.out, Pu.out, Pv.out, show (PM.afterP (some p) cur.pm).1 = PM.inherit p cur.pm from rfl, same_self]
      rintro e U4 ⟨rfl, hb⟩
      replace hSn := hSn.below hb
      clear hb
      refine hK.out _ _ hSn (fun _ => ?_)
      clear hK K
      (try simp only [List.getElem_toArray, List.getElem_cons_zero, List.getElem_cons_succ, Act.put, List.setIfInBounds_toArray, List.set_cons_zero, List.set_cons_succ])
      refine wpAnyH_take (i := 27) (v := ?_) rfl (by kernel_rfl) (by kernel_rfl) (by kernel_rfl) (fun _ _ _ h => h) (Or.inl ⟨by kernel_rfl, fun W hW => ?_⟩) (by assumption) ?_
      rotate_left
      · go_simp
        try with_reducible rfl
      (try simp only [List.getElem_toArray, List.getElem_cons_zero, List.getElem_cons_succ, Act.put, List.setIfInBounds_toArray, List.set_cons_zero, List.set_cons_succ])
      refine wpAnyH_take (i := 28) (v := ?_) rfl (by kernel_rfl) (by kernel_rfl) (by kernel_rfl) (fun _ _ _ h => h) (Or.inl ⟨by kernel_rfl, fun W hW => ?_⟩) (by assumption) ?_
      rotate_left
      · go_simp
        try with_reducible rfl
      (try simp only [List.getElem_toArray, List.getElem_cons_zero, List.getElem_cons_succ, Act.put, List.setIfInBounds_toArray, List.set_cons_zero, List.set_cons_succ])
      refine wpAnyH_take (i := 29) (v := ?_) rfl (by kernel_rfl) (by kernel_rfl) (by kernel_rfl) (fun _ _ _ h => h) (Or.inl ⟨by kernel_rfl, fun W hW => ?_⟩) (by assumption) ?_
      rotate_left
      · go_simp
        try with_reducible rfl
      (try simp only [List.getElem_toArray, List.getElem_cons_zero, List.getElem_cons_succ, Act.put, List.setIfInBounds_toArray, List.set_cons_zero, List.set_cons_succ])
      refine wpAnyH_done (by kernel_rfl) ?_ _
      refine NoPanic.normal ?_
      go_wp2
      go_ret
      exact ⟨rfl, hSn.be⟩
end Go.Proofs.YtppbkblnjlbnfaaGreatDoor
/-! The row of PlaceBytes. -/
namespace Go.Proofs.YtppbkblnjlbnfaaGreatDoor
open Go.ChangeShapes Go.WideShapes Go.ChangeAt Go.RowKit
open Go.WideMaps Go.WideElems
open Go.ChangeMaps (open_string shut_string)
theorem placeBytes_reads (os : Os) {H : Type} (enc : TypeId × Value → H) : ∃ x, DataW.whole enc Tryz.prog ((laidWorld os).forCall (fun _ _ => 0) ⟨#[], #[.string ⟨#[]⟩, .agg #[.string ⟨#[]⟩, .string ⟨#[]⟩, .string ⟨#[]⟩, .int .i64 0, .string ⟨#[]⟩, .int .i64 0, .int .i64 0, .int .i64 0, .int .i64 0, .int .i64 0, .int .i64 0, .int .i64 0, .int .i64 0, .int .i64 0, .int .i64 0, .slice none 0 0, .string ⟨#[]⟩, .string ⟨#[]⟩, .string ⟨#[]⟩, .bool false, .bool false]], []⟩).memory Tryz.f13.params.toList Rows.placeBytesSpec.vars false (#[.string ⟨#[]⟩, .agg #[.string ⟨#[]⟩, .string ⟨#[]⟩, .string ⟨#[]⟩, .int .i64 0, .string ⟨#[]⟩, .int .i64 0, .int .i64 0, .int .i64 0, .int .i64 0, .int .i64 0, .int .i64 0, .int .i64 0, .int .i64 0, .int .i64 0, .int .i64 0, .slice none 0 0, .string ⟨#[]⟩, .string ⟨#[]⟩, .string ⟨#[]⟩, .bool false, .bool false]] : Array Value).toList 8 = some x :=
  Option.isSome_iff_exists.1 (by kernel_rfl)
set_option maxRecDepth 100000 in
theorem placeBytes_lifted (os : Os) (started : os.Started) (H : Type) (enc : TypeId × Value → H) (F : Stop.Interp) :
    ReturnsInHanded {} Tryz.checked os 13 .any ((OpenSpec.ofChange Rows.placeBytesSpec).preRow enc Tryz.prog Tryz.f13 Rows.placeBytesRow.domain false Rows.placeBytesRow.laid) (((OpenSpec.ofChange Rows.placeBytesSpec).at F).post enc Tryz.prog Tryz.f13 false true false false) := by
  obtain ⟨x, hx⟩ := placeBytes_reads os enc
  refine returnsInHanded_of_row (C := Tryz.checked) (s := OpenSpec.ofChange Rows.placeBytesSpec) own started (by kernel_rfl) Tryz.func13
    (witness_row_atRef (enc := enc) (C := Tryz.checked) false (laidWorld os) #[.string ⟨#[]⟩, .agg #[.string ⟨#[]⟩, .string ⟨#[]⟩, .string ⟨#[]⟩, .int .i64 0, .string ⟨#[]⟩, .int .i64 0, .int .i64 0, .int .i64 0, .int .i64 0, .int .i64 0, .int .i64 0, .int .i64 0, .int .i64 0, .int .i64 0, .int .i64 0, .slice none 0 0, .string ⟨#[]⟩, .string ⟨#[]⟩, .string ⟨#[]⟩, .bool false, .bool false]] rfl (by kernel_rfl) (by kernel_rfl) (by kernel_rfl)
      (OpenSpec.preRow_of_cond 8 hx rfl (fun k hk => by cases hk) (by kernel_rfl) (laid_met os _))) ?_
  intro W base args ds gs before hval0 hW _ _ _ hL hsh _
  have hval : ∀ (j : Nat) t v, Tryz.f13.params[j]? = some t → args[j]? = some v → Value.okWide Tryz.prog W .any base t v := hval0
  have hW' := hW
  obtain ⟨p, q, hA0, hV, rfl, hfz, hnd⟩ := hW
  have hA : DataW.TrodAll enc Tryz.prog W 0 (fun _ => true) true Tryz.f13.params.toList args.toList ds p := hA0
  rw [Tryz.params13] at hA hval
  obtain ⟨v0, v1, d0, d1, p0, p1, rfl, rfl, rfl, h0, h1⟩ := trodAll_two hA
  obtain ⟨rfl, rfl⟩ := trodVars_none hV
  simp only [List.append_nil] at hfz hnd hW'
  have hlt : ∀ x ∈ p0 ++ p1, x.block < W.heap.size := fun x hx => hW'.lt x hx
  have h0k := h0
  obtain ⟨s0, e0, _, _, w0⟩ := open_string Tryz.underlying9 (hval 0 9 v0 rfl rfl) h0
  obtain ⟨l0, rfl⟩ := mkS_surj s0
  subst e0
  have h1k := h1
  obtain ⟨u1, rfl, hr1⟩ := open_url (hval 1 27 v1 rfl rfl) h1
  refine (PlaceBytesL_c l0 u1 W hr1 (gl_of hsh) (tabs_laid hL)).mono fun e W' ⟨he, hb⟩ => ?_
  subst he
  refine ⟨_, rfl, _, _, _, [], p0 ++ p1, [], hW', ?_, ?_, ?_, hb.frame _, fun h => by cases h⟩
  · exact trodAll_mk1 (shut_bool Tryz.underlying4 _)
  · exact trodAll_mk2 (Below.trod laidOut (by kernel_rfl) (of_decide_eq_true (by kernel_rfl)) h0k hb (fun x hx => hlt x (by simp [hx]))) (Below.trod laidOut (by kernel_rfl) (of_decide_eq_true (by kernel_rfl)) h1k hb (fun x hx => hlt x (by simp [hx])))
  · rfl
theorem placeBytes_k0 : Rows.placeBytesRow.wf (OpenSpec.ofChange (OpenSpec.ofChange Rows.placeBytesSpec).bare) = true := by kernel_rfl
theorem placeBytes_k3 : Tryz.f13.params.all (PP.readableRec ·) = true := by kernel_rfl
theorem placeBytes_k4 : namedTie PP Rows.placeBytesRow.named (OpenSpec.ofChange Rows.placeBytesSpec).bare.vars = true := by kernel_rfl
theorem placeBytes_k5 : (Rows.placeBytesRow.stops == []) = true := by kernel_rfl
theorem placeBytes_k7 : (Rows.placeBytesRow.knobs == []) = true := by kernel_rfl
theorem placeBytes_k9 : (Rows.placeBytesRow.inPlace == PP.inPlace 13) = true := by kernel_rfl
theorem placeBytes_k10 : (Rows.placeBytesRow.unfollowed == PP.unfollowed 13) = true := by kernel_rfl
theorem placeBytes_k11 : (Rows.placeBytesRow.recurses == PP.recurses 13) = true := by kernel_rfl
theorem placeBytes_k12 : (Rows.placeBytesRow.named == PP.varsNamed 13) = true := by kernel_rfl
theorem placeBytes_k13 : (Rows.placeBytesRow.maps == (Tryz.f13.params.toList ++ (OpenSpec.ofChange Rows.placeBytesSpec).bare.plain.varTypes PP).any (PP.mapsRec ·)) = true := by kernel_rfl
theorem placeBytes_k14 : (Rows.placeBytesRow.ifaces == (Tryz.f13.params.toList ++ (OpenSpec.ofChange Rows.placeBytesSpec).bare.plain.varTypes PP).any (PP.ifacesRec ·)) = true := by kernel_rfl
theorem placeBytes_k15 : (Rows.placeBytesRow.mapsOut == PP.mapsAmong Tryz.f13.resultTypes.toList) = true := by kernel_rfl
theorem placeBytes_k16 : (Rows.placeBytesRow.loops == (Tryz.f13.params.toList ++ (OpenSpec.ofChange Rows.placeBytesSpec).bare.plain.varTypes PP).any (PP.loopsFrom ·)) = true := by kernel_rfl
theorem placeBytes_k17 : (Rows.placeBytesRow.wideKeys == (Tryz.f13.params.toList ++ (OpenSpec.ofChange Rows.placeBytesSpec).bare.plain.varTypes PP ++ Tryz.f13.resultTypes.toList).any (PP.wideKeysFrom ·)) = true := by kernel_rfl
theorem placeBytes_k18 : (OpenSpec.ofChange Rows.placeBytesSpec).bare.vars.all (PP.varReadable ·) = true := by kernel_rfl
theorem placeBytes_k19 : Tryz.f13.resultTypes.all (fun t => PP.readableRec t && decide (t < PP.types.size)) = true := by kernel_rfl
theorem placeBytes_k20 : (Rows.placeBytesRow.ifacesOut == Tryz.f13.resultTypes.toList.any (PP.ifacesRec ·)) = true := by kernel_rfl
theorem placeBytes_k21 : (Rows.placeBytesRow.loopsOut == Tryz.f13.resultTypes.toList.any (PP.loopsFrom ·)) = true := by kernel_rfl
theorem placeBytes_k23 : Rows.placeBytesRow.shortTexts.isNone = true := by kernel_rfl
theorem placeBytes_k28 : (Rows.placeBytesRow.kinds == (if Rows.placeBytesRow.domain.isEmpty then [] else Tryz.f13.params.toList.map fun t => match PP.underlying t with | some (.int k) => some k | _ => none)) = true := by kernel_rfl
theorem placeBytes_k29 : (Rows.placeBytesRow.pinned == Rows.placeBytesRow.pinnedBy) = true := by kernel_rfl
theorem placeBytes_k30 : (Rows.placeBytesRow.veiled == (Tryz.f13.params.toList ++ (OpenSpec.ofChange Rows.placeBytesSpec).bare.plain.varTypes PP ++ Tryz.f13.resultTypes.toList).any (PP.veiledRec ·)) = true := by kernel_rfl
theorem placeBytes_k31 : Rows.placeBytesRow.veiledFits PP Tryz.f13.params.toList (Tryz.f13.params.toList ++ (OpenSpec.ofChange Rows.placeBytesSpec).bare.plain.varTypes PP ++ Tryz.f13.resultTypes.toList) = true := by kernel_rfl
set_option maxRecDepth 100000 in
theorem placeBytes_closed : joinedFacts PP 13 Tryz.f13 (OpenSpec.ofChange Rows.placeBytesSpec).bare Rows.placeBytesRow = true := and2 (and2 (and2 (and2 (and2 (and2 (and2 (and2 (and2 (and2 (and2 (and2 (and2 (and2 (and2 (and2 (and2 (and2 (and2 (and2 (and2 (and2 (and2 (and2 (and2 (and2 (and2 (and2 (and2 (and2 (and2 (placeBytes_k0) j_laidOut) j_rowed) placeBytes_k3) placeBytes_k4) placeBytes_k5) j_stops) placeBytes_k7) j_knobs) placeBytes_k9) placeBytes_k10) placeBytes_k11) placeBytes_k12) placeBytes_k13) placeBytes_k14) placeBytes_k15) placeBytes_k16) placeBytes_k17) placeBytes_k18) placeBytes_k19) placeBytes_k20) placeBytes_k21) j_plain) placeBytes_k23) j_heard) j_enter) j_lift) j_make) placeBytes_k28) placeBytes_k29) placeBytes_k30) placeBytes_k31
theorem placeBytes_named : Tryz.pinned.checked.prog.funcNamed Rows.placeBytesRow.func = some 13 := by kernel_rfl
theorem placeBytes_text : Rows.placeBytesRow.wfByText (OpenSpec.ofChange Rows.placeBytesSpec) = true := by kernel_rfl
theorem placeBytes_goes : false = Rows.placeBytesRow.goesBy Tryz.pinned.checked.prog := by kernel_rfl
theorem placeBytes_said : Rows.PlaceBytesSaid :=
  OpenClaim.holds_of_cond 13 Tryz.f13 rfl rfl rfl rfl rfl rfl rfl ⟨rfl, rfl, rfl, rfl, rfl⟩ rfl rfl rfl rfl rfl placeBytes_named Tryz.func13 placeBytes_closed
    (of_decide_eq_true (by kernel_rfl)) (by unfold Func.isWrapper; first | (rw [if_pos (by decide +kernel)]; kernel_rfl) | (rw [if_neg (by decide +kernel)]; exact ⟨rfl, rfl⟩))
    (fun os started H enc _ F => by rw [OpenClaim.pre_eq_preRow]; exact placeBytes_lifted os started H enc F)
theorem placeBytes_plain (f : FuncId) (fn : Func) (hf : Tryz.pinned.checked.prog.funcNamed "postmark/postmarklaw18.PlaceBytes" = some f) (hfn : Tryz.pinned.checked.prog.funcs[f]? = some fn) :
    true = Tryz.pinned.checked.prog.looks [] ∧ ∀ (j : Nat) t, fn.params[j]? = some t → Tryz.pinned.checked.prog.wantsStandIn t = false := by
  obtain rfl : f = 13 := Option.some.inj ((show Tryz.prog.funcNamed "postmark/postmarklaw18.PlaceBytes" = some 13 by kernel_rfl).symm.trans hf) |>.symm
  obtain rfl : fn = Tryz.f13 := (Option.some.inj (Tryz.func13.symm.trans hfn)).symm
  refine ⟨by kernel_rfl, fun j t ht => ?_⟩
  rw [Tryz.params13] at ht
  have hm := Array.mem_of_getElem? ht
  simp only [Array.mem_def, List.mem_cons, List.not_mem_nil, or_false] at hm
  rcases hm with rfl | rfl
  · exact (show Tryz.prog.wantsStandIn 9 = false by kernel_rfl)
  · exact (show Tryz.prog.wantsStandIn 27 = false by kernel_rfl)
theorem placeBytes_holds : Rows.PlaceBytesCardSaid :=
  Claim7.holds_tied_plain_at .later [] _ _ _ _ placeBytes_said (fun _ h => by cases h) placeBytes_text (fun _ h => by cases h) placeBytes_row_tie rfl ⟨rfl, rfl⟩ j_main rfl placeBytes_plain placeBytes_goes
#print axioms placeBytes_holds
end Go.Proofs.YtppbkblnjlbnfaaGreatDoor
