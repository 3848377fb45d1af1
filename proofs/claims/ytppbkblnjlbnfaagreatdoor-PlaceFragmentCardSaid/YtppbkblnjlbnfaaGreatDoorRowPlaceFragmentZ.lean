/-
PlaceFragment: whatever comes in, the law's call returns true, and the arguments read behind the call as they did before; no condition on them. The row lists the two tables of unicode/utf8 (first, acceptRanges); the card ties them.
-/
import Derived.Test.YtppbkblnjlbnfaaGreatDoorTz
import Derived.Test.YtppbkblnjlbnfaaGreatDoorPq
set_option linter.unusedVariables false
set_option linter.unusedSimpArgs false
/-! The walk of PlaceFragment. -/
namespace Go.Proofs.YtppbkblnjlbnfaaGreatDoor
open Go.RowKit
theorem one_small {a : PM.L} (h : a.length ≤ 1000) : ∀ f ∈ ([(PM.LOC, a)] : PM.Fs), f.1.length ≤ 1000 ∧ f.2.length ≤ 1000 := by
  intro f hf
  simp at hf
  subst hf
  exact ⟨show PM.LOC.length ≤ 1000 by decide, h⟩
theorem res_path_few {b u : PM.Url} {s : List UInt8} (h : PM.resolve b s = some u) (hs : s.length ≤ 220) (hb : b.path.length ≤ 60) : u.path.length ≤ 900 := by
  rw [PM.resolve_eq] at h
  have hcl := clean_len s
  split at h
  · cases h
  · split at h
    · have := (parse_short h).pn
      omega
    · split at h
      · cases h
      · rename_i h0
        split at h
        · have h1 := (parse_short h).pn
          have h2 : b.scheme.length ≤ 5 := by rcases PM.web_cases h0 with e | e <;> rw [e] <;> decide
          simp at h1
          omega
        · simp at h
          subst h
          have ht := (tail_len3 (PM.clean s)).1
          show (PM.wayP b.path (PM.tail (PM.clean s)).1).length ≤ 900
          have hsp := pathSplit_len (PM.tail (PM.clean s)).1
          unfold PM.wayP
          split
          · omega
          · split
            · have hc := normGo_cnt (PM.pathSplit (PM.tail (PM.clean s)).1) []
              have : (PM.pathParse (PM.tail (PM.clean s)).1).length ≤ 0 + (PM.pathSplit (PM.tail (PM.clean s)).1).length := hc
              omega
            · have hc := normGo_cnt (b.path.dropLast ++ PM.pathSplit (PM.tail (PM.clean s)).1) []
              have : (PM.mergeP b.path (PM.tail (PM.clean s)).1).length ≤ 0 + (b.path.dropLast ++ PM.pathSplit (PM.tail (PM.clean s)).1).length := hc
              simp at this
              omega
theorem place_path {a : PM.L} {cur p : PM.Url} (h : PM.placeP [(PM.LOC, a)] cur = (p, 1)) (ha : a.length ≤ 100) (hc : cur.path.length ≤ 60) : p.path.length ≤ 900 := by
  obtain ⟨h1, v, hv, hx⟩ := PM.placeOf_some h
  rw [PM.raw_one (by decide)] at hv
  have hw := wide_len a
  have := res_path_few hv (show (PM.wide a).length ≤ 220 by omega) hc
  rw [hx]
  unfold PM.inherit
  split
  · exact this
  · exact this
set_option maxRecDepth 100000 in
set_option maxHeartbeats 16000000 in
theorem PlaceFragmentL_c (cur : UV) (a b : List UInt8) (w : World) (hrcur : RdW w cur.a cur.pn cur.xs) (hg : Gl w) (hT : Lib.Utf8Tabs 2 3 w) : Calls Tryz.prog 10 #[.agg cur.cells, .string (mkS a), .string (mkS b)] w fun e w' => e = .returned (.bool true) ∧ Below w.heap.size w w' := by
  have HG := Lib.hid hg
  have HTB := Lib.hid hT
  have Rcur := Lib.hid hrcur
  clear hg hT hrcur
  have HB : Hid (Below w.heap.size w (w.alloc (.cells cur.cells 27))) := Lib.hid (b_alloc (Below.refl _ _) _)
  have Hcur : Hid ((w.alloc (.cells cur.cells 27)).heap[w.heap.size]? = some (.cells cur.cells 27 (0, 0))) := Lib.hid ((by have h := Go.heap_alloc_new w (.cells cur.cells 27); simpa using h))
  go_enter Tryz.func10, Tryz.ntmps10
  go_upto_region 1 with fail
  generalize w.alloc (.cells cur.cells 27) = V0 at HB Hcur ⊢
  go_wp2_with fail
  refine (awake18_c _ (HG.out.below HB.out) (tabs_below HTB.out HB.out)).mono ?_
  rintro e V1 ⟨rfl, hb⟩
  replace HB := Lib.hid (b_then HB.out hb)
  replace Hcur := Lib.hid (obj_b hb Hcur.out)
  clear hb
  go_wp2_with (first | go_skip | (refine wpList_load_g 27 _ rfl (by kernel_rfl) w.heap.size rfl Hcur.out Tryz.underlying27 rfl (by kernel_rfl) ?_))
  refine (Few_c cur _ (Rcur.out.below HB.out)).mono ?_
  rintro e V2 ⟨rfl, hb⟩
  replace HB := Lib.hid (b_then HB.out hb)
  replace Hcur := Lib.hid (obj_b hb Hcur.out)
  clear hb
  cases hfc : PM.few cur.pm
  · go_wp2
    go_ret
    exact ⟨rfl, HB.out⟩
  have Ocur := Lib.hid (few_ok (Rcur.out.below HB.out) hfc)
  have Fcur := Lib.hid hfc
  have Ncur : Hid (cur.xs.length ≤ 60) := Lib.hid (PM.few_all hfc).1
  clear hfc
  by_cases hla : 100 < a.length
  · have hla2 : (100 : Int) < a.length := by omega
    go_wp2
    go_ret
    exact ⟨rfl, HB.out⟩
  have hla2 : decide ((100 : Int) < (a.length : Int)) = false := decide_eq_false (by omega)
  have HLa : Hid (a.length ≤ 100) := Lib.hid (by omega)
  clear hla
  by_cases hlb : 100 < b.length
  · have hlb2 : (100 : Int) < b.length := by omega
    go_wp2
    go_ret
    exact ⟨rfl, HB.out⟩
  have hlb2 : decide ((100 : Int) < (b.length : Int)) = false := decide_eq_false (by omega)
  have HLb : Hid (b.length ≤ 100) := Lib.hid (by omega)
  clear hlb
  obtain ⟨m, hm⟩ : ∃ m, PM.webP cur.pm = m := ⟨_, rfl⟩
  have HM := Lib.hid hm
  clear hm
  go_wp2_with (first | go_skip | (refine wpList_load_g 27 _ rfl (by kernel_rfl) w.heap.size rfl Hcur.out Tryz.underlying27 rfl (by kernel_rfl) ?_))
  refine (Web18_c cur _ Ocur.out (HG.out.below HB.out)).mono ?_
  rw [HM.out]
  rintro e V3 ⟨rfl, hb⟩
  replace HB := Lib.hid (b_then HB.out hb)
  replace Hcur := Lib.hid (obj_b hb Hcur.out)
  replace Ocur := Lib.hid (Ocur.out.below hb)
  clear hb
  cases m
  · go_wp2
    go_ret
    exact ⟨rfl, HB.out⟩
  obtain ⟨⟨p, k⟩, hpk⟩ : ∃ x, PM.placeP [(PM.LOC, a)] cur.pm = x := ⟨_, rfl⟩
  have HPK := Lib.hid hpk
  clear hpk
  go_wp2_with (first | go_skip | (refine wpList_load_g 27 _ rfl (by kernel_rfl) w.heap.size rfl Hcur.out Tryz.underlying27 rfl (by kernel_rfl) ?_) | (refine wpList_load_g 27 _ rfl (by kernel_rfl) w.heap.size rfl (obj_b (b_alloc (Below.refl _ _) _) Hcur.out) Tryz.underlying27 rfl (by kernel_rfl) ?_))
  refine (Place_sm_c (some ⟨V3.heap.size, 0, none⟩) 1 1 [(PM.LOC, a)] cur _ (RdFW.one (Go.heap_alloc_new _ _)) (by decide) (one_small (Nat.le_trans HLa.out (by decide))) (Ocur.out.below (b_alloc (Below.refl _ _) _)) (Nat.le_trans Ncur.out (by decide)) (HG.out.below (b_alloc HB.out _)) (tabs_below HTB.out (b_alloc HB.out _))).mono ?_
  rw [HPK.out]
  rintro e V4 ⟨⟨x, rfl, hxp, hxo⟩, hb0⟩
  have hb : Below V3.heap.size V3 V4 := b_then (b_alloc (Below.refl _ _) _) hb0
  clear hb0
  have Px := Lib.hid hxp
  have Ox := Lib.hid hxo
  clear hxp hxo
  replace HB := Lib.hid (b_then HB.out hb)
  replace Hcur := Lib.hid (obj_b hb Hcur.out)
  replace Ocur := Lib.hid (Ocur.out.below hb)
  clear hb
  have HN := Lib.hid (Go.heap_alloc_new V4 (.cells zurl 27))
  unfold zurl at HN 
  go_upto_region 6 with (first | (refine wpList_store_row rfl 27 _ _ rfl V4.heap.size x.cells rfl rfl 27 _ HN.out (by kernel_rfl) rfl (agg_one x) ?_))
  obtain ⟨V5, hV⟩ : ∃ V5, V5 = (V4.alloc (.cells #[.string ⟨#[]⟩, .string ⟨#[]⟩, .string ⟨#[]⟩, .int .i64 0, .string ⟨#[]⟩, .int .i64 0, .int .i64 0, .int .i64 0, .int .i64 0, .int .i64 0, .int .i64 0, .int .i64 0, .int .i64 0, .int .i64 0, .int .i64 0, .slice none 0 0, .string ⟨#[]⟩, .string ⟨#[]⟩, .string ⟨#[]⟩, .bool false, .bool false] 27)).setRow V4.heap.size x.cells := ⟨_, rfl⟩
  have hN : V5.heap[V4.heap.size]? = some (.cells x.cells 27 (0, 0)) := by rw [hV]; exact heap_setRow HN.out _
  have hb : Below V4.heap.size V4 V5 := by rw [hV]; exact below_setRow (b_alloc (Below.refl _ _) _) (Nat.le_refl _) _
  rw [← hV]
  clear hV HN 
  have Hx := Lib.hid hN
  clear hN
  have hlt_bx_Hcur : w.heap.size < V4.heap.size := h_lt Hcur.out
  have hlw_bx : w.heap.size ≤ V4.heap.size := HB.out.size
  replace HB := Lib.hid (b_then HB.out hb)
  replace Hcur := Lib.hid (obj_b hb Hcur.out)
  replace Ocur := Lib.hid (Ocur.out.below hb)
  replace Ox := Lib.hid (Ox.out.below hb)
  clear hb
  generalize V4.heap.size = bx at Hx hlt_bx_Hcur hlw_bx ⊢
  (try simp only [Act.put])
  clear hla2 hlb2
  rcases Decidable.em (k = 1) with rfl | hk
  rotate_left
  · have hk2 : (k == 1) = false := beq_eq_false_iff_ne.2 hk
    go_wp2
    go_ret
    exact ⟨rfl, HB.out⟩
  have Nx : Hid (x.xs.length ≤ 900) := Lib.hid (by have h := place_path HPK.out HLa.out Ncur.out; rw [show x.xs = x.pm.path from rfl, Px.out]; exact h)
  obtain ⟨m, hm⟩ : ∃ m, PM.webP x.pm = m := ⟨_, rfl⟩
  have HX := Lib.hid hm
  clear hm
  go_wp2_with (first | go_skip | (refine wpList_load_g 27 _ rfl (by kernel_rfl) bx rfl Hx.out Tryz.underlying27 rfl (by kernel_rfl) ?_) | (refine wpList_load_g 27 _ rfl (by kernel_rfl) w.heap.size rfl Hcur.out Tryz.underlying27 rfl (by kernel_rfl) ?_))
  refine (Web18_c x _ Ox.out (HG.out.below HB.out)).mono ?_
  rw [HX.out]
  rintro e V6 ⟨rfl, hb⟩
  replace HB := Lib.hid (b_then HB.out hb)
  replace Hcur := Lib.hid (obj_b hb Hcur.out)
  replace Hx := Lib.hid (obj_b hb Hx.out)
  replace Ocur := Lib.hid (Ocur.out.below hb)
  replace Ox := Lib.hid (Ox.out.below hb)
  clear hb
  cases m
  · go_wp2
    go_ret
    exact ⟨rfl, HB.out⟩
  obtain ⟨⟨q, k⟩, hpk⟩ : ∃ y, PM.placeP [(PM.LOC, b)] p = y := ⟨_, rfl⟩
  have HQK := Lib.hid hpk
  clear hpk
  go_wp2_with (first | go_skip | (refine wpList_load_g 27 _ rfl (by kernel_rfl) w.heap.size rfl Hcur.out Tryz.underlying27 rfl (by kernel_rfl) ?_) | (refine wpList_load_g 27 _ rfl (by kernel_rfl) w.heap.size rfl (obj_b (b_alloc (Below.refl _ _) _) Hcur.out) Tryz.underlying27 rfl (by kernel_rfl) ?_) | (refine wpList_load_g 27 _ rfl (by kernel_rfl) bx rfl Hx.out Tryz.underlying27 rfl (by kernel_rfl) ?_) | (refine wpList_load_g 27 _ rfl (by kernel_rfl) bx rfl (obj_b (b_alloc (Below.refl _ _) _) Hx.out) Tryz.underlying27 rfl (by kernel_rfl) ?_))
  refine (Place_sm_c (some ⟨V6.heap.size, 0, none⟩) 1 1 [(PM.LOC, b)] x _ (RdFW.one (Go.heap_alloc_new _ _)) (by decide) (one_small (Nat.le_trans HLb.out (by decide))) (Ox.out.below (b_alloc (Below.refl _ _) _)) Nx.out (HG.out.below (b_alloc HB.out _)) (tabs_below HTB.out (b_alloc HB.out _))).mono ?_
  rw [Px.out, HQK.out]
  rintro e V7 ⟨⟨y, rfl, hxp, hxo⟩, hb0⟩
  have hb : Below V6.heap.size V6 V7 := b_then (b_alloc (Below.refl _ _) _) hb0
  clear hb0
  have Py := Lib.hid hxp
  have Oy := Lib.hid hxo
  clear hxp hxo
  replace HB := Lib.hid (b_then HB.out hb)
  replace Hcur := Lib.hid (obj_b hb Hcur.out)
  replace Hx := Lib.hid (obj_b hb Hx.out)
  replace Ocur := Lib.hid (Ocur.out.below hb)
  replace Ox := Lib.hid (Ox.out.below hb)
  clear hb
  have HN := Lib.hid (Go.heap_alloc_new V7 (.cells zurl 27))
  unfold zurl at HN 
  go_upto_region 9 with (first | (refine wpList_store_row rfl 27 _ _ rfl V7.heap.size y.cells rfl rfl 27 _ HN.out (by kernel_rfl) rfl (agg_one y) ?_))
  obtain ⟨V8, hV⟩ : ∃ V8, V8 = (V7.alloc (.cells #[.string ⟨#[]⟩, .string ⟨#[]⟩, .string ⟨#[]⟩, .int .i64 0, .string ⟨#[]⟩, .int .i64 0, .int .i64 0, .int .i64 0, .int .i64 0, .int .i64 0, .int .i64 0, .int .i64 0, .int .i64 0, .int .i64 0, .int .i64 0, .slice none 0 0, .string ⟨#[]⟩, .string ⟨#[]⟩, .string ⟨#[]⟩, .bool false, .bool false] 27)).setRow V7.heap.size y.cells := ⟨_, rfl⟩
  have hN : V8.heap[V7.heap.size]? = some (.cells y.cells 27 (0, 0)) := by rw [hV]; exact heap_setRow HN.out _
  have hb : Below V7.heap.size V7 V8 := by rw [hV]; exact below_setRow (b_alloc (Below.refl _ _) _) (Nat.le_refl _) _
  rw [← hV]
  clear hV HN 
  have Hy := Lib.hid hN
  clear hN
  have hlt_by__Hcur : w.heap.size < V7.heap.size := h_lt Hcur.out
  have hlt_by__Hx : bx < V7.heap.size := h_lt Hx.out
  have hlw_by_ : w.heap.size ≤ V7.heap.size := HB.out.size
  replace HB := Lib.hid (b_then HB.out hb)
  replace Hcur := Lib.hid (obj_b hb Hcur.out)
  replace Hx := Lib.hid (obj_b hb Hx.out)
  replace Ocur := Lib.hid (Ocur.out.below hb)
  replace Ox := Lib.hid (Ox.out.below hb)
  replace Oy := Lib.hid (Oy.out.below hb)
  clear hb
  generalize V7.heap.size = by_ at Hy hlt_by__Hcur hlt_by__Hx hlw_by_ ⊢
  (try simp only [Act.put])
  rcases Decidable.em (k = 1) with rfl | hk
  rotate_left
  · have hk2 : (k == 1) = false := beq_eq_false_iff_ne.2 hk
    go_wp2
    go_ret
    exact ⟨rfl, HB.out⟩
  obtain ⟨ta, hta⟩ : ∃ t, PM.has a 35 = t := ⟨_, rfl⟩
  have HTa := Lib.hid hta
  clear hta
  go_wp2_with fail
  refine (Tail_c a (Nat.le_trans HLa.out (by decide)) _ (HG.out.below HB.out)).mono ?_
  rw [PM.flag_tail, HTa.out]
  rintro e V9 ⟨rfl, hb⟩
  replace HB := Lib.hid (b_then HB.out hb)
  replace Hcur := Lib.hid (obj_b hb Hcur.out)
  replace Hx := Lib.hid (obj_b hb Hx.out)
  replace Hy := Lib.hid (obj_b hb Hy.out)
  replace Ocur := Lib.hid (Ocur.out.below hb)
  replace Ox := Lib.hid (Ox.out.below hb)
  replace Oy := Lib.hid (Oy.out.below hb)
  clear hb
  obtain ⟨tb, htb⟩ : ∃ t, PM.has b 35 = t := ⟨_, rfl⟩
  have HTb := Lib.hid htb
  clear htb
  go_wp2_with fail
  refine (Tail_c b (Nat.le_trans HLb.out (by decide)) _ (HG.out.below HB.out)).mono ?_
  rw [PM.flag_tail, HTb.out]
  rintro e V10 ⟨rfl, hb⟩
  replace HB := Lib.hid (b_then HB.out hb)
  replace Hcur := Lib.hid (obj_b hb Hcur.out)
  replace Hx := Lib.hid (obj_b hb Hx.out)
  replace Hy := Lib.hid (obj_b hb Hy.out)
  replace Ocur := Lib.hid (Ocur.out.below hb)
  replace Ox := Lib.hid (Ox.out.below hb)
  replace Oy := Lib.hid (Oy.out.below hb)
  clear hb
  have ha := PM.place_frag (name := PM.LOC) (by decide) HPK.out
  have hb := PM.place_frag (name := PM.LOC) (by decide) HQK.out
  rw [← Px.out] at ha hb
  rw [← Py.out] at hb
  rw [HTa.out] at ha
  rw [HTb.out] at hb
  have HA : Hid ((ta = true ∨ x.hf = cur.hf ∧ x.fr = cur.fr) ∧ (ta = true → x.hf = true)) := Lib.hid ha
  have HBF : Hid ((tb = true ∨ y.hf = x.hf ∧ y.fr = x.fr) ∧ (tb = true → y.hf = true)) := Lib.hid hb
  clear ha hb
  cases ta
  rotate_left
  · cases tb
    rotate_left
    · skip
      have c18 : V10.cell? ⟨w.heap.size, 18, none⟩ = some (.string (mkS cur.fr)) := by rw [Lib.cell_of_heap Hcur.out]; rfl
      have c20 : V10.cell? ⟨w.heap.size, 20, none⟩ = some (.bool cur.hf) := by rw [Lib.cell_of_heap Hcur.out]; rfl
      have d18 : V10.cell? ⟨bx, 18, none⟩ = some (.string (mkS x.fr)) := by rw [Lib.cell_of_heap Hx.out]; rfl
      have d20 : V10.cell? ⟨bx, 20, none⟩ = some (.bool x.hf) := by rw [Lib.cell_of_heap Hx.out]; rfl
      have hy1 := HBF.out.2 rfl
      have e18 : V10.cell? ⟨by_, 18, none⟩ = some (.string (mkS y.fr)) := by rw [Lib.cell_of_heap Hy.out]; rfl
      have e20 : V10.cell? ⟨by_, 20, none⟩ = some (.bool true) := by rw [Lib.cell_of_heap Hy.out, ← hy1]; rfl
      clear hy1
      go_wp2
      go_ret
      exact ⟨rfl, HB.out⟩
    · skip
      have c18 : V10.cell? ⟨w.heap.size, 18, none⟩ = some (.string (mkS cur.fr)) := by rw [Lib.cell_of_heap Hcur.out]; rfl
      have c20 : V10.cell? ⟨w.heap.size, 20, none⟩ = some (.bool cur.hf) := by rw [Lib.cell_of_heap Hcur.out]; rfl
      have d18 : V10.cell? ⟨bx, 18, none⟩ = some (.string (mkS x.fr)) := by rw [Lib.cell_of_heap Hx.out]; rfl
      have d20 : V10.cell? ⟨bx, 20, none⟩ = some (.bool x.hf) := by rw [Lib.cell_of_heap Hx.out]; rfl
      obtain ⟨hy1, hy2⟩ := HBF.out.1.resolve_left (by decide)
      have e18 : V10.cell? ⟨by_, 18, none⟩ = some (.string (mkS x.fr)) := by rw [Lib.cell_of_heap Hy.out, ← hy2]; rfl
      have e20 : V10.cell? ⟨by_, 20, none⟩ = some (.bool x.hf) := by rw [Lib.cell_of_heap Hy.out, ← hy1]; rfl
      clear hy1 hy2
      go_wp2
      go_ret
      exact ⟨rfl, HB.out⟩
  · cases tb
    rotate_left
    · skip
      have c18 : V10.cell? ⟨w.heap.size, 18, none⟩ = some (.string (mkS cur.fr)) := by rw [Lib.cell_of_heap Hcur.out]; rfl
      have c20 : V10.cell? ⟨w.heap.size, 20, none⟩ = some (.bool cur.hf) := by rw [Lib.cell_of_heap Hcur.out]; rfl
      obtain ⟨hx1, hx2⟩ := HA.out.1.resolve_left (by decide)
      have d18 : V10.cell? ⟨bx, 18, none⟩ = some (.string (mkS cur.fr)) := by rw [Lib.cell_of_heap Hx.out, ← hx2]; rfl
      have d20 : V10.cell? ⟨bx, 20, none⟩ = some (.bool cur.hf) := by rw [Lib.cell_of_heap Hx.out, ← hx1]; rfl
      have hy1 := HBF.out.2 rfl
      have e18 : V10.cell? ⟨by_, 18, none⟩ = some (.string (mkS y.fr)) := by rw [Lib.cell_of_heap Hy.out]; rfl
      have e20 : V10.cell? ⟨by_, 20, none⟩ = some (.bool true) := by rw [Lib.cell_of_heap Hy.out, ← hy1]; rfl
      clear hy1
      clear hx1 hx2
      go_wp2
      go_ret
      exact ⟨rfl, HB.out⟩
    · skip
      have c18 : V10.cell? ⟨w.heap.size, 18, none⟩ = some (.string (mkS cur.fr)) := by rw [Lib.cell_of_heap Hcur.out]; rfl
      have c20 : V10.cell? ⟨w.heap.size, 20, none⟩ = some (.bool cur.hf) := by rw [Lib.cell_of_heap Hcur.out]; rfl
      obtain ⟨hx1, hx2⟩ := HA.out.1.resolve_left (by decide)
      have d18 : V10.cell? ⟨bx, 18, none⟩ = some (.string (mkS cur.fr)) := by rw [Lib.cell_of_heap Hx.out, ← hx2]; rfl
      have d20 : V10.cell? ⟨bx, 20, none⟩ = some (.bool cur.hf) := by rw [Lib.cell_of_heap Hx.out, ← hx1]; rfl
      obtain ⟨hy1, hy2⟩ := HBF.out.1.resolve_left (by decide)
      rw [hx1] at hy1
      rw [hx2] at hy2
      have e18 : V10.cell? ⟨by_, 18, none⟩ = some (.string (mkS cur.fr)) := by rw [Lib.cell_of_heap Hy.out, ← hy2]; rfl
      have e20 : V10.cell? ⟨by_, 20, none⟩ = some (.bool cur.hf) := by rw [Lib.cell_of_heap Hy.out, ← hy1]; rfl
      clear hy1 hy2
      clear hx1 hx2
      go_wp2
      go_ret
      exact ⟨rfl, HB.out⟩
end Go.Proofs.YtppbkblnjlbnfaaGreatDoor
/-! The row of PlaceFragment. -/
namespace Go.Proofs.YtppbkblnjlbnfaaGreatDoor
open Go.ChangeShapes Go.WideShapes Go.ChangeAt Go.RowKit
open Go.WideMaps Go.WideElems
open Go.ChangeMaps (open_string shut_string)
theorem placeFragment_reads (os : Os) {H : Type} (enc : TypeId × Value → H) : ∃ x, DataW.whole enc Tryz.prog ((laidWorld os).forCall (fun _ _ => 0) ⟨#[], #[.agg #[.string ⟨#[]⟩, .string ⟨#[]⟩, .string ⟨#[]⟩, .int .i64 0, .string ⟨#[]⟩, .int .i64 0, .int .i64 0, .int .i64 0, .int .i64 0, .int .i64 0, .int .i64 0, .int .i64 0, .int .i64 0, .int .i64 0, .int .i64 0, .slice none 0 0, .string ⟨#[]⟩, .string ⟨#[]⟩, .string ⟨#[]⟩, .bool false, .bool false], .string ⟨#[]⟩, .string ⟨#[]⟩], []⟩).memory Tryz.f10.params.toList Rows.placeFragmentSpec.vars false (#[.agg #[.string ⟨#[]⟩, .string ⟨#[]⟩, .string ⟨#[]⟩, .int .i64 0, .string ⟨#[]⟩, .int .i64 0, .int .i64 0, .int .i64 0, .int .i64 0, .int .i64 0, .int .i64 0, .int .i64 0, .int .i64 0, .int .i64 0, .int .i64 0, .slice none 0 0, .string ⟨#[]⟩, .string ⟨#[]⟩, .string ⟨#[]⟩, .bool false, .bool false], .string ⟨#[]⟩, .string ⟨#[]⟩] : Array Value).toList 8 = some x :=
  Option.isSome_iff_exists.1 (by kernel_rfl)
set_option maxRecDepth 100000 in
theorem placeFragment_lifted (os : Os) (started : os.Started) (H : Type) (enc : TypeId × Value → H) (F : Stop.Interp) :
    ReturnsInHanded {} Tryz.checked os 10 .any ((OpenSpec.ofChange Rows.placeFragmentSpec).preRow enc Tryz.prog Tryz.f10 Rows.placeFragmentRow.domain false Rows.placeFragmentRow.laid) (((OpenSpec.ofChange Rows.placeFragmentSpec).at F).post enc Tryz.prog Tryz.f10 false true false false) := by
  obtain ⟨x, hx⟩ := placeFragment_reads os enc
  refine returnsInHanded_of_row (C := Tryz.checked) (s := OpenSpec.ofChange Rows.placeFragmentSpec) own started (by kernel_rfl) Tryz.func10
    (witness_row_atRef (enc := enc) (C := Tryz.checked) false (laidWorld os) #[.agg #[.string ⟨#[]⟩, .string ⟨#[]⟩, .string ⟨#[]⟩, .int .i64 0, .string ⟨#[]⟩, .int .i64 0, .int .i64 0, .int .i64 0, .int .i64 0, .int .i64 0, .int .i64 0, .int .i64 0, .int .i64 0, .int .i64 0, .int .i64 0, .slice none 0 0, .string ⟨#[]⟩, .string ⟨#[]⟩, .string ⟨#[]⟩, .bool false, .bool false], .string ⟨#[]⟩, .string ⟨#[]⟩] rfl (by kernel_rfl) (by kernel_rfl) (by kernel_rfl)
      (OpenSpec.preRow_of_cond 8 hx rfl (fun k hk => by cases hk) (by kernel_rfl) (laid_met os _))) ?_
  intro W base args ds gs before hval0 hW _ _ _ hL hsh _
  have hval : ∀ (j : Nat) t v, Tryz.f10.params[j]? = some t → args[j]? = some v → Value.okWide Tryz.prog W .any base t v := hval0
  have hW' := hW
  obtain ⟨p, q, hA0, hV, rfl, hfz, hnd⟩ := hW
  have hA : DataW.TrodAll enc Tryz.prog W 0 (fun _ => true) true Tryz.f10.params.toList args.toList ds p := hA0
  rw [Tryz.params10] at hA hval
  obtain ⟨v0, v1, v2, d0, d1, d2, p0, p1, p2, rfl, rfl, rfl, h0, h1, h2⟩ := trodAll_three hA
  obtain ⟨rfl, rfl⟩ := trodVars_none hV
  simp only [List.append_nil] at hfz hnd hW'
  have hlt : ∀ x ∈ p0 ++ p1 ++ p2, x.block < W.heap.size := fun x hx => hW'.lt x hx
  have h0k := h0
  obtain ⟨u0, rfl, hr0⟩ := open_url (hval 0 27 v0 rfl rfl) h0
  have h1k := h1
  obtain ⟨s1, e1, _, _, w1⟩ := open_string Tryz.underlying9 (hval 1 9 v1 rfl rfl) h1
  obtain ⟨l1, rfl⟩ := mkS_surj s1
  subst e1
  have h2k := h2
  obtain ⟨s2, e2, _, _, w2⟩ := open_string Tryz.underlying9 (hval 2 9 v2 rfl rfl) h2
  obtain ⟨l2, rfl⟩ := mkS_surj s2
  subst e2
  refine (PlaceFragmentL_c u0 l1 l2 W hr0 (gl_of hsh) (tabs_laid hL)).mono fun e W' ⟨he, hb⟩ => ?_
  subst he
  refine ⟨_, rfl, _, _, _, [], p0 ++ p1 ++ p2, [], hW', ?_, ?_, ?_, hb.frame _, fun h => by cases h⟩
  · exact trodAll_mk1 (shut_bool Tryz.underlying4 _)
  · have h3 := trodAll_mk3 (Below.trod laidOut (by kernel_rfl) (of_decide_eq_true (by kernel_rfl)) h0k hb (fun x hx => hlt x (by simp [hx]))) (Below.trod laidOut (by kernel_rfl) (of_decide_eq_true (by kernel_rfl)) h1k hb (fun x hx => hlt x (by simp [hx]))) (Below.trod laidOut (by kernel_rfl) (of_decide_eq_true (by kernel_rfl)) h2k hb (fun x hx => hlt x (by simp [hx])))
    rw [← List.append_assoc] at h3
    exact h3
  · rfl
theorem placeFragment_k0 : Rows.placeFragmentRow.wf (OpenSpec.ofChange (OpenSpec.ofChange Rows.placeFragmentSpec).bare) = true := by kernel_rfl
theorem placeFragment_k3 : Tryz.f10.params.all (PP.readableRec ·) = true := by kernel_rfl
theorem placeFragment_k4 : namedTie PP Rows.placeFragmentRow.named (OpenSpec.ofChange Rows.placeFragmentSpec).bare.vars = true := by kernel_rfl
theorem placeFragment_k5 : (Rows.placeFragmentRow.stops == []) = true := by kernel_rfl
theorem placeFragment_k7 : (Rows.placeFragmentRow.knobs == []) = true := by kernel_rfl
theorem placeFragment_k9 : (Rows.placeFragmentRow.inPlace == PP.inPlace 10) = true := by kernel_rfl
theorem placeFragment_k10 : (Rows.placeFragmentRow.unfollowed == PP.unfollowed 10) = true := by kernel_rfl
theorem placeFragment_k11 : (Rows.placeFragmentRow.recurses == PP.recurses 10) = true := by kernel_rfl
theorem placeFragment_k12 : (Rows.placeFragmentRow.named == PP.varsNamed 10) = true := by kernel_rfl
theorem placeFragment_k13 : (Rows.placeFragmentRow.maps == (Tryz.f10.params.toList ++ (OpenSpec.ofChange Rows.placeFragmentSpec).bare.plain.varTypes PP).any (PP.mapsRec ·)) = true := by kernel_rfl
theorem placeFragment_k14 : (Rows.placeFragmentRow.ifaces == (Tryz.f10.params.toList ++ (OpenSpec.ofChange Rows.placeFragmentSpec).bare.plain.varTypes PP).any (PP.ifacesRec ·)) = true := by kernel_rfl
theorem placeFragment_k15 : (Rows.placeFragmentRow.mapsOut == PP.mapsAmong Tryz.f10.resultTypes.toList) = true := by kernel_rfl
theorem placeFragment_k16 : (Rows.placeFragmentRow.loops == (Tryz.f10.params.toList ++ (OpenSpec.ofChange Rows.placeFragmentSpec).bare.plain.varTypes PP).any (PP.loopsFrom ·)) = true := by kernel_rfl
theorem placeFragment_k17 : (Rows.placeFragmentRow.wideKeys == (Tryz.f10.params.toList ++ (OpenSpec.ofChange Rows.placeFragmentSpec).bare.plain.varTypes PP ++ Tryz.f10.resultTypes.toList).any (PP.wideKeysFrom ·)) = true := by kernel_rfl
theorem placeFragment_k18 : (OpenSpec.ofChange Rows.placeFragmentSpec).bare.vars.all (PP.varReadable ·) = true := by kernel_rfl
theorem placeFragment_k19 : Tryz.f10.resultTypes.all (fun t => PP.readableRec t && decide (t < PP.types.size)) = true := by kernel_rfl
theorem placeFragment_k20 : (Rows.placeFragmentRow.ifacesOut == Tryz.f10.resultTypes.toList.any (PP.ifacesRec ·)) = true := by kernel_rfl
theorem placeFragment_k21 : (Rows.placeFragmentRow.loopsOut == Tryz.f10.resultTypes.toList.any (PP.loopsFrom ·)) = true := by kernel_rfl
theorem placeFragment_k23 : Rows.placeFragmentRow.shortTexts.isNone = true := by kernel_rfl
theorem placeFragment_k28 : (Rows.placeFragmentRow.kinds == (if Rows.placeFragmentRow.domain.isEmpty then [] else Tryz.f10.params.toList.map fun t => match PP.underlying t with | some (.int k) => some k | _ => none)) = true := by kernel_rfl
theorem placeFragment_k29 : (Rows.placeFragmentRow.pinned == Rows.placeFragmentRow.pinnedBy) = true := by kernel_rfl
theorem placeFragment_k30 : (Rows.placeFragmentRow.veiled == (Tryz.f10.params.toList ++ (OpenSpec.ofChange Rows.placeFragmentSpec).bare.plain.varTypes PP ++ Tryz.f10.resultTypes.toList).any (PP.veiledRec ·)) = true := by kernel_rfl
theorem placeFragment_k31 : Rows.placeFragmentRow.veiledFits PP Tryz.f10.params.toList (Tryz.f10.params.toList ++ (OpenSpec.ofChange Rows.placeFragmentSpec).bare.plain.varTypes PP ++ Tryz.f10.resultTypes.toList) = true := by kernel_rfl
set_option maxRecDepth 100000 in
theorem placeFragment_closed : joinedFacts PP 10 Tryz.f10 (OpenSpec.ofChange Rows.placeFragmentSpec).bare Rows.placeFragmentRow = true := and2 (and2 (and2 (and2 (and2 (and2 (and2 (and2 (and2 (and2 (and2 (and2 (and2 (and2 (and2 (and2 (and2 (and2 (and2 (and2 (and2 (and2 (and2 (and2 (and2 (and2 (and2 (and2 (and2 (and2 (and2 (placeFragment_k0) j_laidOut) j_rowed) placeFragment_k3) placeFragment_k4) placeFragment_k5) j_stops) placeFragment_k7) j_knobs) placeFragment_k9) placeFragment_k10) placeFragment_k11) placeFragment_k12) placeFragment_k13) placeFragment_k14) placeFragment_k15) placeFragment_k16) placeFragment_k17) placeFragment_k18) placeFragment_k19) placeFragment_k20) placeFragment_k21) j_plain) placeFragment_k23) j_heard) j_enter) j_lift) j_make) placeFragment_k28) placeFragment_k29) placeFragment_k30) placeFragment_k31
theorem placeFragment_named : Tryz.pinned.checked.prog.funcNamed Rows.placeFragmentRow.func = some 10 := by kernel_rfl
theorem placeFragment_text : Rows.placeFragmentRow.wfByText (OpenSpec.ofChange Rows.placeFragmentSpec) = true := by kernel_rfl
theorem placeFragment_goes : false = Rows.placeFragmentRow.goesBy Tryz.pinned.checked.prog := by kernel_rfl
theorem placeFragment_said : Rows.PlaceFragmentSaid :=
  OpenClaim.holds_of_cond 10 Tryz.f10 rfl rfl rfl rfl rfl rfl rfl ⟨rfl, rfl, rfl, rfl, rfl⟩ rfl rfl rfl rfl rfl placeFragment_named Tryz.func10 placeFragment_closed
    (of_decide_eq_true (by kernel_rfl)) (by unfold Func.isWrapper; first | (rw [if_pos (by decide +kernel)]; kernel_rfl) | (rw [if_neg (by decide +kernel)]; exact ⟨rfl, rfl⟩))
    (fun os started H enc _ F => by rw [OpenClaim.pre_eq_preRow]; exact placeFragment_lifted os started H enc F)
theorem placeFragment_plain (f : FuncId) (fn : Func) (hf : Tryz.pinned.checked.prog.funcNamed "postmark/postmarklaw18.PlaceFragment" = some f) (hfn : Tryz.pinned.checked.prog.funcs[f]? = some fn) :
    true = Tryz.pinned.checked.prog.looks [] ∧ ∀ (j : Nat) t, fn.params[j]? = some t → Tryz.pinned.checked.prog.wantsStandIn t = false := by
  obtain rfl : f = 10 := Option.some.inj ((show Tryz.prog.funcNamed "postmark/postmarklaw18.PlaceFragment" = some 10 by kernel_rfl).symm.trans hf) |>.symm
  obtain rfl : fn = Tryz.f10 := (Option.some.inj (Tryz.func10.symm.trans hfn)).symm
  refine ⟨by kernel_rfl, fun j t ht => ?_⟩
  rw [Tryz.params10] at ht
  have hm := Array.mem_of_getElem? ht
  simp only [Array.mem_def, List.mem_cons, List.not_mem_nil, or_false] at hm
  rcases hm with rfl | rfl | rfl
  · exact (show Tryz.prog.wantsStandIn 27 = false by kernel_rfl)
  · exact (show Tryz.prog.wantsStandIn 9 = false by kernel_rfl)
  · exact (show Tryz.prog.wantsStandIn 9 = false by kernel_rfl)
theorem placeFragment_holds : Rows.PlaceFragmentCardSaid :=
  Claim7.holds_tied_plain_at .later [] _ _ _ _ placeFragment_said (fun _ h => by cases h) placeFragment_text (fun _ h => by cases h) placeFragment_row_tie rfl ⟨rfl, rfl⟩ j_main rfl placeFragment_plain placeFragment_goes
#print axioms placeFragment_holds
end Go.Proofs.YtppbkblnjlbnfaaGreatDoor
