/-
PlaceSelf: whatever comes in, the law's call returns true, and the arguments read behind the call as they did before; no condition on them. The row lists the two tables of unicode/utf8 (first, acceptRanges); the card ties them.
-/
import Derived.Test.YtppbkblnjlbnfaaGreatDoorTz
import Derived.Test.YtppbkblnjlbnfaaGreatDoorPw
set_option linter.unusedVariables false
set_option linter.unusedSimpArgs false
/-! The walk of PlaceSelf. -/
namespace Go.Proofs.YtppbkblnjlbnfaaGreatDoor
open Go.RowKit
theorem one_small {a : PM.L} (h : a.length ≤ 1000) : ∀ f ∈ ([(PM.LOC, a)] : PM.Fs), f.1.length ≤ 1000 ∧ f.2.length ≤ 1000 := by
  intro f hf
  simp at hf
  subst hf
  exact ⟨show PM.LOC.length ≤ 1000 by decide, h⟩
theorem res_path_few {b u : PM.Url} {s : List UInt8} (h : PM.resolve b s = some u) (hs : s.length ≤ 220) (hb : b.path.length ≤ 60) : u.path.length ≤ 900 := by
  rw [PM.resolve_eq] at h
  have hcl := clean_len s
  split at h
  · cases h
  · split at h
    · have := (parse_short h).pn
      omega
    · split at h
      · cases h
      · rename_i h0
        split at h
        · have h1 := (parse_short h).pn
          have h2 : b.scheme.length ≤ 5 := by rcases PM.web_cases h0 with e | e <;> rw [e] <;> decide
          simp at h1
          omega
        · simp at h
          subst h
          have ht := (tail_len3 (PM.clean s)).1
          show (PM.wayP b.path (PM.tail (PM.clean s)).1).length ≤ 900
          have hsp := pathSplit_len (PM.tail (PM.clean s)).1
          unfold PM.wayP
          split
          · omega
          · split
            · have hc := normGo_cnt (PM.pathSplit (PM.tail (PM.clean s)).1) []
              have : (PM.pathParse (PM.tail (PM.clean s)).1).length ≤ 0 + (PM.pathSplit (PM.tail (PM.clean s)).1).length := hc
              omega
            · have hc := normGo_cnt (b.path.dropLast ++ PM.pathSplit (PM.tail (PM.clean s)).1) []
              have : (PM.mergeP b.path (PM.tail (PM.clean s)).1).length ≤ 0 + (b.path.dropLast ++ PM.pathSplit (PM.tail (PM.clean s)).1).length := hc
              simp at this
              omega
theorem place_path {a : PM.L} {cur p : PM.Url} (h : PM.placeP [(PM.LOC, a)] cur = (p, 1)) (ha : a.length ≤ 100) (hc : cur.path.length ≤ 60) : p.path.length ≤ 900 := by
  obtain ⟨h1, v, hv, hx⟩ := PM.placeOf_some h
  rw [PM.raw_one (by decide)] at hv
  have hw := wide_len a
  have := res_path_few hv (show (PM.wide a).length ≤ 220 by omega) hc
  rw [hx]
  unfold PM.inherit
  split
  · exact this
  · exact this
theorem one_field {a : PM.L} {n : Nat} (h : a.length ≤ n) (h8 : 8 ≤ n) : ∀ f ∈ ([(PM.LOC, a)] : PM.Fs), f.1.length ≤ n ∧ f.2.length ≤ n := by
  intro f hf
  simp at hf
  subst hf
  exact ⟨Nat.le_trans (show PM.LOC.length ≤ 8 by decide) h8, h⟩
/-- An address is shown in the one field. -/
theorem PlaceShow_c (b0 : Option Addr) (c0 : Nat) (cur : UV) (p : PM.Url) (X : PM.L) (hX : PM.showUrl p = X) (w : World) (h : RdFW w b0 1 [(PM.LOC, X)]) (hcm : PM.urlMay cur.pm = true) (hpm : PM.urlMay p = true) (h8 : p.host.six.length = 8) (hl : X.length ≤ 30000) (hpp : p.path.length ≤ 10000) (hc : cur.Ok w) (hcn : cur.xs.length ≤ 900) (hg : Gl w) (hT : Lib.Utf8Tabs 2 3 w) :
    Calls Tryz.prog 33 #[.slice b0 1 c0, .agg cur.cells] w fun e w' => (∃ v : UV, e = .returned (.tuple #[.agg v.cells, .int .i64 1]) ∧ v.pm = PM.inherit p cur.pm ∧ v.Ok w' ∧ From w.heap.size v.a v.xs) ∧ Below w.heap.size w w' := by
  have hr : PM.rawP [(PM.LOC, X)] = (X, 1) := by
    rw [PM.raw_one (by decide), ← hX, PM.wide_show hpm]
  have hpl : PM.placeP [(PM.LOC, X)] cur.pm = (PM.inherit p cur.pm, 1) := by rw [← hX]; exact PM.place_show (by decide) hcm hpm h8
  have hw : PM.whole X = true := by rw [← hX]; exact PM.parse_whole (PM.parse_show hpm h8)
  have h := PlaceF_c b0 1 c0 [(PM.LOC, X)] cur w h (by decide) (one_field (by omega) (by decide)) (by rw [hr]; exact hl) (by rw [hr]; intro e; rw [hw] at e; cases e)
    (by rw [hr]; intro u hu; rw [← hX, PM.resolve_show hcm hpm h8] at hu; cases hu; exact hpp) hc hcn hg hT
  rw [hpl] at h
  exact h
theorem bare_bare (u : PM.Url) : PM.bare (PM.bare u) = PM.bare u := rfl
theorem bare_len {u : PM.Url} (h : PM.urlMay u = true) (hl : (PM.showUrl u).length ≤ 30000) : (PM.showUrl (PM.bare u)).length ≤ 30000 := by
  rw [PM.show_frag h] at hl
  split at hl
  · rw [List.length_append] at hl
    omega
  · exact hl
set_option maxRecDepth 100000 in
set_option maxHeartbeats 16000000 in
theorem PlaceSelfL_c (cur u : UV) (w : World) (hrcur : RdW w cur.a cur.pn cur.xs) (hru : RdW w u.a u.pn u.xs) (hg : Gl w) (hT : Lib.Utf8Tabs 2 3 w) : Calls Tryz.prog 12 #[.agg cur.cells, .agg u.cells] w fun e w' => e = .returned (.bool true) ∧ Below w.heap.size w w' := by
  have HG := Lib.hid hg
  have HTB := Lib.hid hT
  have Rcur := Lib.hid hrcur
  have Ru := Lib.hid hru
  clear hg hT hrcur hru
  have HB : Hid (Below w.heap.size w ((w.alloc (.cells cur.cells 27)).alloc (.cells u.cells 27))) := Lib.hid (b_alloc (b_alloc (Below.refl _ _) _) _)
  have Hcur : Hid (((w.alloc (.cells cur.cells 27)).alloc (.cells u.cells 27)).heap[w.heap.size]? = some (.cells cur.cells 27 (0, 0))) := Lib.hid (heap_b (b_alloc (Below.refl _ _) _) (by have h := Go.heap_alloc_new w (.cells cur.cells 27); simpa using h))
  have Hu : Hid (((w.alloc (.cells cur.cells 27)).alloc (.cells u.cells 27)).heap[w.heap.size + 1]? = some (.cells u.cells 27 (0, 0))) := Lib.hid ((by have h := Go.heap_alloc_new (w.alloc (.cells cur.cells 27)) (.cells u.cells 27); simpa using h))
  go_enter Tryz.func12, Tryz.ntmps12
  go_upto_region 1 with fail
  generalize (w.alloc (.cells cur.cells 27)).alloc (.cells u.cells 27) = V0 at HB Hcur Hu ⊢
  generalize hbu : w.heap.size + 1 = bu at Hu ⊢
  have hlw_bu : w.heap.size ≤ bu := by omega
  have hne_u_cur : w.heap.size < bu := by omega
  clear hbu
  go_wp2_with fail
  refine (awake18_c _ (HG.out.below HB.out) (tabs_below HTB.out HB.out)).mono ?_
  rintro e V1 ⟨rfl, hb⟩
  replace HB := Lib.hid (b_then HB.out hb)
  replace Hu := Lib.hid (obj_b hb Hu.out)
  replace Hcur := Lib.hid (obj_b hb Hcur.out)
  clear hb
  go_wp2_with (first | go_skip | (refine wpList_load_g 27 _ rfl (by kernel_rfl) w.heap.size rfl Hcur.out Tryz.underlying27 rfl (by kernel_rfl) ?_))
  refine (Few_c cur _ (Rcur.out.below HB.out)).mono ?_
  rintro e V2 ⟨rfl, hb⟩
  replace HB := Lib.hid (b_then HB.out hb)
  replace Hu := Lib.hid (obj_b hb Hu.out)
  replace Hcur := Lib.hid (obj_b hb Hcur.out)
  clear hb
  go_wp2_with (first | go_skip | (refine wpList_load_g 27 _ rfl (by kernel_rfl) bu rfl Hu.out Tryz.underlying27 rfl (by kernel_rfl) ?_))
  refine (Few_c u _ (Ru.out.below HB.out)).mono ?_
  rintro e V3 ⟨rfl, hb⟩
  replace HB := Lib.hid (b_then HB.out hb)
  replace Hu := Lib.hid (obj_b hb Hu.out)
  replace Hcur := Lib.hid (obj_b hb Hcur.out)
  clear hb
  cases hfcur : PM.few cur.pm
  · go_wp2
    go_ret
    exact ⟨rfl, HB.out⟩
  have Ocur := Lib.hid (few_ok (Rcur.out.below HB.out) hfcur)
  have Fcur := Lib.hid hfcur
  clear hfcur
  cases hfu : PM.few u.pm
  · go_wp2
    go_ret
    exact ⟨rfl, HB.out⟩
  have Ou := Lib.hid (few_ok (Ru.out.below HB.out) hfu)
  have Fu := Lib.hid hfu
  clear hfu
  obtain ⟨m, hm⟩ : ∃ m, PM.webP cur.pm = m := ⟨_, rfl⟩
  have HWC := Lib.hid hm
  clear hm
  go_wp2_with (first | go_skip | (refine wpList_load_g 27 _ rfl (by kernel_rfl) w.heap.size rfl Hcur.out Tryz.underlying27 rfl (by kernel_rfl) ?_) | (refine wpList_load_g 27 _ rfl (by kernel_rfl) bu rfl Hu.out Tryz.underlying27 rfl (by kernel_rfl) ?_))
  refine (Web18_c cur _ Ocur.out (HG.out.below HB.out)).mono ?_
  rw [HWC.out]
  rintro e V4 ⟨rfl, hb⟩
  replace HB := Lib.hid (b_then HB.out hb)
  replace Hu := Lib.hid (obj_b hb Hu.out)
  replace Hcur := Lib.hid (obj_b hb Hcur.out)
  replace Ocur := Lib.hid (Ocur.out.below hb)
  replace Ou := Lib.hid (Ou.out.below hb)
  clear hb
  cases m
  · go_wp2
    go_ret
    exact ⟨rfl, HB.out⟩
  obtain ⟨m, hm⟩ : ∃ m, PM.webP u.pm = m := ⟨_, rfl⟩
  have HWU := Lib.hid hm
  clear hm
  go_wp2_with (first | go_skip | (refine wpList_load_g 27 _ rfl (by kernel_rfl) w.heap.size rfl Hcur.out Tryz.underlying27 rfl (by kernel_rfl) ?_) | (refine wpList_load_g 27 _ rfl (by kernel_rfl) bu rfl Hu.out Tryz.underlying27 rfl (by kernel_rfl) ?_))
  refine (Web18_c u _ Ou.out (HG.out.below HB.out)).mono ?_
  rw [HWU.out]
  rintro e V5 ⟨rfl, hb⟩
  replace HB := Lib.hid (b_then HB.out hb)
  replace Hu := Lib.hid (obj_b hb Hu.out)
  replace Hcur := Lib.hid (obj_b hb Hcur.out)
  replace Ocur := Lib.hid (Ocur.out.below hb)
  replace Ou := Lib.hid (Ou.out.below hb)
  clear hb
  cases m
  · go_wp2
    go_ret
    exact ⟨rfl, HB.out⟩
  have HMC := Lib.hid (PM.webP_iff HWC.out).1
  have HMU := Lib.hid (PM.webP_iff HWU.out).1
  have Ncur : Hid (cur.xs.length ≤ 900) := Lib.hid (few_path Fcur.out).1
  have Ou0 := Ou
  go_wp2_with (first | go_skip | (refine wpList_load_g 27 _ rfl (by kernel_rfl) bu rfl Hu.out Tryz.underlying27 rfl (by kernel_rfl) ?_) | (refine wpList_load_g 27 _ rfl (by kernel_rfl) bu rfl (obj_b (b_alloc (Below.refl _ _) _) Hu.out) Tryz.underlying27 rfl (by kernel_rfl) ?_) | (refine wpList_load_g 27 _ rfl (by kernel_rfl) w.heap.size rfl Hcur.out Tryz.underlying27 rfl (by kernel_rfl) ?_) | (refine wpList_load_g 27 _ rfl (by kernel_rfl) w.heap.size rfl (obj_b (b_alloc (Below.refl _ _) _) Hcur.out) Tryz.underlying27 rfl (by kernel_rfl) ?_))
  refine (Place_sm_c (some ⟨V5.heap.size, 0, none⟩) 1 1 [(PM.LOC, ([] : PM.L))] cur _ (RdFW.one (Go.heap_alloc_new _ _)) (by decide) (one_small (by decide)) (Ocur.out.below (b_alloc (Below.refl _ _) _)) Ncur.out (HG.out.below (b_alloc HB.out _)) (tabs_below HTB.out (b_alloc HB.out _))).mono ?_
  rw [PM.place_nil (by decide) HWC.out]
  rintro e V6 ⟨⟨a, rfl, hxp, hxo⟩, hb0⟩
  have hb : Below V5.heap.size V5 V6 := b_then (b_alloc (Below.refl _ _) _) hb0
  clear hb0
  have Pa := Lib.hid hxp
  have Oa := Lib.hid hxo
  clear hxp hxo
  replace HB := Lib.hid (b_then HB.out hb)
  replace Hu := Lib.hid (obj_b hb Hu.out)
  replace Hcur := Lib.hid (obj_b hb Hcur.out)
  replace Ocur := Lib.hid (Ocur.out.below hb)
  replace Ou := Lib.hid (Ou.out.below hb)
  clear hb
  have HN := Lib.hid (Go.heap_alloc_new V6 (.cells zurl 27))
  unfold zurl at HN 
  go_upto_region 7 with (first | (refine wpList_store_row rfl 27 _ _ rfl V6.heap.size a.cells rfl rfl 27 _ HN.out (by kernel_rfl) rfl (agg_one a) ?_))
  obtain ⟨V7, hV⟩ : ∃ V7, V7 = (V6.alloc (.cells #[.string ⟨#[]⟩, .string ⟨#[]⟩, .string ⟨#[]⟩, .int .i64 0, .string ⟨#[]⟩, .int .i64 0, .int .i64 0, .int .i64 0, .int .i64 0, .int .i64 0, .int .i64 0, .int .i64 0, .int .i64 0, .int .i64 0, .int .i64 0, .slice none 0 0, .string ⟨#[]⟩, .string ⟨#[]⟩, .string ⟨#[]⟩, .bool false, .bool false] 27)).setRow V6.heap.size a.cells := ⟨_, rfl⟩
  have hN : V7.heap[V6.heap.size]? = some (.cells a.cells 27 (0, 0)) := by rw [hV]; exact heap_setRow HN.out _
  have hb : Below V6.heap.size V6 V7 := by rw [hV]; exact below_setRow (b_alloc (Below.refl _ _) _) (Nat.le_refl _) _
  rw [← hV]
  clear hV HN 
  have Ha := Lib.hid hN
  clear hN
  have hlt_ka_Hu : bu < V6.heap.size := h_lt Hu.out
  have hlt_ka_Hcur : w.heap.size < V6.heap.size := h_lt Hcur.out
  have hlw_ka : w.heap.size ≤ V6.heap.size := HB.out.size
  replace HB := Lib.hid (b_then HB.out hb)
  replace Hu := Lib.hid (obj_b hb Hu.out)
  replace Hcur := Lib.hid (obj_b hb Hcur.out)
  replace Ocur := Lib.hid (Ocur.out.below hb)
  replace Ou := Lib.hid (Ou.out.below hb)
  replace Oa := Lib.hid (Oa.out.below hb)
  clear hb
  generalize V6.heap.size = ka at Ha hlt_ka_Hu hlt_ka_Hcur hlw_ka ⊢
  (try simp only [Act.put])
  obtain ⟨X, hX⟩ : ∃ X, PM.showUrl u.pm = X := ⟨_, rfl⟩
  have HX := Lib.hid hX
  have HXL : Hid (X.length ≤ 30000) := Lib.hid (by rw [← hX]; exact show_few Fu.out rfl)
  obtain ⟨Y, hY⟩ : ∃ Y, PM.showUrl (PM.bare u.pm) = Y := ⟨_, rfl⟩
  have HY := Lib.hid hY
  have HYL : Hid (Y.length ≤ 30000) := Lib.hid (by rw [← hY]; exact bare_len HMU.out (by rw [hX]; exact HXL.out))
  clear hX hY
  go_wp2_with fail
  go_cut [10, 11] (fun pt vt wr => ∃ (ky : Nat) (y : UV) (W9 : World), W9 = wr ∧ pt = .pointer (some ⟨ky, 0, none⟩) ∧ vt = .int .i64 1 ∧ Hid (y.pm = PM.inherit u.pm cur.pm) ∧ Hid (y.Ok wr) ∧ Hid (wr.heap[ky]? = some (.cells y.cells 27 (0, 0))) ∧ Hid (Bx [(w.heap.size, cur), (bu, u), (ka, a)] w wr))
  case first =>
    have hbx : Bx [(w.heap.size, cur), (bu, u), (ka, a)] w V7 := (Bx.cons (Bx.cons (Bx.cons (Bx.nil _ _ HB.out) Ha.out Oa.out) Hu.out Ou.out) Hcur.out Ocur.out)
    have far : ∀ k, V7.heap.size ≤ k → (∀ p ∈ ([(w.heap.size, cur), (bu, u), (ka, a)] : List (Nat × UV)), p.1 ≠ k ∧ Nb k p.2) ∧ w.heap.size ≤ k := fun k hk => hbx.far hk
    have FAR := Lib.hid far
    clear far
    refine wp_region_noPanic ?_
    refine wp_region_held_drew (S := fun W' => Bx [(w.heap.size, cur), (bu, u), (ka, a)] w W') (by kernel_rfl) (Bx.below hbx (b_drew (Below.refl _ _))) (fun hS0 => ?_)
    have hS : Bx [(w.heap.size, cur), (bu, u), (ka, a)] w V7.drew := hS0
    clear hS0 hbx
    have SZ : Hid (V7.heap.size ≤ V7.drew.heap.size) := Lib.hid (Nat.le_refl _)
    refine wpAnyH_take (i := 0) (v := ?_) rfl (by kernel_rfl) (by kernel_rfl) (by kernel_rfl) (fun _ _ _ h => h) (Or.inl ⟨by kernel_rfl, fun W hW => ?_⟩) (by assumption) ?_
    rotate_left
    · refine yield_row 27 (.tmp 3) ?_ bu ?_ (hW.hp (.tail _ (.head _))) Tryz.underlying27 rfl (by kernel_rfl)
      · rfl
      · rfl
    (try simp only [List.getElem_toArray, List.getElem_cons_zero, List.getElem_cons_succ, Act.put, List.setIfInBounds_toArray, List.set_cons_zero, List.set_cons_succ])
    refine wpAnyH_take (i := 4) (v := ?_) rfl (by kernel_rfl) (by kernel_rfl) (by kernel_rfl) (fun _ _ _ h => h) (Or.inl ⟨by kernel_rfl, fun W hW => ?_⟩) (by assumption) ?_
    rotate_left
    · refine yield_row 27 (.tmp 2) ?_ w.heap.size ?_ (hW.hp (.head _)) Tryz.underlying27 rfl (by kernel_rfl)
      · rfl
      · rfl
    (try simp only [List.getElem_toArray, List.getElem_cons_zero, List.getElem_cons_succ, Act.put, List.setIfInBounds_toArray, List.set_cons_zero, List.set_cons_succ])
    refine wpAnyH_ready (rs := [1, 9]) (by kernel_rfl) (by simp) ?_
    refine AllReadyH.cons rfl (fun K hK => ?_) (AllReadyH.cons rfl (fun K hK => ?_) AllReadyH.nil)
    · go_simp
      refine (showUrl_c u _ (hS.ok (.tail _ (.head _))) (HG.out.below hS.be)).mono ?_
      rw [HX.out]
      rintro e U1 ⟨rfl, hb⟩
      replace hS := hS.below hb
      replace SZ : Hid (V7.heap.size ≤ U1.heap.size) := Lib.hid (Nat.le_trans SZ.out hb.size)
      clear hb
      refine hK.out _ _ hS (fun _ => ?_)
      clear hK K
      (try simp only [List.getElem_toArray, List.getElem_cons_zero, List.getElem_cons_succ, Act.put, List.setIfInBounds_toArray, List.set_cons_zero, List.set_cons_succ])
      refine wpAnyH_take (i := 2) (v := ?_) rfl (by kernel_rfl) (by kernel_rfl) (by kernel_rfl) (fun _ _ _ h => h) (Or.inl ⟨by kernel_rfl, fun W hW => ?_⟩) (by assumption) ?_
      rotate_left
      · go_simp
        try with_reducible rfl
      (try simp only [List.getElem_toArray, List.getElem_cons_zero, List.getElem_cons_succ, Act.put, List.setIfInBounds_toArray, List.set_cons_zero, List.set_cons_succ])
      refine wpAnyH_ready (rs := [3, 9]) (by kernel_rfl) (by simp) ?_
      refine AllReadyH.cons rfl (fun K hK => ?_) (AllReadyH.cons rfl (fun K hK => ?_) AllReadyH.nil)
      · go_simp
        have hN : (U1.alloc (.cells #[.string ⟨#[76, 111, 99, 97, 116, 105, 111, 110]⟩, .string (mkS X)] 50)).heap[U1.heap.size]? = some (.cells #[.string ⟨#[76, 111, 99, 97, 116, 105, 111, 110]⟩, .string (mkS X)] 50 (0, 0)) := Go.heap_alloc_new U1 _
        have hb : Below U1.heap.size U1 (U1.alloc (.cells #[.string ⟨#[76, 111, 99, 97, 116, 105, 111, 110]⟩, .string (mkS X)] 50)) := b_alloc (Below.refl _ _) _
        replace hS := hS.below hb
        replace SZ : Hid (V7.heap.size ≤ (U1.alloc (.cells #[.string ⟨#[76, 111, 99, 97, 116, 105, 111, 110]⟩, .string (mkS X)] 50)).heap.size) := Lib.hid (Nat.le_trans SZ.out hb.size)
        have HF := Lib.hid hN
        clear hb hN
        refine hK.out _ _ hS (fun _ => ?_)
        clear hK K
        (try simp only [List.getElem_toArray, List.getElem_cons_zero, List.getElem_cons_succ, Act.put, List.setIfInBounds_toArray, List.set_cons_zero, List.set_cons_succ])
        generalize (U1.alloc (.cells #[.string ⟨#[76, 111, 99, 97, 116, 105, 111, 110]⟩, .string (mkS X)] 50)) = U2 at hS SZ HF ⊢
        refine wpAnyH_ready (rs := [5, 9]) (by kernel_rfl) (by simp) ?_
        refine AllReadyH.cons rfl (fun K hK => ?_) (AllReadyH.cons rfl (fun K hK => ?_) AllReadyH.nil)
        · go_simp
          refine (PlaceShow_c (some ⟨U1.heap.size, 0, none⟩) 1 cur (u.pm) X HX.out _ (RdFW.one HF.out) HMC.out (HMU.out) rfl HXL.out Ou0.out.xn (hS.ok (.head _)) Ncur.out (HG.out.below hS.be) (tabs_below HTB.out hS.be)).mono ?_
          rintro e U3 ⟨⟨b, rfl, hyp, hyo, hyf⟩, hb⟩
          clear HF
          replace hS := hS.below hb
          replace SZ : Hid (V7.heap.size ≤ U3.heap.size) := Lib.hid (Nat.le_trans SZ.out hb.size)
          have Pb := Lib.hid hyp
          have Ob := Lib.hid hyo
          clear hb hyp hyf hyo
          refine hK.out _ _ hS (fun _ => ?_)
          clear hK K
          (try simp only [List.getElem_toArray, List.getElem_cons_zero, List.getElem_cons_succ, Act.put, List.setIfInBounds_toArray, List.set_cons_zero, List.set_cons_succ])
          refine wpAnyH_take (i := 6) (v := ?_) rfl (by kernel_rfl) (by kernel_rfl) (by kernel_rfl) (fun _ _ _ h => h) (Or.inl ⟨by kernel_rfl, fun W hW => ?_⟩) (by assumption) ?_
          rotate_left
          · go_simp
            try with_reducible rfl
          (try simp only [List.getElem_toArray, List.getElem_cons_zero, List.getElem_cons_succ, Act.put, List.setIfInBounds_toArray, List.set_cons_zero, List.set_cons_succ])
          refine wpAnyH_take (i := 7) (v := ?_) rfl (by kernel_rfl) (by kernel_rfl) (by kernel_rfl) (fun _ _ _ h => h) (Or.inl ⟨by kernel_rfl, fun W hW => ?_⟩) (by assumption) ?_
          rotate_left
          · go_simp
            try with_reducible rfl
          (try simp only [List.getElem_toArray, List.getElem_cons_zero, List.getElem_cons_succ, Act.put, List.setIfInBounds_toArray, List.set_cons_zero, List.set_cons_succ])
          refine wpAnyH_take (i := 8) (v := ?_) rfl (by kernel_rfl) (by kernel_rfl) (by kernel_rfl) (fun _ _ _ h => h) (Or.inl ⟨by kernel_rfl, fun W hW => ?_⟩) (by assumption) ?_
          rotate_left
          · go_simp
            try with_reducible rfl
          (try simp only [List.getElem_toArray, List.getElem_cons_zero, List.getElem_cons_succ, Act.put, List.setIfInBounds_toArray, List.set_cons_zero, List.set_cons_succ])
          refine wpAnyH_ready (rs := [9]) (by kernel_rfl) (by simp) ?_
          refine AllReadyH.cons rfl (fun K hK => ?_) AllReadyH.nil
          go_simp
          have hN : (U3.alloc (.cells #[.string ⟨#[]⟩, .string ⟨#[]⟩, .string ⟨#[]⟩, .int .i64 0, .string ⟨#[]⟩, .int .i64 0, .int .i64 0, .int .i64 0, .int .i64 0, .int .i64 0, .int .i64 0, .int .i64 0, .int .i64 0, .int .i64 0, .int .i64 0, .slice none 0 0, .string ⟨#[]⟩, .string ⟨#[]⟩, .string ⟨#[]⟩, .bool false, .bool false] 27)).heap[U3.heap.size]? = some (.cells #[.string ⟨#[]⟩, .string ⟨#[]⟩, .string ⟨#[]⟩, .int .i64 0, .string ⟨#[]⟩, .int .i64 0, .int .i64 0, .int .i64 0, .int .i64 0, .int .i64 0, .int .i64 0, .int .i64 0, .int .i64 0, .int .i64 0, .int .i64 0, .slice none 0 0, .string ⟨#[]⟩, .string ⟨#[]⟩, .string ⟨#[]⟩, .bool false, .bool false] 27 (0, 0)) := Go.heap_alloc_new U3 _
          have hb : Below U3.heap.size U3 (U3.alloc (.cells #[.string ⟨#[]⟩, .string ⟨#[]⟩, .string ⟨#[]⟩, .int .i64 0, .string ⟨#[]⟩, .int .i64 0, .int .i64 0, .int .i64 0, .int .i64 0, .int .i64 0, .int .i64 0, .int .i64 0, .int .i64 0, .int .i64 0, .int .i64 0, .slice none 0 0, .string ⟨#[]⟩, .string ⟨#[]⟩, .string ⟨#[]⟩, .bool false, .bool false] 27)) := b_alloc (Below.refl _ _) _
          have hny : Nb (U3.heap.size) b := Ok_nb Ob.out (Nat.le_refl _)
          have NY := Lib.hid hny
          clear hny
          have HLB : Hid (V7.heap.size ≤ U3.heap.size) := Lib.hid SZ.out
          replace hS := hS.below hb
          replace SZ : Hid (V7.heap.size ≤ (U3.alloc (.cells #[.string ⟨#[]⟩, .string ⟨#[]⟩, .string ⟨#[]⟩, .int .i64 0, .string ⟨#[]⟩, .int .i64 0, .int .i64 0, .int .i64 0, .int .i64 0, .int .i64 0, .int .i64 0, .int .i64 0, .int .i64 0, .int .i64 0, .int .i64 0, .slice none 0 0, .string ⟨#[]⟩, .string ⟨#[]⟩, .string ⟨#[]⟩, .bool false, .bool false] 27)).heap.size) := Lib.hid (Nat.le_trans SZ.out hb.size)
          replace Ob := Lib.hid (Ob.out.below hb)
          have HN := Lib.hid hN
          clear hb hN
          refine hK.out _ _ hS (fun _ => ?_)
          clear hK K
          (try simp only [List.getElem_toArray, List.getElem_cons_zero, List.getElem_cons_succ, Act.put, List.setIfInBounds_toArray, List.set_cons_zero, List.set_cons_succ])
          generalize (U3.alloc (.cells #[.string ⟨#[]⟩, .string ⟨#[]⟩, .string ⟨#[]⟩, .int .i64 0, .string ⟨#[]⟩, .int .i64 0, .int .i64 0, .int .i64 0, .int .i64 0, .int .i64 0, .int .i64 0, .int .i64 0, .int .i64 0, .int .i64 0, .int .i64 0, .slice none 0 0, .string ⟨#[]⟩, .string ⟨#[]⟩, .string ⟨#[]⟩, .bool false, .bool false] 27)) = U4 at hS SZ Ob HN ⊢
          refine wpAnyH_ready (rs := [10]) (by kernel_rfl) (by simp) ?_
          refine AllReadyH.cons rfl (fun K hK => ?_) AllReadyH.nil
          try rw [if_pos (by rfl)]
          refine wp_store_row 27 _ _ rfl (U3.heap.size) b.cells rfl rfl 27 _ HN.out (by kernel_rfl) rfl (agg_one b) ?_
          have hS8 : Bx [(w.heap.size, cur), (bu, u), (ka, a)] w (U4.setRow (U3.heap.size) b.cells) := hS.row b.cells (FAR.out _ HLB.out)
          refine hK.out _ _ hS8 (fun _ => ?_)
          clear hK K
          (try simp only [List.getElem_toArray, List.getElem_cons_zero, List.getElem_cons_succ, Act.put, List.setIfInBounds_toArray, List.set_cons_zero, List.set_cons_succ])
          refine wpAnyH_take (i := 11) (v := ?_) rfl (by kernel_rfl) (by kernel_rfl) (by kernel_rfl) (fun _ _ _ h => h) (Or.inl ⟨by kernel_rfl, fun W hW => ?_⟩) (by assumption) ?_
          rotate_left
          · go_simp
            try with_reducible rfl
          (try simp only [List.getElem_toArray, List.getElem_cons_zero, List.getElem_cons_succ, Act.put, List.setIfInBounds_toArray, List.set_cons_zero, List.set_cons_succ])
          refine wpAnyH_done (by kernel_rfl) ?_ _
          refine NoPanic.normal ?_
          go_wp2
          go_meet
          exact ⟨_, b, _, rfl, rfl, rfl, Pb, Lib.hid (Ok_rowN Ob.out NY.out _), Lib.hid (heap_setRow HN.out _), Lib.hid hS8⟩
        · go_simp
          have hN : (U2.alloc (.cells #[.string ⟨#[]⟩, .string ⟨#[]⟩, .string ⟨#[]⟩, .int .i64 0, .string ⟨#[]⟩, .int .i64 0, .int .i64 0, .int .i64 0, .int .i64 0, .int .i64 0, .int .i64 0, .int .i64 0, .int .i64 0, .int .i64 0, .int .i64 0, .slice none 0 0, .string ⟨#[]⟩, .string ⟨#[]⟩, .string ⟨#[]⟩, .bool false, .bool false] 27)).heap[U2.heap.size]? = some (.cells #[.string ⟨#[]⟩, .string ⟨#[]⟩, .string ⟨#[]⟩, .int .i64 0, .string ⟨#[]⟩, .int .i64 0, .int .i64 0, .int .i64 0, .int .i64 0, .int .i64 0, .int .i64 0, .int .i64 0, .int .i64 0, .int .i64 0, .int .i64 0, .slice none 0 0, .string ⟨#[]⟩, .string ⟨#[]⟩, .string ⟨#[]⟩, .bool false, .bool false] 27 (0, 0)) := Go.heap_alloc_new U2 _
          have hb : Below U2.heap.size U2 (U2.alloc (.cells #[.string ⟨#[]⟩, .string ⟨#[]⟩, .string ⟨#[]⟩, .int .i64 0, .string ⟨#[]⟩, .int .i64 0, .int .i64 0, .int .i64 0, .int .i64 0, .int .i64 0, .int .i64 0, .int .i64 0, .int .i64 0, .int .i64 0, .int .i64 0, .slice none 0 0, .string ⟨#[]⟩, .string ⟨#[]⟩, .string ⟨#[]⟩, .bool false, .bool false] 27)) := b_alloc (Below.refl _ _) _
          have HLB : Hid (V7.heap.size ≤ U2.heap.size) := Lib.hid SZ.out
          replace hS := hS.below hb
          replace SZ : Hid (V7.heap.size ≤ (U2.alloc (.cells #[.string ⟨#[]⟩, .string ⟨#[]⟩, .string ⟨#[]⟩, .int .i64 0, .string ⟨#[]⟩, .int .i64 0, .int .i64 0, .int .i64 0, .int .i64 0, .int .i64 0, .int .i64 0, .int .i64 0, .int .i64 0, .int .i64 0, .int .i64 0, .slice none 0 0, .string ⟨#[]⟩, .string ⟨#[]⟩, .string ⟨#[]⟩, .bool false, .bool false] 27)).heap.size) := Lib.hid (Nat.le_trans SZ.out hb.size)
          replace HF := Lib.hid (obj_b hb HF.out)
          have HN := Lib.hid hN
          clear hb hN
          refine hK.out _ _ hS (fun _ => ?_)
          clear hK K
          (try simp only [List.getElem_toArray, List.getElem_cons_zero, List.getElem_cons_succ, Act.put, List.setIfInBounds_toArray, List.set_cons_zero, List.set_cons_succ])
          generalize (U2.alloc (.cells #[.string ⟨#[]⟩, .string ⟨#[]⟩, .string ⟨#[]⟩, .int .i64 0, .string ⟨#[]⟩, .int .i64 0, .int .i64 0, .int .i64 0, .int .i64 0, .int .i64 0, .int .i64 0, .int .i64 0, .int .i64 0, .int .i64 0, .int .i64 0, .slice none 0 0, .string ⟨#[]⟩, .string ⟨#[]⟩, .string ⟨#[]⟩, .bool false, .bool false] 27)) = U5 at hS SZ HF HN ⊢
          refine wpAnyH_ready (rs := [5]) (by kernel_rfl) (by simp) ?_
          refine AllReadyH.cons rfl (fun K hK => ?_) AllReadyH.nil
          go_simp
          have hlt8 := h_lt HN.out
          refine (PlaceShow_c (some ⟨U1.heap.size, 0, none⟩) 1 cur (u.pm) X HX.out _ (RdFW.one HF.out) HMC.out (HMU.out) rfl HXL.out Ou0.out.xn (hS.ok (.head _)) Ncur.out (HG.out.below hS.be) (tabs_below HTB.out hS.be)).mono ?_
          rintro e U6 ⟨⟨b, rfl, hyp, hyo, hyf⟩, hb⟩
          clear HF
          have hny : Nb (U2.heap.size) b := fun g o e hx => by have := hyf g o e hx; omega
          have NY := Lib.hid hny
          clear hny hlt8
          replace hS := hS.below hb
          replace SZ : Hid (V7.heap.size ≤ U6.heap.size) := Lib.hid (Nat.le_trans SZ.out hb.size)
          replace HN := Lib.hid (obj_b hb HN.out)
          have Pb := Lib.hid hyp
          have Ob := Lib.hid hyo
          clear hb hyp hyf hyo
          refine hK.out _ _ hS (fun _ => ?_)
          clear hK K
          (try simp only [List.getElem_toArray, List.getElem_cons_zero, List.getElem_cons_succ, Act.put, List.setIfInBounds_toArray, List.set_cons_zero, List.set_cons_succ])
          refine wpAnyH_take (i := 6) (v := ?_) rfl (by kernel_rfl) (by kernel_rfl) (by kernel_rfl) (fun _ _ _ h => h) (Or.inl ⟨by kernel_rfl, fun W hW => ?_⟩) (by assumption) ?_
          rotate_left
          · go_simp
            try with_reducible rfl
          (try simp only [List.getElem_toArray, List.getElem_cons_zero, List.getElem_cons_succ, Act.put, List.setIfInBounds_toArray, List.set_cons_zero, List.set_cons_succ])
          refine wpAnyH_take (i := 7) (v := ?_) rfl (by kernel_rfl) (by kernel_rfl) (by kernel_rfl) (fun _ _ _ h => h) (Or.inl ⟨by kernel_rfl, fun W hW => ?_⟩) (by assumption) ?_
          rotate_left
          · go_simp
            try with_reducible rfl
          (try simp only [List.getElem_toArray, List.getElem_cons_zero, List.getElem_cons_succ, Act.put, List.setIfInBounds_toArray, List.set_cons_zero, List.set_cons_succ])
          refine wpAnyH_take (i := 8) (v := ?_) rfl (by kernel_rfl) (by kernel_rfl) (by kernel_rfl) (fun _ _ _ h => h) (Or.inl ⟨by kernel_rfl, fun W hW => ?_⟩) (by assumption) ?_
          rotate_left
          · go_simp
            try with_reducible rfl
          (try simp only [List.getElem_toArray, List.getElem_cons_zero, List.getElem_cons_succ, Act.put, List.setIfInBounds_toArray, List.set_cons_zero, List.set_cons_succ])
          refine wpAnyH_ready (rs := [10]) (by kernel_rfl) (by simp) ?_
          refine AllReadyH.cons rfl (fun K hK => ?_) AllReadyH.nil
          try rw [if_pos (by rfl)]
          refine wp_store_row 27 _ _ rfl (U2.heap.size) b.cells rfl rfl 27 _ HN.out (by kernel_rfl) rfl (agg_one b) ?_
          have hS8 : Bx [(w.heap.size, cur), (bu, u), (ka, a)] w (U6.setRow (U2.heap.size) b.cells) := hS.row b.cells (FAR.out _ HLB.out)
          refine hK.out _ _ hS8 (fun _ => ?_)
          clear hK K
          (try simp only [List.getElem_toArray, List.getElem_cons_zero, List.getElem_cons_succ, Act.put, List.setIfInBounds_toArray, List.set_cons_zero, List.set_cons_succ])
          refine wpAnyH_take (i := 11) (v := ?_) rfl (by kernel_rfl) (by kernel_rfl) (by kernel_rfl) (fun _ _ _ h => h) (Or.inl ⟨by kernel_rfl, fun W hW => ?_⟩) (by assumption) ?_
          rotate_left
          · go_simp
            try with_reducible rfl
          (try simp only [List.getElem_toArray, List.getElem_cons_zero, List.getElem_cons_succ, Act.put, List.setIfInBounds_toArray, List.set_cons_zero, List.set_cons_succ])
          refine wpAnyH_done (by kernel_rfl) ?_ _
          refine NoPanic.normal ?_
          go_wp2
          go_meet
          exact ⟨_, b, _, rfl, rfl, rfl, Pb, Lib.hid (Ok_rowN Ob.out NY.out _), Lib.hid (heap_setRow HN.out _), Lib.hid hS8⟩
      · go_simp
        have hN : (U1.alloc (.cells #[.string ⟨#[]⟩, .string ⟨#[]⟩, .string ⟨#[]⟩, .int .i64 0, .string ⟨#[]⟩, .int .i64 0, .int .i64 0, .int .i64 0, .int .i64 0, .int .i64 0, .int .i64 0, .int .i64 0, .int .i64 0, .int .i64 0, .int .i64 0, .slice none 0 0, .string ⟨#[]⟩, .string ⟨#[]⟩, .string ⟨#[]⟩, .bool false, .bool false] 27)).heap[U1.heap.size]? = some (.cells #[.string ⟨#[]⟩, .string ⟨#[]⟩, .string ⟨#[]⟩, .int .i64 0, .string ⟨#[]⟩, .int .i64 0, .int .i64 0, .int .i64 0, .int .i64 0, .int .i64 0, .int .i64 0, .int .i64 0, .int .i64 0, .int .i64 0, .int .i64 0, .slice none 0 0, .string ⟨#[]⟩, .string ⟨#[]⟩, .string ⟨#[]⟩, .bool false, .bool false] 27 (0, 0)) := Go.heap_alloc_new U1 _
        have hb : Below U1.heap.size U1 (U1.alloc (.cells #[.string ⟨#[]⟩, .string ⟨#[]⟩, .string ⟨#[]⟩, .int .i64 0, .string ⟨#[]⟩, .int .i64 0, .int .i64 0, .int .i64 0, .int .i64 0, .int .i64 0, .int .i64 0, .int .i64 0, .int .i64 0, .int .i64 0, .int .i64 0, .slice none 0 0, .string ⟨#[]⟩, .string ⟨#[]⟩, .string ⟨#[]⟩, .bool false, .bool false] 27)) := b_alloc (Below.refl _ _) _
        have HLB : Hid (V7.heap.size ≤ U1.heap.size) := Lib.hid SZ.out
        replace hS := hS.below hb
        replace SZ : Hid (V7.heap.size ≤ (U1.alloc (.cells #[.string ⟨#[]⟩, .string ⟨#[]⟩, .string ⟨#[]⟩, .int .i64 0, .string ⟨#[]⟩, .int .i64 0, .int .i64 0, .int .i64 0, .int .i64 0, .int .i64 0, .int .i64 0, .int .i64 0, .int .i64 0, .int .i64 0, .int .i64 0, .slice none 0 0, .string ⟨#[]⟩, .string ⟨#[]⟩, .string ⟨#[]⟩, .bool false, .bool false] 27)).heap.size) := Lib.hid (Nat.le_trans SZ.out hb.size)
        have HN := Lib.hid hN
        clear hb hN
        refine hK.out _ _ hS (fun _ => ?_)
        clear hK K
        (try simp only [List.getElem_toArray, List.getElem_cons_zero, List.getElem_cons_succ, Act.put, List.setIfInBounds_toArray, List.set_cons_zero, List.set_cons_succ])
        generalize (U1.alloc (.cells #[.string ⟨#[]⟩, .string ⟨#[]⟩, .string ⟨#[]⟩, .int .i64 0, .string ⟨#[]⟩, .int .i64 0, .int .i64 0, .int .i64 0, .int .i64 0, .int .i64 0, .int .i64 0, .int .i64 0, .int .i64 0, .int .i64 0, .int .i64 0, .slice none 0 0, .string ⟨#[]⟩, .string ⟨#[]⟩, .string ⟨#[]⟩, .bool false, .bool false] 27)) = U7 at hS SZ HN ⊢
        refine wpAnyH_ready (rs := [3]) (by kernel_rfl) (by simp) ?_
        refine AllReadyH.cons rfl (fun K hK => ?_) AllReadyH.nil
        go_simp
        have hN : (U7.alloc (.cells #[.string ⟨#[76, 111, 99, 97, 116, 105, 111, 110]⟩, .string (mkS X)] 50)).heap[U7.heap.size]? = some (.cells #[.string ⟨#[76, 111, 99, 97, 116, 105, 111, 110]⟩, .string (mkS X)] 50 (0, 0)) := Go.heap_alloc_new U7 _
        have hb : Below U7.heap.size U7 (U7.alloc (.cells #[.string ⟨#[76, 111, 99, 97, 116, 105, 111, 110]⟩, .string (mkS X)] 50)) := b_alloc (Below.refl _ _) _
        replace hS := hS.below hb
        replace SZ : Hid (V7.heap.size ≤ (U7.alloc (.cells #[.string ⟨#[76, 111, 99, 97, 116, 105, 111, 110]⟩, .string (mkS X)] 50)).heap.size) := Lib.hid (Nat.le_trans SZ.out hb.size)
        replace HN := Lib.hid (obj_b hb HN.out)
        have HF := Lib.hid hN
        clear hb hN
        refine hK.out _ _ hS (fun _ => ?_)
        clear hK K
        (try simp only [List.getElem_toArray, List.getElem_cons_zero, List.getElem_cons_succ, Act.put, List.setIfInBounds_toArray, List.set_cons_zero, List.set_cons_succ])
        generalize (U7.alloc (.cells #[.string ⟨#[76, 111, 99, 97, 116, 105, 111, 110]⟩, .string (mkS X)] 50)) = U8 at hS SZ HN HF ⊢
        refine wpAnyH_ready (rs := [5]) (by kernel_rfl) (by simp) ?_
        refine AllReadyH.cons rfl (fun K hK => ?_) AllReadyH.nil
        go_simp
        have hlt8 := h_lt HN.out
        refine (PlaceShow_c (some ⟨U7.heap.size, 0, none⟩) 1 cur (u.pm) X HX.out _ (RdFW.one HF.out) HMC.out (HMU.out) rfl HXL.out Ou0.out.xn (hS.ok (.head _)) Ncur.out (HG.out.below hS.be) (tabs_below HTB.out hS.be)).mono ?_
        rintro e U9 ⟨⟨b, rfl, hyp, hyo, hyf⟩, hb⟩
        clear HF
        have hny : Nb (U1.heap.size) b := fun g o e hx => by have := hyf g o e hx; omega
        have NY := Lib.hid hny
        clear hny hlt8
        replace hS := hS.below hb
        replace SZ : Hid (V7.heap.size ≤ U9.heap.size) := Lib.hid (Nat.le_trans SZ.out hb.size)
        replace HN := Lib.hid (obj_b hb HN.out)
        have Pb := Lib.hid hyp
        have Ob := Lib.hid hyo
        clear hb hyp hyf hyo
        refine hK.out _ _ hS (fun _ => ?_)
        clear hK K
        (try simp only [List.getElem_toArray, List.getElem_cons_zero, List.getElem_cons_succ, Act.put, List.setIfInBounds_toArray, List.set_cons_zero, List.set_cons_succ])
        refine wpAnyH_take (i := 6) (v := ?_) rfl (by kernel_rfl) (by kernel_rfl) (by kernel_rfl) (fun _ _ _ h => h) (Or.inl ⟨by kernel_rfl, fun W hW => ?_⟩) (by assumption) ?_
        rotate_left
        · go_simp
          try with_reducible rfl
        (try simp only [List.getElem_toArray, List.getElem_cons_zero, List.getElem_cons_succ, Act.put, List.setIfInBounds_toArray, List.set_cons_zero, List.set_cons_succ])
        refine wpAnyH_take (i := 7) (v := ?_) rfl (by kernel_rfl) (by kernel_rfl) (by kernel_rfl) (fun _ _ _ h => h) (Or.inl ⟨by kernel_rfl, fun W hW => ?_⟩) (by assumption) ?_
        rotate_left
        · go_simp
          try with_reducible rfl
        (try simp only [List.getElem_toArray, List.getElem_cons_zero, List.getElem_cons_succ, Act.put, List.setIfInBounds_toArray, List.set_cons_zero, List.set_cons_succ])
        refine wpAnyH_take (i := 8) (v := ?_) rfl (by kernel_rfl) (by kernel_rfl) (by kernel_rfl) (fun _ _ _ h => h) (Or.inl ⟨by kernel_rfl, fun W hW => ?_⟩) (by assumption) ?_
        rotate_left
        · go_simp
          try with_reducible rfl
        (try simp only [List.getElem_toArray, List.getElem_cons_zero, List.getElem_cons_succ, Act.put, List.setIfInBounds_toArray, List.set_cons_zero, List.set_cons_succ])
        refine wpAnyH_ready (rs := [10]) (by kernel_rfl) (by simp) ?_
        refine AllReadyH.cons rfl (fun K hK => ?_) AllReadyH.nil
        try rw [if_pos (by rfl)]
        refine wp_store_row 27 _ _ rfl (U1.heap.size) b.cells rfl rfl 27 _ HN.out (by kernel_rfl) rfl (agg_one b) ?_
        have hS8 : Bx [(w.heap.size, cur), (bu, u), (ka, a)] w (U9.setRow (U1.heap.size) b.cells) := hS.row b.cells (FAR.out _ HLB.out)
        refine hK.out _ _ hS8 (fun _ => ?_)
        clear hK K
        (try simp only [List.getElem_toArray, List.getElem_cons_zero, List.getElem_cons_succ, Act.put, List.setIfInBounds_toArray, List.set_cons_zero, List.set_cons_succ])
        refine wpAnyH_take (i := 11) (v := ?_) rfl (by kernel_rfl) (by kernel_rfl) (by kernel_rfl) (fun _ _ _ h => h) (Or.inl ⟨by kernel_rfl, fun W hW => ?_⟩) (by assumption) ?_
        rotate_left
        · go_simp
          try with_reducible rfl
        (try simp only [List.getElem_toArray, List.getElem_cons_zero, List.getElem_cons_succ, Act.put, List.setIfInBounds_toArray, List.set_cons_zero, List.set_cons_succ])
        refine wpAnyH_done (by kernel_rfl) ?_ _
        refine NoPanic.normal ?_
        go_wp2
        go_meet
        exact ⟨_, b, _, rfl, rfl, rfl, Pb, Lib.hid (Ok_rowN Ob.out NY.out _), Lib.hid (heap_setRow HN.out _), Lib.hid hS8⟩
    · go_simp
      have hN : (V7.alloc (.cells #[.string ⟨#[]⟩, .string ⟨#[]⟩, .string ⟨#[]⟩, .int .i64 0, .string ⟨#[]⟩, .int .i64 0, .int .i64 0, .int .i64 0, .int .i64 0, .int .i64 0, .int .i64 0, .int .i64 0, .int .i64 0, .int .i64 0, .int .i64 0, .slice none 0 0, .string ⟨#[]⟩, .string ⟨#[]⟩, .string ⟨#[]⟩, .bool false, .bool false] 27)).drew.heap[V7.heap.size]? = some (.cells #[.string ⟨#[]⟩, .string ⟨#[]⟩, .string ⟨#[]⟩, .int .i64 0, .string ⟨#[]⟩, .int .i64 0, .int .i64 0, .int .i64 0, .int .i64 0, .int .i64 0, .int .i64 0, .int .i64 0, .int .i64 0, .int .i64 0, .int .i64 0, .slice none 0 0, .string ⟨#[]⟩, .string ⟨#[]⟩, .string ⟨#[]⟩, .bool false, .bool false] 27 (0, 0)) := Go.heap_alloc_new V7 _
      have hb : Below V7.drew.heap.size (V7.drew) (V7.alloc (.cells #[.string ⟨#[]⟩, .string ⟨#[]⟩, .string ⟨#[]⟩, .int .i64 0, .string ⟨#[]⟩, .int .i64 0, .int .i64 0, .int .i64 0, .int .i64 0, .int .i64 0, .int .i64 0, .int .i64 0, .int .i64 0, .int .i64 0, .int .i64 0, .slice none 0 0, .string ⟨#[]⟩, .string ⟨#[]⟩, .string ⟨#[]⟩, .bool false, .bool false] 27)).drew := b_alloc (Below.refl (V7.drew).heap.size (V7.drew)) _
      have HLB : Hid (V7.heap.size ≤ V7.heap.size) := Lib.hid SZ.out
      replace hS := hS.below hb
      replace SZ : Hid (V7.heap.size ≤ (V7.alloc (.cells #[.string ⟨#[]⟩, .string ⟨#[]⟩, .string ⟨#[]⟩, .int .i64 0, .string ⟨#[]⟩, .int .i64 0, .int .i64 0, .int .i64 0, .int .i64 0, .int .i64 0, .int .i64 0, .int .i64 0, .int .i64 0, .int .i64 0, .int .i64 0, .slice none 0 0, .string ⟨#[]⟩, .string ⟨#[]⟩, .string ⟨#[]⟩, .bool false, .bool false] 27)).drew.heap.size) := Lib.hid (Nat.le_trans SZ.out hb.size)
      have HN := Lib.hid hN
      clear hb hN
      refine hK.out _ _ hS (fun _ => ?_)
      clear hK K
      (try simp only [List.getElem_toArray, List.getElem_cons_zero, List.getElem_cons_succ, Act.put, List.setIfInBounds_toArray, List.set_cons_zero, List.set_cons_succ])
      generalize (V7.alloc (.cells #[.string ⟨#[]⟩, .string ⟨#[]⟩, .string ⟨#[]⟩, .int .i64 0, .string ⟨#[]⟩, .int .i64 0, .int .i64 0, .int .i64 0, .int .i64 0, .int .i64 0, .int .i64 0, .int .i64 0, .int .i64 0, .int .i64 0, .int .i64 0, .slice none 0 0, .string ⟨#[]⟩, .string ⟨#[]⟩, .string ⟨#[]⟩, .bool false, .bool false] 27)).drew = U10 at hS SZ HN ⊢
      refine wpAnyH_ready (rs := [1]) (by kernel_rfl) (by simp) ?_
      refine AllReadyH.cons rfl (fun K hK => ?_) AllReadyH.nil
      go_simp
      refine (showUrl_c u _ (hS.ok (.tail _ (.head _))) (HG.out.below hS.be)).mono ?_
      rw [HX.out]
      rintro e U11 ⟨rfl, hb⟩
      replace hS := hS.below hb
      replace SZ : Hid (V7.heap.size ≤ U11.heap.size) := Lib.hid (Nat.le_trans SZ.out hb.size)
      replace HN := Lib.hid (obj_b hb HN.out)
      clear hb
      refine hK.out _ _ hS (fun _ => ?_)
      clear hK K
      (try simp only [List.getElem_toArray, List.getElem_cons_zero, List.getElem_cons_succ, Act.put, List.setIfInBounds_toArray, List.set_cons_zero, List.set_cons_succ])
      refine wpAnyH_take (i := 2) (v := ?_) rfl (by kernel_rfl) (by kernel_rfl) (by kernel_rfl) (fun _ _ _ h => h) (Or.inl ⟨by kernel_rfl, fun W hW => ?_⟩) (by assumption) ?_
      rotate_left
      · go_simp
        try with_reducible rfl
      (try simp only [List.getElem_toArray, List.getElem_cons_zero, List.getElem_cons_succ, Act.put, List.setIfInBounds_toArray, List.set_cons_zero, List.set_cons_succ])
      refine wpAnyH_ready (rs := [3]) (by kernel_rfl) (by simp) ?_
      refine AllReadyH.cons rfl (fun K hK => ?_) AllReadyH.nil
      go_simp
      have hN : (U11.alloc (.cells #[.string ⟨#[76, 111, 99, 97, 116, 105, 111, 110]⟩, .string (mkS X)] 50)).heap[U11.heap.size]? = some (.cells #[.string ⟨#[76, 111, 99, 97, 116, 105, 111, 110]⟩, .string (mkS X)] 50 (0, 0)) := Go.heap_alloc_new U11 _
      have hb : Below U11.heap.size U11 (U11.alloc (.cells #[.string ⟨#[76, 111, 99, 97, 116, 105, 111, 110]⟩, .string (mkS X)] 50)) := b_alloc (Below.refl _ _) _
      replace hS := hS.below hb
      replace SZ : Hid (V7.heap.size ≤ (U11.alloc (.cells #[.string ⟨#[76, 111, 99, 97, 116, 105, 111, 110]⟩, .string (mkS X)] 50)).heap.size) := Lib.hid (Nat.le_trans SZ.out hb.size)
      replace HN := Lib.hid (obj_b hb HN.out)
      have HF := Lib.hid hN
      clear hb hN
      refine hK.out _ _ hS (fun _ => ?_)
      clear hK K
      (try simp only [List.getElem_toArray, List.getElem_cons_zero, List.getElem_cons_succ, Act.put, List.setIfInBounds_toArray, List.set_cons_zero, List.set_cons_succ])
      generalize (U11.alloc (.cells #[.string ⟨#[76, 111, 99, 97, 116, 105, 111, 110]⟩, .string (mkS X)] 50)) = U12 at hS SZ HN HF ⊢
      refine wpAnyH_ready (rs := [5]) (by kernel_rfl) (by simp) ?_
      refine AllReadyH.cons rfl (fun K hK => ?_) AllReadyH.nil
      go_simp
      have hlt8 := h_lt HN.out
      refine (PlaceShow_c (some ⟨U11.heap.size, 0, none⟩) 1 cur (u.pm) X HX.out _ (RdFW.one HF.out) HMC.out (HMU.out) rfl HXL.out Ou0.out.xn (hS.ok (.head _)) Ncur.out (HG.out.below hS.be) (tabs_below HTB.out hS.be)).mono ?_
      rintro e U13 ⟨⟨b, rfl, hyp, hyo, hyf⟩, hb⟩
      clear HF
      have hny : Nb (V7.heap.size) b := fun g o e hx => by have := hyf g o e hx; omega
      have NY := Lib.hid hny
      clear hny hlt8
      replace hS := hS.below hb
      replace SZ : Hid (V7.heap.size ≤ U13.heap.size) := Lib.hid (Nat.le_trans SZ.out hb.size)
      replace HN := Lib.hid (obj_b hb HN.out)
      have Pb := Lib.hid hyp
      have Ob := Lib.hid hyo
      clear hb hyp hyf hyo
      refine hK.out _ _ hS (fun _ => ?_)
      clear hK K
      (try simp only [List.getElem_toArray, List.getElem_cons_zero, List.getElem_cons_succ, Act.put, List.setIfInBounds_toArray, List.set_cons_zero, List.set_cons_succ])
      refine wpAnyH_take (i := 6) (v := ?_) rfl (by kernel_rfl) (by kernel_rfl) (by kernel_rfl) (fun _ _ _ h => h) (Or.inl ⟨by kernel_rfl, fun W hW => ?_⟩) (by assumption) ?_
      rotate_left
      · go_simp
        try with_reducible rfl
      (try simp only [List.getElem_toArray, List.getElem_cons_zero, List.getElem_cons_succ, Act.put, List.setIfInBounds_toArray, List.set_cons_zero, List.set_cons_succ])
      refine wpAnyH_take (i := 7) (v := ?_) rfl (by kernel_rfl) (by kernel_rfl) (by kernel_rfl) (fun _ _ _ h => h) (Or.inl ⟨by kernel_rfl, fun W hW => ?_⟩) (by assumption) ?_
      rotate_left
      · go_simp
        try with_reducible rfl
      (try simp only [List.getElem_toArray, List.getElem_cons_zero, List.getElem_cons_succ, Act.put, List.setIfInBounds_toArray, List.set_cons_zero, List.set_cons_succ])
      refine wpAnyH_take (i := 8) (v := ?_) rfl (by kernel_rfl) (by kernel_rfl) (by kernel_rfl) (fun _ _ _ h => h) (Or.inl ⟨by kernel_rfl, fun W hW => ?_⟩) (by assumption) ?_
      rotate_left
      · go_simp
        try with_reducible rfl
      (try simp only [List.getElem_toArray, List.getElem_cons_zero, List.getElem_cons_succ, Act.put, List.setIfInBounds_toArray, List.set_cons_zero, List.set_cons_succ])
      refine wpAnyH_ready (rs := [10]) (by kernel_rfl) (by simp) ?_
      refine AllReadyH.cons rfl (fun K hK => ?_) AllReadyH.nil
      try rw [if_pos (by rfl)]
      refine wp_store_row 27 _ _ rfl (V7.heap.size) b.cells rfl rfl 27 _ HN.out (by kernel_rfl) rfl (agg_one b) ?_
      have hS8 : Bx [(w.heap.size, cur), (bu, u), (ka, a)] w (U13.setRow (V7.heap.size) b.cells) := hS.row b.cells (FAR.out _ HLB.out)
      refine hK.out _ _ hS8 (fun _ => ?_)
      clear hK K
      (try simp only [List.getElem_toArray, List.getElem_cons_zero, List.getElem_cons_succ, Act.put, List.setIfInBounds_toArray, List.set_cons_zero, List.set_cons_succ])
      refine wpAnyH_take (i := 11) (v := ?_) rfl (by kernel_rfl) (by kernel_rfl) (by kernel_rfl) (fun _ _ _ h => h) (Or.inl ⟨by kernel_rfl, fun W hW => ?_⟩) (by assumption) ?_
      rotate_left
      · go_simp
        try with_reducible rfl
      (try simp only [List.getElem_toArray, List.getElem_cons_zero, List.getElem_cons_succ, Act.put, List.setIfInBounds_toArray, List.set_cons_zero, List.set_cons_succ])
      refine wpAnyH_done (by kernel_rfl) ?_ _
      refine NoPanic.normal ?_
      go_wp2
      go_meet
      exact ⟨_, b, _, rfl, rfl, rfl, Pb, Lib.hid (Ok_rowN Ob.out NY.out _), Lib.hid (heap_setRow HN.out _), Lib.hid hS8⟩
  case rest =>
    obtain ⟨kb, b, W9, rfl, rfl, rfl, Pb, Ob, Hb, hEA⟩ := hcut
    clear HB Hcur Ocur Hu Ou Ha Oa
    have Hcur := Lib.hid (hEA.out.hp (.head _))
    have Hu := Lib.hid (hEA.out.hp (.tail _ (.head _)))
    have Ha := Lib.hid (hEA.out.hp (.tail _ (.tail _ (.head _))))
    have Ocur := Lib.hid (hEA.out.ok (.head _))
    have Ou := Lib.hid (hEA.out.ok (.tail _ (.head _)))
    have Oa := Lib.hid (hEA.out.ok (.tail _ (.tail _ (.head _))))
    have HB := Lib.hid hEA.out.be
    clear hEA
    go_wp2_with fail
    go_cut [12, 13] (fun pt vt wr => ∃ (ky : Nat) (y : UV) (W9 : World), W9 = wr ∧ pt = .pointer (some ⟨ky, 0, none⟩) ∧ vt = .int .i64 1 ∧ Hid (y.pm = PM.inherit (PM.bare u.pm) cur.pm) ∧ Hid (y.Ok wr) ∧ Hid (wr.heap[ky]? = some (.cells y.cells 27 (0, 0))) ∧ Hid (Bx [(w.heap.size, cur), (bu, u), (ka, a), (kb, b)] w wr))
    case first =>
      have hbx : Bx [(w.heap.size, cur), (bu, u), (ka, a), (kb, b)] w W9 := (Bx.cons (Bx.cons (Bx.cons (Bx.cons (Bx.nil _ _ HB.out) Hb.out Ob.out) Ha.out Oa.out) Hu.out Ou.out) Hcur.out Ocur.out)
      have far : ∀ k, W9.heap.size ≤ k → (∀ p ∈ ([(w.heap.size, cur), (bu, u), (ka, a), (kb, b)] : List (Nat × UV)), p.1 ≠ k ∧ Nb k p.2) ∧ w.heap.size ≤ k := fun k hk => hbx.far hk
      have FAR := Lib.hid far
      clear far
      refine wp_region_noPanic ?_
      refine wp_region_held_drew (S := fun W' => Bx [(w.heap.size, cur), (bu, u), (ka, a), (kb, b)] w W') (by kernel_rfl) (Bx.below hbx (b_drew (Below.refl _ _))) (fun hS0 => ?_)
      have hS : Bx [(w.heap.size, cur), (bu, u), (ka, a), (kb, b)] w W9.drew := hS0
      clear hS0 hbx
      have SZ : Hid (W9.heap.size ≤ W9.drew.heap.size) := Lib.hid (Nat.le_refl _)
      refine wpAnyH_take (i := 0) (v := ?_) rfl (by kernel_rfl) (by kernel_rfl) (by kernel_rfl) (fun _ _ _ h => h) (Or.inl ⟨by kernel_rfl, fun W hW => ?_⟩) (by assumption) ?_
      rotate_left
      · refine yield_row 27 (.tmp 3) ?_ bu ?_ (hW.hp (.tail _ (.head _))) Tryz.underlying27 rfl (by kernel_rfl)
        · rfl
        · rfl
      (try simp only [List.getElem_toArray, List.getElem_cons_zero, List.getElem_cons_succ, Act.put, List.setIfInBounds_toArray, List.set_cons_zero, List.set_cons_succ])
      refine wpAnyH_take (i := 5) (v := ?_) rfl (by kernel_rfl) (by kernel_rfl) (by kernel_rfl) (fun _ _ _ h => h) (Or.inl ⟨by kernel_rfl, fun W hW => ?_⟩) (by assumption) ?_
      rotate_left
      · refine yield_row 27 (.tmp 2) ?_ w.heap.size ?_ (hW.hp (.head _)) Tryz.underlying27 rfl (by kernel_rfl)
        · rfl
        · rfl
      (try simp only [List.getElem_toArray, List.getElem_cons_zero, List.getElem_cons_succ, Act.put, List.setIfInBounds_toArray, List.set_cons_zero, List.set_cons_succ])
      refine wpAnyH_ready (rs := [1, 10]) (by kernel_rfl) (by simp) ?_
      refine AllReadyH.cons rfl (fun K hK => ?_) (AllReadyH.cons rfl (fun K hK => ?_) AllReadyH.nil)
      · go_simp
        refine (Bare_c u _ (hS.ok (.tail _ (.head _)))).mono ?_
        rintro e U1 ⟨z, rfl, p1, o1, -, hb⟩
        replace hS := hS.below hb
        replace SZ : Hid (W9.heap.size ≤ U1.heap.size) := Lib.hid (Nat.le_trans SZ.out hb.size)
        have Pz := Lib.hid p1
        have Oz := Lib.hid o1
        clear hb p1 o1
        refine hK.out _ _ hS (fun _ => ?_)
        clear hK K
        (try simp only [List.getElem_toArray, List.getElem_cons_zero, List.getElem_cons_succ, Act.put, List.setIfInBounds_toArray, List.set_cons_zero, List.set_cons_succ])
        refine wpAnyH_ready (rs := [2, 10]) (by kernel_rfl) (by simp) ?_
        refine AllReadyH.cons rfl (fun K hK => ?_) (AllReadyH.cons rfl (fun K hK => ?_) AllReadyH.nil)
        · go_simp
          refine (showUrl_c z _ Oz.out (HG.out.below hS.be)).mono ?_
          rw [Pz.out, HY.out]
          rintro e U2 ⟨rfl, hb⟩
          replace hS := hS.below hb
          replace SZ : Hid (W9.heap.size ≤ U2.heap.size) := Lib.hid (Nat.le_trans SZ.out hb.size)
          replace Oz := Lib.hid (Oz.out.below hb)
          clear hb
          refine hK.out _ _ hS (fun _ => ?_)
          clear hK K
          (try simp only [List.getElem_toArray, List.getElem_cons_zero, List.getElem_cons_succ, Act.put, List.setIfInBounds_toArray, List.set_cons_zero, List.set_cons_succ])
          refine wpAnyH_take (i := 3) (v := ?_) rfl (by kernel_rfl) (by kernel_rfl) (by kernel_rfl) (fun _ _ _ h => h) (Or.inl ⟨by kernel_rfl, fun W hW => ?_⟩) (by assumption) ?_
          rotate_left
          · go_simp
            try with_reducible rfl
          (try simp only [List.getElem_toArray, List.getElem_cons_zero, List.getElem_cons_succ, Act.put, List.setIfInBounds_toArray, List.set_cons_zero, List.set_cons_succ])
          refine wpAnyH_ready (rs := [4, 10]) (by kernel_rfl) (by simp) ?_
          refine AllReadyH.cons rfl (fun K hK => ?_) (AllReadyH.cons rfl (fun K hK => ?_) AllReadyH.nil)
          · go_simp
            have hN : (U2.alloc (.cells #[.string ⟨#[76, 111, 99, 97, 116, 105, 111, 110]⟩, .string (mkS Y)] 50)).heap[U2.heap.size]? = some (.cells #[.string ⟨#[76, 111, 99, 97, 116, 105, 111, 110]⟩, .string (mkS Y)] 50 (0, 0)) := Go.heap_alloc_new U2 _
            have hb : Below U2.heap.size U2 (U2.alloc (.cells #[.string ⟨#[76, 111, 99, 97, 116, 105, 111, 110]⟩, .string (mkS Y)] 50)) := b_alloc (Below.refl _ _) _
            replace hS := hS.below hb
            replace SZ : Hid (W9.heap.size ≤ (U2.alloc (.cells #[.string ⟨#[76, 111, 99, 97, 116, 105, 111, 110]⟩, .string (mkS Y)] 50)).heap.size) := Lib.hid (Nat.le_trans SZ.out hb.size)
            replace Oz := Lib.hid (Oz.out.below hb)
            have HF := Lib.hid hN
            clear hb hN
            refine hK.out _ _ hS (fun _ => ?_)
            clear hK K
            (try simp only [List.getElem_toArray, List.getElem_cons_zero, List.getElem_cons_succ, Act.put, List.setIfInBounds_toArray, List.set_cons_zero, List.set_cons_succ])
            generalize (U2.alloc (.cells #[.string ⟨#[76, 111, 99, 97, 116, 105, 111, 110]⟩, .string (mkS Y)] 50)) = U3 at hS SZ Oz HF ⊢
            refine wpAnyH_ready (rs := [6, 10]) (by kernel_rfl) (by simp) ?_
            refine AllReadyH.cons rfl (fun K hK => ?_) (AllReadyH.cons rfl (fun K hK => ?_) AllReadyH.nil)
            · go_simp
              refine (PlaceShow_c (some ⟨U2.heap.size, 0, none⟩) 1 cur (PM.bare u.pm) Y HY.out _ (RdFW.one HF.out) HMC.out (PM.urlMay_bare HMU.out) rfl HYL.out Ou0.out.xn (hS.ok (.head _)) Ncur.out (HG.out.below hS.be) (tabs_below HTB.out hS.be)).mono ?_
              rintro e U4 ⟨⟨c, rfl, hyp, hyo, hyf⟩, hb⟩
              clear HF
              replace hS := hS.below hb
              replace SZ : Hid (W9.heap.size ≤ U4.heap.size) := Lib.hid (Nat.le_trans SZ.out hb.size)
              replace Oz := Lib.hid (Oz.out.below hb)
              have Pc := Lib.hid hyp
              have Oc := Lib.hid hyo
              clear hb hyp hyf hyo
              refine hK.out _ _ hS (fun _ => ?_)
              clear hK K
              (try simp only [List.getElem_toArray, List.getElem_cons_zero, List.getElem_cons_succ, Act.put, List.setIfInBounds_toArray, List.set_cons_zero, List.set_cons_succ])
              refine wpAnyH_take (i := 7) (v := ?_) rfl (by kernel_rfl) (by kernel_rfl) (by kernel_rfl) (fun _ _ _ h => h) (Or.inl ⟨by kernel_rfl, fun W hW => ?_⟩) (by assumption) ?_
              rotate_left
              · go_simp
                try with_reducible rfl
              (try simp only [List.getElem_toArray, List.getElem_cons_zero, List.getElem_cons_succ, Act.put, List.setIfInBounds_toArray, List.set_cons_zero, List.set_cons_succ])
              refine wpAnyH_take (i := 8) (v := ?_) rfl (by kernel_rfl) (by kernel_rfl) (by kernel_rfl) (fun _ _ _ h => h) (Or.inl ⟨by kernel_rfl, fun W hW => ?_⟩) (by assumption) ?_
              rotate_left
              · go_simp
                try with_reducible rfl
              (try simp only [List.getElem_toArray, List.getElem_cons_zero, List.getElem_cons_succ, Act.put, List.setIfInBounds_toArray, List.set_cons_zero, List.set_cons_succ])
              refine wpAnyH_take (i := 9) (v := ?_) rfl (by kernel_rfl) (by kernel_rfl) (by kernel_rfl) (fun _ _ _ h => h) (Or.inl ⟨by kernel_rfl, fun W hW => ?_⟩) (by assumption) ?_
              rotate_left
              · go_simp
                try with_reducible rfl
              (try simp only [List.getElem_toArray, List.getElem_cons_zero, List.getElem_cons_succ, Act.put, List.setIfInBounds_toArray, List.set_cons_zero, List.set_cons_succ])
              refine wpAnyH_ready (rs := [10]) (by kernel_rfl) (by simp) ?_
              refine AllReadyH.cons rfl (fun K hK => ?_) AllReadyH.nil
              go_simp
              have hN : (U4.alloc (.cells #[.string ⟨#[]⟩, .string ⟨#[]⟩, .string ⟨#[]⟩, .int .i64 0, .string ⟨#[]⟩, .int .i64 0, .int .i64 0, .int .i64 0, .int .i64 0, .int .i64 0, .int .i64 0, .int .i64 0, .int .i64 0, .int .i64 0, .int .i64 0, .slice none 0 0, .string ⟨#[]⟩, .string ⟨#[]⟩, .string ⟨#[]⟩, .bool false, .bool false] 27)).heap[U4.heap.size]? = some (.cells #[.string ⟨#[]⟩, .string ⟨#[]⟩, .string ⟨#[]⟩, .int .i64 0, .string ⟨#[]⟩, .int .i64 0, .int .i64 0, .int .i64 0, .int .i64 0, .int .i64 0, .int .i64 0, .int .i64 0, .int .i64 0, .int .i64 0, .int .i64 0, .slice none 0 0, .string ⟨#[]⟩, .string ⟨#[]⟩, .string ⟨#[]⟩, .bool false, .bool false] 27 (0, 0)) := Go.heap_alloc_new U4 _
              have hb : Below U4.heap.size U4 (U4.alloc (.cells #[.string ⟨#[]⟩, .string ⟨#[]⟩, .string ⟨#[]⟩, .int .i64 0, .string ⟨#[]⟩, .int .i64 0, .int .i64 0, .int .i64 0, .int .i64 0, .int .i64 0, .int .i64 0, .int .i64 0, .int .i64 0, .int .i64 0, .int .i64 0, .slice none 0 0, .string ⟨#[]⟩, .string ⟨#[]⟩, .string ⟨#[]⟩, .bool false, .bool false] 27)) := b_alloc (Below.refl _ _) _
              have hny : Nb (U4.heap.size) c := Ok_nb Oc.out (Nat.le_refl _)
              have NY := Lib.hid hny
              clear hny
              have HLB : Hid (W9.heap.size ≤ U4.heap.size) := Lib.hid SZ.out
              replace hS := hS.below hb
              replace SZ : Hid (W9.heap.size ≤ (U4.alloc (.cells #[.string ⟨#[]⟩, .string ⟨#[]⟩, .string ⟨#[]⟩, .int .i64 0, .string ⟨#[]⟩, .int .i64 0, .int .i64 0, .int .i64 0, .int .i64 0, .int .i64 0, .int .i64 0, .int .i64 0, .int .i64 0, .int .i64 0, .int .i64 0, .slice none 0 0, .string ⟨#[]⟩, .string ⟨#[]⟩, .string ⟨#[]⟩, .bool false, .bool false] 27)).heap.size) := Lib.hid (Nat.le_trans SZ.out hb.size)
              replace Oz := Lib.hid (Oz.out.below hb)
              replace Oc := Lib.hid (Oc.out.below hb)
              have HN := Lib.hid hN
              clear hb hN
              refine hK.out _ _ hS (fun _ => ?_)
              clear hK K
              (try simp only [List.getElem_toArray, List.getElem_cons_zero, List.getElem_cons_succ, Act.put, List.setIfInBounds_toArray, List.set_cons_zero, List.set_cons_succ])
              generalize (U4.alloc (.cells #[.string ⟨#[]⟩, .string ⟨#[]⟩, .string ⟨#[]⟩, .int .i64 0, .string ⟨#[]⟩, .int .i64 0, .int .i64 0, .int .i64 0, .int .i64 0, .int .i64 0, .int .i64 0, .int .i64 0, .int .i64 0, .int .i64 0, .int .i64 0, .slice none 0 0, .string ⟨#[]⟩, .string ⟨#[]⟩, .string ⟨#[]⟩, .bool false, .bool false] 27)) = U5 at hS SZ Oz Oc HN ⊢
              refine wpAnyH_ready (rs := [11]) (by kernel_rfl) (by simp) ?_
              refine AllReadyH.cons rfl (fun K hK => ?_) AllReadyH.nil
              try rw [if_pos (by rfl)]
              refine wp_store_row 27 _ _ rfl (U4.heap.size) c.cells rfl rfl 27 _ HN.out (by kernel_rfl) rfl (agg_one c) ?_
              have hS8 : Bx [(w.heap.size, cur), (bu, u), (ka, a), (kb, b)] w (U5.setRow (U4.heap.size) c.cells) := hS.row c.cells (FAR.out _ HLB.out)
              refine hK.out _ _ hS8 (fun _ => ?_)
              clear hK K
              (try simp only [List.getElem_toArray, List.getElem_cons_zero, List.getElem_cons_succ, Act.put, List.setIfInBounds_toArray, List.set_cons_zero, List.set_cons_succ])
              refine wpAnyH_take (i := 12) (v := ?_) rfl (by kernel_rfl) (by kernel_rfl) (by kernel_rfl) (fun _ _ _ h => h) (Or.inl ⟨by kernel_rfl, fun W hW => ?_⟩) (by assumption) ?_
              rotate_left
              · go_simp
                try with_reducible rfl
              (try simp only [List.getElem_toArray, List.getElem_cons_zero, List.getElem_cons_succ, Act.put, List.setIfInBounds_toArray, List.set_cons_zero, List.set_cons_succ])
              refine wpAnyH_done (by kernel_rfl) ?_ _
              refine NoPanic.normal ?_
              go_wp2
              go_meet
              exact ⟨_, c, _, rfl, rfl, rfl, Pc, Lib.hid (Ok_rowN Oc.out NY.out _), Lib.hid (heap_setRow HN.out _), Lib.hid hS8⟩
            · go_simp
              have hN : (U3.alloc (.cells #[.string ⟨#[]⟩, .string ⟨#[]⟩, .string ⟨#[]⟩, .int .i64 0, .string ⟨#[]⟩, .int .i64 0, .int .i64 0, .int .i64 0, .int .i64 0, .int .i64 0, .int .i64 0, .int .i64 0, .int .i64 0, .int .i64 0, .int .i64 0, .slice none 0 0, .string ⟨#[]⟩, .string ⟨#[]⟩, .string ⟨#[]⟩, .bool false, .bool false] 27)).heap[U3.heap.size]? = some (.cells #[.string ⟨#[]⟩, .string ⟨#[]⟩, .string ⟨#[]⟩, .int .i64 0, .string ⟨#[]⟩, .int .i64 0, .int .i64 0, .int .i64 0, .int .i64 0, .int .i64 0, .int .i64 0, .int .i64 0, .int .i64 0, .int .i64 0, .int .i64 0, .slice none 0 0, .string ⟨#[]⟩, .string ⟨#[]⟩, .string ⟨#[]⟩, .bool false, .bool false] 27 (0, 0)) := Go.heap_alloc_new U3 _
              have hb : Below U3.heap.size U3 (U3.alloc (.cells #[.string ⟨#[]⟩, .string ⟨#[]⟩, .string ⟨#[]⟩, .int .i64 0, .string ⟨#[]⟩, .int .i64 0, .int .i64 0, .int .i64 0, .int .i64 0, .int .i64 0, .int .i64 0, .int .i64 0, .int .i64 0, .int .i64 0, .int .i64 0, .slice none 0 0, .string ⟨#[]⟩, .string ⟨#[]⟩, .string ⟨#[]⟩, .bool false, .bool false] 27)) := b_alloc (Below.refl _ _) _
              have HLB : Hid (W9.heap.size ≤ U3.heap.size) := Lib.hid SZ.out
              replace hS := hS.below hb
              replace SZ : Hid (W9.heap.size ≤ (U3.alloc (.cells #[.string ⟨#[]⟩, .string ⟨#[]⟩, .string ⟨#[]⟩, .int .i64 0, .string ⟨#[]⟩, .int .i64 0, .int .i64 0, .int .i64 0, .int .i64 0, .int .i64 0, .int .i64 0, .int .i64 0, .int .i64 0, .int .i64 0, .int .i64 0, .slice none 0 0, .string ⟨#[]⟩, .string ⟨#[]⟩, .string ⟨#[]⟩, .bool false, .bool false] 27)).heap.size) := Lib.hid (Nat.le_trans SZ.out hb.size)
              replace HF := Lib.hid (obj_b hb HF.out)
              replace Oz := Lib.hid (Oz.out.below hb)
              have HN := Lib.hid hN
              clear hb hN
              refine hK.out _ _ hS (fun _ => ?_)
              clear hK K
              (try simp only [List.getElem_toArray, List.getElem_cons_zero, List.getElem_cons_succ, Act.put, List.setIfInBounds_toArray, List.set_cons_zero, List.set_cons_succ])
              generalize (U3.alloc (.cells #[.string ⟨#[]⟩, .string ⟨#[]⟩, .string ⟨#[]⟩, .int .i64 0, .string ⟨#[]⟩, .int .i64 0, .int .i64 0, .int .i64 0, .int .i64 0, .int .i64 0, .int .i64 0, .int .i64 0, .int .i64 0, .int .i64 0, .int .i64 0, .slice none 0 0, .string ⟨#[]⟩, .string ⟨#[]⟩, .string ⟨#[]⟩, .bool false, .bool false] 27)) = U6 at hS SZ Oz HF HN ⊢
              refine wpAnyH_ready (rs := [6]) (by kernel_rfl) (by simp) ?_
              refine AllReadyH.cons rfl (fun K hK => ?_) AllReadyH.nil
              go_simp
              have hlt8 := h_lt HN.out
              refine (PlaceShow_c (some ⟨U2.heap.size, 0, none⟩) 1 cur (PM.bare u.pm) Y HY.out _ (RdFW.one HF.out) HMC.out (PM.urlMay_bare HMU.out) rfl HYL.out Ou0.out.xn (hS.ok (.head _)) Ncur.out (HG.out.below hS.be) (tabs_below HTB.out hS.be)).mono ?_
              rintro e U7 ⟨⟨c, rfl, hyp, hyo, hyf⟩, hb⟩
              clear HF
              have hny : Nb (U3.heap.size) c := fun g o e hx => by have := hyf g o e hx; omega
              have NY := Lib.hid hny
              clear hny hlt8
              replace hS := hS.below hb
              replace SZ : Hid (W9.heap.size ≤ U7.heap.size) := Lib.hid (Nat.le_trans SZ.out hb.size)
              replace HN := Lib.hid (obj_b hb HN.out)
              replace Oz := Lib.hid (Oz.out.below hb)
              have Pc := Lib.hid hyp
              have Oc := Lib.hid hyo
              clear hb hyp hyf hyo
              refine hK.out _ _ hS (fun _ => ?_)
              clear hK K
              (try simp only [List.getElem_toArray, List.getElem_cons_zero, List.getElem_cons_succ, Act.put, List.setIfInBounds_toArray, List.set_cons_zero, List.set_cons_succ])
              refine wpAnyH_take (i := 7) (v := ?_) rfl (by kernel_rfl) (by kernel_rfl) (by kernel_rfl) (fun _ _ _ h => h) (Or.inl ⟨by kernel_rfl, fun W hW => ?_⟩) (by assumption) ?_
              rotate_left
              · go_simp
                try with_reducible rfl
              (try simp only [List.getElem_toArray, List.getElem_cons_zero, List.getElem_cons_succ, Act.put, List.setIfInBounds_toArray, List.set_cons_zero, List.set_cons_succ])
              refine wpAnyH_take (i := 8) (v := ?_) rfl (by kernel_rfl) (by kernel_rfl) (by kernel_rfl) (fun _ _ _ h => h) (Or.inl ⟨by kernel_rfl, fun W hW => ?_⟩) (by assumption) ?_
              rotate_left
              · go_simp
                try with_reducible rfl
              (try simp only [List.getElem_toArray, List.getElem_cons_zero, List.getElem_cons_succ, Act.put, List.setIfInBounds_toArray, List.set_cons_zero, List.set_cons_succ])
              refine wpAnyH_take (i := 9) (v := ?_) rfl (by kernel_rfl) (by kernel_rfl) (by kernel_rfl) (fun _ _ _ h => h) (Or.inl ⟨by kernel_rfl, fun W hW => ?_⟩) (by assumption) ?_
              rotate_left
              · go_simp
                try with_reducible rfl
              (try simp only [List.getElem_toArray, List.getElem_cons_zero, List.getElem_cons_succ, Act.put, List.setIfInBounds_toArray, List.set_cons_zero, List.set_cons_succ])
              refine wpAnyH_ready (rs := [11]) (by kernel_rfl) (by simp) ?_
              refine AllReadyH.cons rfl (fun K hK => ?_) AllReadyH.nil
              try rw [if_pos (by rfl)]
              refine wp_store_row 27 _ _ rfl (U3.heap.size) c.cells rfl rfl 27 _ HN.out (by kernel_rfl) rfl (agg_one c) ?_
              have hS8 : Bx [(w.heap.size, cur), (bu, u), (ka, a), (kb, b)] w (U7.setRow (U3.heap.size) c.cells) := hS.row c.cells (FAR.out _ HLB.out)
              refine hK.out _ _ hS8 (fun _ => ?_)
              clear hK K
              (try simp only [List.getElem_toArray, List.getElem_cons_zero, List.getElem_cons_succ, Act.put, List.setIfInBounds_toArray, List.set_cons_zero, List.set_cons_succ])
              refine wpAnyH_take (i := 12) (v := ?_) rfl (by kernel_rfl) (by kernel_rfl) (by kernel_rfl) (fun _ _ _ h => h) (Or.inl ⟨by kernel_rfl, fun W hW => ?_⟩) (by assumption) ?_
              rotate_left
              · go_simp
                try with_reducible rfl
              (try simp only [List.getElem_toArray, List.getElem_cons_zero, List.getElem_cons_succ, Act.put, List.setIfInBounds_toArray, List.set_cons_zero, List.set_cons_succ])
              refine wpAnyH_done (by kernel_rfl) ?_ _
              refine NoPanic.normal ?_
              go_wp2
              go_meet
              exact ⟨_, c, _, rfl, rfl, rfl, Pc, Lib.hid (Ok_rowN Oc.out NY.out _), Lib.hid (heap_setRow HN.out _), Lib.hid hS8⟩
          · go_simp
            have hN : (U2.alloc (.cells #[.string ⟨#[]⟩, .string ⟨#[]⟩, .string ⟨#[]⟩, .int .i64 0, .string ⟨#[]⟩, .int .i64 0, .int .i64 0, .int .i64 0, .int .i64 0, .int .i64 0, .int .i64 0, .int .i64 0, .int .i64 0, .int .i64 0, .int .i64 0, .slice none 0 0, .string ⟨#[]⟩, .string ⟨#[]⟩, .string ⟨#[]⟩, .bool false, .bool false] 27)).heap[U2.heap.size]? = some (.cells #[.string ⟨#[]⟩, .string ⟨#[]⟩, .string ⟨#[]⟩, .int .i64 0, .string ⟨#[]⟩, .int .i64 0, .int .i64 0, .int .i64 0, .int .i64 0, .int .i64 0, .int .i64 0, .int .i64 0, .int .i64 0, .int .i64 0, .int .i64 0, .slice none 0 0, .string ⟨#[]⟩, .string ⟨#[]⟩, .string ⟨#[]⟩, .bool false, .bool false] 27 (0, 0)) := Go.heap_alloc_new U2 _
            have hb : Below U2.heap.size U2 (U2.alloc (.cells #[.string ⟨#[]⟩, .string ⟨#[]⟩, .string ⟨#[]⟩, .int .i64 0, .string ⟨#[]⟩, .int .i64 0, .int .i64 0, .int .i64 0, .int .i64 0, .int .i64 0, .int .i64 0, .int .i64 0, .int .i64 0, .int .i64 0, .int .i64 0, .slice none 0 0, .string ⟨#[]⟩, .string ⟨#[]⟩, .string ⟨#[]⟩, .bool false, .bool false] 27)) := b_alloc (Below.refl _ _) _
            have HLB : Hid (W9.heap.size ≤ U2.heap.size) := Lib.hid SZ.out
            replace hS := hS.below hb
            replace SZ : Hid (W9.heap.size ≤ (U2.alloc (.cells #[.string ⟨#[]⟩, .string ⟨#[]⟩, .string ⟨#[]⟩, .int .i64 0, .string ⟨#[]⟩, .int .i64 0, .int .i64 0, .int .i64 0, .int .i64 0, .int .i64 0, .int .i64 0, .int .i64 0, .int .i64 0, .int .i64 0, .int .i64 0, .slice none 0 0, .string ⟨#[]⟩, .string ⟨#[]⟩, .string ⟨#[]⟩, .bool false, .bool false] 27)).heap.size) := Lib.hid (Nat.le_trans SZ.out hb.size)
            replace Oz := Lib.hid (Oz.out.below hb)
            have HN := Lib.hid hN
            clear hb hN
            refine hK.out _ _ hS (fun _ => ?_)
            clear hK K
            (try simp only [List.getElem_toArray, List.getElem_cons_zero, List.getElem_cons_succ, Act.put, List.setIfInBounds_toArray, List.set_cons_zero, List.set_cons_succ])
            generalize (U2.alloc (.cells #[.string ⟨#[]⟩, .string ⟨#[]⟩, .string ⟨#[]⟩, .int .i64 0, .string ⟨#[]⟩, .int .i64 0, .int .i64 0, .int .i64 0, .int .i64 0, .int .i64 0, .int .i64 0, .int .i64 0, .int .i64 0, .int .i64 0, .int .i64 0, .slice none 0 0, .string ⟨#[]⟩, .string ⟨#[]⟩, .string ⟨#[]⟩, .bool false, .bool false] 27)) = U8 at hS SZ Oz HN ⊢
            refine wpAnyH_ready (rs := [4]) (by kernel_rfl) (by simp) ?_
            refine AllReadyH.cons rfl (fun K hK => ?_) AllReadyH.nil
            go_simp
            have hN : (U8.alloc (.cells #[.string ⟨#[76, 111, 99, 97, 116, 105, 111, 110]⟩, .string (mkS Y)] 50)).heap[U8.heap.size]? = some (.cells #[.string ⟨#[76, 111, 99, 97, 116, 105, 111, 110]⟩, .string (mkS Y)] 50 (0, 0)) := Go.heap_alloc_new U8 _
            have hb : Below U8.heap.size U8 (U8.alloc (.cells #[.string ⟨#[76, 111, 99, 97, 116, 105, 111, 110]⟩, .string (mkS Y)] 50)) := b_alloc (Below.refl _ _) _
            replace hS := hS.below hb
            replace SZ : Hid (W9.heap.size ≤ (U8.alloc (.cells #[.string ⟨#[76, 111, 99, 97, 116, 105, 111, 110]⟩, .string (mkS Y)] 50)).heap.size) := Lib.hid (Nat.le_trans SZ.out hb.size)
            replace HN := Lib.hid (obj_b hb HN.out)
            replace Oz := Lib.hid (Oz.out.below hb)
            have HF := Lib.hid hN
            clear hb hN
            refine hK.out _ _ hS (fun _ => ?_)
            clear hK K
            (try simp only [List.getElem_toArray, List.getElem_cons_zero, List.getElem_cons_succ, Act.put, List.setIfInBounds_toArray, List.set_cons_zero, List.set_cons_succ])
            generalize (U8.alloc (.cells #[.string ⟨#[76, 111, 99, 97, 116, 105, 111, 110]⟩, .string (mkS Y)] 50)) = U9 at hS SZ Oz HN HF ⊢
            refine wpAnyH_ready (rs := [6]) (by kernel_rfl) (by simp) ?_
            refine AllReadyH.cons rfl (fun K hK => ?_) AllReadyH.nil
            go_simp
            have hlt8 := h_lt HN.out
            refine (PlaceShow_c (some ⟨U8.heap.size, 0, none⟩) 1 cur (PM.bare u.pm) Y HY.out _ (RdFW.one HF.out) HMC.out (PM.urlMay_bare HMU.out) rfl HYL.out Ou0.out.xn (hS.ok (.head _)) Ncur.out (HG.out.below hS.be) (tabs_below HTB.out hS.be)).mono ?_
            rintro e U10 ⟨⟨c, rfl, hyp, hyo, hyf⟩, hb⟩
            clear HF
            have hny : Nb (U2.heap.size) c := fun g o e hx => by have := hyf g o e hx; omega
            have NY := Lib.hid hny
            clear hny hlt8
            replace hS := hS.below hb
            replace SZ : Hid (W9.heap.size ≤ U10.heap.size) := Lib.hid (Nat.le_trans SZ.out hb.size)
            replace HN := Lib.hid (obj_b hb HN.out)
            replace Oz := Lib.hid (Oz.out.below hb)
            have Pc := Lib.hid hyp
            have Oc := Lib.hid hyo
            clear hb hyp hyf hyo
            refine hK.out _ _ hS (fun _ => ?_)
            clear hK K
            (try simp only [List.getElem_toArray, List.getElem_cons_zero, List.getElem_cons_succ, Act.put, List.setIfInBounds_toArray, List.set_cons_zero, List.set_cons_succ])
            refine wpAnyH_take (i := 7) (v := ?_) rfl (by kernel_rfl) (by kernel_rfl) (by kernel_rfl) (fun _ _ _ h => h) (Or.inl ⟨by kernel_rfl, fun W hW => ?_⟩) (by assumption) ?_
            rotate_left
            · go_simp
              try with_reducible rfl
            (try simp only [List.getElem_toArray, List.getElem_cons_zero, List.getElem_cons_succ, Act.put, List.setIfInBounds_toArray, List.set_cons_zero, List.set_cons_succ])
            refine wpAnyH_take (i := 8) (v := ?_) rfl (by kernel_rfl) (by kernel_rfl) (by kernel_rfl) (fun _ _ _ h => h) (Or.inl ⟨by kernel_rfl, fun W hW => ?_⟩) (by assumption) ?_
            rotate_left
            · go_simp
              try with_reducible rfl
            (try simp only [List.getElem_toArray, List.getElem_cons_zero, List.getElem_cons_succ, Act.put, List.setIfInBounds_toArray, List.set_cons_zero, List.set_cons_succ])
            refine wpAnyH_take (i := 9) (v := ?_) rfl (by kernel_rfl) (by kernel_rfl) (by kernel_rfl) (fun _ _ _ h => h) (Or.inl ⟨by kernel_rfl, fun W hW => ?_⟩) (by assumption) ?_
            rotate_left
            · go_simp
              try with_reducible rfl
            (try simp only [List.getElem_toArray, List.getElem_cons_zero, List.getElem_cons_succ, Act.put, List.setIfInBounds_toArray, List.set_cons_zero, List.set_cons_succ])
            refine wpAnyH_ready (rs := [11]) (by kernel_rfl) (by simp) ?_
            refine AllReadyH.cons rfl (fun K hK => ?_) AllReadyH.nil
            try rw [if_pos (by rfl)]
            refine wp_store_row 27 _ _ rfl (U2.heap.size) c.cells rfl rfl 27 _ HN.out (by kernel_rfl) rfl (agg_one c) ?_
            have hS8 : Bx [(w.heap.size, cur), (bu, u), (ka, a), (kb, b)] w (U10.setRow (U2.heap.size) c.cells) := hS.row c.cells (FAR.out _ HLB.out)
            refine hK.out _ _ hS8 (fun _ => ?_)
            clear hK K
            (try simp only [List.getElem_toArray, List.getElem_cons_zero, List.getElem_cons_succ, Act.put, List.setIfInBounds_toArray, List.set_cons_zero, List.set_cons_succ])
            refine wpAnyH_take (i := 12) (v := ?_) rfl (by kernel_rfl) (by kernel_rfl) (by kernel_rfl) (fun _ _ _ h => h) (Or.inl ⟨by kernel_rfl, fun W hW => ?_⟩) (by assumption) ?_
            rotate_left
            · go_simp
              try with_reducible rfl
            (try simp only [List.getElem_toArray, List.getElem_cons_zero, List.getElem_cons_succ, Act.put, List.setIfInBounds_toArray, List.set_cons_zero, List.set_cons_succ])
            refine wpAnyH_done (by kernel_rfl) ?_ _
            refine NoPanic.normal ?_
            go_wp2
            go_meet
            exact ⟨_, c, _, rfl, rfl, rfl, Pc, Lib.hid (Ok_rowN Oc.out NY.out _), Lib.hid (heap_setRow HN.out _), Lib.hid hS8⟩
        · go_simp
          have hN : (U1.alloc (.cells #[.string ⟨#[]⟩, .string ⟨#[]⟩, .string ⟨#[]⟩, .int .i64 0, .string ⟨#[]⟩, .int .i64 0, .int .i64 0, .int .i64 0, .int .i64 0, .int .i64 0, .int .i64 0, .int .i64 0, .int .i64 0, .int .i64 0, .int .i64 0, .slice none 0 0, .string ⟨#[]⟩, .string ⟨#[]⟩, .string ⟨#[]⟩, .bool false, .bool false] 27)).heap[U1.heap.size]? = some (.cells #[.string ⟨#[]⟩, .string ⟨#[]⟩, .string ⟨#[]⟩, .int .i64 0, .string ⟨#[]⟩, .int .i64 0, .int .i64 0, .int .i64 0, .int .i64 0, .int .i64 0, .int .i64 0, .int .i64 0, .int .i64 0, .int .i64 0, .int .i64 0, .slice none 0 0, .string ⟨#[]⟩, .string ⟨#[]⟩, .string ⟨#[]⟩, .bool false, .bool false] 27 (0, 0)) := Go.heap_alloc_new U1 _
          have hb : Below U1.heap.size U1 (U1.alloc (.cells #[.string ⟨#[]⟩, .string ⟨#[]⟩, .string ⟨#[]⟩, .int .i64 0, .string ⟨#[]⟩, .int .i64 0, .int .i64 0, .int .i64 0, .int .i64 0, .int .i64 0, .int .i64 0, .int .i64 0, .int .i64 0, .int .i64 0, .int .i64 0, .slice none 0 0, .string ⟨#[]⟩, .string ⟨#[]⟩, .string ⟨#[]⟩, .bool false, .bool false] 27)) := b_alloc (Below.refl _ _) _
          have HLB : Hid (W9.heap.size ≤ U1.heap.size) := Lib.hid SZ.out
          replace hS := hS.below hb
          replace SZ : Hid (W9.heap.size ≤ (U1.alloc (.cells #[.string ⟨#[]⟩, .string ⟨#[]⟩, .string ⟨#[]⟩, .int .i64 0, .string ⟨#[]⟩, .int .i64 0, .int .i64 0, .int .i64 0, .int .i64 0, .int .i64 0, .int .i64 0, .int .i64 0, .int .i64 0, .int .i64 0, .int .i64 0, .slice none 0 0, .string ⟨#[]⟩, .string ⟨#[]⟩, .string ⟨#[]⟩, .bool false, .bool false] 27)).heap.size) := Lib.hid (Nat.le_trans SZ.out hb.size)
          replace Oz := Lib.hid (Oz.out.below hb)
          have HN := Lib.hid hN
          clear hb hN
          refine hK.out _ _ hS (fun _ => ?_)
          clear hK K
          (try simp only [List.getElem_toArray, List.getElem_cons_zero, List.getElem_cons_succ, Act.put, List.setIfInBounds_toArray, List.set_cons_zero, List.set_cons_succ])
          generalize (U1.alloc (.cells #[.string ⟨#[]⟩, .string ⟨#[]⟩, .string ⟨#[]⟩, .int .i64 0, .string ⟨#[]⟩, .int .i64 0, .int .i64 0, .int .i64 0, .int .i64 0, .int .i64 0, .int .i64 0, .int .i64 0, .int .i64 0, .int .i64 0, .int .i64 0, .slice none 0 0, .string ⟨#[]⟩, .string ⟨#[]⟩, .string ⟨#[]⟩, .bool false, .bool false] 27)) = U11 at hS SZ Oz HN ⊢
          refine wpAnyH_ready (rs := [2]) (by kernel_rfl) (by simp) ?_
          refine AllReadyH.cons rfl (fun K hK => ?_) AllReadyH.nil
          go_simp
          refine (showUrl_c z _ Oz.out (HG.out.below hS.be)).mono ?_
          rw [Pz.out, HY.out]
          rintro e U12 ⟨rfl, hb⟩
          replace hS := hS.below hb
          replace SZ : Hid (W9.heap.size ≤ U12.heap.size) := Lib.hid (Nat.le_trans SZ.out hb.size)
          replace HN := Lib.hid (obj_b hb HN.out)
          replace Oz := Lib.hid (Oz.out.below hb)
          clear hb
          refine hK.out _ _ hS (fun _ => ?_)
          clear hK K
          (try simp only [List.getElem_toArray, List.getElem_cons_zero, List.getElem_cons_succ, Act.put, List.setIfInBounds_toArray, List.set_cons_zero, List.set_cons_succ])
          refine wpAnyH_take (i := 3) (v := ?_) rfl (by kernel_rfl) (by kernel_rfl) (by kernel_rfl) (fun _ _ _ h => h) (Or.inl ⟨by kernel_rfl, fun W hW => ?_⟩) (by assumption) ?_
          rotate_left
          · go_simp
            try with_reducible rfl
          (try simp only [List.getElem_toArray, List.getElem_cons_zero, List.getElem_cons_succ, Act.put, List.setIfInBounds_toArray, List.set_cons_zero, List.set_cons_succ])
          refine wpAnyH_ready (rs := [4]) (by kernel_rfl) (by simp) ?_
          refine AllReadyH.cons rfl (fun K hK => ?_) AllReadyH.nil
          go_simp
          have hN : (U12.alloc (.cells #[.string ⟨#[76, 111, 99, 97, 116, 105, 111, 110]⟩, .string (mkS Y)] 50)).heap[U12.heap.size]? = some (.cells #[.string ⟨#[76, 111, 99, 97, 116, 105, 111, 110]⟩, .string (mkS Y)] 50 (0, 0)) := Go.heap_alloc_new U12 _
          have hb : Below U12.heap.size U12 (U12.alloc (.cells #[.string ⟨#[76, 111, 99, 97, 116, 105, 111, 110]⟩, .string (mkS Y)] 50)) := b_alloc (Below.refl _ _) _
          replace hS := hS.below hb
          replace SZ : Hid (W9.heap.size ≤ (U12.alloc (.cells #[.string ⟨#[76, 111, 99, 97, 116, 105, 111, 110]⟩, .string (mkS Y)] 50)).heap.size) := Lib.hid (Nat.le_trans SZ.out hb.size)
          replace HN := Lib.hid (obj_b hb HN.out)
          replace Oz := Lib.hid (Oz.out.below hb)
          have HF := Lib.hid hN
          clear hb hN
          refine hK.out _ _ hS (fun _ => ?_)
          clear hK K
          (try simp only [List.getElem_toArray, List.getElem_cons_zero, List.getElem_cons_succ, Act.put, List.setIfInBounds_toArray, List.set_cons_zero, List.set_cons_succ])
          generalize (U12.alloc (.cells #[.string ⟨#[76, 111, 99, 97, 116, 105, 111, 110]⟩, .string (mkS Y)] 50)) = U13 at hS SZ Oz HN HF ⊢
          refine wpAnyH_ready (rs := [6]) (by kernel_rfl) (by simp) ?_
          refine AllReadyH.cons rfl (fun K hK => ?_) AllReadyH.nil
          go_simp
          have hlt8 := h_lt HN.out
          refine (PlaceShow_c (some ⟨U12.heap.size, 0, none⟩) 1 cur (PM.bare u.pm) Y HY.out _ (RdFW.one HF.out) HMC.out (PM.urlMay_bare HMU.out) rfl HYL.out Ou0.out.xn (hS.ok (.head _)) Ncur.out (HG.out.below hS.be) (tabs_below HTB.out hS.be)).mono ?_
          rintro e U14 ⟨⟨c, rfl, hyp, hyo, hyf⟩, hb⟩
          clear HF
          have hny : Nb (U1.heap.size) c := fun g o e hx => by have := hyf g o e hx; omega
          have NY := Lib.hid hny
          clear hny hlt8
          replace hS := hS.below hb
          replace SZ : Hid (W9.heap.size ≤ U14.heap.size) := Lib.hid (Nat.le_trans SZ.out hb.size)
          replace HN := Lib.hid (obj_b hb HN.out)
          replace Oz := Lib.hid (Oz.out.below hb)
          have Pc := Lib.hid hyp
          have Oc := Lib.hid hyo
          clear hb hyp hyf hyo
          refine hK.out _ _ hS (fun _ => ?_)
          clear hK K
          (try simp only [List.getElem_toArray, List.getElem_cons_zero, List.getElem_cons_succ, Act.put, List.setIfInBounds_toArray, List.set_cons_zero, List.set_cons_succ])
          refine wpAnyH_take (i := 7) (v := ?_) rfl (by kernel_rfl) (by kernel_rfl) (by kernel_rfl) (fun _ _ _ h => h) (Or.inl ⟨by kernel_rfl, fun W hW => ?_⟩) (by assumption) ?_
          rotate_left
          · go_simp
            try with_reducible rfl
          (try simp only [List.getElem_toArray, List.getElem_cons_zero, List.getElem_cons_succ, Act.put, List.setIfInBounds_toArray, List.set_cons_zero, List.set_cons_succ])
          refine wpAnyH_take (i := 8) (v := ?_) rfl (by kernel_rfl) (by kernel_rfl) (by kernel_rfl) (fun _ _ _ h => h) (Or.inl ⟨by kernel_rfl, fun W hW => ?_⟩) (by assumption) ?_
          rotate_left
          · go_simp
            try with_reducible rfl
          (try simp only [List.getElem_toArray, List.getElem_cons_zero, List.getElem_cons_succ, Act.put, List.setIfInBounds_toArray, List.set_cons_zero, List.set_cons_succ])
          refine wpAnyH_take (i := 9) (v := ?_) rfl (by kernel_rfl) (by kernel_rfl) (by kernel_rfl) (fun _ _ _ h => h) (Or.inl ⟨by kernel_rfl, fun W hW => ?_⟩) (by assumption) ?_
          rotate_left
          · go_simp
            try with_reducible rfl
          (try simp only [List.getElem_toArray, List.getElem_cons_zero, List.getElem_cons_succ, Act.put, List.setIfInBounds_toArray, List.set_cons_zero, List.set_cons_succ])
          refine wpAnyH_ready (rs := [11]) (by kernel_rfl) (by simp) ?_
          refine AllReadyH.cons rfl (fun K hK => ?_) AllReadyH.nil
          try rw [if_pos (by rfl)]
          refine wp_store_row 27 _ _ rfl (U1.heap.size) c.cells rfl rfl 27 _ HN.out (by kernel_rfl) rfl (agg_one c) ?_
          have hS8 : Bx [(w.heap.size, cur), (bu, u), (ka, a), (kb, b)] w (U14.setRow (U1.heap.size) c.cells) := hS.row c.cells (FAR.out _ HLB.out)
          refine hK.out _ _ hS8 (fun _ => ?_)
          clear hK K
          (try simp only [List.getElem_toArray, List.getElem_cons_zero, List.getElem_cons_succ, Act.put, List.setIfInBounds_toArray, List.set_cons_zero, List.set_cons_succ])
          refine wpAnyH_take (i := 12) (v := ?_) rfl (by kernel_rfl) (by kernel_rfl) (by kernel_rfl) (fun _ _ _ h => h) (Or.inl ⟨by kernel_rfl, fun W hW => ?_⟩) (by assumption) ?_
          rotate_left
          · go_simp
            try with_reducible rfl
          (try simp only [List.getElem_toArray, List.getElem_cons_zero, List.getElem_cons_succ, Act.put, List.setIfInBounds_toArray, List.set_cons_zero, List.set_cons_succ])
          refine wpAnyH_done (by kernel_rfl) ?_ _
          refine NoPanic.normal ?_
          go_wp2
          go_meet
          exact ⟨_, c, _, rfl, rfl, rfl, Pc, Lib.hid (Ok_rowN Oc.out NY.out _), Lib.hid (heap_setRow HN.out _), Lib.hid hS8⟩
      · go_simp
        have hN : (W9.alloc (.cells #[.string ⟨#[]⟩, .string ⟨#[]⟩, .string ⟨#[]⟩, .int .i64 0, .string ⟨#[]⟩, .int .i64 0, .int .i64 0, .int .i64 0, .int .i64 0, .int .i64 0, .int .i64 0, .int .i64 0, .int .i64 0, .int .i64 0, .int .i64 0, .slice none 0 0, .string ⟨#[]⟩, .string ⟨#[]⟩, .string ⟨#[]⟩, .bool false, .bool false] 27)).drew.heap[W9.heap.size]? = some (.cells #[.string ⟨#[]⟩, .string ⟨#[]⟩, .string ⟨#[]⟩, .int .i64 0, .string ⟨#[]⟩, .int .i64 0, .int .i64 0, .int .i64 0, .int .i64 0, .int .i64 0, .int .i64 0, .int .i64 0, .int .i64 0, .int .i64 0, .int .i64 0, .slice none 0 0, .string ⟨#[]⟩, .string ⟨#[]⟩, .string ⟨#[]⟩, .bool false, .bool false] 27 (0, 0)) := Go.heap_alloc_new W9 _
        have hb : Below W9.drew.heap.size (W9.drew) (W9.alloc (.cells #[.string ⟨#[]⟩, .string ⟨#[]⟩, .string ⟨#[]⟩, .int .i64 0, .string ⟨#[]⟩, .int .i64 0, .int .i64 0, .int .i64 0, .int .i64 0, .int .i64 0, .int .i64 0, .int .i64 0, .int .i64 0, .int .i64 0, .int .i64 0, .slice none 0 0, .string ⟨#[]⟩, .string ⟨#[]⟩, .string ⟨#[]⟩, .bool false, .bool false] 27)).drew := b_alloc (Below.refl (W9.drew).heap.size (W9.drew)) _
        have HLB : Hid (W9.heap.size ≤ W9.heap.size) := Lib.hid SZ.out
        replace hS := hS.below hb
        replace SZ : Hid (W9.heap.size ≤ (W9.alloc (.cells #[.string ⟨#[]⟩, .string ⟨#[]⟩, .string ⟨#[]⟩, .int .i64 0, .string ⟨#[]⟩, .int .i64 0, .int .i64 0, .int .i64 0, .int .i64 0, .int .i64 0, .int .i64 0, .int .i64 0, .int .i64 0, .int .i64 0, .int .i64 0, .slice none 0 0, .string ⟨#[]⟩, .string ⟨#[]⟩, .string ⟨#[]⟩, .bool false, .bool false] 27)).drew.heap.size) := Lib.hid (Nat.le_trans SZ.out hb.size)
        have HN := Lib.hid hN
        clear hb hN
        refine hK.out _ _ hS (fun _ => ?_)
        clear hK K
        (try simp only [List.getElem_toArray, List.getElem_cons_zero, List.getElem_cons_succ, Act.put, List.setIfInBounds_toArray, List.set_cons_zero, List.set_cons_succ])
        generalize (W9.alloc (.cells #[.string ⟨#[]⟩, .string ⟨#[]⟩, .string ⟨#[]⟩, .int .i64 0, .string ⟨#[]⟩, .int .i64 0, .int .i64 0, .int .i64 0, .int .i64 0, .int .i64 0, .int .i64 0, .int .i64 0, .int .i64 0, .int .i64 0, .int .i64 0, .slice none 0 0, .string ⟨#[]⟩, .string ⟨#[]⟩, .string ⟨#[]⟩, .bool false, .bool false] 27)).drew = U15 at hS SZ HN ⊢
        refine wpAnyH_ready (rs := [1]) (by kernel_rfl) (by simp) ?_
        refine AllReadyH.cons rfl (fun K hK => ?_) AllReadyH.nil
        go_simp
        refine (Bare_c u _ (hS.ok (.tail _ (.head _)))).mono ?_
        rintro e U16 ⟨z, rfl, p1, o1, -, hb⟩
        replace hS := hS.below hb
        replace SZ : Hid (W9.heap.size ≤ U16.heap.size) := Lib.hid (Nat.le_trans SZ.out hb.size)
        replace HN := Lib.hid (obj_b hb HN.out)
        have Pz := Lib.hid p1
        have Oz := Lib.hid o1
        clear hb p1 o1
        refine hK.out _ _ hS (fun _ => ?_)
        clear hK K
        (try simp only [List.getElem_toArray, List.getElem_cons_zero, List.getElem_cons_succ, Act.put, List.setIfInBounds_toArray, List.set_cons_zero, List.set_cons_succ])
        refine wpAnyH_ready (rs := [2]) (by kernel_rfl) (by simp) ?_
        refine AllReadyH.cons rfl (fun K hK => ?_) AllReadyH.nil
        go_simp
        refine (showUrl_c z _ Oz.out (HG.out.below hS.be)).mono ?_
        rw [Pz.out, HY.out]
        rintro e U17 ⟨rfl, hb⟩
        replace hS := hS.below hb
        replace SZ : Hid (W9.heap.size ≤ U17.heap.size) := Lib.hid (Nat.le_trans SZ.out hb.size)
        replace HN := Lib.hid (obj_b hb HN.out)
        replace Oz := Lib.hid (Oz.out.below hb)
        clear hb
        refine hK.out _ _ hS (fun _ => ?_)
        clear hK K
        (try simp only [List.getElem_toArray, List.getElem_cons_zero, List.getElem_cons_succ, Act.put, List.setIfInBounds_toArray, List.set_cons_zero, List.set_cons_succ])
        refine wpAnyH_take (i := 3) (v := ?_) rfl (by kernel_rfl) (by kernel_rfl) (by kernel_rfl) (fun _ _ _ h => h) (Or.inl ⟨by kernel_rfl, fun W hW => ?_⟩) (by assumption) ?_
        rotate_left
        · go_simp
          try with_reducible rfl
        (try simp only [List.getElem_toArray, List.getElem_cons_zero, List.getElem_cons_succ, Act.put, List.setIfInBounds_toArray, List.set_cons_zero, List.set_cons_succ])
        refine wpAnyH_ready (rs := [4]) (by kernel_rfl) (by simp) ?_
        refine AllReadyH.cons rfl (fun K hK => ?_) AllReadyH.nil
        go_simp
        have hN : (U17.alloc (.cells #[.string ⟨#[76, 111, 99, 97, 116, 105, 111, 110]⟩, .string (mkS Y)] 50)).heap[U17.heap.size]? = some (.cells #[.string ⟨#[76, 111, 99, 97, 116, 105, 111, 110]⟩, .string (mkS Y)] 50 (0, 0)) := Go.heap_alloc_new U17 _
        have hb : Below U17.heap.size U17 (U17.alloc (.cells #[.string ⟨#[76, 111, 99, 97, 116, 105, 111, 110]⟩, .string (mkS Y)] 50)) := b_alloc (Below.refl _ _) _
        replace hS := hS.below hb
        replace SZ : Hid (W9.heap.size ≤ (U17.alloc (.cells #[.string ⟨#[76, 111, 99, 97, 116, 105, 111, 110]⟩, .string (mkS Y)] 50)).heap.size) := Lib.hid (Nat.le_trans SZ.out hb.size)
        replace HN := Lib.hid (obj_b hb HN.out)
        replace Oz := Lib.hid (Oz.out.below hb)
        have HF := Lib.hid hN
        clear hb hN
        refine hK.out _ _ hS (fun _ => ?_)
        clear hK K
        (try simp only [List.getElem_toArray, List.getElem_cons_zero, List.getElem_cons_succ, Act.put, List.setIfInBounds_toArray, List.set_cons_zero, List.set_cons_succ])
        generalize (U17.alloc (.cells #[.string ⟨#[76, 111, 99, 97, 116, 105, 111, 110]⟩, .string (mkS Y)] 50)) = U18 at hS SZ HN Oz HF ⊢
        refine wpAnyH_ready (rs := [6]) (by kernel_rfl) (by simp) ?_
        refine AllReadyH.cons rfl (fun K hK => ?_) AllReadyH.nil
        go_simp
        have hlt8 := h_lt HN.out
        refine (PlaceShow_c (some ⟨U17.heap.size, 0, none⟩) 1 cur (PM.bare u.pm) Y HY.out _ (RdFW.one HF.out) HMC.out (PM.urlMay_bare HMU.out) rfl HYL.out Ou0.out.xn (hS.ok (.head _)) Ncur.out (HG.out.below hS.be) (tabs_below HTB.out hS.be)).mono ?_
        rintro e U19 ⟨⟨c, rfl, hyp, hyo, hyf⟩, hb⟩
        clear HF
        have hny : Nb (W9.heap.size) c := fun g o e hx => by have := hyf g o e hx; omega
        have NY := Lib.hid hny
        clear hny hlt8
        replace hS := hS.below hb
        replace SZ : Hid (W9.heap.size ≤ U19.heap.size) := Lib.hid (Nat.le_trans SZ.out hb.size)
        replace HN := Lib.hid (obj_b hb HN.out)
        replace Oz := Lib.hid (Oz.out.below hb)
        have Pc := Lib.hid hyp
        have Oc := Lib.hid hyo
        clear hb hyp hyf hyo
        refine hK.out _ _ hS (fun _ => ?_)
        clear hK K
        (try simp only [List.getElem_toArray, List.getElem_cons_zero, List.getElem_cons_succ, Act.put, List.setIfInBounds_toArray, List.set_cons_zero, List.set_cons_succ])
        refine wpAnyH_take (i := 7) (v := ?_) rfl (by kernel_rfl) (by kernel_rfl) (by kernel_rfl) (fun _ _ _ h => h) (Or.inl ⟨by kernel_rfl, fun W hW => ?_⟩) (by assumption) ?_
        rotate_left
        · go_simp
          try with_reducible rfl
        (try simp only [List.getElem_toArray, List.getElem_cons_zero, List.getElem_cons_succ, Act.put, List.setIfInBounds_toArray, List.set_cons_zero, List.set_cons_succ])
        refine wpAnyH_take (i := 8) (v := ?_) rfl (by kernel_rfl) (by kernel_rfl) (by kernel_rfl) (fun _ _ _ h => h) (Or.inl ⟨by kernel_rfl, fun W hW => ?_⟩) (by assumption) ?_
        rotate_left
        · go_simp
          try with_reducible rfl
        (try simp only [List.getElem_toArray, List.getElem_cons_zero, List.getElem_cons_succ, Act.put, List.setIfInBounds_toArray, List.set_cons_zero, List.set_cons_succ])
        refine wpAnyH_take (i := 9) (v := ?_) rfl (by kernel_rfl) (by kernel_rfl) (by kernel_rfl) (fun _ _ _ h => h) (Or.inl ⟨by kernel_rfl, fun W hW => ?_⟩) (by assumption) ?_
        rotate_left
        · go_simp
          try with_reducible rfl
        (try simp only [List.getElem_toArray, List.getElem_cons_zero, List.getElem_cons_succ, Act.put, List.setIfInBounds_toArray, List.set_cons_zero, List.set_cons_succ])
        refine wpAnyH_ready (rs := [11]) (by kernel_rfl) (by simp) ?_
        refine AllReadyH.cons rfl (fun K hK => ?_) AllReadyH.nil
        try rw [if_pos (by rfl)]
        refine wp_store_row 27 _ _ rfl (W9.heap.size) c.cells rfl rfl 27 _ HN.out (by kernel_rfl) rfl (agg_one c) ?_
        have hS8 : Bx [(w.heap.size, cur), (bu, u), (ka, a), (kb, b)] w (U19.setRow (W9.heap.size) c.cells) := hS.row c.cells (FAR.out _ HLB.out)
        refine hK.out _ _ hS8 (fun _ => ?_)
        clear hK K
        (try simp only [List.getElem_toArray, List.getElem_cons_zero, List.getElem_cons_succ, Act.put, List.setIfInBounds_toArray, List.set_cons_zero, List.set_cons_succ])
        refine wpAnyH_take (i := 12) (v := ?_) rfl (by kernel_rfl) (by kernel_rfl) (by kernel_rfl) (fun _ _ _ h => h) (Or.inl ⟨by kernel_rfl, fun W hW => ?_⟩) (by assumption) ?_
        rotate_left
        · go_simp
          try with_reducible rfl
        (try simp only [List.getElem_toArray, List.getElem_cons_zero, List.getElem_cons_succ, Act.put, List.setIfInBounds_toArray, List.set_cons_zero, List.set_cons_succ])
        refine wpAnyH_done (by kernel_rfl) ?_ _
        refine NoPanic.normal ?_
        go_wp2
        go_meet
        exact ⟨_, c, _, rfl, rfl, rfl, Pc, Lib.hid (Ok_rowN Oc.out NY.out _), Lib.hid (heap_setRow HN.out _), Lib.hid hS8⟩
    case rest =>
      obtain ⟨kc, c, W9, rfl, rfl, rfl, Pc, Oc, Hc, hEA⟩ := hcut
      clear HB Hcur Ocur Hu Ou Ha Oa Hb Ob
      have Hcur := Lib.hid (hEA.out.hp (.head _))
      have Hu := Lib.hid (hEA.out.hp (.tail _ (.head _)))
      have Ha := Lib.hid (hEA.out.hp (.tail _ (.tail _ (.head _))))
      have Hb := Lib.hid (hEA.out.hp (.tail _ (.tail _ (.tail _ (.head _)))))
      have Ocur := Lib.hid (hEA.out.ok (.head _))
      have Ou := Lib.hid (hEA.out.ok (.tail _ (.head _)))
      have Oa := Lib.hid (hEA.out.ok (.tail _ (.tail _ (.head _))))
      have Ob := Lib.hid (hEA.out.ok (.tail _ (.tail _ (.tail _ (.head _)))))
      have HB := Lib.hid hEA.out.be
      clear hEA
      have hcp : c.pm = { PM.bare u.pm with frag := cur.pm.frag, hasFrag := cur.pm.hasFrag } := by rw [Pc.out]; exact PM.inherit_no rfl _
      have hch : c.hf = cur.hf := congrArg PM.Url.hasFrag hcp
      have hcf : c.fr = cur.fr := congrArg PM.Url.frag hcp
      have HCP := Lib.hid hcp
      have HCH := Lib.hid hch
      have HCF := Lib.hid hcf
      clear hcp hch hcf
      cases huf : u.hf
      · skip
        have HUF := Lib.hid huf
        clear huf
        go_wp2_with fail
        refine wp_region_noPanic ?_
        refine wp_region_held_drew (S := fun W' => Bx [(w.heap.size, cur), (bu, u), (ka, a), (kb, b), (kc, c)] w W') (by kernel_rfl) (Bx.below (Bx.cons (Bx.cons (Bx.cons (Bx.cons (Bx.cons (Bx.nil _ _ HB.out) Hc.out Oc.out) Hb.out Ob.out) Ha.out Oa.out) Hu.out Ou.out) Hcur.out Ocur.out) (b_drew (Below.refl _ _))) (fun hS0 => ?_)
        refine wpAnyH_take (i := 0) (v := ?_) rfl (by kernel_rfl) (by kernel_rfl) (by kernel_rfl) (fun _ _ _ h => h) (Or.inl ⟨by kernel_rfl, fun W hW => ?_⟩) (by assumption) ?_
        rotate_left
        · go_simp
          try with_reducible rfl
        (try simp only [List.getElem_toArray, List.getElem_cons_zero, List.getElem_cons_succ, Act.put, List.setIfInBounds_toArray, List.set_cons_zero, List.set_cons_succ])
        refine wpAnyH_take (i := 1) (v := ?_) rfl (by kernel_rfl) (by kernel_rfl) (by kernel_rfl) (fun _ _ _ h => h) (Or.inl ⟨by kernel_rfl, fun W hW => ?_⟩) (by assumption) ?_
        rotate_left
        · go_simp
          try with_reducible rfl
        (try simp only [List.getElem_toArray, List.getElem_cons_zero, List.getElem_cons_succ, Act.put, List.setIfInBounds_toArray, List.set_cons_zero, List.set_cons_succ])
        refine wpAnyH_take (i := 2) (v := ?_) rfl (by kernel_rfl) (by kernel_rfl) (by kernel_rfl) (fun _ _ _ h => h) (Or.inl ⟨by kernel_rfl, fun W hW => ?_⟩) (by assumption) ?_
        rotate_left
        · go_simp
          try with_reducible rfl
        (try simp only [List.getElem_toArray, List.getElem_cons_zero, List.getElem_cons_succ, Act.put, List.setIfInBounds_toArray, List.set_cons_zero, List.set_cons_succ])
        refine wpAnyH_take (i := 3) (v := ?_) rfl (by kernel_rfl) (by kernel_rfl) (by kernel_rfl) (fun _ _ _ h => h) (Or.inl ⟨by kernel_rfl, fun W hW => ?_⟩) (by assumption) ?_
        rotate_left
        · refine yield_row 27 (.tmp 8) ?_ ka ?_ (hW.hp (.tail _ (.tail _ (.head _)))) Tryz.underlying27 rfl (by kernel_rfl)
          · rfl
          · rfl
        (try simp only [List.getElem_toArray, List.getElem_cons_zero, List.getElem_cons_succ, Act.put, List.setIfInBounds_toArray, List.set_cons_zero, List.set_cons_succ])
        refine wpAnyH_take (i := 4) (v := ?_) rfl (by kernel_rfl) (by kernel_rfl) (by kernel_rfl) (fun _ _ _ h => h) (Or.inl ⟨by kernel_rfl, fun W hW => ?_⟩) (by assumption) ?_
        rotate_left
        · refine yield_row 27 (.tmp 2) ?_ w.heap.size ?_ (hW.hp (.head _)) Tryz.underlying27 rfl (by kernel_rfl)
          · rfl
          · rfl
        (try simp only [List.getElem_toArray, List.getElem_cons_zero, List.getElem_cons_succ, Act.put, List.setIfInBounds_toArray, List.set_cons_zero, List.set_cons_succ])
        refine wpAnyH_ready (rs := [5]) (by kernel_rfl) (by simp) ?_
        refine AllReadyH.cons rfl (fun K hK => ?_) AllReadyH.nil
        go_simp
        refine (UrlSame_c a cur _ (hS0.ok (.tail _ (.tail _ (.head _)))) (hS0.ok (.head _))).mono ?_
        rw [Pa.out, same_self]
        rintro e U1 ⟨rfl, hb⟩
        have hSn := hS0.below hb
        clear hb hS0
        refine hK.out _ _ hSn (fun _ => ?_)
        clear hK K
        (try simp only [List.getElem_toArray, List.getElem_cons_zero, List.getElem_cons_succ, Act.put, List.setIfInBounds_toArray, List.set_cons_zero, List.set_cons_succ])
        refine wpAnyH_take (i := 6) (v := ?_) rfl (by kernel_rfl) (by kernel_rfl) (by kernel_rfl) (fun _ _ _ h => h) (Or.inl ⟨by kernel_rfl, fun W hW => ?_⟩) (by assumption) ?_
        rotate_left
        · go_simp
          try with_reducible rfl
        (try simp only [List.getElem_toArray, List.getElem_cons_zero, List.getElem_cons_succ, Act.put, List.setIfInBounds_toArray, List.set_cons_zero, List.set_cons_succ])
        refine wpAnyH_take (i := 7) (v := ?_) rfl (by kernel_rfl) (by kernel_rfl) (by kernel_rfl) (fun _ _ _ h => h) (Or.inl ⟨by kernel_rfl, fun W hW => ?_⟩) (by assumption) ?_
        rotate_left
        · go_simp
          try with_reducible rfl
        (try simp only [List.getElem_toArray, List.getElem_cons_zero, List.getElem_cons_succ, Act.put, List.setIfInBounds_toArray, List.set_cons_zero, List.set_cons_succ])
        refine wpAnyH_take (i := 8) (v := ?_) rfl (by kernel_rfl) (by kernel_rfl) (by kernel_rfl) (fun _ _ _ h => h) (Or.inl ⟨by kernel_rfl, fun W hW => ?_⟩) (by assumption) ?_
        rotate_left
        · go_simp
          try with_reducible rfl
        (try simp only [List.getElem_toArray, List.getElem_cons_zero, List.getElem_cons_succ, Act.put, List.setIfInBounds_toArray, List.set_cons_zero, List.set_cons_succ])
        refine wpAnyH_take (i := 9) (v := ?_) rfl (by kernel_rfl) (by kernel_rfl) (by kernel_rfl) (fun _ _ _ h => h) (Or.inl ⟨by kernel_rfl, fun W hW => ?_⟩) (by assumption) ?_
        rotate_left
        · go_simp
          try with_reducible rfl
        (try simp only [List.getElem_toArray, List.getElem_cons_zero, List.getElem_cons_succ, Act.put, List.setIfInBounds_toArray, List.set_cons_zero, List.set_cons_succ])
        refine wpAnyH_take (i := 10) (v := ?_) rfl (by kernel_rfl) (by kernel_rfl) (by kernel_rfl) (fun _ _ _ h => h) (Or.inl ⟨by kernel_rfl, fun W hW => ?_⟩) (by assumption) ?_
        rotate_left
        · go_simp
          try with_reducible rfl
        (try simp only [List.getElem_toArray, List.getElem_cons_zero, List.getElem_cons_succ, Act.put, List.setIfInBounds_toArray, List.set_cons_zero, List.set_cons_succ])
        refine wpAnyH_take (i := 11) (v := ?_) rfl (by kernel_rfl) (by kernel_rfl) (by kernel_rfl) (fun _ _ _ h => h) (Or.inl ⟨by kernel_rfl, fun W hW => ?_⟩) (by assumption) ?_
        rotate_left
        · go_simp
          try with_reducible rfl
        (try simp only [List.getElem_toArray, List.getElem_cons_zero, List.getElem_cons_succ, Act.put, List.setIfInBounds_toArray, List.set_cons_zero, List.set_cons_succ])
        refine wpAnyH_take (i := 12) (v := ?_) rfl (by kernel_rfl) (by kernel_rfl) (by kernel_rfl) (fun _ _ _ h => h) (Or.inl ⟨by kernel_rfl, fun W hW => ?_⟩) (by assumption) ?_
        rotate_left
        · go_simp
          try with_reducible rfl
        (try simp only [List.getElem_toArray, List.getElem_cons_zero, List.getElem_cons_succ, Act.put, List.setIfInBounds_toArray, List.set_cons_zero, List.set_cons_succ])
        refine wpAnyH_take (i := 13) (v := ?_) rfl (by kernel_rfl) (by kernel_rfl) (by kernel_rfl) (fun _ _ _ h => h) (Or.inl ⟨by kernel_rfl, fun W hW => ?_⟩) (by assumption) ?_
        rotate_left
        · have u20 : W.cell? ⟨bu, 20, none⟩ = some (.bool false) := by rw [Lib.cell_of_heap (hW.hp (.tail _ (.head _))), show UV.cells u = UV.cells { u with hf := false } from by rw [← HUF.out]]; rfl
          have c20 : W.cell? ⟨w.heap.size, 20, none⟩ = some (.bool cur.hf) := by rw [Lib.cell_of_heap (hW.hp (.head _))]; rfl
          have c18 : W.cell? ⟨w.heap.size, 18, none⟩ = some (.string (mkS cur.fr)) := by rw [Lib.cell_of_heap (hW.hp (.head _))]; rfl
          have d20 : W.cell? ⟨kc, 20, none⟩ = some (.bool cur.hf) := by rw [Lib.cell_of_heap (hW.hp (.tail _ (.tail _ (.tail _ (.tail _ (.head _)))))), ← HCH.out]; rfl
          have d18 : W.cell? ⟨kc, 18, none⟩ = some (.string (mkS cur.fr)) := by rw [Lib.cell_of_heap (hW.hp (.tail _ (.tail _ (.tail _ (.tail _ (.head _)))))), ← HCF.out]; rfl
          go_simp
          try with_reducible rfl
        (try simp only [List.getElem_toArray, List.getElem_cons_zero, List.getElem_cons_succ, Act.put, List.setIfInBounds_toArray, List.set_cons_zero, List.set_cons_succ])
        refine wpAnyH_take (i := 14) (v := ?_) rfl (by kernel_rfl) (by kernel_rfl) (by kernel_rfl) (fun _ _ _ h => h) (Or.inl ⟨by kernel_rfl, fun W hW => ?_⟩) (by assumption) ?_
        rotate_left
        · go_simp
          try with_reducible rfl
        (try simp only [List.getElem_toArray, List.getElem_cons_zero, List.getElem_cons_succ, Act.put, List.setIfInBounds_toArray, List.set_cons_zero, List.set_cons_succ])
        refine wpAnyH_take (i := 15) (v := ?_) rfl (by kernel_rfl) (by kernel_rfl) (by kernel_rfl) (fun _ _ _ h => h) (Or.inl ⟨by kernel_rfl, fun W hW => ?_⟩) (by assumption) ?_
        rotate_left
        · go_simp
          try with_reducible rfl
        (try simp only [List.getElem_toArray, List.getElem_cons_zero, List.getElem_cons_succ, Act.put, List.setIfInBounds_toArray, List.set_cons_zero, List.set_cons_succ])
        refine wpAnyH_take (i := 16) (v := undef) rfl (by kernel_rfl) (by kernel_rfl) (by kernel_rfl) (fun _ _ _ h => h) (Or.inr ⟨by kernel_rfl, rfl⟩) (by assumption) ?_
        (try simp only [List.getElem_toArray, List.getElem_cons_zero, List.getElem_cons_succ, Act.put, List.setIfInBounds_toArray, List.set_cons_zero, List.set_cons_succ])
        refine wpAnyH_take (i := 17) (v := undef) rfl (by kernel_rfl) (by kernel_rfl) (by kernel_rfl) (fun _ _ _ h => h) (Or.inr ⟨by kernel_rfl, rfl⟩) (by assumption) ?_
        (try simp only [List.getElem_toArray, List.getElem_cons_zero, List.getElem_cons_succ, Act.put, List.setIfInBounds_toArray, List.set_cons_zero, List.set_cons_succ])
        refine wpAnyH_take (i := 18) (v := undef) rfl (by kernel_rfl) (by kernel_rfl) (by kernel_rfl) (fun _ _ _ h => h) (Or.inr ⟨by kernel_rfl, rfl⟩) (by assumption) ?_
        (try simp only [List.getElem_toArray, List.getElem_cons_zero, List.getElem_cons_succ, Act.put, List.setIfInBounds_toArray, List.set_cons_zero, List.set_cons_succ])
        refine wpAnyH_take (i := 19) (v := ?_) rfl (by kernel_rfl) (by kernel_rfl) (by kernel_rfl) (fun _ _ _ h => h) (Or.inl ⟨by kernel_rfl, fun W hW => ?_⟩) (by assumption) ?_
        rotate_left
        · go_simp
          try with_reducible rfl
        (try simp only [List.getElem_toArray, List.getElem_cons_zero, List.getElem_cons_succ, Act.put, List.setIfInBounds_toArray, List.set_cons_zero, List.set_cons_succ])
        refine wpAnyH_take (i := 20) (v := ?_) rfl (by kernel_rfl) (by kernel_rfl) (by kernel_rfl) (fun _ _ _ h => h) (Or.inl ⟨by kernel_rfl, fun W hW => ?_⟩) (by assumption) ?_
        rotate_left
        · go_simp
          try with_reducible rfl
        (try simp only [List.getElem_toArray, List.getElem_cons_zero, List.getElem_cons_succ, Act.put, List.setIfInBounds_toArray, List.set_cons_zero, List.set_cons_succ])
        refine wpAnyH_take (i := 21) (v := ?_) rfl (by kernel_rfl) (by kernel_rfl) (by kernel_rfl) (fun _ _ _ h => h) (Or.inl ⟨by kernel_rfl, fun W hW => ?_⟩) (by assumption) ?_
        rotate_left
        · go_simp
          try with_reducible rfl
        (try simp only [List.getElem_toArray, List.getElem_cons_zero, List.getElem_cons_succ, Act.put, List.setIfInBounds_toArray, List.set_cons_zero, List.set_cons_succ])
        refine wpAnyH_take (i := 22) (v := ?_) rfl (by kernel_rfl) (by kernel_rfl) (by kernel_rfl) (fun _ _ _ h => h) (Or.inl ⟨by kernel_rfl, fun W hW => ?_⟩) (by assumption) ?_
        rotate_left
        · go_simp
          try with_reducible rfl
        (try simp only [List.getElem_toArray, List.getElem_cons_zero, List.getElem_cons_succ, Act.put, List.setIfInBounds_toArray, List.set_cons_zero, List.set_cons_succ])
        refine wpAnyH_take (i := 23) (v := ?_) rfl (by kernel_rfl) (by kernel_rfl) (by kernel_rfl) (fun _ _ _ h => h) (Or.inl ⟨by kernel_rfl, fun W hW => ?_⟩) (by assumption) ?_
        rotate_left
        · go_simp
          try with_reducible rfl
        (try simp only [List.getElem_toArray, List.getElem_cons_zero, List.getElem_cons_succ, Act.put, List.setIfInBounds_toArray, List.set_cons_zero, List.set_cons_succ])
        refine wpAnyH_take (i := 24) (v := ?_) rfl (by kernel_rfl) (by kernel_rfl) (by kernel_rfl) (fun _ _ _ h => h) (Or.inl ⟨by kernel_rfl, fun W hW => ?_⟩) (by assumption) ?_
        rotate_left
        · go_simp
          try with_reducible rfl
        (try simp only [List.getElem_toArray, List.getElem_cons_zero, List.getElem_cons_succ, Act.put, List.setIfInBounds_toArray, List.set_cons_zero, List.set_cons_succ])
        refine wpAnyH_take (i := 25) (v := ?_) rfl (by kernel_rfl) (by kernel_rfl) (by kernel_rfl) (fun _ _ _ h => h) (Or.inl ⟨by kernel_rfl, fun W hW => ?_⟩) (by assumption) ?_
        rotate_left
        · go_simp
          try with_reducible rfl
        (try simp only [List.getElem_toArray, List.getElem_cons_zero, List.getElem_cons_succ, Act.put, List.setIfInBounds_toArray, List.set_cons_zero, List.set_cons_succ])
        refine wpAnyH_take (i := 26) (v := ?_) rfl (by kernel_rfl) (by kernel_rfl) (by kernel_rfl) (fun _ _ _ h => h) (Or.inl ⟨by kernel_rfl, fun W hW => ?_⟩) (by assumption) ?_
        rotate_left
        · refine yield_row 27 (.tmp 12) ?_ kc ?_ (hW.hp (.tail _ (.tail _ (.tail _ (.tail _ (.head _)))))) Tryz.underlying27 rfl (by kernel_rfl)
          · rfl
          · rfl
        (try simp only [List.getElem_toArray, List.getElem_cons_zero, List.getElem_cons_succ, Act.put, List.setIfInBounds_toArray, List.set_cons_zero, List.set_cons_succ])
        refine wpAnyH_take (i := 28) (v := ?_) rfl (by kernel_rfl) (by kernel_rfl) (by kernel_rfl) (fun _ _ _ h => h) (Or.inl ⟨by kernel_rfl, fun W hW => ?_⟩) (by assumption) ?_
        rotate_left
        · refine yield_row 27 (.tmp 3) ?_ bu ?_ (hW.hp (.tail _ (.head _))) Tryz.underlying27 rfl (by kernel_rfl)
          · rfl
          · rfl
        (try simp only [List.getElem_toArray, List.getElem_cons_zero, List.getElem_cons_succ, Act.put, List.setIfInBounds_toArray, List.set_cons_zero, List.set_cons_succ])
        refine wpAnyH_ready (rs := [27]) (by kernel_rfl) (by simp) ?_
        refine AllReadyH.cons rfl (fun K hK => ?_) AllReadyH.nil
        go_simp
        refine (Bare_c c _ (hSn.ok (.tail _ (.tail _ (.tail _ (.tail _ (.head _))))))).mono ?_
        rintro e U2 ⟨c1, rfl, p1, o1, -, hb⟩
        replace hSn := hSn.below hb
        clear hb
        have PC1 := Lib.hid p1
        have OC1 := Lib.hid o1
        clear p1 o1
        refine hK.out _ _ hSn (fun _ => ?_)
        clear hK K
        (try simp only [List.getElem_toArray, List.getElem_cons_zero, List.getElem_cons_succ, Act.put, List.setIfInBounds_toArray, List.set_cons_zero, List.set_cons_succ])
        refine wpAnyH_ready (rs := [29]) (by kernel_rfl) (by simp) ?_
        refine AllReadyH.cons rfl (fun K hK => ?_) AllReadyH.nil
        go_simp
        refine (Bare_c u _ (hSn.ok (.tail _ (.head _)))).mono ?_
        rintro e U3 ⟨u1, rfl, p1, o1, -, hb⟩
        replace hSn := hSn.below hb
        replace OC1 := Lib.hid (OC1.out.below hb)
        clear hb
        have PU1 := Lib.hid p1
        have OU1 := Lib.hid o1
        clear p1 o1
        refine hK.out _ _ hSn (fun _ => ?_)
        clear hK K
        (try simp only [List.getElem_toArray, List.getElem_cons_zero, List.getElem_cons_succ, Act.put, List.setIfInBounds_toArray, List.set_cons_zero, List.set_cons_succ])
        refine wpAnyH_ready (rs := [30]) (by kernel_rfl) (by simp) ?_
        refine AllReadyH.cons rfl (fun K hK => ?_) AllReadyH.nil
        go_simp
        refine (UrlSame_c c1 u1 _ OC1.out OU1.out).mono ?_
        rw [PC1.out, PU1.out, HCP.out, show PM.bare { PM.bare u.pm with frag := cur.pm.frag, hasFrag := cur.pm.hasFrag } = PM.bare u.pm from rfl, same_self]
        rintro e U4 ⟨rfl, hb⟩
        replace hSn := hSn.below hb
        clear hb
        refine hK.out _ _ hSn (fun _ => ?_)
        clear hK K
        (try simp only [List.getElem_toArray, List.getElem_cons_zero, List.getElem_cons_succ, Act.put, List.setIfInBounds_toArray, List.set_cons_zero, List.set_cons_succ])
        refine wpAnyH_take (i := 31) (v := ?_) rfl (by kernel_rfl) (by kernel_rfl) (by kernel_rfl) (fun _ _ _ h => h) (Or.inl ⟨by kernel_rfl, fun W hW => ?_⟩) (by assumption) ?_
        rotate_left
        · go_simp
          try with_reducible rfl
        (try simp only [List.getElem_toArray, List.getElem_cons_zero, List.getElem_cons_succ, Act.put, List.setIfInBounds_toArray, List.set_cons_zero, List.set_cons_succ])
        refine wpAnyH_take (i := 32) (v := ?_) rfl (by kernel_rfl) (by kernel_rfl) (by kernel_rfl) (fun _ _ _ h => h) (Or.inl ⟨by kernel_rfl, fun W hW => ?_⟩) (by assumption) ?_
        rotate_left
        · go_simp
          try with_reducible rfl
        (try simp only [List.getElem_toArray, List.getElem_cons_zero, List.getElem_cons_succ, Act.put, List.setIfInBounds_toArray, List.set_cons_zero, List.set_cons_succ])
        refine wpAnyH_take (i := 33) (v := ?_) rfl (by kernel_rfl) (by kernel_rfl) (by kernel_rfl) (fun _ _ _ h => h) (Or.inl ⟨by kernel_rfl, fun W hW => ?_⟩) (by assumption) ?_
        rotate_left
        · go_simp
          try with_reducible rfl
        (try simp only [List.getElem_toArray, List.getElem_cons_zero, List.getElem_cons_succ, Act.put, List.setIfInBounds_toArray, List.set_cons_zero, List.set_cons_succ])
        refine wpAnyH_take (i := 34) (v := ?_) rfl (by kernel_rfl) (by kernel_rfl) (by kernel_rfl) (fun _ _ _ h => h) (Or.inl ⟨by kernel_rfl, fun W hW => ?_⟩) (by assumption) ?_
        rotate_left
        · have u20 : W.cell? ⟨bu, 20, none⟩ = some (.bool false) := by rw [Lib.cell_of_heap (hW.hp (.tail _ (.head _))), show UV.cells u = UV.cells { u with hf := false } from by rw [← HUF.out]]; rfl
          have c20 : W.cell? ⟨w.heap.size, 20, none⟩ = some (.bool cur.hf) := by rw [Lib.cell_of_heap (hW.hp (.head _))]; rfl
          have c18 : W.cell? ⟨w.heap.size, 18, none⟩ = some (.string (mkS cur.fr)) := by rw [Lib.cell_of_heap (hW.hp (.head _))]; rfl
          have d20 : W.cell? ⟨kc, 20, none⟩ = some (.bool cur.hf) := by rw [Lib.cell_of_heap (hW.hp (.tail _ (.tail _ (.tail _ (.tail _ (.head _)))))), ← HCH.out]; rfl
          have d18 : W.cell? ⟨kc, 18, none⟩ = some (.string (mkS cur.fr)) := by rw [Lib.cell_of_heap (hW.hp (.tail _ (.tail _ (.tail _ (.tail _ (.head _)))))), ← HCF.out]; rfl
          go_simp
          try with_reducible rfl
        (try simp only [List.getElem_toArray, List.getElem_cons_zero, List.getElem_cons_succ, Act.put, List.setIfInBounds_toArray, List.set_cons_zero, List.set_cons_succ])
        refine wpAnyH_take (i := 35) (v := ?_) rfl (by kernel_rfl) (by kernel_rfl) (by kernel_rfl) (fun _ _ _ h => h) (Or.inl ⟨by kernel_rfl, fun W hW => ?_⟩) (by assumption) ?_
        rotate_left
        · go_simp
          try with_reducible rfl
        (try simp only [List.getElem_toArray, List.getElem_cons_zero, List.getElem_cons_succ, Act.put, List.setIfInBounds_toArray, List.set_cons_zero, List.set_cons_succ])
        refine wpAnyH_take (i := 36) (v := ?_) rfl (by kernel_rfl) (by kernel_rfl) (by kernel_rfl) (fun _ _ _ h => h) (Or.inl ⟨by kernel_rfl, fun W hW => ?_⟩) (by assumption) ?_
        rotate_left
        · have u20 : W.cell? ⟨bu, 20, none⟩ = some (.bool false) := by rw [Lib.cell_of_heap (hW.hp (.tail _ (.head _))), show UV.cells u = UV.cells { u with hf := false } from by rw [← HUF.out]]; rfl
          have c20 : W.cell? ⟨w.heap.size, 20, none⟩ = some (.bool cur.hf) := by rw [Lib.cell_of_heap (hW.hp (.head _))]; rfl
          have c18 : W.cell? ⟨w.heap.size, 18, none⟩ = some (.string (mkS cur.fr)) := by rw [Lib.cell_of_heap (hW.hp (.head _))]; rfl
          have d20 : W.cell? ⟨kc, 20, none⟩ = some (.bool cur.hf) := by rw [Lib.cell_of_heap (hW.hp (.tail _ (.tail _ (.tail _ (.tail _ (.head _)))))), ← HCH.out]; rfl
          have d18 : W.cell? ⟨kc, 18, none⟩ = some (.string (mkS cur.fr)) := by rw [Lib.cell_of_heap (hW.hp (.tail _ (.tail _ (.tail _ (.tail _ (.head _)))))), ← HCF.out]; rfl
          go_simp
          try with_reducible rfl
        (try simp only [List.getElem_toArray, List.getElem_cons_zero, List.getElem_cons_succ, Act.put, List.setIfInBounds_toArray, List.set_cons_zero, List.set_cons_succ])
        refine wpAnyH_take (i := 37) (v := ?_) rfl (by kernel_rfl) (by kernel_rfl) (by kernel_rfl) (fun _ _ _ h => h) (Or.inl ⟨by kernel_rfl, fun W hW => ?_⟩) (by assumption) ?_
        rotate_left
        · go_simp
          try with_reducible rfl
        (try simp only [List.getElem_toArray, List.getElem_cons_zero, List.getElem_cons_succ, Act.put, List.setIfInBounds_toArray, List.set_cons_zero, List.set_cons_succ])
        refine wpAnyH_take (i := 38) (v := ?_) rfl (by kernel_rfl) (by kernel_rfl) (by kernel_rfl) (fun _ _ _ h => h) (Or.inl ⟨by kernel_rfl, fun W hW => ?_⟩) (by assumption) ?_
        rotate_left
        · go_simp
          try with_reducible rfl
        (try simp only [List.getElem_toArray, List.getElem_cons_zero, List.getElem_cons_succ, Act.put, List.setIfInBounds_toArray, List.set_cons_zero, List.set_cons_succ])
        refine wpAnyH_take (i := 39) (v := ?_) rfl (by kernel_rfl) (by kernel_rfl) (by kernel_rfl) (fun _ _ _ h => h) (Or.inl ⟨by kernel_rfl, fun W hW => ?_⟩) (by assumption) ?_
        rotate_left
        · go_simp
          try with_reducible rfl
        (try simp only [List.getElem_toArray, List.getElem_cons_zero, List.getElem_cons_succ, Act.put, List.setIfInBounds_toArray, List.set_cons_zero, List.set_cons_succ])
        refine wpAnyH_take (i := 40) (v := ?_) rfl (by kernel_rfl) (by kernel_rfl) (by kernel_rfl) (fun _ _ _ h => h) (Or.inl ⟨by kernel_rfl, fun W hW => ?_⟩) (by assumption) ?_
        rotate_left
        · go_simp
          try with_reducible rfl
        (try simp only [List.getElem_toArray, List.getElem_cons_zero, List.getElem_cons_succ, Act.put, List.setIfInBounds_toArray, List.set_cons_zero, List.set_cons_succ])
        refine wpAnyH_take (i := 41) (v := ?_) rfl (by kernel_rfl) (by kernel_rfl) (by kernel_rfl) (fun _ _ _ h => h) (Or.inl ⟨by kernel_rfl, fun W hW => ?_⟩) (by assumption) ?_
        rotate_left
        · have u20 : W.cell? ⟨bu, 20, none⟩ = some (.bool false) := by rw [Lib.cell_of_heap (hW.hp (.tail _ (.head _))), show UV.cells u = UV.cells { u with hf := false } from by rw [← HUF.out]]; rfl
          have c20 : W.cell? ⟨w.heap.size, 20, none⟩ = some (.bool cur.hf) := by rw [Lib.cell_of_heap (hW.hp (.head _))]; rfl
          have c18 : W.cell? ⟨w.heap.size, 18, none⟩ = some (.string (mkS cur.fr)) := by rw [Lib.cell_of_heap (hW.hp (.head _))]; rfl
          have d20 : W.cell? ⟨kc, 20, none⟩ = some (.bool cur.hf) := by rw [Lib.cell_of_heap (hW.hp (.tail _ (.tail _ (.tail _ (.tail _ (.head _)))))), ← HCH.out]; rfl
          have d18 : W.cell? ⟨kc, 18, none⟩ = some (.string (mkS cur.fr)) := by rw [Lib.cell_of_heap (hW.hp (.tail _ (.tail _ (.tail _ (.tail _ (.head _)))))), ← HCF.out]; rfl
          go_simp
          try with_reducible rfl
        (try simp only [List.getElem_toArray, List.getElem_cons_zero, List.getElem_cons_succ, Act.put, List.setIfInBounds_toArray, List.set_cons_zero, List.set_cons_succ])
        refine wpAnyH_take (i := 42) (v := ?_) rfl (by kernel_rfl) (by kernel_rfl) (by kernel_rfl) (fun _ _ _ h => h) (Or.inl ⟨by kernel_rfl, fun W hW => ?_⟩) (by assumption) ?_
        rotate_left
        · go_simp
          try with_reducible rfl
        (try simp only [List.getElem_toArray, List.getElem_cons_zero, List.getElem_cons_succ, Act.put, List.setIfInBounds_toArray, List.set_cons_zero, List.set_cons_succ])
        refine wpAnyH_take (i := 43) (v := ?_) rfl (by kernel_rfl) (by kernel_rfl) (by kernel_rfl) (fun _ _ _ h => h) (Or.inl ⟨by kernel_rfl, fun W hW => ?_⟩) (by assumption) ?_
        rotate_left
        · have u20 : W.cell? ⟨bu, 20, none⟩ = some (.bool false) := by rw [Lib.cell_of_heap (hW.hp (.tail _ (.head _))), show UV.cells u = UV.cells { u with hf := false } from by rw [← HUF.out]]; rfl
          have c20 : W.cell? ⟨w.heap.size, 20, none⟩ = some (.bool cur.hf) := by rw [Lib.cell_of_heap (hW.hp (.head _))]; rfl
          have c18 : W.cell? ⟨w.heap.size, 18, none⟩ = some (.string (mkS cur.fr)) := by rw [Lib.cell_of_heap (hW.hp (.head _))]; rfl
          have d20 : W.cell? ⟨kc, 20, none⟩ = some (.bool cur.hf) := by rw [Lib.cell_of_heap (hW.hp (.tail _ (.tail _ (.tail _ (.tail _ (.head _)))))), ← HCH.out]; rfl
          have d18 : W.cell? ⟨kc, 18, none⟩ = some (.string (mkS cur.fr)) := by rw [Lib.cell_of_heap (hW.hp (.tail _ (.tail _ (.tail _ (.tail _ (.head _)))))), ← HCF.out]; rfl
          go_simp
          try with_reducible rfl
        (try simp only [List.getElem_toArray, List.getElem_cons_zero, List.getElem_cons_succ, Act.put, List.setIfInBounds_toArray, List.set_cons_zero, List.set_cons_succ])
        refine wpAnyH_take (i := 44) (v := ?_) rfl (by kernel_rfl) (by kernel_rfl) (by kernel_rfl) (fun _ _ _ h => h) (Or.inl ⟨by kernel_rfl, fun W hW => ?_⟩) (by assumption) ?_
        rotate_left
        · go_simp
          try with_reducible rfl
        (try simp only [List.getElem_toArray, List.getElem_cons_zero, List.getElem_cons_succ, Act.put, List.setIfInBounds_toArray, List.set_cons_zero, List.set_cons_succ])
        refine wpAnyH_take (i := 45) (v := ?_) rfl (by kernel_rfl) (by kernel_rfl) (by kernel_rfl) (fun _ _ _ h => h) (Or.inl ⟨by kernel_rfl, fun W hW => ?_⟩) (by assumption) ?_
        rotate_left
        · go_simp
          try with_reducible rfl
        (try simp only [List.getElem_toArray, List.getElem_cons_zero, List.getElem_cons_succ, Act.put, List.setIfInBounds_toArray, List.set_cons_zero, List.set_cons_succ])
        refine wpAnyH_take (i := 46) (v := ?_) rfl (by kernel_rfl) (by kernel_rfl) (by kernel_rfl) (fun _ _ _ h => h) (Or.inl ⟨by kernel_rfl, fun W hW => ?_⟩) (by assumption) ?_
        rotate_left
        · go_simp
          try with_reducible rfl
        (try simp only [List.getElem_toArray, List.getElem_cons_zero, List.getElem_cons_succ, Act.put, List.setIfInBounds_toArray, List.set_cons_zero, List.set_cons_succ])
        refine wpAnyH_done (by kernel_rfl) ?_ _
        refine NoPanic.normal ?_
        go_wp2
        go_ret
        exact ⟨rfl, hSn.be⟩
      · skip
        have HUF := Lib.hid huf
        clear huf
        have hbp : b.pm = u.pm := by rw [Pb.out]; exact PM.inherit_yes (show u.pm.hasFrag = true from HUF.out) _
        have HBP := Lib.hid hbp
        clear hbp
        go_wp2_with fail
        refine wp_region_noPanic ?_
        refine wp_region_held_drew (S := fun W' => Bx [(w.heap.size, cur), (bu, u), (ka, a), (kb, b), (kc, c)] w W') (by kernel_rfl) (Bx.below (Bx.cons (Bx.cons (Bx.cons (Bx.cons (Bx.cons (Bx.nil _ _ HB.out) Hc.out Oc.out) Hb.out Ob.out) Ha.out Oa.out) Hu.out Ou.out) Hcur.out Ocur.out) (b_drew (Below.refl _ _))) (fun hS0 => ?_)
        refine wpAnyH_take (i := 0) (v := ?_) rfl (by kernel_rfl) (by kernel_rfl) (by kernel_rfl) (fun _ _ _ h => h) (Or.inl ⟨by kernel_rfl, fun W hW => ?_⟩) (by assumption) ?_
        rotate_left
        · go_simp
          try with_reducible rfl
        (try simp only [List.getElem_toArray, List.getElem_cons_zero, List.getElem_cons_succ, Act.put, List.setIfInBounds_toArray, List.set_cons_zero, List.set_cons_succ])
        refine wpAnyH_take (i := 1) (v := ?_) rfl (by kernel_rfl) (by kernel_rfl) (by kernel_rfl) (fun _ _ _ h => h) (Or.inl ⟨by kernel_rfl, fun W hW => ?_⟩) (by assumption) ?_
        rotate_left
        · go_simp
          try with_reducible rfl
        (try simp only [List.getElem_toArray, List.getElem_cons_zero, List.getElem_cons_succ, Act.put, List.setIfInBounds_toArray, List.set_cons_zero, List.set_cons_succ])
        refine wpAnyH_take (i := 2) (v := ?_) rfl (by kernel_rfl) (by kernel_rfl) (by kernel_rfl) (fun _ _ _ h => h) (Or.inl ⟨by kernel_rfl, fun W hW => ?_⟩) (by assumption) ?_
        rotate_left
        · go_simp
          try with_reducible rfl
        (try simp only [List.getElem_toArray, List.getElem_cons_zero, List.getElem_cons_succ, Act.put, List.setIfInBounds_toArray, List.set_cons_zero, List.set_cons_succ])
        refine wpAnyH_take (i := 3) (v := ?_) rfl (by kernel_rfl) (by kernel_rfl) (by kernel_rfl) (fun _ _ _ h => h) (Or.inl ⟨by kernel_rfl, fun W hW => ?_⟩) (by assumption) ?_
        rotate_left
        · refine yield_row 27 (.tmp 8) ?_ ka ?_ (hW.hp (.tail _ (.tail _ (.head _)))) Tryz.underlying27 rfl (by kernel_rfl)
          · rfl
          · rfl
        (try simp only [List.getElem_toArray, List.getElem_cons_zero, List.getElem_cons_succ, Act.put, List.setIfInBounds_toArray, List.set_cons_zero, List.set_cons_succ])
        refine wpAnyH_take (i := 4) (v := ?_) rfl (by kernel_rfl) (by kernel_rfl) (by kernel_rfl) (fun _ _ _ h => h) (Or.inl ⟨by kernel_rfl, fun W hW => ?_⟩) (by assumption) ?_
        rotate_left
        · refine yield_row 27 (.tmp 2) ?_ w.heap.size ?_ (hW.hp (.head _)) Tryz.underlying27 rfl (by kernel_rfl)
          · rfl
          · rfl
        (try simp only [List.getElem_toArray, List.getElem_cons_zero, List.getElem_cons_succ, Act.put, List.setIfInBounds_toArray, List.set_cons_zero, List.set_cons_succ])
        refine wpAnyH_ready (rs := [5]) (by kernel_rfl) (by simp) ?_
        refine AllReadyH.cons rfl (fun K hK => ?_) AllReadyH.nil
        go_simp
        refine (UrlSame_c a cur _ (hS0.ok (.tail _ (.tail _ (.head _)))) (hS0.ok (.head _))).mono ?_
        rw [Pa.out, same_self]
        rintro e U5 ⟨rfl, hb⟩
        have hSn := hS0.below hb
        clear hb hS0
        refine hK.out _ _ hSn (fun _ => ?_)
        clear hK K
        (try simp only [List.getElem_toArray, List.getElem_cons_zero, List.getElem_cons_succ, Act.put, List.setIfInBounds_toArray, List.set_cons_zero, List.set_cons_succ])
        refine wpAnyH_take (i := 6) (v := ?_) rfl (by kernel_rfl) (by kernel_rfl) (by kernel_rfl) (fun _ _ _ h => h) (Or.inl ⟨by kernel_rfl, fun W hW => ?_⟩) (by assumption) ?_
        rotate_left
        · go_simp
          try with_reducible rfl
        (try simp only [List.getElem_toArray, List.getElem_cons_zero, List.getElem_cons_succ, Act.put, List.setIfInBounds_toArray, List.set_cons_zero, List.set_cons_succ])
        refine wpAnyH_take (i := 7) (v := ?_) rfl (by kernel_rfl) (by kernel_rfl) (by kernel_rfl) (fun _ _ _ h => h) (Or.inl ⟨by kernel_rfl, fun W hW => ?_⟩) (by assumption) ?_
        rotate_left
        · go_simp
          try with_reducible rfl
        (try simp only [List.getElem_toArray, List.getElem_cons_zero, List.getElem_cons_succ, Act.put, List.setIfInBounds_toArray, List.set_cons_zero, List.set_cons_succ])
        refine wpAnyH_take (i := 8) (v := ?_) rfl (by kernel_rfl) (by kernel_rfl) (by kernel_rfl) (fun _ _ _ h => h) (Or.inl ⟨by kernel_rfl, fun W hW => ?_⟩) (by assumption) ?_
        rotate_left
        · go_simp
          try with_reducible rfl
        (try simp only [List.getElem_toArray, List.getElem_cons_zero, List.getElem_cons_succ, Act.put, List.setIfInBounds_toArray, List.set_cons_zero, List.set_cons_succ])
        refine wpAnyH_take (i := 9) (v := ?_) rfl (by kernel_rfl) (by kernel_rfl) (by kernel_rfl) (fun _ _ _ h => h) (Or.inl ⟨by kernel_rfl, fun W hW => ?_⟩) (by assumption) ?_
        rotate_left
        · go_simp
          try with_reducible rfl
        (try simp only [List.getElem_toArray, List.getElem_cons_zero, List.getElem_cons_succ, Act.put, List.setIfInBounds_toArray, List.set_cons_zero, List.set_cons_succ])
        refine wpAnyH_take (i := 10) (v := ?_) rfl (by kernel_rfl) (by kernel_rfl) (by kernel_rfl) (fun _ _ _ h => h) (Or.inl ⟨by kernel_rfl, fun W hW => ?_⟩) (by assumption) ?_
        rotate_left
        · go_simp
          try with_reducible rfl
        (try simp only [List.getElem_toArray, List.getElem_cons_zero, List.getElem_cons_succ, Act.put, List.setIfInBounds_toArray, List.set_cons_zero, List.set_cons_succ])
        refine wpAnyH_take (i := 11) (v := ?_) rfl (by kernel_rfl) (by kernel_rfl) (by kernel_rfl) (fun _ _ _ h => h) (Or.inl ⟨by kernel_rfl, fun W hW => ?_⟩) (by assumption) ?_
        rotate_left
        · go_simp
          try with_reducible rfl
        (try simp only [List.getElem_toArray, List.getElem_cons_zero, List.getElem_cons_succ, Act.put, List.setIfInBounds_toArray, List.set_cons_zero, List.set_cons_succ])
        refine wpAnyH_take (i := 12) (v := ?_) rfl (by kernel_rfl) (by kernel_rfl) (by kernel_rfl) (fun _ _ _ h => h) (Or.inl ⟨by kernel_rfl, fun W hW => ?_⟩) (by assumption) ?_
        rotate_left
        · go_simp
          try with_reducible rfl
        (try simp only [List.getElem_toArray, List.getElem_cons_zero, List.getElem_cons_succ, Act.put, List.setIfInBounds_toArray, List.set_cons_zero, List.set_cons_succ])
        refine wpAnyH_take (i := 13) (v := ?_) rfl (by kernel_rfl) (by kernel_rfl) (by kernel_rfl) (fun _ _ _ h => h) (Or.inl ⟨by kernel_rfl, fun W hW => ?_⟩) (by assumption) ?_
        rotate_left
        · have u20 : W.cell? ⟨bu, 20, none⟩ = some (.bool true) := by rw [Lib.cell_of_heap (hW.hp (.tail _ (.head _))), show UV.cells u = UV.cells { u with hf := true } from by rw [← HUF.out]]; rfl
          have c20 : W.cell? ⟨w.heap.size, 20, none⟩ = some (.bool cur.hf) := by rw [Lib.cell_of_heap (hW.hp (.head _))]; rfl
          have c18 : W.cell? ⟨w.heap.size, 18, none⟩ = some (.string (mkS cur.fr)) := by rw [Lib.cell_of_heap (hW.hp (.head _))]; rfl
          have d20 : W.cell? ⟨kc, 20, none⟩ = some (.bool cur.hf) := by rw [Lib.cell_of_heap (hW.hp (.tail _ (.tail _ (.tail _ (.tail _ (.head _)))))), ← HCH.out]; rfl
          have d18 : W.cell? ⟨kc, 18, none⟩ = some (.string (mkS cur.fr)) := by rw [Lib.cell_of_heap (hW.hp (.tail _ (.tail _ (.tail _ (.tail _ (.head _)))))), ← HCF.out]; rfl
          go_simp
          try with_reducible rfl
        (try simp only [List.getElem_toArray, List.getElem_cons_zero, List.getElem_cons_succ, Act.put, List.setIfInBounds_toArray, List.set_cons_zero, List.set_cons_succ])
        refine wpAnyH_take (i := 14) (v := ?_) rfl (by kernel_rfl) (by kernel_rfl) (by kernel_rfl) (fun _ _ _ h => h) (Or.inl ⟨by kernel_rfl, fun W hW => ?_⟩) (by assumption) ?_
        rotate_left
        · go_simp
          try with_reducible rfl
        (try simp only [List.getElem_toArray, List.getElem_cons_zero, List.getElem_cons_succ, Act.put, List.setIfInBounds_toArray, List.set_cons_zero, List.set_cons_succ])
        refine wpAnyH_take (i := 15) (v := ?_) rfl (by kernel_rfl) (by kernel_rfl) (by kernel_rfl) (fun _ _ _ h => h) (Or.inl ⟨by kernel_rfl, fun W hW => ?_⟩) (by assumption) ?_
        rotate_left
        · go_simp
          try with_reducible rfl
        (try simp only [List.getElem_toArray, List.getElem_cons_zero, List.getElem_cons_succ, Act.put, List.setIfInBounds_toArray, List.set_cons_zero, List.set_cons_succ])
        refine wpAnyH_take (i := 16) (v := ?_) rfl (by kernel_rfl) (by kernel_rfl) (by kernel_rfl) (fun _ _ _ h => h) (Or.inl ⟨by kernel_rfl, fun W hW => ?_⟩) (by assumption) ?_
        rotate_left
        · refine yield_row 27 (.tmp 10) ?_ kb ?_ (hW.hp (.tail _ (.tail _ (.tail _ (.head _))))) Tryz.underlying27 rfl (by kernel_rfl)
          · rfl
          · rfl
        (try simp only [List.getElem_toArray, List.getElem_cons_zero, List.getElem_cons_succ, Act.put, List.setIfInBounds_toArray, List.set_cons_zero, List.set_cons_succ])
        refine wpAnyH_take (i := 17) (v := ?_) rfl (by kernel_rfl) (by kernel_rfl) (by kernel_rfl) (fun _ _ _ h => h) (Or.inl ⟨by kernel_rfl, fun W hW => ?_⟩) (by assumption) ?_
        rotate_left
        · refine yield_row 27 (.tmp 3) ?_ bu ?_ (hW.hp (.tail _ (.head _))) Tryz.underlying27 rfl (by kernel_rfl)
          · rfl
          · rfl
        (try simp only [List.getElem_toArray, List.getElem_cons_zero, List.getElem_cons_succ, Act.put, List.setIfInBounds_toArray, List.set_cons_zero, List.set_cons_succ])
        refine wpAnyH_ready (rs := [18]) (by kernel_rfl) (by simp) ?_
        refine AllReadyH.cons rfl (fun K hK => ?_) AllReadyH.nil
        go_simp
        refine (UrlSame_c b u _ (hSn.ok (.tail _ (.tail _ (.tail _ (.head _))))) (hSn.ok (.tail _ (.head _)))).mono ?_
        rw [HBP.out, same_self]
        rintro e U6 ⟨rfl, hb⟩
        replace hSn := hSn.below hb
        clear hb
        refine hK.out _ _ hSn (fun _ => ?_)
        clear hK K
        (try simp only [List.getElem_toArray, List.getElem_cons_zero, List.getElem_cons_succ, Act.put, List.setIfInBounds_toArray, List.set_cons_zero, List.set_cons_succ])
        refine wpAnyH_take (i := 19) (v := ?_) rfl (by kernel_rfl) (by kernel_rfl) (by kernel_rfl) (fun _ _ _ h => h) (Or.inl ⟨by kernel_rfl, fun W hW => ?_⟩) (by assumption) ?_
        rotate_left
        · go_simp
          try with_reducible rfl
        (try simp only [List.getElem_toArray, List.getElem_cons_zero, List.getElem_cons_succ, Act.put, List.setIfInBounds_toArray, List.set_cons_zero, List.set_cons_succ])
        refine wpAnyH_take (i := 20) (v := ?_) rfl (by kernel_rfl) (by kernel_rfl) (by kernel_rfl) (fun _ _ _ h => h) (Or.inl ⟨by kernel_rfl, fun W hW => ?_⟩) (by assumption) ?_
        rotate_left
        · go_simp
          try with_reducible rfl
        (try simp only [List.getElem_toArray, List.getElem_cons_zero, List.getElem_cons_succ, Act.put, List.setIfInBounds_toArray, List.set_cons_zero, List.set_cons_succ])
        refine wpAnyH_take (i := 21) (v := ?_) rfl (by kernel_rfl) (by kernel_rfl) (by kernel_rfl) (fun _ _ _ h => h) (Or.inl ⟨by kernel_rfl, fun W hW => ?_⟩) (by assumption) ?_
        rotate_left
        · go_simp
          try with_reducible rfl
        (try simp only [List.getElem_toArray, List.getElem_cons_zero, List.getElem_cons_succ, Act.put, List.setIfInBounds_toArray, List.set_cons_zero, List.set_cons_succ])
        refine wpAnyH_take (i := 22) (v := ?_) rfl (by kernel_rfl) (by kernel_rfl) (by kernel_rfl) (fun _ _ _ h => h) (Or.inl ⟨by kernel_rfl, fun W hW => ?_⟩) (by assumption) ?_
        rotate_left
        · go_simp
          try with_reducible rfl
        (try simp only [List.getElem_toArray, List.getElem_cons_zero, List.getElem_cons_succ, Act.put, List.setIfInBounds_toArray, List.set_cons_zero, List.set_cons_succ])
        refine wpAnyH_take (i := 23) (v := ?_) rfl (by kernel_rfl) (by kernel_rfl) (by kernel_rfl) (fun _ _ _ h => h) (Or.inl ⟨by kernel_rfl, fun W hW => ?_⟩) (by assumption) ?_
        rotate_left
        · go_simp
          try with_reducible rfl
        (try simp only [List.getElem_toArray, List.getElem_cons_zero, List.getElem_cons_succ, Act.put, List.setIfInBounds_toArray, List.set_cons_zero, List.set_cons_succ])
        refine wpAnyH_take (i := 24) (v := ?_) rfl (by kernel_rfl) (by kernel_rfl) (by kernel_rfl) (fun _ _ _ h => h) (Or.inl ⟨by kernel_rfl, fun W hW => ?_⟩) (by assumption) ?_
        rotate_left
        · go_simp
          try with_reducible rfl
        (try simp only [List.getElem_toArray, List.getElem_cons_zero, List.getElem_cons_succ, Act.put, List.setIfInBounds_toArray, List.set_cons_zero, List.set_cons_succ])
        refine wpAnyH_take (i := 25) (v := ?_) rfl (by kernel_rfl) (by kernel_rfl) (by kernel_rfl) (fun _ _ _ h => h) (Or.inl ⟨by kernel_rfl, fun W hW => ?_⟩) (by assumption) ?_
        rotate_left
        · go_simp
          try with_reducible rfl
        (try simp only [List.getElem_toArray, List.getElem_cons_zero, List.getElem_cons_succ, Act.put, List.setIfInBounds_toArray, List.set_cons_zero, List.set_cons_succ])
        refine wpAnyH_take (i := 26) (v := ?_) rfl (by kernel_rfl) (by kernel_rfl) (by kernel_rfl) (fun _ _ _ h => h) (Or.inl ⟨by kernel_rfl, fun W hW => ?_⟩) (by assumption) ?_
        rotate_left
        · refine yield_row 27 (.tmp 12) ?_ kc ?_ (hW.hp (.tail _ (.tail _ (.tail _ (.tail _ (.head _)))))) Tryz.underlying27 rfl (by kernel_rfl)
          · rfl
          · rfl
        (try simp only [List.getElem_toArray, List.getElem_cons_zero, List.getElem_cons_succ, Act.put, List.setIfInBounds_toArray, List.set_cons_zero, List.set_cons_succ])
        refine wpAnyH_take (i := 28) (v := ?_) rfl (by kernel_rfl) (by kernel_rfl) (by kernel_rfl) (fun _ _ _ h => h) (Or.inl ⟨by kernel_rfl, fun W hW => ?_⟩) (by assumption) ?_
        rotate_left
        · refine yield_row 27 (.tmp 3) ?_ bu ?_ (hW.hp (.tail _ (.head _))) Tryz.underlying27 rfl (by kernel_rfl)
          · rfl
          · rfl
        (try simp only [List.getElem_toArray, List.getElem_cons_zero, List.getElem_cons_succ, Act.put, List.setIfInBounds_toArray, List.set_cons_zero, List.set_cons_succ])
        refine wpAnyH_ready (rs := [27]) (by kernel_rfl) (by simp) ?_
        refine AllReadyH.cons rfl (fun K hK => ?_) AllReadyH.nil
        go_simp
        refine (Bare_c c _ (hSn.ok (.tail _ (.tail _ (.tail _ (.tail _ (.head _))))))).mono ?_
        rintro e U7 ⟨c1, rfl, p1, o1, -, hb⟩
        replace hSn := hSn.below hb
        clear hb
        have PC1 := Lib.hid p1
        have OC1 := Lib.hid o1
        clear p1 o1
        refine hK.out _ _ hSn (fun _ => ?_)
        clear hK K
        (try simp only [List.getElem_toArray, List.getElem_cons_zero, List.getElem_cons_succ, Act.put, List.setIfInBounds_toArray, List.set_cons_zero, List.set_cons_succ])
        refine wpAnyH_ready (rs := [29]) (by kernel_rfl) (by simp) ?_
        refine AllReadyH.cons rfl (fun K hK => ?_) AllReadyH.nil
        go_simp
        refine (Bare_c u _ (hSn.ok (.tail _ (.head _)))).mono ?_
        rintro e U8 ⟨u1, rfl, p1, o1, -, hb⟩
        replace hSn := hSn.below hb
        replace OC1 := Lib.hid (OC1.out.below hb)
        clear hb
        have PU1 := Lib.hid p1
        have OU1 := Lib.hid o1
        clear p1 o1
        refine hK.out _ _ hSn (fun _ => ?_)
        clear hK K
        (try simp only [List.getElem_toArray, List.getElem_cons_zero, List.getElem_cons_succ, Act.put, List.setIfInBounds_toArray, List.set_cons_zero, List.set_cons_succ])
        refine wpAnyH_ready (rs := [30]) (by kernel_rfl) (by simp) ?_
        refine AllReadyH.cons rfl (fun K hK => ?_) AllReadyH.nil
        go_simp
        refine (UrlSame_c c1 u1 _ OC1.out OU1.out).mono ?_
        rw [PC1.out, PU1.out, HCP.out, show PM.bare { PM.bare u.pm with frag := cur.pm.frag, hasFrag := cur.pm.hasFrag } = PM.bare u.pm from rfl, same_self]
        rintro e U9 ⟨rfl, hb⟩
        replace hSn := hSn.below hb
        clear hb
        refine hK.out _ _ hSn (fun _ => ?_)
        clear hK K
        (try simp only [List.getElem_toArray, List.getElem_cons_zero, List.getElem_cons_succ, Act.put, List.setIfInBounds_toArray, List.set_cons_zero, List.set_cons_succ])
        refine wpAnyH_take (i := 31) (v := ?_) rfl (by kernel_rfl) (by kernel_rfl) (by kernel_rfl) (fun _ _ _ h => h) (Or.inl ⟨by kernel_rfl, fun W hW => ?_⟩) (by assumption) ?_
        rotate_left
        · go_simp
          try with_reducible rfl
        (try simp only [List.getElem_toArray, List.getElem_cons_zero, List.getElem_cons_succ, Act.put, List.setIfInBounds_toArray, List.set_cons_zero, List.set_cons_succ])
        refine wpAnyH_take (i := 32) (v := ?_) rfl (by kernel_rfl) (by kernel_rfl) (by kernel_rfl) (fun _ _ _ h => h) (Or.inl ⟨by kernel_rfl, fun W hW => ?_⟩) (by assumption) ?_
        rotate_left
        · go_simp
          try with_reducible rfl
        (try simp only [List.getElem_toArray, List.getElem_cons_zero, List.getElem_cons_succ, Act.put, List.setIfInBounds_toArray, List.set_cons_zero, List.set_cons_succ])
        refine wpAnyH_take (i := 33) (v := ?_) rfl (by kernel_rfl) (by kernel_rfl) (by kernel_rfl) (fun _ _ _ h => h) (Or.inl ⟨by kernel_rfl, fun W hW => ?_⟩) (by assumption) ?_
        rotate_left
        · go_simp
          try with_reducible rfl
        (try simp only [List.getElem_toArray, List.getElem_cons_zero, List.getElem_cons_succ, Act.put, List.setIfInBounds_toArray, List.set_cons_zero, List.set_cons_succ])
        refine wpAnyH_take (i := 34) (v := ?_) rfl (by kernel_rfl) (by kernel_rfl) (by kernel_rfl) (fun _ _ _ h => h) (Or.inl ⟨by kernel_rfl, fun W hW => ?_⟩) (by assumption) ?_
        rotate_left
        · have u20 : W.cell? ⟨bu, 20, none⟩ = some (.bool true) := by rw [Lib.cell_of_heap (hW.hp (.tail _ (.head _))), show UV.cells u = UV.cells { u with hf := true } from by rw [← HUF.out]]; rfl
          have c20 : W.cell? ⟨w.heap.size, 20, none⟩ = some (.bool cur.hf) := by rw [Lib.cell_of_heap (hW.hp (.head _))]; rfl
          have c18 : W.cell? ⟨w.heap.size, 18, none⟩ = some (.string (mkS cur.fr)) := by rw [Lib.cell_of_heap (hW.hp (.head _))]; rfl
          have d20 : W.cell? ⟨kc, 20, none⟩ = some (.bool cur.hf) := by rw [Lib.cell_of_heap (hW.hp (.tail _ (.tail _ (.tail _ (.tail _ (.head _)))))), ← HCH.out]; rfl
          have d18 : W.cell? ⟨kc, 18, none⟩ = some (.string (mkS cur.fr)) := by rw [Lib.cell_of_heap (hW.hp (.tail _ (.tail _ (.tail _ (.tail _ (.head _)))))), ← HCF.out]; rfl
          go_simp
          try with_reducible rfl
        (try simp only [List.getElem_toArray, List.getElem_cons_zero, List.getElem_cons_succ, Act.put, List.setIfInBounds_toArray, List.set_cons_zero, List.set_cons_succ])
        refine wpAnyH_take (i := 35) (v := ?_) rfl (by kernel_rfl) (by kernel_rfl) (by kernel_rfl) (fun _ _ _ h => h) (Or.inl ⟨by kernel_rfl, fun W hW => ?_⟩) (by assumption) ?_
        rotate_left
        · go_simp
          try with_reducible rfl
        (try simp only [List.getElem_toArray, List.getElem_cons_zero, List.getElem_cons_succ, Act.put, List.setIfInBounds_toArray, List.set_cons_zero, List.set_cons_succ])
        refine wpAnyH_take (i := 36) (v := ?_) rfl (by kernel_rfl) (by kernel_rfl) (by kernel_rfl) (fun _ _ _ h => h) (Or.inl ⟨by kernel_rfl, fun W hW => ?_⟩) (by assumption) ?_
        rotate_left
        · have u20 : W.cell? ⟨bu, 20, none⟩ = some (.bool true) := by rw [Lib.cell_of_heap (hW.hp (.tail _ (.head _))), show UV.cells u = UV.cells { u with hf := true } from by rw [← HUF.out]]; rfl
          have c20 : W.cell? ⟨w.heap.size, 20, none⟩ = some (.bool cur.hf) := by rw [Lib.cell_of_heap (hW.hp (.head _))]; rfl
          have c18 : W.cell? ⟨w.heap.size, 18, none⟩ = some (.string (mkS cur.fr)) := by rw [Lib.cell_of_heap (hW.hp (.head _))]; rfl
          have d20 : W.cell? ⟨kc, 20, none⟩ = some (.bool cur.hf) := by rw [Lib.cell_of_heap (hW.hp (.tail _ (.tail _ (.tail _ (.tail _ (.head _)))))), ← HCH.out]; rfl
          have d18 : W.cell? ⟨kc, 18, none⟩ = some (.string (mkS cur.fr)) := by rw [Lib.cell_of_heap (hW.hp (.tail _ (.tail _ (.tail _ (.tail _ (.head _)))))), ← HCF.out]; rfl
          go_simp
          try with_reducible rfl
        (try simp only [List.getElem_toArray, List.getElem_cons_zero, List.getElem_cons_succ, Act.put, List.setIfInBounds_toArray, List.set_cons_zero, List.set_cons_succ])
        refine wpAnyH_take (i := 37) (v := ?_) rfl (by kernel_rfl) (by kernel_rfl) (by kernel_rfl) (fun _ _ _ h => h) (Or.inl ⟨by kernel_rfl, fun W hW => ?_⟩) (by assumption) ?_
        rotate_left
        · go_simp
          try with_reducible rfl
        (try simp only [List.getElem_toArray, List.getElem_cons_zero, List.getElem_cons_succ, Act.put, List.setIfInBounds_toArray, List.set_cons_zero, List.set_cons_succ])
        refine wpAnyH_take (i := 38) (v := ?_) rfl (by kernel_rfl) (by kernel_rfl) (by kernel_rfl) (fun _ _ _ h => h) (Or.inl ⟨by kernel_rfl, fun W hW => ?_⟩) (by assumption) ?_
        rotate_left
        · go_simp
          try with_reducible rfl
        (try simp only [List.getElem_toArray, List.getElem_cons_zero, List.getElem_cons_succ, Act.put, List.setIfInBounds_toArray, List.set_cons_zero, List.set_cons_succ])
        refine wpAnyH_take (i := 39) (v := ?_) rfl (by kernel_rfl) (by kernel_rfl) (by kernel_rfl) (fun _ _ _ h => h) (Or.inl ⟨by kernel_rfl, fun W hW => ?_⟩) (by assumption) ?_
        rotate_left
        · go_simp
          try with_reducible rfl
        (try simp only [List.getElem_toArray, List.getElem_cons_zero, List.getElem_cons_succ, Act.put, List.setIfInBounds_toArray, List.set_cons_zero, List.set_cons_succ])
        refine wpAnyH_take (i := 40) (v := ?_) rfl (by kernel_rfl) (by kernel_rfl) (by kernel_rfl) (fun _ _ _ h => h) (Or.inl ⟨by kernel_rfl, fun W hW => ?_⟩) (by assumption) ?_
        rotate_left
        · go_simp
          try with_reducible rfl
        (try simp only [List.getElem_toArray, List.getElem_cons_zero, List.getElem_cons_succ, Act.put, List.setIfInBounds_toArray, List.set_cons_zero, List.set_cons_succ])
        refine wpAnyH_take (i := 41) (v := ?_) rfl (by kernel_rfl) (by kernel_rfl) (by kernel_rfl) (fun _ _ _ h => h) (Or.inl ⟨by kernel_rfl, fun W hW => ?_⟩) (by assumption) ?_
        rotate_left
        · have u20 : W.cell? ⟨bu, 20, none⟩ = some (.bool true) := by rw [Lib.cell_of_heap (hW.hp (.tail _ (.head _))), show UV.cells u = UV.cells { u with hf := true } from by rw [← HUF.out]]; rfl
          have c20 : W.cell? ⟨w.heap.size, 20, none⟩ = some (.bool cur.hf) := by rw [Lib.cell_of_heap (hW.hp (.head _))]; rfl
          have c18 : W.cell? ⟨w.heap.size, 18, none⟩ = some (.string (mkS cur.fr)) := by rw [Lib.cell_of_heap (hW.hp (.head _))]; rfl
          have d20 : W.cell? ⟨kc, 20, none⟩ = some (.bool cur.hf) := by rw [Lib.cell_of_heap (hW.hp (.tail _ (.tail _ (.tail _ (.tail _ (.head _)))))), ← HCH.out]; rfl
          have d18 : W.cell? ⟨kc, 18, none⟩ = some (.string (mkS cur.fr)) := by rw [Lib.cell_of_heap (hW.hp (.tail _ (.tail _ (.tail _ (.tail _ (.head _)))))), ← HCF.out]; rfl
          go_simp
          try with_reducible rfl
        (try simp only [List.getElem_toArray, List.getElem_cons_zero, List.getElem_cons_succ, Act.put, List.setIfInBounds_toArray, List.set_cons_zero, List.set_cons_succ])
        refine wpAnyH_take (i := 42) (v := ?_) rfl (by kernel_rfl) (by kernel_rfl) (by kernel_rfl) (fun _ _ _ h => h) (Or.inl ⟨by kernel_rfl, fun W hW => ?_⟩) (by assumption) ?_
        rotate_left
        · go_simp
          try with_reducible rfl
        (try simp only [List.getElem_toArray, List.getElem_cons_zero, List.getElem_cons_succ, Act.put, List.setIfInBounds_toArray, List.set_cons_zero, List.set_cons_succ])
        refine wpAnyH_take (i := 43) (v := ?_) rfl (by kernel_rfl) (by kernel_rfl) (by kernel_rfl) (fun _ _ _ h => h) (Or.inl ⟨by kernel_rfl, fun W hW => ?_⟩) (by assumption) ?_
        rotate_left
        · have u20 : W.cell? ⟨bu, 20, none⟩ = some (.bool true) := by rw [Lib.cell_of_heap (hW.hp (.tail _ (.head _))), show UV.cells u = UV.cells { u with hf := true } from by rw [← HUF.out]]; rfl
          have c20 : W.cell? ⟨w.heap.size, 20, none⟩ = some (.bool cur.hf) := by rw [Lib.cell_of_heap (hW.hp (.head _))]; rfl
          have c18 : W.cell? ⟨w.heap.size, 18, none⟩ = some (.string (mkS cur.fr)) := by rw [Lib.cell_of_heap (hW.hp (.head _))]; rfl
          have d20 : W.cell? ⟨kc, 20, none⟩ = some (.bool cur.hf) := by rw [Lib.cell_of_heap (hW.hp (.tail _ (.tail _ (.tail _ (.tail _ (.head _)))))), ← HCH.out]; rfl
          have d18 : W.cell? ⟨kc, 18, none⟩ = some (.string (mkS cur.fr)) := by rw [Lib.cell_of_heap (hW.hp (.tail _ (.tail _ (.tail _ (.tail _ (.head _)))))), ← HCF.out]; rfl
          go_simp
          try with_reducible rfl
        (try simp only [List.getElem_toArray, List.getElem_cons_zero, List.getElem_cons_succ, Act.put, List.setIfInBounds_toArray, List.set_cons_zero, List.set_cons_succ])
        refine wpAnyH_take (i := 44) (v := ?_) rfl (by kernel_rfl) (by kernel_rfl) (by kernel_rfl) (fun _ _ _ h => h) (Or.inl ⟨by kernel_rfl, fun W hW => ?_⟩) (by assumption) ?_
        rotate_left
        · go_simp
          try with_reducible rfl
        (try simp only [List.getElem_toArray, List.getElem_cons_zero, List.getElem_cons_succ, Act.put, List.setIfInBounds_toArray, List.set_cons_zero, List.set_cons_succ])
        refine wpAnyH_take (i := 45) (v := ?_) rfl (by kernel_rfl) (by kernel_rfl) (by kernel_rfl) (fun _ _ _ h => h) (Or.inl ⟨by kernel_rfl, fun W hW => ?_⟩) (by assumption) ?_
        rotate_left
        · go_simp
          try with_reducible rfl
        (try simp only [List.getElem_toArray, List.getElem_cons_zero, List.getElem_cons_succ, Act.put, List.setIfInBounds_toArray, List.set_cons_zero, List.set_cons_succ])
        refine wpAnyH_take (i := 46) (v := ?_) rfl (by kernel_rfl) (by kernel_rfl) (by kernel_rfl) (fun _ _ _ h => h) (Or.inl ⟨by kernel_rfl, fun W hW => ?_⟩) (by assumption) ?_
        rotate_left
        · go_simp
          try with_reducible rfl
        (try simp only [List.getElem_toArray, List.getElem_cons_zero, List.getElem_cons_succ, Act.put, List.setIfInBounds_toArray, List.set_cons_zero, List.set_cons_succ])
        refine wpAnyH_done (by kernel_rfl) ?_ _
        refine NoPanic.normal ?_
        go_wp2
        go_ret
        exact ⟨rfl, hSn.be⟩
end Go.Proofs.YtppbkblnjlbnfaaGreatDoor
/-! The row of PlaceSelf. -/
namespace Go.Proofs.YtppbkblnjlbnfaaGreatDoor
open Go.ChangeShapes Go.WideShapes Go.ChangeAt Go.RowKit
open Go.WideMaps Go.WideElems
open Go.ChangeMaps (open_string shut_string)
theorem placeSelf_reads (os : Os) {H : Type} (enc : TypeId × Value → H) : ∃ x, DataW.whole enc Tryz.prog ((laidWorld os).forCall (fun _ _ => 0) ⟨#[], #[.agg #[.string ⟨#[]⟩, .string ⟨#[]⟩, .string ⟨#[]⟩, .int .i64 0, .string ⟨#[]⟩, .int .i64 0, .int .i64 0, .int .i64 0, .int .i64 0, .int .i64 0, .int .i64 0, .int .i64 0, .int .i64 0, .int .i64 0, .int .i64 0, .slice none 0 0, .string ⟨#[]⟩, .string ⟨#[]⟩, .string ⟨#[]⟩, .bool false, .bool false], .agg #[.string ⟨#[]⟩, .string ⟨#[]⟩, .string ⟨#[]⟩, .int .i64 0, .string ⟨#[]⟩, .int .i64 0, .int .i64 0, .int .i64 0, .int .i64 0, .int .i64 0, .int .i64 0, .int .i64 0, .int .i64 0, .int .i64 0, .int .i64 0, .slice none 0 0, .string ⟨#[]⟩, .string ⟨#[]⟩, .string ⟨#[]⟩, .bool false, .bool false]], []⟩).memory Tryz.f12.params.toList Rows.placeSelfSpec.vars false (#[.agg #[.string ⟨#[]⟩, .string ⟨#[]⟩, .string ⟨#[]⟩, .int .i64 0, .string ⟨#[]⟩, .int .i64 0, .int .i64 0, .int .i64 0, .int .i64 0, .int .i64 0, .int .i64 0, .int .i64 0, .int .i64 0, .int .i64 0, .int .i64 0, .slice none 0 0, .string ⟨#[]⟩, .string ⟨#[]⟩, .string ⟨#[]⟩, .bool false, .bool false], .agg #[.string ⟨#[]⟩, .string ⟨#[]⟩, .string ⟨#[]⟩, .int .i64 0, .string ⟨#[]⟩, .int .i64 0, .int .i64 0, .int .i64 0, .int .i64 0, .int .i64 0, .int .i64 0, .int .i64 0, .int .i64 0, .int .i64 0, .int .i64 0, .slice none 0 0, .string ⟨#[]⟩, .string ⟨#[]⟩, .string ⟨#[]⟩, .bool false, .bool false]] : Array Value).toList 8 = some x :=
  Option.isSome_iff_exists.1 (by kernel_rfl)
set_option maxRecDepth 100000 in
theorem placeSelf_lifted (os : Os) (started : os.Started) (H : Type) (enc : TypeId × Value → H) (F : Stop.Interp) :
    ReturnsInHanded {} Tryz.checked os 12 .any ((OpenSpec.ofChange Rows.placeSelfSpec).preRow enc Tryz.prog Tryz.f12 Rows.placeSelfRow.domain false Rows.placeSelfRow.laid) (((OpenSpec.ofChange Rows.placeSelfSpec).at F).post enc Tryz.prog Tryz.f12 false true false false) := by
  obtain ⟨x, hx⟩ := placeSelf_reads os enc
  refine returnsInHanded_of_row (C := Tryz.checked) (s := OpenSpec.ofChange Rows.placeSelfSpec) own started (by kernel_rfl) Tryz.func12
    (witness_row_atRef (enc := enc) (C := Tryz.checked) false (laidWorld os) #[.agg #[.string ⟨#[]⟩, .string ⟨#[]⟩, .string ⟨#[]⟩, .int .i64 0, .string ⟨#[]⟩, .int .i64 0, .int .i64 0, .int .i64 0, .int .i64 0, .int .i64 0, .int .i64 0, .int .i64 0, .int .i64 0, .int .i64 0, .int .i64 0, .slice none 0 0, .string ⟨#[]⟩, .string ⟨#[]⟩, .string ⟨#[]⟩, .bool false, .bool false], .agg #[.string ⟨#[]⟩, .string ⟨#[]⟩, .string ⟨#[]⟩, .int .i64 0, .string ⟨#[]⟩, .int .i64 0, .int .i64 0, .int .i64 0, .int .i64 0, .int .i64 0, .int .i64 0, .int .i64 0, .int .i64 0, .int .i64 0, .int .i64 0, .slice none 0 0, .string ⟨#[]⟩, .string ⟨#[]⟩, .string ⟨#[]⟩, .bool false, .bool false]] rfl (by kernel_rfl) (by kernel_rfl) (by kernel_rfl)
      (OpenSpec.preRow_of_cond 8 hx rfl (fun k hk => by cases hk) (by kernel_rfl) (laid_met os _))) ?_
  intro W base args ds gs before hval0 hW _ _ _ hL hsh _
  have hval : ∀ (j : Nat) t v, Tryz.f12.params[j]? = some t → args[j]? = some v → Value.okWide Tryz.prog W .any base t v := hval0
  have hW' := hW
  obtain ⟨p, q, hA0, hV, rfl, hfz, hnd⟩ := hW
  have hA : DataW.TrodAll enc Tryz.prog W 0 (fun _ => true) true Tryz.f12.params.toList args.toList ds p := hA0
  rw [Tryz.params12] at hA hval
  obtain ⟨v0, v1, d0, d1, p0, p1, rfl, rfl, rfl, h0, h1⟩ := trodAll_two hA
  obtain ⟨rfl, rfl⟩ := trodVars_none hV
  simp only [List.append_nil] at hfz hnd hW'
  have hlt : ∀ x ∈ p0 ++ p1, x.block < W.heap.size := fun x hx => hW'.lt x hx
  have h0k := h0
  obtain ⟨u0, rfl, hr0⟩ := open_url (hval 0 27 v0 rfl rfl) h0
  have h1k := h1
  obtain ⟨u1, rfl, hr1⟩ := open_url (hval 1 27 v1 rfl rfl) h1
  refine (PlaceSelfL_c u0 u1 W hr0 hr1 (gl_of hsh) (tabs_laid hL)).mono fun e W' ⟨he, hb⟩ => ?_
  subst he
  refine ⟨_, rfl, _, _, _, [], p0 ++ p1, [], hW', ?_, ?_, ?_, hb.frame _, fun h => by cases h⟩
  · exact trodAll_mk1 (shut_bool Tryz.underlying4 _)
  · exact trodAll_mk2 (Below.trod laidOut (by kernel_rfl) (of_decide_eq_true (by kernel_rfl)) h0k hb (fun x hx => hlt x (by simp [hx]))) (Below.trod laidOut (by kernel_rfl) (of_decide_eq_true (by kernel_rfl)) h1k hb (fun x hx => hlt x (by simp [hx])))
  · rfl
theorem placeSelf_k0 : Rows.placeSelfRow.wf (OpenSpec.ofChange (OpenSpec.ofChange Rows.placeSelfSpec).bare) = true := by kernel_rfl
theorem placeSelf_k3 : Tryz.f12.params.all (PP.readableRec ·) = true := by kernel_rfl
theorem placeSelf_k4 : namedTie PP Rows.placeSelfRow.named (OpenSpec.ofChange Rows.placeSelfSpec).bare.vars = true := by kernel_rfl
theorem placeSelf_k5 : (Rows.placeSelfRow.stops == []) = true := by kernel_rfl
theorem placeSelf_k7 : (Rows.placeSelfRow.knobs == []) = true := by kernel_rfl
theorem placeSelf_k9 : (Rows.placeSelfRow.inPlace == PP.inPlace 12) = true := by kernel_rfl
theorem placeSelf_k10 : (Rows.placeSelfRow.unfollowed == PP.unfollowed 12) = true := by kernel_rfl
theorem placeSelf_k11 : (Rows.placeSelfRow.recurses == PP.recurses 12) = true := by kernel_rfl
theorem placeSelf_k12 : (Rows.placeSelfRow.named == PP.varsNamed 12) = true := by kernel_rfl
theorem placeSelf_k13 : (Rows.placeSelfRow.maps == (Tryz.f12.params.toList ++ (OpenSpec.ofChange Rows.placeSelfSpec).bare.plain.varTypes PP).any (PP.mapsRec ·)) = true := by kernel_rfl
theorem placeSelf_k14 : (Rows.placeSelfRow.ifaces == (Tryz.f12.params.toList ++ (OpenSpec.ofChange Rows.placeSelfSpec).bare.plain.varTypes PP).any (PP.ifacesRec ·)) = true := by kernel_rfl
theorem placeSelf_k15 : (Rows.placeSelfRow.mapsOut == PP.mapsAmong Tryz.f12.resultTypes.toList) = true := by kernel_rfl
theorem placeSelf_k16 : (Rows.placeSelfRow.loops == (Tryz.f12.params.toList ++ (OpenSpec.ofChange Rows.placeSelfSpec).bare.plain.varTypes PP).any (PP.loopsFrom ·)) = true := by kernel_rfl
theorem placeSelf_k17 : (Rows.placeSelfRow.wideKeys == (Tryz.f12.params.toList ++ (OpenSpec.ofChange Rows.placeSelfSpec).bare.plain.varTypes PP ++ Tryz.f12.resultTypes.toList).any (PP.wideKeysFrom ·)) = true := by kernel_rfl
theorem placeSelf_k18 : (OpenSpec.ofChange Rows.placeSelfSpec).bare.vars.all (PP.varReadable ·) = true := by kernel_rfl
theorem placeSelf_k19 : Tryz.f12.resultTypes.all (fun t => PP.readableRec t && decide (t < PP.types.size)) = true := by kernel_rfl
theorem placeSelf_k20 : (Rows.placeSelfRow.ifacesOut == Tryz.f12.resultTypes.toList.any (PP.ifacesRec ·)) = true := by kernel_rfl
theorem placeSelf_k21 : (Rows.placeSelfRow.loopsOut == Tryz.f12.resultTypes.toList.any (PP.loopsFrom ·)) = true := by kernel_rfl
theorem placeSelf_k23 : Rows.placeSelfRow.shortTexts.isNone = true := by kernel_rfl
theorem placeSelf_k28 : (Rows.placeSelfRow.kinds == (if Rows.placeSelfRow.domain.isEmpty then [] else Tryz.f12.params.toList.map fun t => match PP.underlying t with | some (.int k) => some k | _ => none)) = true := by kernel_rfl
theorem placeSelf_k29 : (Rows.placeSelfRow.pinned == Rows.placeSelfRow.pinnedBy) = true := by kernel_rfl
theorem placeSelf_k30 : (Rows.placeSelfRow.veiled == (Tryz.f12.params.toList ++ (OpenSpec.ofChange Rows.placeSelfSpec).bare.plain.varTypes PP ++ Tryz.f12.resultTypes.toList).any (PP.veiledRec ·)) = true := by kernel_rfl
theorem placeSelf_k31 : Rows.placeSelfRow.veiledFits PP Tryz.f12.params.toList (Tryz.f12.params.toList ++ (OpenSpec.ofChange Rows.placeSelfSpec).bare.plain.varTypes PP ++ Tryz.f12.resultTypes.toList) = true := by kernel_rfl
set_option maxRecDepth 100000 in
theorem placeSelf_closed : joinedFacts PP 12 Tryz.f12 (OpenSpec.ofChange Rows.placeSelfSpec).bare Rows.placeSelfRow = true := and2 (and2 (and2 (and2 (and2 (and2 (and2 (and2 (and2 (and2 (and2 (and2 (and2 (and2 (and2 (and2 (and2 (and2 (and2 (and2 (and2 (and2 (and2 (and2 (and2 (and2 (and2 (and2 (and2 (and2 (and2 (placeSelf_k0) j_laidOut) j_rowed) placeSelf_k3) placeSelf_k4) placeSelf_k5) j_stops) placeSelf_k7) j_knobs) placeSelf_k9) placeSelf_k10) placeSelf_k11) placeSelf_k12) placeSelf_k13) placeSelf_k14) placeSelf_k15) placeSelf_k16) placeSelf_k17) placeSelf_k18) placeSelf_k19) placeSelf_k20) placeSelf_k21) j_plain) placeSelf_k23) j_heard) j_enter) j_lift) j_make) placeSelf_k28) placeSelf_k29) placeSelf_k30) placeSelf_k31
theorem placeSelf_named : Tryz.pinned.checked.prog.funcNamed Rows.placeSelfRow.func = some 12 := by kernel_rfl
theorem placeSelf_text : Rows.placeSelfRow.wfByText (OpenSpec.ofChange Rows.placeSelfSpec) = true := by kernel_rfl
theorem placeSelf_goes : false = Rows.placeSelfRow.goesBy Tryz.pinned.checked.prog := by kernel_rfl
theorem placeSelf_said : Rows.PlaceSelfSaid :=
  OpenClaim.holds_of_cond 12 Tryz.f12 rfl rfl rfl rfl rfl rfl rfl ⟨rfl, rfl, rfl, rfl, rfl⟩ rfl rfl rfl rfl rfl placeSelf_named Tryz.func12 placeSelf_closed
    (of_decide_eq_true (by kernel_rfl)) (by unfold Func.isWrapper; first | (rw [if_pos (by decide +kernel)]; kernel_rfl) | (rw [if_neg (by decide +kernel)]; exact ⟨rfl, rfl⟩))
    (fun os started H enc _ F => by rw [OpenClaim.pre_eq_preRow]; exact placeSelf_lifted os started H enc F)
theorem placeSelf_plain (f : FuncId) (fn : Func) (hf : Tryz.pinned.checked.prog.funcNamed "postmark/postmarklaw18.PlaceSelf" = some f) (hfn : Tryz.pinned.checked.prog.funcs[f]? = some fn) :
    true = Tryz.pinned.checked.prog.looks [] ∧ ∀ (j : Nat) t, fn.params[j]? = some t → Tryz.pinned.checked.prog.wantsStandIn t = false := by
  obtain rfl : f = 12 := Option.some.inj ((show Tryz.prog.funcNamed "postmark/postmarklaw18.PlaceSelf" = some 12 by kernel_rfl).symm.trans hf) |>.symm
  obtain rfl : fn = Tryz.f12 := (Option.some.inj (Tryz.func12.symm.trans hfn)).symm
  refine ⟨by kernel_rfl, fun j t ht => ?_⟩
  rw [Tryz.params12] at ht
  have hm := Array.mem_of_getElem? ht
  simp only [Array.mem_def, List.mem_cons, List.not_mem_nil, or_false] at hm
  rcases hm with rfl | rfl
  · exact (show Tryz.prog.wantsStandIn 27 = false by kernel_rfl)
  · exact (show Tryz.prog.wantsStandIn 27 = false by kernel_rfl)
theorem placeSelf_holds : Rows.PlaceSelfCardSaid :=
  Claim7.holds_tied_plain_at .later [] _ _ _ _ placeSelf_said (fun _ h => by cases h) placeSelf_text (fun _ h => by cases h) placeSelf_row_tie rfl ⟨rfl, rfl⟩ j_main rfl placeSelf_plain placeSelf_goes
#print axioms placeSelf_holds
end Go.Proofs.YtppbkblnjlbnfaaGreatDoor
