/-
JoinMay: whatever comes in, the law's call returns true, and the arguments read behind the call as they did before; no condition on them. The row lists the two tables of unicode/utf8 (first, acceptRanges); the card ties them.
-/
import Derived.Test.YtphigjogeejdjaaGreatDoorTz
import Derived.Test.YtphigjogeejdjaaGreatDoorJq
set_option linter.unusedVariables false
set_option linter.unusedSimpArgs false
/-! The walk of JoinMay. -/
namespace Go.Proofs.YtphigjogeejdjaaGreatDoor
open Go.RowKit
theorem parse_no {o : Option PM.Url} {e : Ending} {w' : World} (h : ParseR o e w') (ho : o = none) : ∃ v : UV, e = .returned (.tuple #[.agg v.cells, .bool false]) ∧ v.pm = uz.pm ∧ v.Ok w' := by
  subst ho
  obtain ⟨v, h1, h2, h3⟩ := h
  have h2' : v.pm = uz.pm := h2
  have hx : v.xs = v.pm.path := rfl
  exact ⟨v, h1, h2', h3 (by rw [hx, h2']; decide)⟩
theorem res_path {b u : PM.Url} {s : List UInt8} (h : PM.resolve b s = some u) (hs : s.length ≤ 3000) (hb : b.path.length ≤ 900) (hx : ∀ x ∈ b.path, x.length ≤ 1000000) : u.path.length ≤ 10000 := by
  rw [PM.resolve_eq] at h
  have hcl := clean_len s
  split at h
  · cases h
  · split at h
    · have := (parse_short h).pn
      omega
    · split at h
      · cases h
      · rename_i h0
        split at h
        · have h1 := (parse_short h).pn
          have h2 : b.scheme.length ≤ 5 := by rcases PM.web_cases h0 with e | e <;> rw [e] <;> decide
          simp at h1
          omega
        · simp at h
          subst h
          have ht := (tail_len3 (PM.clean s)).1
          show (PM.wayP b.path (PM.tail (PM.clean s)).1).length ≤ 10000
          unfold PM.wayP
          split
          · omega
          · split
            · have := (parse_sizes (PM.tail (PM.clean s)).1 (by omega)).1
              omega
            · exact (merge_sizes b.path (PM.tail (PM.clean s)).1 (by omega) hb hx).1
theorem same_self (u : PM.Url) : PM.urlSame u u = true := (PM.urlSame_iff u u).2 rfl
theorem few_path {u : PM.Url} (h : PM.few u = true) : u.path.length ≤ 900 ∧ ∀ x ∈ u.path, x.length ≤ 1000000 := ⟨Nat.le_trans (PM.few_all h).1 (by decide), fun x hx => Nat.le_trans ((PM.few_all h).2.1 x hx) (by decide)⟩
set_option maxRecDepth 100000 in
set_option maxHeartbeats 16000000 in
theorem JoinMay_c (b c : UV) (s : List UInt8) (w : World) (hrb : RdW w b.a b.pn b.xs) (hrc : RdW w c.a c.pn c.xs) (hg : Gl w) (hT : Lib.Utf8Tabs 1 2 w) : Calls Tryz.prog 5 #[.agg b.cells, .agg c.cells, .string (mkS s)] w fun e w' => e = .returned (.bool true) ∧ Below w.heap.size w w' := by
  have HG := Lib.hid hg
  have HTB := Lib.hid hT
  have Rb := Lib.hid hrb
  have Rc := Lib.hid hrc
  clear hg hT hrb hrc
  have HB : Hid (Below w.heap.size w ((w.alloc (.cells b.cells 27)).alloc (.cells c.cells 27))) := Lib.hid (b_alloc (b_alloc (Below.refl _ _) _) _)
  have Hb : Hid (((w.alloc (.cells b.cells 27)).alloc (.cells c.cells 27)).heap[w.heap.size]? = some (.cells b.cells 27 (0, 0))) := Lib.hid (heap_b (b_alloc (Below.refl _ _) _) (by have h := Go.heap_alloc_new w (.cells b.cells 27); simpa using h))
  have Hc : Hid (((w.alloc (.cells b.cells 27)).alloc (.cells c.cells 27)).heap[w.heap.size + 1]? = some (.cells c.cells 27 (0, 0))) := Lib.hid ((by have h := Go.heap_alloc_new (w.alloc (.cells b.cells 27)) (.cells c.cells 27); simpa using h))
  go_enter Tryz.func5, Tryz.ntmps5
  go_upto_region 1 with fail
  generalize (w.alloc (.cells b.cells 27)).alloc (.cells c.cells 27) = V0 at HB Hb Hc ⊢
  generalize hbc : w.heap.size + 1 = bc at Hc ⊢
  have hlw_bc : w.heap.size ≤ bc := by omega
  have hne_c_b : w.heap.size < bc := by omega
  clear hbc
  go_wp2_with fail
  refine (awake11_c _ (HG.out.below HB.out) (tabs_below HTB.out HB.out)).mono ?_
  rintro e V1 ⟨rfl, hb⟩
  replace HB := Lib.hid (b_then HB.out hb)
  replace Hc := Lib.hid (obj_b hb Hc.out)
  replace Hb := Lib.hid (obj_b hb Hb.out)
  clear hb
  go_wp2_with (first | go_skip | (refine wpList_load_g 27 _ rfl (by kernel_rfl) w.heap.size rfl Hb.out Tryz.underlying27 rfl (by kernel_rfl) ?_))
  refine (Few_c b _ (Rb.out.below HB.out)).mono ?_
  rintro e V2 ⟨rfl, hb⟩
  replace HB := Lib.hid (b_then HB.out hb)
  replace Hc := Lib.hid (obj_b hb Hc.out)
  replace Hb := Lib.hid (obj_b hb Hb.out)
  clear hb
  go_wp2_with (first | go_skip | (refine wpList_load_g 27 _ rfl (by kernel_rfl) bc rfl Hc.out Tryz.underlying27 rfl (by kernel_rfl) ?_))
  refine (Few_c c _ (Rc.out.below HB.out)).mono ?_
  rintro e V3 ⟨rfl, hb⟩
  replace HB := Lib.hid (b_then HB.out hb)
  replace Hc := Lib.hid (obj_b hb Hc.out)
  replace Hb := Lib.hid (obj_b hb Hb.out)
  clear hb
  cases hfb : PM.few b.pm
  · go_wp2
    go_ret
    exact ⟨rfl, HB.out⟩
  have Ob := Lib.hid (few_ok (Rb.out.below HB.out) hfb)
  have Fb := Lib.hid hfb
  clear hfb
  cases hfc : PM.few c.pm
  · go_wp2
    go_ret
    exact ⟨rfl, HB.out⟩
  have Oc := Lib.hid (few_ok (Rc.out.below HB.out) hfc)
  have Fc := Lib.hid hfc
  clear hfc
  by_cases hls : 300 < s.length
  · have hls2 : (300 : Int) < s.length := by omega
    go_wp2
    go_ret
    exact ⟨rfl, HB.out⟩
  have hls2 : ¬ (300 : Int) < s.length := by omega
  have HLs : Hid (s.length ≤ 300) := Lib.hid (by omega)
  clear hls
  obtain ⟨o, ho⟩ : ∃ o, PM.resolve b.pm s = o := ⟨_, rfl⟩
  obtain ⟨m, hm⟩ : ∃ m, PM.urlMay b.pm = m := ⟨_, rfl⟩
  obtain ⟨W, hW⟩ : ∃ W, PM.whole s = W := ⟨_, rfl⟩
  have HO := Lib.hid ho
  have HM := Lib.hid hm
  have HW := Lib.hid hW
  clear ho hm hW
  cases o with
  | none =>
    go_wp2_with (first | go_skip | (refine wpList_load_g 27 _ rfl (by kernel_rfl) w.heap.size rfl Hb.out Tryz.underlying27 rfl (by kernel_rfl) ?_) | (refine wpList_load_g 27 _ rfl (by kernel_rfl) bc rfl Hc.out Tryz.underlying27 rfl (by kernel_rfl) ?_))
    refine (Resolve_c b s _ (Nat.le_trans HLs.out (by decide)) Ob.out (Nat.le_trans (PM.few_all Fb.out).1 (by decide)) (HG.out.below HB.out) (tabs_below HTB.out HB.out)).mono ?_
    rintro e V4 ⟨hp, hb⟩
    obtain ⟨x, rfl, hxp, hxo⟩ := parse_no hp HO.out
    have Px := Lib.hid hxp
    have Ox := Lib.hid hxo
    clear hp hxp hxo
    replace HB := Lib.hid (b_then HB.out hb)
    replace Hc := Lib.hid (obj_b hb Hc.out)
    replace Hb := Lib.hid (obj_b hb Hb.out)
    replace Ob := Lib.hid (Ob.out.below hb)
    replace Oc := Lib.hid (Oc.out.below hb)
    clear hb
    have HN := Lib.hid (Go.heap_alloc_new V4 (.cells zurl 27))
    unfold zurl at HN 
    go_upto_region 7 with (first | (refine wpList_store_row rfl 27 _ _ rfl V4.heap.size x.cells rfl rfl 27 _ HN.out (by kernel_rfl) rfl (agg_one x) ?_))
    obtain ⟨V5, hV⟩ : ∃ V5, V5 = (V4.alloc (.cells #[.string ⟨#[]⟩, .string ⟨#[]⟩, .string ⟨#[]⟩, .int .i64 0, .string ⟨#[]⟩, .int .i64 0, .int .i64 0, .int .i64 0, .int .i64 0, .int .i64 0, .int .i64 0, .int .i64 0, .int .i64 0, .int .i64 0, .int .i64 0, .slice none 0 0, .string ⟨#[]⟩, .string ⟨#[]⟩, .string ⟨#[]⟩, .bool false, .bool false] 27)).setRow V4.heap.size x.cells := ⟨_, rfl⟩
    have hN : V5.heap[V4.heap.size]? = some (.cells x.cells 27 (0, 0)) := by rw [hV]; exact heap_setRow HN.out _
    have hb : Below V4.heap.size V4 V5 := by rw [hV]; exact below_setRow (b_alloc (Below.refl _ _) _) (Nat.le_refl _) _
    rw [← hV]
    clear hV HN 
    have Hx := Lib.hid hN
    clear hN
    have hlt_kx_Hc : bc < V4.heap.size := h_lt Hc.out
    have hlt_kx_Hb : w.heap.size < V4.heap.size := h_lt Hb.out
    have hlw_kx : w.heap.size ≤ V4.heap.size := HB.out.size
    replace HB := Lib.hid (b_then HB.out hb)
    replace Hc := Lib.hid (obj_b hb Hc.out)
    replace Hb := Lib.hid (obj_b hb Hb.out)
    replace Ob := Lib.hid (Ob.out.below hb)
    replace Oc := Lib.hid (Oc.out.below hb)
    replace Ox := Lib.hid (Ox.out.below hb)
    clear hb
    generalize V4.heap.size = kx at Hx hlt_kx_Hc hlt_kx_Hb hlw_kx ⊢
    (try simp only [Act.put])
    have hj := PM.join_none HO.out
    rw [HM.out, HW.out] at hj
    have HJ := Lib.hid hj
    clear hj
    have OZ : ∀ V, uz.Ok V := fun V => ⟨by decide, by decide, by decide, by decide, by decide, by decide, by decide, by decide, by simp [uz], zrd _⟩
    have HOZ := Lib.hid OZ
    clear OZ
    go_wp2_with (first | go_skip | (refine wpList_load_g 27 _ rfl (by kernel_rfl) kx rfl Hx.out Tryz.underlying27 rfl (by kernel_rfl) ?_) | (refine wpList_load_g 27 _ rfl (by kernel_rfl) w.heap.size rfl Hb.out Tryz.underlying27 rfl (by kernel_rfl) ?_))
    refine (UrlSame_c x uz _ Ox.out (HOZ.out _)).mono ?_
    rw [Px.out, same_self]
    rintro e V6 ⟨rfl, hb⟩
    replace HB := Lib.hid (b_then HB.out hb)
    replace Hc := Lib.hid (obj_b hb Hc.out)
    replace Hb := Lib.hid (obj_b hb Hb.out)
    replace Hx := Lib.hid (obj_b hb Hx.out)
    replace Ob := Lib.hid (Ob.out.below hb)
    replace Oc := Lib.hid (Oc.out.below hb)
    replace Ox := Lib.hid (Ox.out.below hb)
    clear hb
    go_wp2_with (first | go_skip | (refine wpList_load_g 27 _ rfl (by kernel_rfl) kx rfl Hx.out Tryz.underlying27 rfl (by kernel_rfl) ?_) | (refine wpList_load_g 27 _ rfl (by kernel_rfl) w.heap.size rfl Hb.out Tryz.underlying27 rfl (by kernel_rfl) ?_))
    refine (urlMay_c b _ Ob.out (HG.out.below HB.out)).mono ?_
    rw [HM.out]
    rintro e V7 ⟨rfl, hb⟩
    replace HB := Lib.hid (b_then HB.out hb)
    replace Hc := Lib.hid (obj_b hb Hc.out)
    replace Hb := Lib.hid (obj_b hb Hb.out)
    replace Hx := Lib.hid (obj_b hb Hx.out)
    replace Ob := Lib.hid (Ob.out.below hb)
    replace Oc := Lib.hid (Oc.out.below hb)
    replace Ox := Lib.hid (Ox.out.below hb)
    clear hb
    cases m
    · go_wp2
      go_ret
      exact ⟨rfl, HB.out⟩
    go_wp2_with fail
    refine (Whole_c s (Nat.le_trans HLs.out (by decide)) _ (HG.out.below HB.out) (tabs_below HTB.out HB.out)).mono ?_
    rw [HW.out]
    rintro e V8 ⟨rfl, hb⟩
    replace HB := Lib.hid (b_then HB.out hb)
    replace Hc := Lib.hid (obj_b hb Hc.out)
    replace Hb := Lib.hid (obj_b hb Hb.out)
    replace Hx := Lib.hid (obj_b hb Hx.out)
    replace Ob := Lib.hid (Ob.out.below hb)
    replace Oc := Lib.hid (Oc.out.below hb)
    replace Ox := Lib.hid (Ox.out.below hb)
    clear hb
    cases W
    rotate_left
    · go_wp2
      go_ret
      exact ⟨rfl, HB.out⟩
    have c0 : V8.cell? ⟨w.heap.size, 0, none⟩ = some (.string (mkS b.sc)) := by rw [Lib.cell_of_heap Hb.out]; rfl
    go_wp2_with fail
    refine (Web_c b.sc _).mono ?_
    rintro e V90 ⟨rfl, rfl⟩
    clear c0
    by_cases hw : PM.web b.sc = 0
    · have hw2 : (PM.web b.sc == 0) = true := by simpa using hw
      clear hw
      go_wp2
      go_ret
      exact ⟨rfl, HB.out⟩
    have hw2 : (PM.web b.sc == 0) = false := by simpa using hw
    have hl1 : (1 : Int) < s.length := by
      rcases HJ.out with h | h | h | h
      · cases h
      · cases h
      · exact absurd h hw
      · omega
    clear hw
    go_wp2
    go_ret
    exact ⟨rfl, HB.out⟩
  | some u =>
    have hj := PM.join_some HO.out rfl
    have HJ := Lib.hid hj
    clear hj
    go_wp2_with (first | go_skip | (refine wpList_load_g 27 _ rfl (by kernel_rfl) w.heap.size rfl Hb.out Tryz.underlying27 rfl (by kernel_rfl) ?_) | (refine wpList_load_g 27 _ rfl (by kernel_rfl) bc rfl Hc.out Tryz.underlying27 rfl (by kernel_rfl) ?_))
    refine (Resolve_c b s _ (Nat.le_trans HLs.out (by decide)) Ob.out (Nat.le_trans (PM.few_all Fb.out).1 (by decide)) (HG.out.below HB.out) (tabs_below HTB.out HB.out)).mono ?_
    rintro e V4 ⟨hp, hb⟩
    obtain ⟨x, rfl, hxp, hxo⟩ := parse_ok hp HO.out (res_path HO.out (Nat.le_trans HLs.out (by decide)) (few_path Fb.out).1 (few_path Fb.out).2)
    have Px := Lib.hid hxp
    have Ox := Lib.hid hxo
    clear hp hxp hxo
    replace HB := Lib.hid (b_then HB.out hb)
    replace Hc := Lib.hid (obj_b hb Hc.out)
    replace Hb := Lib.hid (obj_b hb Hb.out)
    replace Ob := Lib.hid (Ob.out.below hb)
    replace Oc := Lib.hid (Oc.out.below hb)
    clear hb
    have HN := Lib.hid (Go.heap_alloc_new V4 (.cells zurl 27))
    unfold zurl at HN 
    go_upto_region 7 with (first | (refine wpList_store_row rfl 27 _ _ rfl V4.heap.size x.cells rfl rfl 27 _ HN.out (by kernel_rfl) rfl (agg_one x) ?_))
    obtain ⟨V5, hV⟩ : ∃ V5, V5 = (V4.alloc (.cells #[.string ⟨#[]⟩, .string ⟨#[]⟩, .string ⟨#[]⟩, .int .i64 0, .string ⟨#[]⟩, .int .i64 0, .int .i64 0, .int .i64 0, .int .i64 0, .int .i64 0, .int .i64 0, .int .i64 0, .int .i64 0, .int .i64 0, .int .i64 0, .slice none 0 0, .string ⟨#[]⟩, .string ⟨#[]⟩, .string ⟨#[]⟩, .bool false, .bool false] 27)).setRow V4.heap.size x.cells := ⟨_, rfl⟩
    have hN : V5.heap[V4.heap.size]? = some (.cells x.cells 27 (0, 0)) := by rw [hV]; exact heap_setRow HN.out _
    have hb : Below V4.heap.size V4 V5 := by rw [hV]; exact below_setRow (b_alloc (Below.refl _ _) _) (Nat.le_refl _) _
    rw [← hV]
    clear hV HN 
    have Hx := Lib.hid hN
    clear hN
    have hlt_kx_Hc : bc < V4.heap.size := h_lt Hc.out
    have hlt_kx_Hb : w.heap.size < V4.heap.size := h_lt Hb.out
    have hlw_kx : w.heap.size ≤ V4.heap.size := HB.out.size
    replace HB := Lib.hid (b_then HB.out hb)
    replace Hc := Lib.hid (obj_b hb Hc.out)
    replace Hb := Lib.hid (obj_b hb Hb.out)
    replace Ob := Lib.hid (Ob.out.below hb)
    replace Oc := Lib.hid (Oc.out.below hb)
    replace Ox := Lib.hid (Ox.out.below hb)
    clear hb
    generalize V4.heap.size = kx at Hx hlt_kx_Hc hlt_kx_Hb hlw_kx ⊢
    (try simp only [Act.put])
    obtain ⟨o2, ho2⟩ : ∃ o2, PM.resolve c.pm s = o2 := ⟨_, rfl⟩
    have HO2 := Lib.hid ho2
    clear ho2
    obtain ⟨m2, hm2⟩ : ∃ m2, PM.urlMay c.pm = m2 := ⟨_, rfl⟩
    have HM2 := Lib.hid hm2
    clear hm2
    cases W
    · cases o2 with
      | none =>
        go_wp2_with (first | go_skip | (refine wpList_load_g 27 _ rfl (by kernel_rfl) w.heap.size rfl Hb.out Tryz.underlying27 rfl (by kernel_rfl) ?_) | (refine wpList_load_g 27 _ rfl (by kernel_rfl) bc rfl Hc.out Tryz.underlying27 rfl (by kernel_rfl) ?_) | (refine wpList_load_g 27 _ rfl (by kernel_rfl) kx rfl Hx.out Tryz.underlying27 rfl (by kernel_rfl) ?_))
        refine (Resolve_c c s _ (Nat.le_trans HLs.out (by decide)) Oc.out (Nat.le_trans (PM.few_all Fc.out).1 (by decide)) (HG.out.below HB.out) (tabs_below HTB.out HB.out)).mono ?_
        rintro e V6 ⟨hp, hb⟩
        obtain ⟨y, rfl, hxp, hxo⟩ := parse_no hp HO2.out
        have Py := Lib.hid hxp
        have Oy := Lib.hid hxo
        clear hp hxp hxo
        replace HB := Lib.hid (b_then HB.out hb)
        replace Hc := Lib.hid (obj_b hb Hc.out)
        replace Hb := Lib.hid (obj_b hb Hb.out)
        replace Hx := Lib.hid (obj_b hb Hx.out)
        replace Ob := Lib.hid (Ob.out.below hb)
        replace Oc := Lib.hid (Oc.out.below hb)
        replace Ox := Lib.hid (Ox.out.below hb)
        clear hb
        have HN := Lib.hid (Go.heap_alloc_new V6 (.cells zurl 27))
        unfold zurl at HN 
        go_upto_region 10 with (first | (refine wpList_store_row rfl 27 _ _ rfl V6.heap.size y.cells rfl rfl 27 _ HN.out (by kernel_rfl) rfl (agg_one y) ?_))
        obtain ⟨V7, hV⟩ : ∃ V7, V7 = (V6.alloc (.cells #[.string ⟨#[]⟩, .string ⟨#[]⟩, .string ⟨#[]⟩, .int .i64 0, .string ⟨#[]⟩, .int .i64 0, .int .i64 0, .int .i64 0, .int .i64 0, .int .i64 0, .int .i64 0, .int .i64 0, .int .i64 0, .int .i64 0, .int .i64 0, .slice none 0 0, .string ⟨#[]⟩, .string ⟨#[]⟩, .string ⟨#[]⟩, .bool false, .bool false] 27)).setRow V6.heap.size y.cells := ⟨_, rfl⟩
        have hN : V7.heap[V6.heap.size]? = some (.cells y.cells 27 (0, 0)) := by rw [hV]; exact heap_setRow HN.out _
        have hb : Below V6.heap.size V6 V7 := by rw [hV]; exact below_setRow (b_alloc (Below.refl _ _) _) (Nat.le_refl _) _
        rw [← hV]
        clear hV HN 
        have Hy := Lib.hid hN
        clear hN
        have hlt_ky_Hc : bc < V6.heap.size := h_lt Hc.out
        have hlt_ky_Hb : w.heap.size < V6.heap.size := h_lt Hb.out
        have hlt_ky_Hx : kx < V6.heap.size := h_lt Hx.out
        have hlw_ky : w.heap.size ≤ V6.heap.size := HB.out.size
        replace HB := Lib.hid (b_then HB.out hb)
        replace Hc := Lib.hid (obj_b hb Hc.out)
        replace Hb := Lib.hid (obj_b hb Hb.out)
        replace Hx := Lib.hid (obj_b hb Hx.out)
        replace Ob := Lib.hid (Ob.out.below hb)
        replace Oc := Lib.hid (Oc.out.below hb)
        replace Ox := Lib.hid (Ox.out.below hb)
        replace Oy := Lib.hid (Oy.out.below hb)
        clear hb
        generalize V6.heap.size = ky at Hy hlt_ky_Hc hlt_ky_Hb hlt_ky_Hx hlw_ky ⊢
        (try simp only [Act.put])
        go_wp2_with fail
        refine (UrlParse_c s (Nat.le_trans HLs.out (by decide)) _ (HG.out.below HB.out) (tabs_below HTB.out HB.out)).mono ?_
        rintro e V8 ⟨hp, hb⟩
        obtain ⟨p, rfl, hxp, hxo⟩ := parse_no hp (HJ.out.2.2.2 HW.out).2
        have Pp := Lib.hid hxp
        have Op := Lib.hid hxo
        clear hp hxp hxo
        replace HB := Lib.hid (b_then HB.out hb)
        replace Hc := Lib.hid (obj_b hb Hc.out)
        replace Hb := Lib.hid (obj_b hb Hb.out)
        replace Hx := Lib.hid (obj_b hb Hx.out)
        replace Hy := Lib.hid (obj_b hb Hy.out)
        replace Ob := Lib.hid (Ob.out.below hb)
        replace Oc := Lib.hid (Oc.out.below hb)
        replace Ox := Lib.hid (Ox.out.below hb)
        replace Oy := Lib.hid (Oy.out.below hb)
        clear hb
        have HN := Lib.hid (Go.heap_alloc_new V8 (.cells zurl 27))
        unfold zurl at HN 
        go_upto_region 11 with (first | (refine wpList_store_row rfl 27 _ _ rfl V8.heap.size p.cells rfl rfl 27 _ HN.out (by kernel_rfl) rfl (agg_one p) ?_))
        obtain ⟨V9, hV⟩ : ∃ V9, V9 = (V8.alloc (.cells #[.string ⟨#[]⟩, .string ⟨#[]⟩, .string ⟨#[]⟩, .int .i64 0, .string ⟨#[]⟩, .int .i64 0, .int .i64 0, .int .i64 0, .int .i64 0, .int .i64 0, .int .i64 0, .int .i64 0, .int .i64 0, .int .i64 0, .int .i64 0, .slice none 0 0, .string ⟨#[]⟩, .string ⟨#[]⟩, .string ⟨#[]⟩, .bool false, .bool false] 27)).setRow V8.heap.size p.cells := ⟨_, rfl⟩
        have hN : V9.heap[V8.heap.size]? = some (.cells p.cells 27 (0, 0)) := by rw [hV]; exact heap_setRow HN.out _
        have hb : Below V8.heap.size V8 V9 := by rw [hV]; exact below_setRow (b_alloc (Below.refl _ _) _) (Nat.le_refl _) _
        rw [← hV]
        clear hV HN 
        have Hp := Lib.hid hN
        clear hN
        have hlt_bp_Hc : bc < V8.heap.size := h_lt Hc.out
        have hlt_bp_Hb : w.heap.size < V8.heap.size := h_lt Hb.out
        have hlt_bp_Hx : kx < V8.heap.size := h_lt Hx.out
        have hlt_bp_Hy : ky < V8.heap.size := h_lt Hy.out
        have hlw_bp : w.heap.size ≤ V8.heap.size := HB.out.size
        replace HB := Lib.hid (b_then HB.out hb)
        replace Hc := Lib.hid (obj_b hb Hc.out)
        replace Hb := Lib.hid (obj_b hb Hb.out)
        replace Hx := Lib.hid (obj_b hb Hx.out)
        replace Hy := Lib.hid (obj_b hb Hy.out)
        replace Ob := Lib.hid (Ob.out.below hb)
        replace Oc := Lib.hid (Oc.out.below hb)
        replace Ox := Lib.hid (Ox.out.below hb)
        replace Oy := Lib.hid (Oy.out.below hb)
        replace Op := Lib.hid (Op.out.below hb)
        clear hb
        generalize V8.heap.size = bp at Hp hlt_bp_Hc hlt_bp_Hb hlt_bp_Hx hlt_bp_Hy hlw_bp ⊢
        (try simp only [Act.put])
        go_wp2_with fail
        refine (Whole_c s (Nat.le_trans HLs.out (by decide)) _ (HG.out.below HB.out) (tabs_below HTB.out HB.out)).mono ?_
        rw [HW.out]
        rintro e V10 ⟨rfl, hb⟩
        replace HB := Lib.hid (b_then HB.out hb)
        replace Hc := Lib.hid (obj_b hb Hc.out)
        replace Hb := Lib.hid (obj_b hb Hb.out)
        replace Hx := Lib.hid (obj_b hb Hx.out)
        replace Hy := Lib.hid (obj_b hb Hy.out)
        replace Hp := Lib.hid (obj_b hb Hp.out)
        replace Ob := Lib.hid (Ob.out.below hb)
        replace Oc := Lib.hid (Oc.out.below hb)
        replace Ox := Lib.hid (Ox.out.below hb)
        replace Oy := Lib.hid (Oy.out.below hb)
        replace Op := Lib.hid (Op.out.below hb)
        clear hb
        go_wp2_with (first | go_skip | (refine wpList_load_g 27 _ rfl (by kernel_rfl) kx rfl Hx.out Tryz.underlying27 rfl (by kernel_rfl) ?_) | (refine wpList_load_g 27 _ rfl (by kernel_rfl) w.heap.size rfl Hb.out Tryz.underlying27 rfl (by kernel_rfl) ?_))
        refine (urlMay_c x _ Ox.out (HG.out.below HB.out)).mono ?_
        rw [Px.out, HJ.out.2.1]
        rintro e V11 ⟨rfl, hb⟩
        replace HB := Lib.hid (b_then HB.out hb)
        replace Hc := Lib.hid (obj_b hb Hc.out)
        replace Hb := Lib.hid (obj_b hb Hb.out)
        replace Hx := Lib.hid (obj_b hb Hx.out)
        replace Hy := Lib.hid (obj_b hb Hy.out)
        replace Hp := Lib.hid (obj_b hb Hp.out)
        replace Ob := Lib.hid (Ob.out.below hb)
        replace Oc := Lib.hid (Oc.out.below hb)
        replace Ox := Lib.hid (Ox.out.below hb)
        replace Oy := Lib.hid (Oy.out.below hb)
        replace Op := Lib.hid (Op.out.below hb)
        clear hb
        have hsc : x.sc = b.sc := by
          have h := (HJ.out.2.2.2 HW.out).1
          rw [← Px.out] at h
          exact h
        have d0 : V11.cell? ⟨kx, 0, none⟩ = some (.string (mkS b.sc)) := by rw [Lib.cell_of_heap Hx.out, ← hsc]; rfl
        have c0 : V11.cell? ⟨w.heap.size, 0, none⟩ = some (.string (mkS b.sc)) := by rw [Lib.cell_of_heap Hb.out]; rfl
        clear hsc
        go_wp2
        go_ret
        exact ⟨rfl, HB.out⟩
      | some u2 =>
        go_wp2_with (first | go_skip | (refine wpList_load_g 27 _ rfl (by kernel_rfl) w.heap.size rfl Hb.out Tryz.underlying27 rfl (by kernel_rfl) ?_) | (refine wpList_load_g 27 _ rfl (by kernel_rfl) bc rfl Hc.out Tryz.underlying27 rfl (by kernel_rfl) ?_) | (refine wpList_load_g 27 _ rfl (by kernel_rfl) kx rfl Hx.out Tryz.underlying27 rfl (by kernel_rfl) ?_))
        refine (Resolve_c c s _ (Nat.le_trans HLs.out (by decide)) Oc.out (Nat.le_trans (PM.few_all Fc.out).1 (by decide)) (HG.out.below HB.out) (tabs_below HTB.out HB.out)).mono ?_
        rintro e V6 ⟨hp, hb⟩
        obtain ⟨y, rfl, hxp, hxo⟩ := parse_ok hp HO2.out (res_path HO2.out (Nat.le_trans HLs.out (by decide)) (few_path Fc.out).1 (few_path Fc.out).2)
        have Py := Lib.hid hxp
        have Oy := Lib.hid hxo
        clear hp hxp hxo
        replace HB := Lib.hid (b_then HB.out hb)
        replace Hc := Lib.hid (obj_b hb Hc.out)
        replace Hb := Lib.hid (obj_b hb Hb.out)
        replace Hx := Lib.hid (obj_b hb Hx.out)
        replace Ob := Lib.hid (Ob.out.below hb)
        replace Oc := Lib.hid (Oc.out.below hb)
        replace Ox := Lib.hid (Ox.out.below hb)
        clear hb
        have HN := Lib.hid (Go.heap_alloc_new V6 (.cells zurl 27))
        unfold zurl at HN 
        go_upto_region 10 with (first | (refine wpList_store_row rfl 27 _ _ rfl V6.heap.size y.cells rfl rfl 27 _ HN.out (by kernel_rfl) rfl (agg_one y) ?_))
        obtain ⟨V7, hV⟩ : ∃ V7, V7 = (V6.alloc (.cells #[.string ⟨#[]⟩, .string ⟨#[]⟩, .string ⟨#[]⟩, .int .i64 0, .string ⟨#[]⟩, .int .i64 0, .int .i64 0, .int .i64 0, .int .i64 0, .int .i64 0, .int .i64 0, .int .i64 0, .int .i64 0, .int .i64 0, .int .i64 0, .slice none 0 0, .string ⟨#[]⟩, .string ⟨#[]⟩, .string ⟨#[]⟩, .bool false, .bool false] 27)).setRow V6.heap.size y.cells := ⟨_, rfl⟩
        have hN : V7.heap[V6.heap.size]? = some (.cells y.cells 27 (0, 0)) := by rw [hV]; exact heap_setRow HN.out _
        have hb : Below V6.heap.size V6 V7 := by rw [hV]; exact below_setRow (b_alloc (Below.refl _ _) _) (Nat.le_refl _) _
        rw [← hV]
        clear hV HN 
        have Hy := Lib.hid hN
        clear hN
        have hlt_ky_Hc : bc < V6.heap.size := h_lt Hc.out
        have hlt_ky_Hb : w.heap.size < V6.heap.size := h_lt Hb.out
        have hlt_ky_Hx : kx < V6.heap.size := h_lt Hx.out
        have hlw_ky : w.heap.size ≤ V6.heap.size := HB.out.size
        replace HB := Lib.hid (b_then HB.out hb)
        replace Hc := Lib.hid (obj_b hb Hc.out)
        replace Hb := Lib.hid (obj_b hb Hb.out)
        replace Hx := Lib.hid (obj_b hb Hx.out)
        replace Ob := Lib.hid (Ob.out.below hb)
        replace Oc := Lib.hid (Oc.out.below hb)
        replace Ox := Lib.hid (Ox.out.below hb)
        replace Oy := Lib.hid (Oy.out.below hb)
        clear hb
        generalize V6.heap.size = ky at Hy hlt_ky_Hc hlt_ky_Hb hlt_ky_Hx hlw_ky ⊢
        (try simp only [Act.put])
        go_wp2_with fail
        refine (UrlParse_c s (Nat.le_trans HLs.out (by decide)) _ (HG.out.below HB.out) (tabs_below HTB.out HB.out)).mono ?_
        rintro e V8 ⟨hp, hb⟩
        obtain ⟨p, rfl, hxp, hxo⟩ := parse_no hp (HJ.out.2.2.2 HW.out).2
        have Pp := Lib.hid hxp
        have Op := Lib.hid hxo
        clear hp hxp hxo
        replace HB := Lib.hid (b_then HB.out hb)
        replace Hc := Lib.hid (obj_b hb Hc.out)
        replace Hb := Lib.hid (obj_b hb Hb.out)
        replace Hx := Lib.hid (obj_b hb Hx.out)
        replace Hy := Lib.hid (obj_b hb Hy.out)
        replace Ob := Lib.hid (Ob.out.below hb)
        replace Oc := Lib.hid (Oc.out.below hb)
        replace Ox := Lib.hid (Ox.out.below hb)
        replace Oy := Lib.hid (Oy.out.below hb)
        clear hb
        have HN := Lib.hid (Go.heap_alloc_new V8 (.cells zurl 27))
        unfold zurl at HN 
        go_upto_region 11 with (first | (refine wpList_store_row rfl 27 _ _ rfl V8.heap.size p.cells rfl rfl 27 _ HN.out (by kernel_rfl) rfl (agg_one p) ?_))
        obtain ⟨V9, hV⟩ : ∃ V9, V9 = (V8.alloc (.cells #[.string ⟨#[]⟩, .string ⟨#[]⟩, .string ⟨#[]⟩, .int .i64 0, .string ⟨#[]⟩, .int .i64 0, .int .i64 0, .int .i64 0, .int .i64 0, .int .i64 0, .int .i64 0, .int .i64 0, .int .i64 0, .int .i64 0, .int .i64 0, .slice none 0 0, .string ⟨#[]⟩, .string ⟨#[]⟩, .string ⟨#[]⟩, .bool false, .bool false] 27)).setRow V8.heap.size p.cells := ⟨_, rfl⟩
        have hN : V9.heap[V8.heap.size]? = some (.cells p.cells 27 (0, 0)) := by rw [hV]; exact heap_setRow HN.out _
        have hb : Below V8.heap.size V8 V9 := by rw [hV]; exact below_setRow (b_alloc (Below.refl _ _) _) (Nat.le_refl _) _
        rw [← hV]
        clear hV HN 
        have Hp := Lib.hid hN
        clear hN
        have hlt_bp_Hc : bc < V8.heap.size := h_lt Hc.out
        have hlt_bp_Hb : w.heap.size < V8.heap.size := h_lt Hb.out
        have hlt_bp_Hx : kx < V8.heap.size := h_lt Hx.out
        have hlt_bp_Hy : ky < V8.heap.size := h_lt Hy.out
        have hlw_bp : w.heap.size ≤ V8.heap.size := HB.out.size
        replace HB := Lib.hid (b_then HB.out hb)
        replace Hc := Lib.hid (obj_b hb Hc.out)
        replace Hb := Lib.hid (obj_b hb Hb.out)
        replace Hx := Lib.hid (obj_b hb Hx.out)
        replace Hy := Lib.hid (obj_b hb Hy.out)
        replace Ob := Lib.hid (Ob.out.below hb)
        replace Oc := Lib.hid (Oc.out.below hb)
        replace Ox := Lib.hid (Ox.out.below hb)
        replace Oy := Lib.hid (Oy.out.below hb)
        replace Op := Lib.hid (Op.out.below hb)
        clear hb
        generalize V8.heap.size = bp at Hp hlt_bp_Hc hlt_bp_Hb hlt_bp_Hx hlt_bp_Hy hlw_bp ⊢
        (try simp only [Act.put])
        go_wp2_with fail
        refine (Whole_c s (Nat.le_trans HLs.out (by decide)) _ (HG.out.below HB.out) (tabs_below HTB.out HB.out)).mono ?_
        rw [HW.out]
        rintro e V10 ⟨rfl, hb⟩
        replace HB := Lib.hid (b_then HB.out hb)
        replace Hc := Lib.hid (obj_b hb Hc.out)
        replace Hb := Lib.hid (obj_b hb Hb.out)
        replace Hx := Lib.hid (obj_b hb Hx.out)
        replace Hy := Lib.hid (obj_b hb Hy.out)
        replace Hp := Lib.hid (obj_b hb Hp.out)
        replace Ob := Lib.hid (Ob.out.below hb)
        replace Oc := Lib.hid (Oc.out.below hb)
        replace Ox := Lib.hid (Ox.out.below hb)
        replace Oy := Lib.hid (Oy.out.below hb)
        replace Op := Lib.hid (Op.out.below hb)
        clear hb
        go_wp2_with (first | go_skip | (refine wpList_load_g 27 _ rfl (by kernel_rfl) kx rfl Hx.out Tryz.underlying27 rfl (by kernel_rfl) ?_) | (refine wpList_load_g 27 _ rfl (by kernel_rfl) w.heap.size rfl Hb.out Tryz.underlying27 rfl (by kernel_rfl) ?_))
        refine (urlMay_c x _ Ox.out (HG.out.below HB.out)).mono ?_
        rw [Px.out, HJ.out.2.1]
        rintro e V11 ⟨rfl, hb⟩
        replace HB := Lib.hid (b_then HB.out hb)
        replace Hc := Lib.hid (obj_b hb Hc.out)
        replace Hb := Lib.hid (obj_b hb Hb.out)
        replace Hx := Lib.hid (obj_b hb Hx.out)
        replace Hy := Lib.hid (obj_b hb Hy.out)
        replace Hp := Lib.hid (obj_b hb Hp.out)
        replace Ob := Lib.hid (Ob.out.below hb)
        replace Oc := Lib.hid (Oc.out.below hb)
        replace Ox := Lib.hid (Ox.out.below hb)
        replace Oy := Lib.hid (Oy.out.below hb)
        replace Op := Lib.hid (Op.out.below hb)
        clear hb
        have hsc : x.sc = b.sc := by
          have h := (HJ.out.2.2.2 HW.out).1
          rw [← Px.out] at h
          exact h
        have d0 : V11.cell? ⟨kx, 0, none⟩ = some (.string (mkS b.sc)) := by rw [Lib.cell_of_heap Hx.out, ← hsc]; rfl
        have c0 : V11.cell? ⟨w.heap.size, 0, none⟩ = some (.string (mkS b.sc)) := by rw [Lib.cell_of_heap Hb.out]; rfl
        clear hsc
        go_wp2
        go_ret
        exact ⟨rfl, HB.out⟩
    · cases m2
      · cases o2 with
        | none =>
          go_wp2_with (first | go_skip | (refine wpList_load_g 27 _ rfl (by kernel_rfl) w.heap.size rfl Hb.out Tryz.underlying27 rfl (by kernel_rfl) ?_) | (refine wpList_load_g 27 _ rfl (by kernel_rfl) bc rfl Hc.out Tryz.underlying27 rfl (by kernel_rfl) ?_) | (refine wpList_load_g 27 _ rfl (by kernel_rfl) kx rfl Hx.out Tryz.underlying27 rfl (by kernel_rfl) ?_))
          refine (Resolve_c c s _ (Nat.le_trans HLs.out (by decide)) Oc.out (Nat.le_trans (PM.few_all Fc.out).1 (by decide)) (HG.out.below HB.out) (tabs_below HTB.out HB.out)).mono ?_
          rintro e V6 ⟨hp, hb⟩
          obtain ⟨y, rfl, hxp, hxo⟩ := parse_no hp HO2.out
          have Py := Lib.hid hxp
          have Oy := Lib.hid hxo
          clear hp hxp hxo
          replace HB := Lib.hid (b_then HB.out hb)
          replace Hc := Lib.hid (obj_b hb Hc.out)
          replace Hb := Lib.hid (obj_b hb Hb.out)
          replace Hx := Lib.hid (obj_b hb Hx.out)
          replace Ob := Lib.hid (Ob.out.below hb)
          replace Oc := Lib.hid (Oc.out.below hb)
          replace Ox := Lib.hid (Ox.out.below hb)
          clear hb
          have HN := Lib.hid (Go.heap_alloc_new V6 (.cells zurl 27))
          unfold zurl at HN 
          go_upto_region 10 with (first | (refine wpList_store_row rfl 27 _ _ rfl V6.heap.size y.cells rfl rfl 27 _ HN.out (by kernel_rfl) rfl (agg_one y) ?_))
          obtain ⟨V7, hV⟩ : ∃ V7, V7 = (V6.alloc (.cells #[.string ⟨#[]⟩, .string ⟨#[]⟩, .string ⟨#[]⟩, .int .i64 0, .string ⟨#[]⟩, .int .i64 0, .int .i64 0, .int .i64 0, .int .i64 0, .int .i64 0, .int .i64 0, .int .i64 0, .int .i64 0, .int .i64 0, .int .i64 0, .slice none 0 0, .string ⟨#[]⟩, .string ⟨#[]⟩, .string ⟨#[]⟩, .bool false, .bool false] 27)).setRow V6.heap.size y.cells := ⟨_, rfl⟩
          have hN : V7.heap[V6.heap.size]? = some (.cells y.cells 27 (0, 0)) := by rw [hV]; exact heap_setRow HN.out _
          have hb : Below V6.heap.size V6 V7 := by rw [hV]; exact below_setRow (b_alloc (Below.refl _ _) _) (Nat.le_refl _) _
          rw [← hV]
          clear hV HN 
          have Hy := Lib.hid hN
          clear hN
          have hlt_ky_Hc : bc < V6.heap.size := h_lt Hc.out
          have hlt_ky_Hb : w.heap.size < V6.heap.size := h_lt Hb.out
          have hlt_ky_Hx : kx < V6.heap.size := h_lt Hx.out
          have hlw_ky : w.heap.size ≤ V6.heap.size := HB.out.size
          replace HB := Lib.hid (b_then HB.out hb)
          replace Hc := Lib.hid (obj_b hb Hc.out)
          replace Hb := Lib.hid (obj_b hb Hb.out)
          replace Hx := Lib.hid (obj_b hb Hx.out)
          replace Ob := Lib.hid (Ob.out.below hb)
          replace Oc := Lib.hid (Oc.out.below hb)
          replace Ox := Lib.hid (Ox.out.below hb)
          replace Oy := Lib.hid (Oy.out.below hb)
          clear hb
          generalize V6.heap.size = ky at Hy hlt_ky_Hc hlt_ky_Hb hlt_ky_Hx hlw_ky ⊢
          (try simp only [Act.put])
          go_wp2_with fail
          refine (UrlParse_c s (Nat.le_trans HLs.out (by decide)) _ (HG.out.below HB.out) (tabs_below HTB.out HB.out)).mono ?_
          rintro e V8 ⟨hp, hb⟩
          obtain ⟨p, rfl, hxp, hxo⟩ := parse_ok hp (HJ.out.2.2.1 HW.out).1 (res_path HO.out (Nat.le_trans HLs.out (by decide)) (few_path Fb.out).1 (few_path Fb.out).2)
          have Pp := Lib.hid hxp
          have Op := Lib.hid hxo
          clear hp hxp hxo
          replace HB := Lib.hid (b_then HB.out hb)
          replace Hc := Lib.hid (obj_b hb Hc.out)
          replace Hb := Lib.hid (obj_b hb Hb.out)
          replace Hx := Lib.hid (obj_b hb Hx.out)
          replace Hy := Lib.hid (obj_b hb Hy.out)
          replace Ob := Lib.hid (Ob.out.below hb)
          replace Oc := Lib.hid (Oc.out.below hb)
          replace Ox := Lib.hid (Ox.out.below hb)
          replace Oy := Lib.hid (Oy.out.below hb)
          clear hb
          have HN := Lib.hid (Go.heap_alloc_new V8 (.cells zurl 27))
          unfold zurl at HN 
          go_upto_region 11 with (first | (refine wpList_store_row rfl 27 _ _ rfl V8.heap.size p.cells rfl rfl 27 _ HN.out (by kernel_rfl) rfl (agg_one p) ?_))
          obtain ⟨V9, hV⟩ : ∃ V9, V9 = (V8.alloc (.cells #[.string ⟨#[]⟩, .string ⟨#[]⟩, .string ⟨#[]⟩, .int .i64 0, .string ⟨#[]⟩, .int .i64 0, .int .i64 0, .int .i64 0, .int .i64 0, .int .i64 0, .int .i64 0, .int .i64 0, .int .i64 0, .int .i64 0, .int .i64 0, .slice none 0 0, .string ⟨#[]⟩, .string ⟨#[]⟩, .string ⟨#[]⟩, .bool false, .bool false] 27)).setRow V8.heap.size p.cells := ⟨_, rfl⟩
          have hN : V9.heap[V8.heap.size]? = some (.cells p.cells 27 (0, 0)) := by rw [hV]; exact heap_setRow HN.out _
          have hb : Below V8.heap.size V8 V9 := by rw [hV]; exact below_setRow (b_alloc (Below.refl _ _) _) (Nat.le_refl _) _
          rw [← hV]
          clear hV HN 
          have Hp := Lib.hid hN
          clear hN
          have hlt_bp_Hc : bc < V8.heap.size := h_lt Hc.out
          have hlt_bp_Hb : w.heap.size < V8.heap.size := h_lt Hb.out
          have hlt_bp_Hx : kx < V8.heap.size := h_lt Hx.out
          have hlt_bp_Hy : ky < V8.heap.size := h_lt Hy.out
          have hlw_bp : w.heap.size ≤ V8.heap.size := HB.out.size
          replace HB := Lib.hid (b_then HB.out hb)
          replace Hc := Lib.hid (obj_b hb Hc.out)
          replace Hb := Lib.hid (obj_b hb Hb.out)
          replace Hx := Lib.hid (obj_b hb Hx.out)
          replace Hy := Lib.hid (obj_b hb Hy.out)
          replace Ob := Lib.hid (Ob.out.below hb)
          replace Oc := Lib.hid (Oc.out.below hb)
          replace Ox := Lib.hid (Ox.out.below hb)
          replace Oy := Lib.hid (Oy.out.below hb)
          replace Op := Lib.hid (Op.out.below hb)
          clear hb
          generalize V8.heap.size = bp at Hp hlt_bp_Hc hlt_bp_Hb hlt_bp_Hx hlt_bp_Hy hlw_bp ⊢
          (try simp only [Act.put])
          go_wp2_with fail
          refine (Whole_c s (Nat.le_trans HLs.out (by decide)) _ (HG.out.below HB.out) (tabs_below HTB.out HB.out)).mono ?_
          rw [HW.out]
          rintro e V10 ⟨rfl, hb⟩
          replace HB := Lib.hid (b_then HB.out hb)
          replace Hc := Lib.hid (obj_b hb Hc.out)
          replace Hb := Lib.hid (obj_b hb Hb.out)
          replace Hx := Lib.hid (obj_b hb Hx.out)
          replace Hy := Lib.hid (obj_b hb Hy.out)
          replace Hp := Lib.hid (obj_b hb Hp.out)
          replace Ob := Lib.hid (Ob.out.below hb)
          replace Oc := Lib.hid (Oc.out.below hb)
          replace Ox := Lib.hid (Ox.out.below hb)
          replace Oy := Lib.hid (Oy.out.below hb)
          replace Op := Lib.hid (Op.out.below hb)
          clear hb
          go_wp2_with (first | go_skip | (refine wpList_load_g 27 _ rfl (by kernel_rfl) kx rfl Hx.out Tryz.underlying27 rfl (by kernel_rfl) ?_) | (refine wpList_load_g 27 _ rfl (by kernel_rfl) w.heap.size rfl Hb.out Tryz.underlying27 rfl (by kernel_rfl) ?_))
          refine (urlMay_c x _ Ox.out (HG.out.below HB.out)).mono ?_
          rw [Px.out, HJ.out.2.1]
          rintro e V11 ⟨rfl, hb⟩
          replace HB := Lib.hid (b_then HB.out hb)
          replace Hc := Lib.hid (obj_b hb Hc.out)
          replace Hb := Lib.hid (obj_b hb Hb.out)
          replace Hx := Lib.hid (obj_b hb Hx.out)
          replace Hy := Lib.hid (obj_b hb Hy.out)
          replace Hp := Lib.hid (obj_b hb Hp.out)
          replace Ob := Lib.hid (Ob.out.below hb)
          replace Oc := Lib.hid (Oc.out.below hb)
          replace Ox := Lib.hid (Ox.out.below hb)
          replace Oy := Lib.hid (Oy.out.below hb)
          replace Op := Lib.hid (Op.out.below hb)
          clear hb
          go_wp2_with (first | go_skip | (refine wpList_load_g 27 _ rfl (by kernel_rfl) bp rfl Hp.out Tryz.underlying27 rfl (by kernel_rfl) ?_) | (refine wpList_load_g 27 _ rfl (by kernel_rfl) kx rfl Hx.out Tryz.underlying27 rfl (by kernel_rfl) ?_))
          refine (UrlSame_c p x _ Op.out Ox.out).mono ?_
          rw [Pp.out, Px.out, same_self]
          rintro e V12 ⟨rfl, hb⟩
          replace HB := Lib.hid (b_then HB.out hb)
          replace Hc := Lib.hid (obj_b hb Hc.out)
          replace Hb := Lib.hid (obj_b hb Hb.out)
          replace Hx := Lib.hid (obj_b hb Hx.out)
          replace Hy := Lib.hid (obj_b hb Hy.out)
          replace Hp := Lib.hid (obj_b hb Hp.out)
          replace Ob := Lib.hid (Ob.out.below hb)
          replace Oc := Lib.hid (Oc.out.below hb)
          replace Ox := Lib.hid (Ox.out.below hb)
          replace Oy := Lib.hid (Oy.out.below hb)
          replace Op := Lib.hid (Op.out.below hb)
          clear hb
          go_wp2_with (first | go_skip | (refine wpList_load_g 27 _ rfl (by kernel_rfl) bc rfl Hc.out Tryz.underlying27 rfl (by kernel_rfl) ?_) | (refine wpList_load_g 27 _ rfl (by kernel_rfl) kx rfl Hx.out Tryz.underlying27 rfl (by kernel_rfl) ?_))
          refine (urlMay_c c _ Oc.out (HG.out.below HB.out)).mono ?_
          rw [HM2.out]
          rintro e V13 ⟨rfl, hb⟩
          replace HB := Lib.hid (b_then HB.out hb)
          replace Hc := Lib.hid (obj_b hb Hc.out)
          replace Hb := Lib.hid (obj_b hb Hb.out)
          replace Hx := Lib.hid (obj_b hb Hx.out)
          replace Hy := Lib.hid (obj_b hb Hy.out)
          replace Hp := Lib.hid (obj_b hb Hp.out)
          replace Ob := Lib.hid (Ob.out.below hb)
          replace Oc := Lib.hid (Oc.out.below hb)
          replace Ox := Lib.hid (Ox.out.below hb)
          replace Oy := Lib.hid (Oy.out.below hb)
          replace Op := Lib.hid (Op.out.below hb)
          clear hb
          go_wp2
          go_ret
          exact ⟨rfl, HB.out⟩
        | some u2 =>
          go_wp2_with (first | go_skip | (refine wpList_load_g 27 _ rfl (by kernel_rfl) w.heap.size rfl Hb.out Tryz.underlying27 rfl (by kernel_rfl) ?_) | (refine wpList_load_g 27 _ rfl (by kernel_rfl) bc rfl Hc.out Tryz.underlying27 rfl (by kernel_rfl) ?_) | (refine wpList_load_g 27 _ rfl (by kernel_rfl) kx rfl Hx.out Tryz.underlying27 rfl (by kernel_rfl) ?_))
          refine (Resolve_c c s _ (Nat.le_trans HLs.out (by decide)) Oc.out (Nat.le_trans (PM.few_all Fc.out).1 (by decide)) (HG.out.below HB.out) (tabs_below HTB.out HB.out)).mono ?_
          rintro e V6 ⟨hp, hb⟩
          obtain ⟨y, rfl, hxp, hxo⟩ := parse_ok hp HO2.out (res_path HO2.out (Nat.le_trans HLs.out (by decide)) (few_path Fc.out).1 (few_path Fc.out).2)
          have Py := Lib.hid hxp
          have Oy := Lib.hid hxo
          clear hp hxp hxo
          replace HB := Lib.hid (b_then HB.out hb)
          replace Hc := Lib.hid (obj_b hb Hc.out)
          replace Hb := Lib.hid (obj_b hb Hb.out)
          replace Hx := Lib.hid (obj_b hb Hx.out)
          replace Ob := Lib.hid (Ob.out.below hb)
          replace Oc := Lib.hid (Oc.out.below hb)
          replace Ox := Lib.hid (Ox.out.below hb)
          clear hb
          have HN := Lib.hid (Go.heap_alloc_new V6 (.cells zurl 27))
          unfold zurl at HN 
          go_upto_region 10 with (first | (refine wpList_store_row rfl 27 _ _ rfl V6.heap.size y.cells rfl rfl 27 _ HN.out (by kernel_rfl) rfl (agg_one y) ?_))
          obtain ⟨V7, hV⟩ : ∃ V7, V7 = (V6.alloc (.cells #[.string ⟨#[]⟩, .string ⟨#[]⟩, .string ⟨#[]⟩, .int .i64 0, .string ⟨#[]⟩, .int .i64 0, .int .i64 0, .int .i64 0, .int .i64 0, .int .i64 0, .int .i64 0, .int .i64 0, .int .i64 0, .int .i64 0, .int .i64 0, .slice none 0 0, .string ⟨#[]⟩, .string ⟨#[]⟩, .string ⟨#[]⟩, .bool false, .bool false] 27)).setRow V6.heap.size y.cells := ⟨_, rfl⟩
          have hN : V7.heap[V6.heap.size]? = some (.cells y.cells 27 (0, 0)) := by rw [hV]; exact heap_setRow HN.out _
          have hb : Below V6.heap.size V6 V7 := by rw [hV]; exact below_setRow (b_alloc (Below.refl _ _) _) (Nat.le_refl _) _
          rw [← hV]
          clear hV HN 
          have Hy := Lib.hid hN
          clear hN
          have hlt_ky_Hc : bc < V6.heap.size := h_lt Hc.out
          have hlt_ky_Hb : w.heap.size < V6.heap.size := h_lt Hb.out
          have hlt_ky_Hx : kx < V6.heap.size := h_lt Hx.out
          have hlw_ky : w.heap.size ≤ V6.heap.size := HB.out.size
          replace HB := Lib.hid (b_then HB.out hb)
          replace Hc := Lib.hid (obj_b hb Hc.out)
          replace Hb := Lib.hid (obj_b hb Hb.out)
          replace Hx := Lib.hid (obj_b hb Hx.out)
          replace Ob := Lib.hid (Ob.out.below hb)
          replace Oc := Lib.hid (Oc.out.below hb)
          replace Ox := Lib.hid (Ox.out.below hb)
          replace Oy := Lib.hid (Oy.out.below hb)
          clear hb
          generalize V6.heap.size = ky at Hy hlt_ky_Hc hlt_ky_Hb hlt_ky_Hx hlw_ky ⊢
          (try simp only [Act.put])
          go_wp2_with fail
          refine (UrlParse_c s (Nat.le_trans HLs.out (by decide)) _ (HG.out.below HB.out) (tabs_below HTB.out HB.out)).mono ?_
          rintro e V8 ⟨hp, hb⟩
          obtain ⟨p, rfl, hxp, hxo⟩ := parse_ok hp (HJ.out.2.2.1 HW.out).1 (res_path HO.out (Nat.le_trans HLs.out (by decide)) (few_path Fb.out).1 (few_path Fb.out).2)
          have Pp := Lib.hid hxp
          have Op := Lib.hid hxo
          clear hp hxp hxo
          replace HB := Lib.hid (b_then HB.out hb)
          replace Hc := Lib.hid (obj_b hb Hc.out)
          replace Hb := Lib.hid (obj_b hb Hb.out)
          replace Hx := Lib.hid (obj_b hb Hx.out)
          replace Hy := Lib.hid (obj_b hb Hy.out)
          replace Ob := Lib.hid (Ob.out.below hb)
          replace Oc := Lib.hid (Oc.out.below hb)
          replace Ox := Lib.hid (Ox.out.below hb)
          replace Oy := Lib.hid (Oy.out.below hb)
          clear hb
          have HN := Lib.hid (Go.heap_alloc_new V8 (.cells zurl 27))
          unfold zurl at HN 
          go_upto_region 11 with (first | (refine wpList_store_row rfl 27 _ _ rfl V8.heap.size p.cells rfl rfl 27 _ HN.out (by kernel_rfl) rfl (agg_one p) ?_))
          obtain ⟨V9, hV⟩ : ∃ V9, V9 = (V8.alloc (.cells #[.string ⟨#[]⟩, .string ⟨#[]⟩, .string ⟨#[]⟩, .int .i64 0, .string ⟨#[]⟩, .int .i64 0, .int .i64 0, .int .i64 0, .int .i64 0, .int .i64 0, .int .i64 0, .int .i64 0, .int .i64 0, .int .i64 0, .int .i64 0, .slice none 0 0, .string ⟨#[]⟩, .string ⟨#[]⟩, .string ⟨#[]⟩, .bool false, .bool false] 27)).setRow V8.heap.size p.cells := ⟨_, rfl⟩
          have hN : V9.heap[V8.heap.size]? = some (.cells p.cells 27 (0, 0)) := by rw [hV]; exact heap_setRow HN.out _
          have hb : Below V8.heap.size V8 V9 := by rw [hV]; exact below_setRow (b_alloc (Below.refl _ _) _) (Nat.le_refl _) _
          rw [← hV]
          clear hV HN 
          have Hp := Lib.hid hN
          clear hN
          have hlt_bp_Hc : bc < V8.heap.size := h_lt Hc.out
          have hlt_bp_Hb : w.heap.size < V8.heap.size := h_lt Hb.out
          have hlt_bp_Hx : kx < V8.heap.size := h_lt Hx.out
          have hlt_bp_Hy : ky < V8.heap.size := h_lt Hy.out
          have hlw_bp : w.heap.size ≤ V8.heap.size := HB.out.size
          replace HB := Lib.hid (b_then HB.out hb)
          replace Hc := Lib.hid (obj_b hb Hc.out)
          replace Hb := Lib.hid (obj_b hb Hb.out)
          replace Hx := Lib.hid (obj_b hb Hx.out)
          replace Hy := Lib.hid (obj_b hb Hy.out)
          replace Ob := Lib.hid (Ob.out.below hb)
          replace Oc := Lib.hid (Oc.out.below hb)
          replace Ox := Lib.hid (Ox.out.below hb)
          replace Oy := Lib.hid (Oy.out.below hb)
          replace Op := Lib.hid (Op.out.below hb)
          clear hb
          generalize V8.heap.size = bp at Hp hlt_bp_Hc hlt_bp_Hb hlt_bp_Hx hlt_bp_Hy hlw_bp ⊢
          (try simp only [Act.put])
          go_wp2_with fail
          refine (Whole_c s (Nat.le_trans HLs.out (by decide)) _ (HG.out.below HB.out) (tabs_below HTB.out HB.out)).mono ?_
          rw [HW.out]
          rintro e V10 ⟨rfl, hb⟩
          replace HB := Lib.hid (b_then HB.out hb)
          replace Hc := Lib.hid (obj_b hb Hc.out)
          replace Hb := Lib.hid (obj_b hb Hb.out)
          replace Hx := Lib.hid (obj_b hb Hx.out)
          replace Hy := Lib.hid (obj_b hb Hy.out)
          replace Hp := Lib.hid (obj_b hb Hp.out)
          replace Ob := Lib.hid (Ob.out.below hb)
          replace Oc := Lib.hid (Oc.out.below hb)
          replace Ox := Lib.hid (Ox.out.below hb)
          replace Oy := Lib.hid (Oy.out.below hb)
          replace Op := Lib.hid (Op.out.below hb)
          clear hb
          go_wp2_with (first | go_skip | (refine wpList_load_g 27 _ rfl (by kernel_rfl) kx rfl Hx.out Tryz.underlying27 rfl (by kernel_rfl) ?_) | (refine wpList_load_g 27 _ rfl (by kernel_rfl) w.heap.size rfl Hb.out Tryz.underlying27 rfl (by kernel_rfl) ?_))
          refine (urlMay_c x _ Ox.out (HG.out.below HB.out)).mono ?_
          rw [Px.out, HJ.out.2.1]
          rintro e V11 ⟨rfl, hb⟩
          replace HB := Lib.hid (b_then HB.out hb)
          replace Hc := Lib.hid (obj_b hb Hc.out)
          replace Hb := Lib.hid (obj_b hb Hb.out)
          replace Hx := Lib.hid (obj_b hb Hx.out)
          replace Hy := Lib.hid (obj_b hb Hy.out)
          replace Hp := Lib.hid (obj_b hb Hp.out)
          replace Ob := Lib.hid (Ob.out.below hb)
          replace Oc := Lib.hid (Oc.out.below hb)
          replace Ox := Lib.hid (Ox.out.below hb)
          replace Oy := Lib.hid (Oy.out.below hb)
          replace Op := Lib.hid (Op.out.below hb)
          clear hb
          go_wp2_with (first | go_skip | (refine wpList_load_g 27 _ rfl (by kernel_rfl) bp rfl Hp.out Tryz.underlying27 rfl (by kernel_rfl) ?_) | (refine wpList_load_g 27 _ rfl (by kernel_rfl) kx rfl Hx.out Tryz.underlying27 rfl (by kernel_rfl) ?_))
          refine (UrlSame_c p x _ Op.out Ox.out).mono ?_
          rw [Pp.out, Px.out, same_self]
          rintro e V12 ⟨rfl, hb⟩
          replace HB := Lib.hid (b_then HB.out hb)
          replace Hc := Lib.hid (obj_b hb Hc.out)
          replace Hb := Lib.hid (obj_b hb Hb.out)
          replace Hx := Lib.hid (obj_b hb Hx.out)
          replace Hy := Lib.hid (obj_b hb Hy.out)
          replace Hp := Lib.hid (obj_b hb Hp.out)
          replace Ob := Lib.hid (Ob.out.below hb)
          replace Oc := Lib.hid (Oc.out.below hb)
          replace Ox := Lib.hid (Ox.out.below hb)
          replace Oy := Lib.hid (Oy.out.below hb)
          replace Op := Lib.hid (Op.out.below hb)
          clear hb
          go_wp2_with (first | go_skip | (refine wpList_load_g 27 _ rfl (by kernel_rfl) bc rfl Hc.out Tryz.underlying27 rfl (by kernel_rfl) ?_) | (refine wpList_load_g 27 _ rfl (by kernel_rfl) kx rfl Hx.out Tryz.underlying27 rfl (by kernel_rfl) ?_))
          refine (urlMay_c c _ Oc.out (HG.out.below HB.out)).mono ?_
          rw [HM2.out]
          rintro e V13 ⟨rfl, hb⟩
          replace HB := Lib.hid (b_then HB.out hb)
          replace Hc := Lib.hid (obj_b hb Hc.out)
          replace Hb := Lib.hid (obj_b hb Hb.out)
          replace Hx := Lib.hid (obj_b hb Hx.out)
          replace Hy := Lib.hid (obj_b hb Hy.out)
          replace Hp := Lib.hid (obj_b hb Hp.out)
          replace Ob := Lib.hid (Ob.out.below hb)
          replace Oc := Lib.hid (Oc.out.below hb)
          replace Ox := Lib.hid (Ox.out.below hb)
          replace Oy := Lib.hid (Oy.out.below hb)
          replace Op := Lib.hid (Op.out.below hb)
          clear hb
          go_wp2
          go_ret
          exact ⟨rfl, HB.out⟩
      · have h2 : o2 = some u := by rw [← HO2.out]; exact (HJ.out.2.2.1 HW.out).2 c.pm HM2.out
        subst h2
        go_wp2_with (first | go_skip | (refine wpList_load_g 27 _ rfl (by kernel_rfl) w.heap.size rfl Hb.out Tryz.underlying27 rfl (by kernel_rfl) ?_) | (refine wpList_load_g 27 _ rfl (by kernel_rfl) bc rfl Hc.out Tryz.underlying27 rfl (by kernel_rfl) ?_) | (refine wpList_load_g 27 _ rfl (by kernel_rfl) kx rfl Hx.out Tryz.underlying27 rfl (by kernel_rfl) ?_))
        refine (Resolve_c c s _ (Nat.le_trans HLs.out (by decide)) Oc.out (Nat.le_trans (PM.few_all Fc.out).1 (by decide)) (HG.out.below HB.out) (tabs_below HTB.out HB.out)).mono ?_
        rintro e V6 ⟨hp, hb⟩
        obtain ⟨y, rfl, hxp, hxo⟩ := parse_ok hp HO2.out (res_path HO2.out (Nat.le_trans HLs.out (by decide)) (few_path Fc.out).1 (few_path Fc.out).2)
        have Py := Lib.hid hxp
        have Oy := Lib.hid hxo
        clear hp hxp hxo
        replace HB := Lib.hid (b_then HB.out hb)
        replace Hc := Lib.hid (obj_b hb Hc.out)
        replace Hb := Lib.hid (obj_b hb Hb.out)
        replace Hx := Lib.hid (obj_b hb Hx.out)
        replace Ob := Lib.hid (Ob.out.below hb)
        replace Oc := Lib.hid (Oc.out.below hb)
        replace Ox := Lib.hid (Ox.out.below hb)
        clear hb
        have HN := Lib.hid (Go.heap_alloc_new V6 (.cells zurl 27))
        unfold zurl at HN 
        go_upto_region 10 with (first | (refine wpList_store_row rfl 27 _ _ rfl V6.heap.size y.cells rfl rfl 27 _ HN.out (by kernel_rfl) rfl (agg_one y) ?_))
        obtain ⟨V7, hV⟩ : ∃ V7, V7 = (V6.alloc (.cells #[.string ⟨#[]⟩, .string ⟨#[]⟩, .string ⟨#[]⟩, .int .i64 0, .string ⟨#[]⟩, .int .i64 0, .int .i64 0, .int .i64 0, .int .i64 0, .int .i64 0, .int .i64 0, .int .i64 0, .int .i64 0, .int .i64 0, .int .i64 0, .slice none 0 0, .string ⟨#[]⟩, .string ⟨#[]⟩, .string ⟨#[]⟩, .bool false, .bool false] 27)).setRow V6.heap.size y.cells := ⟨_, rfl⟩
        have hN : V7.heap[V6.heap.size]? = some (.cells y.cells 27 (0, 0)) := by rw [hV]; exact heap_setRow HN.out _
        have hb : Below V6.heap.size V6 V7 := by rw [hV]; exact below_setRow (b_alloc (Below.refl _ _) _) (Nat.le_refl _) _
        rw [← hV]
        clear hV HN 
        have Hy := Lib.hid hN
        clear hN
        have hlt_ky_Hc : bc < V6.heap.size := h_lt Hc.out
        have hlt_ky_Hb : w.heap.size < V6.heap.size := h_lt Hb.out
        have hlt_ky_Hx : kx < V6.heap.size := h_lt Hx.out
        have hlw_ky : w.heap.size ≤ V6.heap.size := HB.out.size
        replace HB := Lib.hid (b_then HB.out hb)
        replace Hc := Lib.hid (obj_b hb Hc.out)
        replace Hb := Lib.hid (obj_b hb Hb.out)
        replace Hx := Lib.hid (obj_b hb Hx.out)
        replace Ob := Lib.hid (Ob.out.below hb)
        replace Oc := Lib.hid (Oc.out.below hb)
        replace Ox := Lib.hid (Ox.out.below hb)
        replace Oy := Lib.hid (Oy.out.below hb)
        clear hb
        generalize V6.heap.size = ky at Hy hlt_ky_Hc hlt_ky_Hb hlt_ky_Hx hlw_ky ⊢
        (try simp only [Act.put])
        go_wp2_with fail
        refine (UrlParse_c s (Nat.le_trans HLs.out (by decide)) _ (HG.out.below HB.out) (tabs_below HTB.out HB.out)).mono ?_
        rintro e V8 ⟨hp, hb⟩
        obtain ⟨p, rfl, hxp, hxo⟩ := parse_ok hp (HJ.out.2.2.1 HW.out).1 (res_path HO.out (Nat.le_trans HLs.out (by decide)) (few_path Fb.out).1 (few_path Fb.out).2)
        have Pp := Lib.hid hxp
        have Op := Lib.hid hxo
        clear hp hxp hxo
        replace HB := Lib.hid (b_then HB.out hb)
        replace Hc := Lib.hid (obj_b hb Hc.out)
        replace Hb := Lib.hid (obj_b hb Hb.out)
        replace Hx := Lib.hid (obj_b hb Hx.out)
        replace Hy := Lib.hid (obj_b hb Hy.out)
        replace Ob := Lib.hid (Ob.out.below hb)
        replace Oc := Lib.hid (Oc.out.below hb)
        replace Ox := Lib.hid (Ox.out.below hb)
        replace Oy := Lib.hid (Oy.out.below hb)
        clear hb
        have HN := Lib.hid (Go.heap_alloc_new V8 (.cells zurl 27))
        unfold zurl at HN 
        go_upto_region 11 with (first | (refine wpList_store_row rfl 27 _ _ rfl V8.heap.size p.cells rfl rfl 27 _ HN.out (by kernel_rfl) rfl (agg_one p) ?_))
        obtain ⟨V9, hV⟩ : ∃ V9, V9 = (V8.alloc (.cells #[.string ⟨#[]⟩, .string ⟨#[]⟩, .string ⟨#[]⟩, .int .i64 0, .string ⟨#[]⟩, .int .i64 0, .int .i64 0, .int .i64 0, .int .i64 0, .int .i64 0, .int .i64 0, .int .i64 0, .int .i64 0, .int .i64 0, .int .i64 0, .slice none 0 0, .string ⟨#[]⟩, .string ⟨#[]⟩, .string ⟨#[]⟩, .bool false, .bool false] 27)).setRow V8.heap.size p.cells := ⟨_, rfl⟩
        have hN : V9.heap[V8.heap.size]? = some (.cells p.cells 27 (0, 0)) := by rw [hV]; exact heap_setRow HN.out _
        have hb : Below V8.heap.size V8 V9 := by rw [hV]; exact below_setRow (b_alloc (Below.refl _ _) _) (Nat.le_refl _) _
        rw [← hV]
        clear hV HN 
        have Hp := Lib.hid hN
        clear hN
        have hlt_bp_Hc : bc < V8.heap.size := h_lt Hc.out
        have hlt_bp_Hb : w.heap.size < V8.heap.size := h_lt Hb.out
        have hlt_bp_Hx : kx < V8.heap.size := h_lt Hx.out
        have hlt_bp_Hy : ky < V8.heap.size := h_lt Hy.out
        have hlw_bp : w.heap.size ≤ V8.heap.size := HB.out.size
        replace HB := Lib.hid (b_then HB.out hb)
        replace Hc := Lib.hid (obj_b hb Hc.out)
        replace Hb := Lib.hid (obj_b hb Hb.out)
        replace Hx := Lib.hid (obj_b hb Hx.out)
        replace Hy := Lib.hid (obj_b hb Hy.out)
        replace Ob := Lib.hid (Ob.out.below hb)
        replace Oc := Lib.hid (Oc.out.below hb)
        replace Ox := Lib.hid (Ox.out.below hb)
        replace Oy := Lib.hid (Oy.out.below hb)
        replace Op := Lib.hid (Op.out.below hb)
        clear hb
        generalize V8.heap.size = bp at Hp hlt_bp_Hc hlt_bp_Hb hlt_bp_Hx hlt_bp_Hy hlw_bp ⊢
        (try simp only [Act.put])
        go_wp2_with fail
        refine (Whole_c s (Nat.le_trans HLs.out (by decide)) _ (HG.out.below HB.out) (tabs_below HTB.out HB.out)).mono ?_
        rw [HW.out]
        rintro e V10 ⟨rfl, hb⟩
        replace HB := Lib.hid (b_then HB.out hb)
        replace Hc := Lib.hid (obj_b hb Hc.out)
        replace Hb := Lib.hid (obj_b hb Hb.out)
        replace Hx := Lib.hid (obj_b hb Hx.out)
        replace Hy := Lib.hid (obj_b hb Hy.out)
        replace Hp := Lib.hid (obj_b hb Hp.out)
        replace Ob := Lib.hid (Ob.out.below hb)
        replace Oc := Lib.hid (Oc.out.below hb)
        replace Ox := Lib.hid (Ox.out.below hb)
        replace Oy := Lib.hid (Oy.out.below hb)
        replace Op := Lib.hid (Op.out.below hb)
        clear hb
        go_wp2_with (first | go_skip | (refine wpList_load_g 27 _ rfl (by kernel_rfl) kx rfl Hx.out Tryz.underlying27 rfl (by kernel_rfl) ?_) | (refine wpList_load_g 27 _ rfl (by kernel_rfl) w.heap.size rfl Hb.out Tryz.underlying27 rfl (by kernel_rfl) ?_))
        refine (urlMay_c x _ Ox.out (HG.out.below HB.out)).mono ?_
        rw [Px.out, HJ.out.2.1]
        rintro e V11 ⟨rfl, hb⟩
        replace HB := Lib.hid (b_then HB.out hb)
        replace Hc := Lib.hid (obj_b hb Hc.out)
        replace Hb := Lib.hid (obj_b hb Hb.out)
        replace Hx := Lib.hid (obj_b hb Hx.out)
        replace Hy := Lib.hid (obj_b hb Hy.out)
        replace Hp := Lib.hid (obj_b hb Hp.out)
        replace Ob := Lib.hid (Ob.out.below hb)
        replace Oc := Lib.hid (Oc.out.below hb)
        replace Ox := Lib.hid (Ox.out.below hb)
        replace Oy := Lib.hid (Oy.out.below hb)
        replace Op := Lib.hid (Op.out.below hb)
        clear hb
        go_wp2_with (first | go_skip | (refine wpList_load_g 27 _ rfl (by kernel_rfl) bp rfl Hp.out Tryz.underlying27 rfl (by kernel_rfl) ?_) | (refine wpList_load_g 27 _ rfl (by kernel_rfl) kx rfl Hx.out Tryz.underlying27 rfl (by kernel_rfl) ?_))
        refine (UrlSame_c p x _ Op.out Ox.out).mono ?_
        rw [Pp.out, Px.out, same_self]
        rintro e V12 ⟨rfl, hb⟩
        replace HB := Lib.hid (b_then HB.out hb)
        replace Hc := Lib.hid (obj_b hb Hc.out)
        replace Hb := Lib.hid (obj_b hb Hb.out)
        replace Hx := Lib.hid (obj_b hb Hx.out)
        replace Hy := Lib.hid (obj_b hb Hy.out)
        replace Hp := Lib.hid (obj_b hb Hp.out)
        replace Ob := Lib.hid (Ob.out.below hb)
        replace Oc := Lib.hid (Oc.out.below hb)
        replace Ox := Lib.hid (Ox.out.below hb)
        replace Oy := Lib.hid (Oy.out.below hb)
        replace Op := Lib.hid (Op.out.below hb)
        clear hb
        go_wp2_with (first | go_skip | (refine wpList_load_g 27 _ rfl (by kernel_rfl) bc rfl Hc.out Tryz.underlying27 rfl (by kernel_rfl) ?_) | (refine wpList_load_g 27 _ rfl (by kernel_rfl) kx rfl Hx.out Tryz.underlying27 rfl (by kernel_rfl) ?_))
        refine (urlMay_c c _ Oc.out (HG.out.below HB.out)).mono ?_
        rw [HM2.out]
        rintro e V13 ⟨rfl, hb⟩
        replace HB := Lib.hid (b_then HB.out hb)
        replace Hc := Lib.hid (obj_b hb Hc.out)
        replace Hb := Lib.hid (obj_b hb Hb.out)
        replace Hx := Lib.hid (obj_b hb Hx.out)
        replace Hy := Lib.hid (obj_b hb Hy.out)
        replace Hp := Lib.hid (obj_b hb Hp.out)
        replace Ob := Lib.hid (Ob.out.below hb)
        replace Oc := Lib.hid (Oc.out.below hb)
        replace Ox := Lib.hid (Ox.out.below hb)
        replace Oy := Lib.hid (Oy.out.below hb)
        replace Op := Lib.hid (Op.out.below hb)
        clear hb
        go_wp2_with (first | go_skip | (refine wpList_load_g 27 _ rfl (by kernel_rfl) kx rfl Hx.out Tryz.underlying27 rfl (by kernel_rfl) ?_) | (refine wpList_load_g 27 _ rfl (by kernel_rfl) ky rfl Hy.out Tryz.underlying27 rfl (by kernel_rfl) ?_))
        refine (UrlSame_c x y _ Ox.out Oy.out).mono ?_
        rw [Px.out, Py.out, same_self]
        rintro e V14 ⟨rfl, hb⟩
        replace HB := Lib.hid (b_then HB.out hb)
        replace Hc := Lib.hid (obj_b hb Hc.out)
        replace Hb := Lib.hid (obj_b hb Hb.out)
        replace Hx := Lib.hid (obj_b hb Hx.out)
        replace Hy := Lib.hid (obj_b hb Hy.out)
        replace Hp := Lib.hid (obj_b hb Hp.out)
        replace Ob := Lib.hid (Ob.out.below hb)
        replace Oc := Lib.hid (Oc.out.below hb)
        replace Ox := Lib.hid (Ox.out.below hb)
        replace Oy := Lib.hid (Oy.out.below hb)
        replace Op := Lib.hid (Op.out.below hb)
        clear hb
        go_wp2
        go_ret
        exact ⟨rfl, HB.out⟩
end Go.Proofs.YtphigjogeejdjaaGreatDoor
/-! The row of JoinMay. -/
namespace Go.Proofs.YtphigjogeejdjaaGreatDoor
open Go.ChangeShapes Go.WideShapes Go.ChangeAt Go.RowKit
open Go.WideMaps Go.WideElems
open Go.ChangeMaps (open_string shut_string)
theorem joinMay_reads (os : Os) {H : Type} (enc : TypeId × Value → H) : ∃ x, DataW.whole enc Tryz.prog ((laidWorld os).forCall (fun _ _ => 0) ⟨#[], #[.agg #[.string ⟨#[]⟩, .string ⟨#[]⟩, .string ⟨#[]⟩, .int .i64 0, .string ⟨#[]⟩, .int .i64 0, .int .i64 0, .int .i64 0, .int .i64 0, .int .i64 0, .int .i64 0, .int .i64 0, .int .i64 0, .int .i64 0, .int .i64 0, .slice none 0 0, .string ⟨#[]⟩, .string ⟨#[]⟩, .string ⟨#[]⟩, .bool false, .bool false], .agg #[.string ⟨#[]⟩, .string ⟨#[]⟩, .string ⟨#[]⟩, .int .i64 0, .string ⟨#[]⟩, .int .i64 0, .int .i64 0, .int .i64 0, .int .i64 0, .int .i64 0, .int .i64 0, .int .i64 0, .int .i64 0, .int .i64 0, .int .i64 0, .slice none 0 0, .string ⟨#[]⟩, .string ⟨#[]⟩, .string ⟨#[]⟩, .bool false, .bool false], .string ⟨#[]⟩], []⟩).memory Tryz.f5.params.toList Rows.joinMaySpec.vars false (#[.agg #[.string ⟨#[]⟩, .string ⟨#[]⟩, .string ⟨#[]⟩, .int .i64 0, .string ⟨#[]⟩, .int .i64 0, .int .i64 0, .int .i64 0, .int .i64 0, .int .i64 0, .int .i64 0, .int .i64 0, .int .i64 0, .int .i64 0, .int .i64 0, .slice none 0 0, .string ⟨#[]⟩, .string ⟨#[]⟩, .string ⟨#[]⟩, .bool false, .bool false], .agg #[.string ⟨#[]⟩, .string ⟨#[]⟩, .string ⟨#[]⟩, .int .i64 0, .string ⟨#[]⟩, .int .i64 0, .int .i64 0, .int .i64 0, .int .i64 0, .int .i64 0, .int .i64 0, .int .i64 0, .int .i64 0, .int .i64 0, .int .i64 0, .slice none 0 0, .string ⟨#[]⟩, .string ⟨#[]⟩, .string ⟨#[]⟩, .bool false, .bool false], .string ⟨#[]⟩] : Array Value).toList 8 = some x :=
  Option.isSome_iff_exists.1 (by kernel_rfl)
set_option maxRecDepth 100000 in
theorem joinMay_lifted (os : Os) (started : os.Started) (H : Type) (enc : TypeId × Value → H) (F : Stop.Interp) :
    ReturnsInHanded {} Tryz.checked os 5 .any ((OpenSpec.ofChange Rows.joinMaySpec).preRow enc Tryz.prog Tryz.f5 Rows.joinMayRow.domain false Rows.joinMayRow.laid) (((OpenSpec.ofChange Rows.joinMaySpec).at F).post enc Tryz.prog Tryz.f5 false true false false) := by
  obtain ⟨x, hx⟩ := joinMay_reads os enc
  refine returnsInHanded_of_row (C := Tryz.checked) (s := OpenSpec.ofChange Rows.joinMaySpec) own started (by kernel_rfl) Tryz.func5
    (witness_row_atRef (enc := enc) (C := Tryz.checked) false (laidWorld os) #[.agg #[.string ⟨#[]⟩, .string ⟨#[]⟩, .string ⟨#[]⟩, .int .i64 0, .string ⟨#[]⟩, .int .i64 0, .int .i64 0, .int .i64 0, .int .i64 0, .int .i64 0, .int .i64 0, .int .i64 0, .int .i64 0, .int .i64 0, .int .i64 0, .slice none 0 0, .string ⟨#[]⟩, .string ⟨#[]⟩, .string ⟨#[]⟩, .bool false, .bool false], .agg #[.string ⟨#[]⟩, .string ⟨#[]⟩, .string ⟨#[]⟩, .int .i64 0, .string ⟨#[]⟩, .int .i64 0, .int .i64 0, .int .i64 0, .int .i64 0, .int .i64 0, .int .i64 0, .int .i64 0, .int .i64 0, .int .i64 0, .int .i64 0, .slice none 0 0, .string ⟨#[]⟩, .string ⟨#[]⟩, .string ⟨#[]⟩, .bool false, .bool false], .string ⟨#[]⟩] rfl (by kernel_rfl) (by kernel_rfl) (by kernel_rfl)
      (OpenSpec.preRow_of_cond 8 hx rfl (fun k hk => by cases hk) (by kernel_rfl) (laid_met os _))) ?_
  intro W base args ds gs before hval0 hW _ _ _ hL hsh _
  have hval : ∀ (j : Nat) t v, Tryz.f5.params[j]? = some t → args[j]? = some v → Value.okWide Tryz.prog W .any base t v := hval0
  have hW' := hW
  obtain ⟨p, q, hA0, hV, rfl, hfz, hnd⟩ := hW
  have hA : DataW.TrodAll enc Tryz.prog W 0 (fun _ => true) true Tryz.f5.params.toList args.toList ds p := hA0
  rw [Tryz.params5] at hA hval
  obtain ⟨v0, v1, v2, d0, d1, d2, p0, p1, p2, rfl, rfl, rfl, h0, h1, h2⟩ := trodAll_three hA
  obtain ⟨rfl, rfl⟩ := trodVars_none hV
  simp only [List.append_nil] at hfz hnd hW'
  have hlt : ∀ x ∈ p0 ++ p1 ++ p2, x.block < W.heap.size := fun x hx => hW'.lt x hx
  have h0k := h0
  obtain ⟨u0, rfl, hr0⟩ := open_url (hval 0 27 v0 rfl rfl) h0
  have h1k := h1
  obtain ⟨u1, rfl, hr1⟩ := open_url (hval 1 27 v1 rfl rfl) h1
  have h2k := h2
  obtain ⟨s2, e2, _, _, w2⟩ := open_string Tryz.underlying9 (hval 2 9 v2 rfl rfl) h2
  obtain ⟨l2, rfl⟩ := mkS_surj s2
  subst e2
  refine (JoinMay_c u0 u1 l2 W hr0 hr1 (gl_of hsh) (tabs_laid hL)).mono fun e W' ⟨he, hb⟩ => ?_
  subst he
  refine ⟨_, rfl, _, _, _, [], p0 ++ p1 ++ p2, [], hW', ?_, ?_, ?_, hb.frame _, fun h => by cases h⟩
  · exact trodAll_mk1 (shut_bool Tryz.underlying4 _)
  · have h3 := trodAll_mk3 (Below.trod laidOut (by kernel_rfl) (of_decide_eq_true (by kernel_rfl)) h0k hb (fun x hx => hlt x (by simp [hx]))) (Below.trod laidOut (by kernel_rfl) (of_decide_eq_true (by kernel_rfl)) h1k hb (fun x hx => hlt x (by simp [hx]))) (Below.trod laidOut (by kernel_rfl) (of_decide_eq_true (by kernel_rfl)) h2k hb (fun x hx => hlt x (by simp [hx])))
    rw [← List.append_assoc] at h3
    exact h3
  · rfl
theorem joinMay_k0 : Rows.joinMayRow.wf (OpenSpec.ofChange (OpenSpec.ofChange Rows.joinMaySpec).bare) = true := by kernel_rfl
theorem joinMay_k3 : Tryz.f5.params.all (PP.readableRec ·) = true := by kernel_rfl
theorem joinMay_k4 : namedTie PP Rows.joinMayRow.named (OpenSpec.ofChange Rows.joinMaySpec).bare.vars = true := by kernel_rfl
theorem joinMay_k5 : (Rows.joinMayRow.stops == []) = true := by kernel_rfl
theorem joinMay_k7 : (Rows.joinMayRow.knobs == []) = true := by kernel_rfl
theorem joinMay_k9 : (Rows.joinMayRow.inPlace == PP.inPlace 5) = true := by kernel_rfl
theorem joinMay_k10 : (Rows.joinMayRow.unfollowed == PP.unfollowed 5) = true := by kernel_rfl
theorem joinMay_k11 : (Rows.joinMayRow.recurses == PP.recurses 5) = true := by kernel_rfl
theorem joinMay_k12 : (Rows.joinMayRow.named == PP.varsNamed 5) = true := by kernel_rfl
theorem joinMay_k13 : (Rows.joinMayRow.maps == (Tryz.f5.params.toList ++ (OpenSpec.ofChange Rows.joinMaySpec).bare.plain.varTypes PP).any (PP.mapsRec ·)) = true := by kernel_rfl
theorem joinMay_k14 : (Rows.joinMayRow.ifaces == (Tryz.f5.params.toList ++ (OpenSpec.ofChange Rows.joinMaySpec).bare.plain.varTypes PP).any (PP.ifacesRec ·)) = true := by kernel_rfl
theorem joinMay_k15 : (Rows.joinMayRow.mapsOut == PP.mapsAmong Tryz.f5.resultTypes.toList) = true := by kernel_rfl
theorem joinMay_k16 : (Rows.joinMayRow.loops == (Tryz.f5.params.toList ++ (OpenSpec.ofChange Rows.joinMaySpec).bare.plain.varTypes PP).any (PP.loopsFrom ·)) = true := by kernel_rfl
theorem joinMay_k17 : (Rows.joinMayRow.wideKeys == (Tryz.f5.params.toList ++ (OpenSpec.ofChange Rows.joinMaySpec).bare.plain.varTypes PP ++ Tryz.f5.resultTypes.toList).any (PP.wideKeysFrom ·)) = true := by kernel_rfl
theorem joinMay_k18 : (OpenSpec.ofChange Rows.joinMaySpec).bare.vars.all (PP.varReadable ·) = true := by kernel_rfl
theorem joinMay_k19 : Tryz.f5.resultTypes.all (fun t => PP.readableRec t && decide (t < PP.types.size)) = true := by kernel_rfl
theorem joinMay_k20 : (Rows.joinMayRow.ifacesOut == Tryz.f5.resultTypes.toList.any (PP.ifacesRec ·)) = true := by kernel_rfl
theorem joinMay_k21 : (Rows.joinMayRow.loopsOut == Tryz.f5.resultTypes.toList.any (PP.loopsFrom ·)) = true := by kernel_rfl
theorem joinMay_k23 : Rows.joinMayRow.shortTexts.isNone = true := by kernel_rfl
theorem joinMay_k28 : (Rows.joinMayRow.kinds == (if Rows.joinMayRow.domain.isEmpty then [] else Tryz.f5.params.toList.map fun t => match PP.underlying t with | some (.int k) => some k | _ => none)) = true := by kernel_rfl
theorem joinMay_k29 : (Rows.joinMayRow.pinned == Rows.joinMayRow.pinnedBy) = true := by kernel_rfl
theorem joinMay_k30 : (Rows.joinMayRow.veiled == (Tryz.f5.params.toList ++ (OpenSpec.ofChange Rows.joinMaySpec).bare.plain.varTypes PP ++ Tryz.f5.resultTypes.toList).any (PP.veiledRec ·)) = true := by kernel_rfl
theorem joinMay_k31 : Rows.joinMayRow.veiledFits PP Tryz.f5.params.toList (Tryz.f5.params.toList ++ (OpenSpec.ofChange Rows.joinMaySpec).bare.plain.varTypes PP ++ Tryz.f5.resultTypes.toList) = true := by kernel_rfl
set_option maxRecDepth 100000 in
theorem joinMay_closed : joinedFacts PP 5 Tryz.f5 (OpenSpec.ofChange Rows.joinMaySpec).bare Rows.joinMayRow = true := and2 (and2 (and2 (and2 (and2 (and2 (and2 (and2 (and2 (and2 (and2 (and2 (and2 (and2 (and2 (and2 (and2 (and2 (and2 (and2 (and2 (and2 (and2 (and2 (and2 (and2 (and2 (and2 (and2 (and2 (and2 (joinMay_k0) j_laidOut) j_rowed) joinMay_k3) joinMay_k4) joinMay_k5) j_stops) joinMay_k7) j_knobs) joinMay_k9) joinMay_k10) joinMay_k11) joinMay_k12) joinMay_k13) joinMay_k14) joinMay_k15) joinMay_k16) joinMay_k17) joinMay_k18) joinMay_k19) joinMay_k20) joinMay_k21) j_plain) joinMay_k23) j_heard) j_enter) j_lift) j_make) joinMay_k28) joinMay_k29) joinMay_k30) joinMay_k31
theorem joinMay_named : Tryz.pinned.checked.prog.funcNamed Rows.joinMayRow.func = some 5 := by kernel_rfl
theorem joinMay_text : Rows.joinMayRow.wfByText (OpenSpec.ofChange Rows.joinMaySpec) = true := by kernel_rfl
theorem joinMay_goes : false = Rows.joinMayRow.goesBy Tryz.pinned.checked.prog := by kernel_rfl
theorem joinMay_said : Rows.JoinMaySaid :=
  OpenClaim.holds_of_cond 5 Tryz.f5 rfl rfl rfl rfl rfl rfl rfl ⟨rfl, rfl, rfl, rfl, rfl⟩ rfl rfl rfl rfl rfl joinMay_named Tryz.func5 joinMay_closed
    (of_decide_eq_true (by kernel_rfl)) (by unfold Func.isWrapper; first | (rw [if_pos (by decide +kernel)]; kernel_rfl) | (rw [if_neg (by decide +kernel)]; exact ⟨rfl, rfl⟩))
    (fun os started H enc _ F => by rw [OpenClaim.pre_eq_preRow]; exact joinMay_lifted os started H enc F)
theorem joinMay_plain (f : FuncId) (fn : Func) (hf : Tryz.pinned.checked.prog.funcNamed "postmark/postmarklaw11.JoinMay" = some f) (hfn : Tryz.pinned.checked.prog.funcs[f]? = some fn) :
    true = Tryz.pinned.checked.prog.looks [] ∧ ∀ (j : Nat) t, fn.params[j]? = some t → Tryz.pinned.checked.prog.wantsStandIn t = false := by
  obtain rfl : f = 5 := Option.some.inj ((show Tryz.prog.funcNamed "postmark/postmarklaw11.JoinMay" = some 5 by kernel_rfl).symm.trans hf) |>.symm
  obtain rfl : fn = Tryz.f5 := (Option.some.inj (Tryz.func5.symm.trans hfn)).symm
  refine ⟨by kernel_rfl, fun j t ht => ?_⟩
  rw [Tryz.params5] at ht
  have hm := Array.mem_of_getElem? ht
  simp only [Array.mem_def, List.mem_cons, List.not_mem_nil, or_false] at hm
  rcases hm with rfl | rfl | rfl
  · exact (show Tryz.prog.wantsStandIn 27 = false by kernel_rfl)
  · exact (show Tryz.prog.wantsStandIn 27 = false by kernel_rfl)
  · exact (show Tryz.prog.wantsStandIn 9 = false by kernel_rfl)
theorem joinMay_holds : Rows.JoinMayCardSaid :=
  Claim7.holds_tied_plain_at .later [] _ _ _ _ joinMay_said (fun _ h => by cases h) joinMay_text (fun _ h => by cases h) joinMay_row_tie rfl ⟨rfl, rfl⟩ j_main rfl joinMay_plain joinMay_goes
#print axioms joinMay_holds
end Go.Proofs.YtphigjogeejdjaaGreatDoor
