/-
JoinQuery: whatever comes in, the law's call returns true, and the arguments read behind the call as they did before; no condition on them. The row lists the two tables of unicode/utf8 (first, acceptRanges); the card ties them.
-/
import Derived.Test.YtphigjogeejdjaaGreatDoorTz
import Derived.Test.YtphigjogeejdjaaGreatDoorJq
set_option linter.unusedVariables false
set_option linter.unusedSimpArgs false
/-! The walk of JoinQuery. -/
namespace Go.Proofs.YtphigjogeejdjaaGreatDoor
open Go.RowKit
theorem parse_no {o : Option PM.Url} {e : Ending} {w' : World} (h : ParseR o e w') (ho : o = none) : ∃ v : UV, e = .returned (.tuple #[.agg v.cells, .bool false]) ∧ v.pm = uz.pm ∧ v.Ok w' := by
  subst ho
  obtain ⟨v, h1, h2, h3⟩ := h
  have h2' : v.pm = uz.pm := h2
  have hx : v.xs = v.pm.path := rfl
  exact ⟨v, h1, h2', h3 (by rw [hx, h2']; decide)⟩
theorem res_path {b u : PM.Url} {s : List UInt8} (h : PM.resolve b s = some u) (hs : s.length ≤ 3000) (hb : b.path.length ≤ 900) (hx : ∀ x ∈ b.path, x.length ≤ 1000000) : u.path.length ≤ 10000 := by
  rw [PM.resolve_eq] at h
  have hcl := clean_len s
  split at h
  · cases h
  · split at h
    · have := (parse_short h).pn
      omega
    · split at h
      · cases h
      · rename_i h0
        split at h
        · have h1 := (parse_short h).pn
          have h2 : b.scheme.length ≤ 5 := by rcases PM.web_cases h0 with e | e <;> rw [e] <;> decide
          simp at h1
          omega
        · simp at h
          subst h
          have ht := (tail_len3 (PM.clean s)).1
          show (PM.wayP b.path (PM.tail (PM.clean s)).1).length ≤ 10000
          unfold PM.wayP
          split
          · omega
          · split
            · have := (parse_sizes (PM.tail (PM.clean s)).1 (by omega)).1
              omega
            · exact (merge_sizes b.path (PM.tail (PM.clean s)).1 (by omega) hb hx).1
theorem same_self (u : PM.Url) : PM.urlSame u u = true := (PM.urlSame_iff u u).2 rfl
theorem few_path {u : PM.Url} (h : PM.few u = true) : u.path.length ≤ 900 ∧ ∀ x ∈ u.path, x.length ≤ 1000000 := ⟨Nat.le_trans (PM.few_all h).1 (by decide), fun x hx => Nat.le_trans ((PM.few_all h).2.1 x hx) (by decide)⟩
theorem Ok_top {u : UV} {W : World} (h : u.Ok W) {b c : Nat} (hb : W.heap[b]? = some (.cells #[.string (mkS [])] 9 (0, 0))) : ({ wayV u (some ⟨b, 0, none⟩) 1 c [[]] with qu := [], hq := false } : UV).Ok W := by
  refine ⟨h.sc, h.us, h.pa, h.n, h.op, by simp [wayV], h.fr, by simp [wayV], fun s hs => ?_, ⟨rfl, by show 1 * 16 ≤ 140737488355328; decide, .inr ⟨b, 0, rfl, h_lt hb, fun j hj => ?_⟩⟩⟩
  · have : s = [] := by simpa [wayV] using hs
    subst this
    simp
  · have hj0 : j = 0 := by simpa [wayV] using hj
    subst hj0
    rw [Lib.cell_of_heap hb]
    rfl
set_option maxRecDepth 100000 in
set_option maxHeartbeats 16000000 in
theorem JoinQuery_c (b : UV) (s : List UInt8) (w : World) (hrb : RdW w b.a b.pn b.xs) (hg : Gl w) (hT : Lib.Utf8Tabs 1 2 w) : Calls Tryz.prog 8 #[.agg b.cells, .string (mkS s)] w fun e w' => e = .returned (.bool true) ∧ Below w.heap.size w w' := by
  have HG := Lib.hid hg
  have HTB := Lib.hid hT
  have Rb := Lib.hid hrb
  clear hg hT hrb
  have HB : Hid (Below w.heap.size w (w.alloc (.cells b.cells 27))) := Lib.hid (b_alloc (Below.refl _ _) _)
  have Hb : Hid ((w.alloc (.cells b.cells 27)).heap[w.heap.size]? = some (.cells b.cells 27 (0, 0))) := Lib.hid ((by have h := Go.heap_alloc_new w (.cells b.cells 27); simpa using h))
  go_enter Tryz.func8, Tryz.ntmps8
  go_upto_region 1 with fail
  generalize w.alloc (.cells b.cells 27) = V0 at HB Hb ⊢
  go_wp2_with fail
  refine (awake11_c _ (HG.out.below HB.out) (tabs_below HTB.out HB.out)).mono ?_
  rintro e V1 ⟨rfl, hb⟩
  replace HB := Lib.hid (b_then HB.out hb)
  replace Hb := Lib.hid (obj_b hb Hb.out)
  clear hb
  go_wp2_with (first | go_skip | (refine wpList_load_g 27 _ rfl (by kernel_rfl) w.heap.size rfl Hb.out Tryz.underlying27 rfl (by kernel_rfl) ?_))
  refine (Few_c b _ (Rb.out.below HB.out)).mono ?_
  rintro e V2 ⟨rfl, hb⟩
  replace HB := Lib.hid (b_then HB.out hb)
  replace Hb := Lib.hid (obj_b hb Hb.out)
  clear hb
  cases hfb : PM.few b.pm
  · go_wp2
    go_ret
    exact ⟨rfl, HB.out⟩
  have Ob := Lib.hid (few_ok (Rb.out.below HB.out) hfb)
  have Fb := Lib.hid hfb
  clear hfb
  by_cases hls : 100 < s.length
  · have hls2 : (100 : Int) < s.length := by omega
    go_wp2
    go_ret
    exact ⟨rfl, HB.out⟩
  have hls2 : decide ((100 : Int) < (s.length : Int)) = false := decide_eq_false (by omega)
  have HLs : Hid (s.length ≤ 100) := Lib.hid (by omega)
  clear hls
  obtain ⟨m, hm⟩ : ∃ m, PM.urlMay b.pm = m := ⟨_, rfl⟩
  have HMb := Lib.hid hm
  clear hm
  go_wp2_with (first | go_skip | (refine wpList_load_g 27 _ rfl (by kernel_rfl) w.heap.size rfl Hb.out Tryz.underlying27 rfl (by kernel_rfl) ?_))
  refine (urlMay_c b _ Ob.out (HG.out.below HB.out)).mono ?_
  rw [HMb.out]
  rintro e V3 ⟨rfl, hb⟩
  replace HB := Lib.hid (b_then HB.out hb)
  replace Hb := Lib.hid (obj_b hb Hb.out)
  replace Ob := Lib.hid (Ob.out.below hb)
  clear hb
  cases m
  · go_wp2
    go_ret
    exact ⟨rfl, HB.out⟩
  have c0 : V3.cell? ⟨w.heap.size, 0, none⟩ = some (.string (mkS b.sc)) := by rw [Lib.cell_of_heap Hb.out]; rfl
  go_wp2_with fail
  refine (Web_c b.sc _).mono ?_
  rintro e V4 ⟨rfl, rfl⟩
  clear c0
  by_cases hw : PM.web b.sc = 0
  · have hw2 : (PM.web b.sc == 0) = true := by simpa using hw
    clear hw
    go_wp2
    go_ret
    exact ⟨rfl, HB.out⟩
  have hw2 : (PM.web b.sc == 0) = false := by simpa using hw
  have HW : Hid (PM.web b.pm.scheme ≠ 0) := Lib.hid hw
  clear hw
  have l1 : ¬ 9223372036854775807 < 1 + s.length := by have := HLs.out; omega
  have he : ({ data := #[63] } : ByteArray) ++ mkS s = mkS (63 :: s) := by
    show mkS [63] ++ mkS s = _
    rw [mkS_append]
    rfl
  have HE := Lib.hid he
  clear he
  obtain ⟨z0, hz1, hz2⟩ := PM.resolve_query HMb.out HW.out s
  have HZ1 := Lib.hid hz1
  have HZ2 := Lib.hid hz2
  clear hz1 hz2
  go_wp2_with (first | go_skip | (refine wpList_load_g 27 _ rfl (by kernel_rfl) w.heap.size rfl Hb.out Tryz.underlying27 rfl (by kernel_rfl) ?_))
  rw [HE.out]
  refine (Resolve_c b (63 :: s) _ (by have := HLs.out; simp; omega) Ob.out (Nat.le_trans (PM.few_all Fb.out).1 (by decide)) (HG.out.below HB.out) (tabs_below HTB.out HB.out)).mono ?_
  rintro e V5 ⟨hp, hb⟩
  obtain ⟨x, rfl, hxp, hxo⟩ := parse_ok hp HZ1.out (by rw [HZ2.out]; exact Nat.le_trans (few_path Fb.out).1 (by decide))
  have Px := Lib.hid hxp
  have Ox := Lib.hid hxo
  clear hp hxp hxo l1
  replace HB := Lib.hid (b_then HB.out hb)
  replace Hb := Lib.hid (obj_b hb Hb.out)
  replace Ob := Lib.hid (Ob.out.below hb)
  clear hb
  have HN := Lib.hid (Go.heap_alloc_new V5 (.cells zurl 27))
  unfold zurl at HN 
  go_upto_region 6 with (first | (refine wpList_store_row rfl 27 _ _ rfl V5.heap.size x.cells rfl rfl 27 _ HN.out (by kernel_rfl) rfl (agg_one x) ?_))
  obtain ⟨V6, hV⟩ : ∃ V6, V6 = (V5.alloc (.cells #[.string ⟨#[]⟩, .string ⟨#[]⟩, .string ⟨#[]⟩, .int .i64 0, .string ⟨#[]⟩, .int .i64 0, .int .i64 0, .int .i64 0, .int .i64 0, .int .i64 0, .int .i64 0, .int .i64 0, .int .i64 0, .int .i64 0, .int .i64 0, .slice none 0 0, .string ⟨#[]⟩, .string ⟨#[]⟩, .string ⟨#[]⟩, .bool false, .bool false] 27)).setRow V5.heap.size x.cells := ⟨_, rfl⟩
  have hN : V6.heap[V5.heap.size]? = some (.cells x.cells 27 (0, 0)) := by rw [hV]; exact heap_setRow HN.out _
  have hb : Below V5.heap.size V5 V6 := by rw [hV]; exact below_setRow (b_alloc (Below.refl _ _) _) (Nat.le_refl _) _
  rw [← hV]
  clear hV HN 
  have Hx := Lib.hid hN
  clear hN
  have hlt_kx_Hb : w.heap.size < V5.heap.size := h_lt Hb.out
  have hlw_kx : w.heap.size ≤ V5.heap.size := HB.out.size
  replace HB := Lib.hid (b_then HB.out hb)
  replace Hb := Lib.hid (obj_b hb Hb.out)
  replace Ob := Lib.hid (Ob.out.below hb)
  replace Ox := Lib.hid (Ox.out.below hb)
  clear hb
  generalize V5.heap.size = kx at Hx hlt_kx_Hb hlw_kx ⊢
  (try simp only [Act.put])
  go_wp2_with (first | go_skip | (refine wpList_load_g 27 _ rfl (by kernel_rfl) w.heap.size rfl Hb.out Tryz.underlying27 rfl (by kernel_rfl) ?_))
  refine (show Calls Tryz.prog 25 #[.agg b.cells, .string ⟨#[47]⟩] _ _ from Resolve_c b [47] _ (by decide) Ob.out (Nat.le_trans (PM.few_all Fb.out).1 (by decide)) (HG.out.below HB.out) (tabs_below HTB.out HB.out)).mono ?_
  rintro e V7 ⟨hp, hb⟩
  obtain ⟨t, rfl, hxp, hxo⟩ := parse_ok hp (PM.resolve_top HMb.out HW.out) (by show ([[]] : List (List UInt8)).length ≤ 10000; decide)
  have Pt := Lib.hid hxp
  have Ot := Lib.hid hxo
  clear hp hxp hxo
  replace HB := Lib.hid (b_then HB.out hb)
  replace Hb := Lib.hid (obj_b hb Hb.out)
  replace Hx := Lib.hid (obj_b hb Hx.out)
  replace Ob := Lib.hid (Ob.out.below hb)
  replace Ox := Lib.hid (Ox.out.below hb)
  clear hb
  have HN := Lib.hid (Go.heap_alloc_new V7 (.cells zurl 27))
  unfold zurl at HN 
  go_upto_region 7 with (first | (refine wpList_store_row rfl 27 _ _ rfl V7.heap.size t.cells rfl rfl 27 _ HN.out (by kernel_rfl) rfl (agg_one t) ?_))
  obtain ⟨V8, hV⟩ : ∃ V8, V8 = (V7.alloc (.cells #[.string ⟨#[]⟩, .string ⟨#[]⟩, .string ⟨#[]⟩, .int .i64 0, .string ⟨#[]⟩, .int .i64 0, .int .i64 0, .int .i64 0, .int .i64 0, .int .i64 0, .int .i64 0, .int .i64 0, .int .i64 0, .int .i64 0, .int .i64 0, .slice none 0 0, .string ⟨#[]⟩, .string ⟨#[]⟩, .string ⟨#[]⟩, .bool false, .bool false] 27)).setRow V7.heap.size t.cells := ⟨_, rfl⟩
  have hN : V8.heap[V7.heap.size]? = some (.cells t.cells 27 (0, 0)) := by rw [hV]; exact heap_setRow HN.out _
  have hb : Below V7.heap.size V7 V8 := by rw [hV]; exact below_setRow (b_alloc (Below.refl _ _) _) (Nat.le_refl _) _
  rw [← hV]
  clear hV HN 
  have Ht := Lib.hid hN
  clear hN
  have hlt_kt_Hb : w.heap.size < V7.heap.size := h_lt Hb.out
  have hlt_kt_Hx : kx < V7.heap.size := h_lt Hx.out
  have hlw_kt : w.heap.size ≤ V7.heap.size := HB.out.size
  replace HB := Lib.hid (b_then HB.out hb)
  replace Hb := Lib.hid (obj_b hb Hb.out)
  replace Hx := Lib.hid (obj_b hb Hx.out)
  replace Ob := Lib.hid (Ob.out.below hb)
  replace Ox := Lib.hid (Ox.out.below hb)
  replace Ot := Lib.hid (Ot.out.below hb)
  clear hb
  generalize V7.heap.size = kt at Ht hlt_kt_Hb hlt_kt_Hx hlw_kt ⊢
  (try simp only [Act.put])
  go_wp2_with (first | go_skip | (refine wpList_load_g 27 _ rfl (by kernel_rfl) w.heap.size rfl Hb.out Tryz.underlying27 rfl (by kernel_rfl) ?_))
  refine (Bare_c b _ Ob.out).mono ?_
  rintro e V9 ⟨y, rfl, hyp, hyo, -, hb⟩
  have Py := Lib.hid hyp
  have Oy := Lib.hid hyo
  clear hyp hyo
  replace HB := Lib.hid (b_then HB.out hb)
  replace Hb := Lib.hid (obj_b hb Hb.out)
  replace Hx := Lib.hid (obj_b hb Hx.out)
  replace Ht := Lib.hid (obj_b hb Ht.out)
  replace Ob := Lib.hid (Ob.out.below hb)
  replace Ox := Lib.hid (Ox.out.below hb)
  replace Ot := Lib.hid (Ot.out.below hb)
  clear hb
  obtain ⟨Z0, hZ0⟩ : ∃ Z0, Z0 = V9 := ⟨_, rfl⟩
  have HVN : Hid (Below Z0.heap.size Z0 V9) := Lib.hid (by rw [hZ0]; exact Below.refl _ _)
  replace Ox : Hid (x.Ok Z0) := Lib.hid (by rw [hZ0]; exact Ox.out)
  replace Ot : Hid (t.Ok Z0) := Lib.hid (by rw [hZ0]; exact Ot.out)
  replace Oy : Hid (y.Ok Z0) := Lib.hid (by rw [hZ0]; exact Oy.out)
  clear Ob hZ0
  have HN := Lib.hid (Go.heap_alloc_new V9 (.cells zurl 27))
  unfold zurl at HN 
  go_upto_region 8 with (first | (refine wpList_store_row rfl 27 _ _ rfl V9.heap.size y.cells rfl rfl 27 _ HN.out (by kernel_rfl) rfl (agg_one y) ?_))
  obtain ⟨V10, hV⟩ : ∃ V10, V10 = (V9.alloc (.cells #[.string ⟨#[]⟩, .string ⟨#[]⟩, .string ⟨#[]⟩, .int .i64 0, .string ⟨#[]⟩, .int .i64 0, .int .i64 0, .int .i64 0, .int .i64 0, .int .i64 0, .int .i64 0, .int .i64 0, .int .i64 0, .int .i64 0, .int .i64 0, .slice none 0 0, .string ⟨#[]⟩, .string ⟨#[]⟩, .string ⟨#[]⟩, .bool false, .bool false] 27)).setRow V9.heap.size y.cells := ⟨_, rfl⟩
  have hN : V10.heap[V9.heap.size]? = some (.cells y.cells 27 (0, 0)) := by rw [hV]; exact heap_setRow HN.out _
  have hb : Below V9.heap.size V9 V10 := by rw [hV]; exact below_setRow (b_alloc (Below.refl _ _) _) (Nat.le_refl _) _
  rw [← hV]
  clear hV HN 
  have Hy := Lib.hid hN
  clear hN
  have hlt_ky_Hb : w.heap.size < V9.heap.size := h_lt Hb.out
  have hlt_ky_Hx : kx < V9.heap.size := h_lt Hx.out
  have hlt_ky_Ht : kt < V9.heap.size := h_lt Ht.out
  have hlw_ky : w.heap.size ≤ V9.heap.size := HB.out.size
  have hle_ky_HVN : Z0.heap.size ≤ V9.heap.size := HVN.out.size
  replace HB := Lib.hid (b_then HB.out hb)
  replace Hb := Lib.hid (obj_b hb Hb.out)
  replace Hx := Lib.hid (obj_b hb Hx.out)
  replace Ht := Lib.hid (obj_b hb Ht.out)
  replace HVN := Lib.hid (b_then HVN.out hb)
  clear hb
  generalize V9.heap.size = ky at Hy hlt_ky_Hb hlt_ky_Hx hlt_ky_Ht hlw_ky hle_ky_HVN ⊢
  (try simp only [Act.put])
  have HN := Lib.hid (Go.heap_alloc_new V10 (.cells zurl 27))
  have Hy2 := Lib.hid (obj_b (b_alloc (Below.refl _ _) (.cells zurl 27)) Hy.out)
  unfold zurl at HN Hy2
  go_upto_region 9 with (first | (refine wpList_load_g 27 _ rfl (by kernel_rfl) ky rfl Hy2.out Tryz.underlying27 rfl (by kernel_rfl) ?_) | (refine wpList_load_g 27 _ rfl (by kernel_rfl) ky rfl Hy.out Tryz.underlying27 rfl (by kernel_rfl) ?_) | (refine wpList_store_row rfl 27 _ _ rfl V10.heap.size y.cells rfl rfl 27 _ HN.out (by kernel_rfl) rfl (agg_one y) ?_))
  obtain ⟨V11, hV⟩ : ∃ V11, V11 = (V10.alloc (.cells #[.string ⟨#[]⟩, .string ⟨#[]⟩, .string ⟨#[]⟩, .int .i64 0, .string ⟨#[]⟩, .int .i64 0, .int .i64 0, .int .i64 0, .int .i64 0, .int .i64 0, .int .i64 0, .int .i64 0, .int .i64 0, .int .i64 0, .int .i64 0, .slice none 0 0, .string ⟨#[]⟩, .string ⟨#[]⟩, .string ⟨#[]⟩, .bool false, .bool false] 27)).setRow V10.heap.size y.cells := ⟨_, rfl⟩
  have hN : V11.heap[V10.heap.size]? = some (.cells y.cells 27 (0, 0)) := by rw [hV]; exact heap_setRow HN.out _
  have hb : Below V10.heap.size V10 V11 := by rw [hV]; exact below_setRow (b_alloc (Below.refl _ _) _) (Nat.le_refl _) _
  rw [← hV]
  clear hV HN Hy2
  have Hz := Lib.hid hN
  clear hN
  have hlt_kz_Hb : w.heap.size < V10.heap.size := h_lt Hb.out
  have hlt_kz_Hx : kx < V10.heap.size := h_lt Hx.out
  have hlt_kz_Ht : kt < V10.heap.size := h_lt Ht.out
  have hlt_kz_Hy : ky < V10.heap.size := h_lt Hy.out
  have hlw_kz : w.heap.size ≤ V10.heap.size := HB.out.size
  have hle_kz_HVN : Z0.heap.size ≤ V10.heap.size := HVN.out.size
  replace HB := Lib.hid (b_then HB.out hb)
  replace Hb := Lib.hid (obj_b hb Hb.out)
  replace Hx := Lib.hid (obj_b hb Hx.out)
  replace Ht := Lib.hid (obj_b hb Ht.out)
  replace Hy := Lib.hid (obj_b hb Hy.out)
  replace HVN := Lib.hid (b_then HVN.out hb)
  clear hb
  generalize V10.heap.size = kz at Hz hlt_kz_Hb hlt_kz_Hx hlt_kz_Ht hlt_kz_Hy hlw_kz hle_kz_HVN ⊢
  (try simp only [Act.put])
  have cx : V11.cell? ⟨kx, 17, none⟩ = some (.string (mkS x.qu)) := by rw [Lib.cell_of_heap Hx.out]; rfl
  have ff := Lib.frozen_of_heap Hy.out 17
  have dd : V11.cell? ⟨ky, 17, none⟩ = some (.string (mkS y.qu)) := by rw [Lib.cell_of_heap Hy.out]; rfl
  go_upto_region 10 with fail
  clear ff dd cx
  obtain ⟨S1, hV⟩ : ∃ S1, S1 = V11.setCell ⟨ky, 17, none⟩ (.string (mkS x.qu)) := ⟨_, rfl⟩
  rw [← hV]
  replace Hy := Lib.hid (show S1.heap[ky]? = some (.cells (({ y with qu := x.qu } : UV)).cells 27 (0, 0)) from by rw [hV]; exact setCell_heap Hy.out 17 _)
  replace Hb := Lib.hid (show S1.heap[w.heap.size]? = some (.cells _ 27 (0, 0)) from by rw [hV]; exact heap_set_other Hb.out _ _ _ (by omega))
  replace Hx := Lib.hid (show S1.heap[kx]? = some (.cells _ 27 (0, 0)) from by rw [hV]; exact heap_set_other Hx.out _ _ _ (by omega))
  replace Ht := Lib.hid (show S1.heap[kt]? = some (.cells _ 27 (0, 0)) from by rw [hV]; exact heap_set_other Ht.out _ _ _ (by omega))
  replace Hz := Lib.hid (show S1.heap[kz]? = some (.cells _ 27 (0, 0)) from by rw [hV]; exact heap_set_other Hz.out _ _ _ (by omega))
  replace HB := Lib.hid (show Below w.heap.size w S1 from by rw [hV]; exact b_set HB.out _ hlw_ky _)
  replace HVN := Lib.hid (show Below Z0.heap.size Z0 S1 from by rw [hV]; exact b_set HVN.out _ hle_ky_HVN _)
  clear hV
  have ff := Lib.frozen_of_heap Hy.out 19
  have dd : S1.cell? ⟨ky, 19, none⟩ = some (.bool y.hq) := by rw [Lib.cell_of_heap Hy.out]; rfl
  go_upto_region 11 with fail
  clear ff dd
  obtain ⟨S2, hV⟩ : ∃ S2, S2 = S1.setCell ⟨ky, 19, none⟩ (.bool true) := ⟨_, rfl⟩
  rw [← hV]
  replace Hy := Lib.hid (show S2.heap[ky]? = some (.cells (({ y with qu := x.qu, hq := true } : UV)).cells 27 (0, 0)) from by rw [hV]; exact setCell_heap Hy.out 19 _)
  replace Hb := Lib.hid (show S2.heap[w.heap.size]? = some (.cells _ 27 (0, 0)) from by rw [hV]; exact heap_set_other Hb.out _ _ _ (by omega))
  replace Hx := Lib.hid (show S2.heap[kx]? = some (.cells _ 27 (0, 0)) from by rw [hV]; exact heap_set_other Hx.out _ _ _ (by omega))
  replace Ht := Lib.hid (show S2.heap[kt]? = some (.cells _ 27 (0, 0)) from by rw [hV]; exact heap_set_other Ht.out _ _ _ (by omega))
  replace Hz := Lib.hid (show S2.heap[kz]? = some (.cells _ 27 (0, 0)) from by rw [hV]; exact heap_set_other Hz.out _ _ _ (by omega))
  replace HB := Lib.hid (show Below w.heap.size w S2 from by rw [hV]; exact b_set HB.out _ hlw_ky _)
  replace HVN := Lib.hid (show Below Z0.heap.size Z0 S2 from by rw [hV]; exact b_set HVN.out _ hle_ky_HVN _)
  clear hV
  have cx : S2.cell? ⟨kx, 18, none⟩ = some (.string (mkS x.fr)) := by rw [Lib.cell_of_heap Hx.out]; rfl
  have ff := Lib.frozen_of_heap Hy.out 18
  have dd : S2.cell? ⟨ky, 18, none⟩ = some (.string (mkS y.fr)) := by rw [Lib.cell_of_heap Hy.out]; rfl
  go_upto_region 12 with fail
  clear ff dd cx
  obtain ⟨S3, hV⟩ : ∃ S3, S3 = S2.setCell ⟨ky, 18, none⟩ (.string (mkS x.fr)) := ⟨_, rfl⟩
  rw [← hV]
  replace Hy := Lib.hid (show S3.heap[ky]? = some (.cells (({ y with qu := x.qu, hq := true, fr := x.fr } : UV)).cells 27 (0, 0)) from by rw [hV]; exact setCell_heap Hy.out 18 _)
  replace Hb := Lib.hid (show S3.heap[w.heap.size]? = some (.cells _ 27 (0, 0)) from by rw [hV]; exact heap_set_other Hb.out _ _ _ (by omega))
  replace Hx := Lib.hid (show S3.heap[kx]? = some (.cells _ 27 (0, 0)) from by rw [hV]; exact heap_set_other Hx.out _ _ _ (by omega))
  replace Ht := Lib.hid (show S3.heap[kt]? = some (.cells _ 27 (0, 0)) from by rw [hV]; exact heap_set_other Ht.out _ _ _ (by omega))
  replace Hz := Lib.hid (show S3.heap[kz]? = some (.cells _ 27 (0, 0)) from by rw [hV]; exact heap_set_other Hz.out _ _ _ (by omega))
  replace HB := Lib.hid (show Below w.heap.size w S3 from by rw [hV]; exact b_set HB.out _ hlw_ky _)
  replace HVN := Lib.hid (show Below Z0.heap.size Z0 S3 from by rw [hV]; exact b_set HVN.out _ hle_ky_HVN _)
  clear hV
  have cx : S3.cell? ⟨kx, 20, none⟩ = some (.bool x.hf) := by rw [Lib.cell_of_heap Hx.out]; rfl
  have ff := Lib.frozen_of_heap Hy.out 20
  have dd : S3.cell? ⟨ky, 20, none⟩ = some (.bool y.hf) := by rw [Lib.cell_of_heap Hy.out]; rfl
  go_upto_region 13 with fail
  clear ff dd cx
  obtain ⟨S4, hV⟩ : ∃ S4, S4 = S3.setCell ⟨ky, 20, none⟩ (.bool x.hf) := ⟨_, rfl⟩
  rw [← hV]
  replace Hy := Lib.hid (show S4.heap[ky]? = some (.cells (({ y with qu := x.qu, hq := true, fr := x.fr, hf := x.hf } : UV)).cells 27 (0, 0)) from by rw [hV]; exact setCell_heap Hy.out 20 _)
  replace Hb := Lib.hid (show S4.heap[w.heap.size]? = some (.cells _ 27 (0, 0)) from by rw [hV]; exact heap_set_other Hb.out _ _ _ (by omega))
  replace Hx := Lib.hid (show S4.heap[kx]? = some (.cells _ 27 (0, 0)) from by rw [hV]; exact heap_set_other Hx.out _ _ _ (by omega))
  replace Ht := Lib.hid (show S4.heap[kt]? = some (.cells _ 27 (0, 0)) from by rw [hV]; exact heap_set_other Ht.out _ _ _ (by omega))
  replace Hz := Lib.hid (show S4.heap[kz]? = some (.cells _ 27 (0, 0)) from by rw [hV]; exact heap_set_other Hz.out _ _ _ (by omega))
  replace HB := Lib.hid (show Below w.heap.size w S4 from by rw [hV]; exact b_set HB.out _ hlw_ky _)
  replace HVN := Lib.hid (show Below Z0.heap.size Z0 S4 from by rw [hV]; exact b_set HVN.out _ hle_ky_HVN _)
  clear hV
  have f15 := Lib.frozen_of_heap (obj_b (b_alloc (Below.refl _ _) (.cells #[.string { data := #[] }] 9)) Hz.out) 15
  have d15 : (S4.alloc (.cells #[.string { data := #[] }] 9)).cell? ⟨kz, 15, none⟩ = some (.slice y.a y.pn y.pc) := by rw [Lib.cell_of_heap (obj_b (b_alloc (Below.refl _ _) (.cells #[.string { data := #[] }] 9)) Hz.out)]; rfl
  go_upto_region 14 with fail
  clear f15 d15
  have hlt_HAR : kz < S4.heap.size := h_lt Hz.out
  obtain ⟨S8, hV⟩ : ∃ S8, S8 = (S4.alloc (.cells #[.string { data := #[] }] 9)).setCell ⟨kz, 15, none⟩ (.slice (some ⟨S4.heap.size, 0, none⟩) 1 1) := ⟨_, rfl⟩
  rw [← hV]
  have HAR := Lib.hid (show S8.heap[S4.heap.size]? = some (.cells #[.string { data := #[] }] 9 (0, 0)) from by rw [hV]; exact heap_set_other (Go.heap_alloc_new _ _) _ _ _ (by have := h_lt Hz.out; omega))
  replace Hb := Lib.hid (show S8.heap[w.heap.size]? = some (.cells _ 27 (0, 0)) from by rw [hV]; exact heap_set_other (obj_b (b_alloc (Below.refl _ _) _) Hb.out) _ _ _ (by omega))
  replace Hx := Lib.hid (show S8.heap[kx]? = some (.cells _ 27 (0, 0)) from by rw [hV]; exact heap_set_other (obj_b (b_alloc (Below.refl _ _) _) Hx.out) _ _ _ (by omega))
  replace Ht := Lib.hid (show S8.heap[kt]? = some (.cells _ 27 (0, 0)) from by rw [hV]; exact heap_set_other (obj_b (b_alloc (Below.refl _ _) _) Ht.out) _ _ _ (by omega))
  replace Hy := Lib.hid (show S8.heap[ky]? = some (.cells _ 27 (0, 0)) from by rw [hV]; exact heap_set_other (obj_b (b_alloc (Below.refl _ _) _) Hy.out) _ _ _ (by omega))
  replace Hz := Lib.hid (show S8.heap[kz]? = some (.cells (wayV y (some ⟨S4.heap.size, 0, none⟩) 1 1 [[]]).cells 27 (0, 0)) from by rw [hV]; exact setCell_heap (obj_b (b_alloc (Below.refl _ _) _) Hz.out) 15 _)
  replace HB := Lib.hid (show Below w.heap.size w S8 from by rw [hV]; exact b_set (b_alloc HB.out _) _ hlw_kz _)
  replace HVN := Lib.hid (show Below Z0.heap.size Z0 S8 from by rw [hV]; exact b_set (b_alloc HVN.out _) _ hle_kz_HVN _)
  clear hV
  have hw3 : w.heap.size ≤ S4.heap.size := by omega
  skip
  generalize S4.heap.size = ba at HAR Hz hlt_HAR hw3 ⊢
  have ff := Lib.frozen_of_heap Hz.out 17
  have dd : S8.cell? ⟨kz, 17, none⟩ = some (.string (mkS y.qu)) := by rw [Lib.cell_of_heap Hz.out]; rfl
  go_upto_region 15 with fail
  clear ff dd
  obtain ⟨S9, hV⟩ : ∃ S9, S9 = S8.setCell ⟨kz, 17, none⟩ (.string ⟨#[]⟩) := ⟨_, rfl⟩
  rw [← hV]
  replace Hz := Lib.hid (show S9.heap[kz]? = some (.cells (({ wayV y (some ⟨ba, 0, none⟩) 1 1 [[]] with qu := [] } : UV)).cells 27 (0, 0)) from by rw [hV]; exact setCell_heap Hz.out 17 _)
  replace Hb := Lib.hid (show S9.heap[w.heap.size]? = some (.cells _ 27 (0, 0)) from by rw [hV]; exact heap_set_other Hb.out _ _ _ (by omega))
  replace Hx := Lib.hid (show S9.heap[kx]? = some (.cells _ 27 (0, 0)) from by rw [hV]; exact heap_set_other Hx.out _ _ _ (by omega))
  replace Ht := Lib.hid (show S9.heap[kt]? = some (.cells _ 27 (0, 0)) from by rw [hV]; exact heap_set_other Ht.out _ _ _ (by omega))
  replace Hy := Lib.hid (show S9.heap[ky]? = some (.cells _ 27 (0, 0)) from by rw [hV]; exact heap_set_other Hy.out _ _ _ (by omega))
  replace HAR := Lib.hid (show S9.heap[ba]? = some (.cells _ 9 (0, 0)) from by rw [hV]; exact heap_set_other HAR.out _ _ _ (by omega))
  replace HB := Lib.hid (show Below w.heap.size w S9 from by rw [hV]; exact b_set HB.out _ hlw_kz _)
  replace HVN := Lib.hid (show Below Z0.heap.size Z0 S9 from by rw [hV]; exact b_set HVN.out _ hle_kz_HVN _)
  clear hV
  have ff := Lib.frozen_of_heap Hz.out 19
  have dd : S9.cell? ⟨kz, 19, none⟩ = some (.bool y.hq) := by rw [Lib.cell_of_heap Hz.out]; rfl
  go_upto_region 16 with fail
  clear ff dd
  obtain ⟨S10, hV⟩ : ∃ S10, S10 = S9.setCell ⟨kz, 19, none⟩ (.bool false) := ⟨_, rfl⟩
  rw [← hV]
  replace Hz := Lib.hid (show S10.heap[kz]? = some (.cells (({ wayV y (some ⟨ba, 0, none⟩) 1 1 [[]] with qu := [], hq := false } : UV)).cells 27 (0, 0)) from by rw [hV]; exact setCell_heap Hz.out 19 _)
  replace Hb := Lib.hid (show S10.heap[w.heap.size]? = some (.cells _ 27 (0, 0)) from by rw [hV]; exact heap_set_other Hb.out _ _ _ (by omega))
  replace Hx := Lib.hid (show S10.heap[kx]? = some (.cells _ 27 (0, 0)) from by rw [hV]; exact heap_set_other Hx.out _ _ _ (by omega))
  replace Ht := Lib.hid (show S10.heap[kt]? = some (.cells _ 27 (0, 0)) from by rw [hV]; exact heap_set_other Ht.out _ _ _ (by omega))
  replace Hy := Lib.hid (show S10.heap[ky]? = some (.cells _ 27 (0, 0)) from by rw [hV]; exact heap_set_other Hy.out _ _ _ (by omega))
  replace HAR := Lib.hid (show S10.heap[ba]? = some (.cells _ 9 (0, 0)) from by rw [hV]; exact heap_set_other HAR.out _ _ _ (by omega))
  replace HB := Lib.hid (show Below w.heap.size w S10 from by rw [hV]; exact b_set HB.out _ hlw_kz _)
  replace HVN := Lib.hid (show Below Z0.heap.size Z0 S10 from by rw [hV]; exact b_set HVN.out _ hle_kz_HVN _)
  clear hV
  have h4 : ({ y with qu := x.qu, hq := true, fr := x.fr, hf := x.hf } : UV).pm = x.pm := by
    have h : ({ y with qu := x.qu, hq := true, fr := x.fr, hf := x.hf } : UV).pm = { y.pm with query := x.pm.query, hasQuery := true, frag := x.pm.frag, hasFrag := x.pm.hasFrag } := rfl
    rw [h, Py.out, Px.out]
    exact HZ2.out.symm
  have h5 : ({ wayV y (some ⟨ba, 0, none⟩) 1 1 [[]] with qu := [], hq := false } : UV).pm = t.pm := by
    have h : ({ wayV y (some ⟨ba, 0, none⟩) 1 1 [[]] with qu := [], hq := false } : UV).pm = { y.pm with path := [[]], query := [], hasQuery := false } := rfl
    rw [h, Py.out, Pt.out]
  have oy := Oy.out.below HVN.out
  have ox := Ox.out.below HVN.out
  have ot := Ot.out.below HVN.out
  have oy4 : ({ y with qu := x.qu, hq := true, fr := x.fr, hf := x.hf } : UV).Ok S10 := ⟨oy.sc, oy.us, oy.pa, oy.n, oy.op, ox.qu, ox.fr, oy.xn, oy.xl, oy.rd⟩
  have oz3 : ({ wayV y (some ⟨ba, 0, none⟩) 1 1 [[]] with qu := [], hq := false } : UV).Ok S10 := Ok_top oy HAR.out
  have H4 := Lib.hid h4
  have H5 := Lib.hid h5
  have OX := Lib.hid ox
  have OT := Lib.hid ot
  have OY4 := Lib.hid oy4
  have OZ3 := Lib.hid oz3
  clear h4 h5 oy ox ot oy4 oz3 Ox Ot Oy HVN
  clear HAR
  go_wp2_with (first | go_skip | (refine wpList_load_g 27 _ rfl (by kernel_rfl) kx rfl Hx.out Tryz.underlying27 rfl (by kernel_rfl) ?_) | (refine wpList_load_g 27 _ rfl (by kernel_rfl) ky rfl Hy.out Tryz.underlying27 rfl (by kernel_rfl) ?_) | (refine wpList_load_g 27 _ rfl (by kernel_rfl) kt rfl Ht.out Tryz.underlying27 rfl (by kernel_rfl) ?_) | (refine wpList_load_g 27 _ rfl (by kernel_rfl) kz rfl Hz.out Tryz.underlying27 rfl (by kernel_rfl) ?_))
  refine (UrlSame_c x ({ y with qu := x.qu, hq := true, fr := x.fr, hf := x.hf } : UV) _ OX.out OY4.out).mono ?_
  rw [H4.out, same_self]
  rintro e V201 ⟨rfl, hb⟩
  replace HB := Lib.hid (b_then HB.out hb)
  replace Hb := Lib.hid (obj_b hb Hb.out)
  replace Hx := Lib.hid (obj_b hb Hx.out)
  replace Ht := Lib.hid (obj_b hb Ht.out)
  replace Hy := Lib.hid (obj_b hb Hy.out)
  replace Hz := Lib.hid (obj_b hb Hz.out)
  replace OX := Lib.hid (OX.out.below hb)
  replace OT := Lib.hid (OT.out.below hb)
  replace OY4 := Lib.hid (OY4.out.below hb)
  replace OZ3 := Lib.hid (OZ3.out.below hb)
  clear hb
  go_wp2_with (first | go_skip | (refine wpList_load_g 27 _ rfl (by kernel_rfl) kx rfl Hx.out Tryz.underlying27 rfl (by kernel_rfl) ?_) | (refine wpList_load_g 27 _ rfl (by kernel_rfl) ky rfl Hy.out Tryz.underlying27 rfl (by kernel_rfl) ?_) | (refine wpList_load_g 27 _ rfl (by kernel_rfl) kt rfl Ht.out Tryz.underlying27 rfl (by kernel_rfl) ?_) | (refine wpList_load_g 27 _ rfl (by kernel_rfl) kz rfl Hz.out Tryz.underlying27 rfl (by kernel_rfl) ?_))
  refine (UrlSame_c t ({ wayV y (some ⟨ba, 0, none⟩) 1 1 [[]] with qu := [], hq := false } : UV) _ OT.out OZ3.out).mono ?_
  rw [H5.out, same_self]
  rintro e V202 ⟨rfl, hb⟩
  replace HB := Lib.hid (b_then HB.out hb)
  replace Hb := Lib.hid (obj_b hb Hb.out)
  replace Hx := Lib.hid (obj_b hb Hx.out)
  replace Ht := Lib.hid (obj_b hb Ht.out)
  replace Hy := Lib.hid (obj_b hb Hy.out)
  replace Hz := Lib.hid (obj_b hb Hz.out)
  replace OX := Lib.hid (OX.out.below hb)
  replace OT := Lib.hid (OT.out.below hb)
  replace OY4 := Lib.hid (OY4.out.below hb)
  replace OZ3 := Lib.hid (OZ3.out.below hb)
  clear hb
  go_wp2
  go_ret
  exact ⟨rfl, HB.out⟩
end Go.Proofs.YtphigjogeejdjaaGreatDoor
/-! The row of JoinQuery. -/
namespace Go.Proofs.YtphigjogeejdjaaGreatDoor
open Go.ChangeShapes Go.WideShapes Go.ChangeAt Go.RowKit
open Go.WideMaps Go.WideElems
open Go.ChangeMaps (open_string shut_string)
theorem joinQuery_reads (os : Os) {H : Type} (enc : TypeId × Value → H) : ∃ x, DataW.whole enc Tryz.prog ((laidWorld os).forCall (fun _ _ => 0) ⟨#[], #[.agg #[.string ⟨#[]⟩, .string ⟨#[]⟩, .string ⟨#[]⟩, .int .i64 0, .string ⟨#[]⟩, .int .i64 0, .int .i64 0, .int .i64 0, .int .i64 0, .int .i64 0, .int .i64 0, .int .i64 0, .int .i64 0, .int .i64 0, .int .i64 0, .slice none 0 0, .string ⟨#[]⟩, .string ⟨#[]⟩, .string ⟨#[]⟩, .bool false, .bool false], .string ⟨#[]⟩], []⟩).memory Tryz.f8.params.toList Rows.joinQuerySpec.vars false (#[.agg #[.string ⟨#[]⟩, .string ⟨#[]⟩, .string ⟨#[]⟩, .int .i64 0, .string ⟨#[]⟩, .int .i64 0, .int .i64 0, .int .i64 0, .int .i64 0, .int .i64 0, .int .i64 0, .int .i64 0, .int .i64 0, .int .i64 0, .int .i64 0, .slice none 0 0, .string ⟨#[]⟩, .string ⟨#[]⟩, .string ⟨#[]⟩, .bool false, .bool false], .string ⟨#[]⟩] : Array Value).toList 8 = some x :=
  Option.isSome_iff_exists.1 (by kernel_rfl)
set_option maxRecDepth 100000 in
theorem joinQuery_lifted (os : Os) (started : os.Started) (H : Type) (enc : TypeId × Value → H) (F : Stop.Interp) :
    ReturnsInHanded {} Tryz.checked os 8 .any ((OpenSpec.ofChange Rows.joinQuerySpec).preRow enc Tryz.prog Tryz.f8 Rows.joinQueryRow.domain false Rows.joinQueryRow.laid) (((OpenSpec.ofChange Rows.joinQuerySpec).at F).post enc Tryz.prog Tryz.f8 false true false false) := by
  obtain ⟨x, hx⟩ := joinQuery_reads os enc
  refine returnsInHanded_of_row (C := Tryz.checked) (s := OpenSpec.ofChange Rows.joinQuerySpec) own started (by kernel_rfl) Tryz.func8
    (witness_row_atRef (enc := enc) (C := Tryz.checked) false (laidWorld os) #[.agg #[.string ⟨#[]⟩, .string ⟨#[]⟩, .string ⟨#[]⟩, .int .i64 0, .string ⟨#[]⟩, .int .i64 0, .int .i64 0, .int .i64 0, .int .i64 0, .int .i64 0, .int .i64 0, .int .i64 0, .int .i64 0, .int .i64 0, .int .i64 0, .slice none 0 0, .string ⟨#[]⟩, .string ⟨#[]⟩, .string ⟨#[]⟩, .bool false, .bool false], .string ⟨#[]⟩] rfl (by kernel_rfl) (by kernel_rfl) (by kernel_rfl)
      (OpenSpec.preRow_of_cond 8 hx rfl (fun k hk => by cases hk) (by kernel_rfl) (laid_met os _))) ?_
  intro W base args ds gs before hval0 hW _ _ _ hL hsh _
  have hval : ∀ (j : Nat) t v, Tryz.f8.params[j]? = some t → args[j]? = some v → Value.okWide Tryz.prog W .any base t v := hval0
  have hW' := hW
  obtain ⟨p, q, hA0, hV, rfl, hfz, hnd⟩ := hW
  have hA : DataW.TrodAll enc Tryz.prog W 0 (fun _ => true) true Tryz.f8.params.toList args.toList ds p := hA0
  rw [Tryz.params8] at hA hval
  obtain ⟨v0, v1, d0, d1, p0, p1, rfl, rfl, rfl, h0, h1⟩ := trodAll_two hA
  obtain ⟨rfl, rfl⟩ := trodVars_none hV
  simp only [List.append_nil] at hfz hnd hW'
  have hlt : ∀ x ∈ p0 ++ p1, x.block < W.heap.size := fun x hx => hW'.lt x hx
  have h0k := h0
  obtain ⟨u0, rfl, hr0⟩ := open_url (hval 0 27 v0 rfl rfl) h0
  have h1k := h1
  obtain ⟨s1, e1, _, _, w1⟩ := open_string Tryz.underlying9 (hval 1 9 v1 rfl rfl) h1
  obtain ⟨l1, rfl⟩ := mkS_surj s1
  subst e1
  refine (JoinQuery_c u0 l1 W hr0 (gl_of hsh) (tabs_laid hL)).mono fun e W' ⟨he, hb⟩ => ?_
  subst he
  refine ⟨_, rfl, _, _, _, [], p0 ++ p1, [], hW', ?_, ?_, ?_, hb.frame _, fun h => by cases h⟩
  · exact trodAll_mk1 (shut_bool Tryz.underlying4 _)
  · exact trodAll_mk2 (Below.trod laidOut (by kernel_rfl) (of_decide_eq_true (by kernel_rfl)) h0k hb (fun x hx => hlt x (by simp [hx]))) (Below.trod laidOut (by kernel_rfl) (of_decide_eq_true (by kernel_rfl)) h1k hb (fun x hx => hlt x (by simp [hx])))
  · rfl
theorem joinQuery_k0 : Rows.joinQueryRow.wf (OpenSpec.ofChange (OpenSpec.ofChange Rows.joinQuerySpec).bare) = true := by kernel_rfl
theorem joinQuery_k3 : Tryz.f8.params.all (PP.readableRec ·) = true := by kernel_rfl
theorem joinQuery_k4 : namedTie PP Rows.joinQueryRow.named (OpenSpec.ofChange Rows.joinQuerySpec).bare.vars = true := by kernel_rfl
theorem joinQuery_k5 : (Rows.joinQueryRow.stops == []) = true := by kernel_rfl
theorem joinQuery_k7 : (Rows.joinQueryRow.knobs == []) = true := by kernel_rfl
theorem joinQuery_k9 : (Rows.joinQueryRow.inPlace == PP.inPlace 8) = true := by kernel_rfl
theorem joinQuery_k10 : (Rows.joinQueryRow.unfollowed == PP.unfollowed 8) = true := by kernel_rfl
theorem joinQuery_k11 : (Rows.joinQueryRow.recurses == PP.recurses 8) = true := by kernel_rfl
theorem joinQuery_k12 : (Rows.joinQueryRow.named == PP.varsNamed 8) = true := by kernel_rfl
theorem joinQuery_k13 : (Rows.joinQueryRow.maps == (Tryz.f8.params.toList ++ (OpenSpec.ofChange Rows.joinQuerySpec).bare.plain.varTypes PP).any (PP.mapsRec ·)) = true := by kernel_rfl
theorem joinQuery_k14 : (Rows.joinQueryRow.ifaces == (Tryz.f8.params.toList ++ (OpenSpec.ofChange Rows.joinQuerySpec).bare.plain.varTypes PP).any (PP.ifacesRec ·)) = true := by kernel_rfl
theorem joinQuery_k15 : (Rows.joinQueryRow.mapsOut == PP.mapsAmong Tryz.f8.resultTypes.toList) = true := by kernel_rfl
theorem joinQuery_k16 : (Rows.joinQueryRow.loops == (Tryz.f8.params.toList ++ (OpenSpec.ofChange Rows.joinQuerySpec).bare.plain.varTypes PP).any (PP.loopsFrom ·)) = true := by kernel_rfl
theorem joinQuery_k17 : (Rows.joinQueryRow.wideKeys == (Tryz.f8.params.toList ++ (OpenSpec.ofChange Rows.joinQuerySpec).bare.plain.varTypes PP ++ Tryz.f8.resultTypes.toList).any (PP.wideKeysFrom ·)) = true := by kernel_rfl
theorem joinQuery_k18 : (OpenSpec.ofChange Rows.joinQuerySpec).bare.vars.all (PP.varReadable ·) = true := by kernel_rfl
theorem joinQuery_k19 : Tryz.f8.resultTypes.all (fun t => PP.readableRec t && decide (t < PP.types.size)) = true := by kernel_rfl
theorem joinQuery_k20 : (Rows.joinQueryRow.ifacesOut == Tryz.f8.resultTypes.toList.any (PP.ifacesRec ·)) = true := by kernel_rfl
theorem joinQuery_k21 : (Rows.joinQueryRow.loopsOut == Tryz.f8.resultTypes.toList.any (PP.loopsFrom ·)) = true := by kernel_rfl
theorem joinQuery_k23 : Rows.joinQueryRow.shortTexts.isNone = true := by kernel_rfl
theorem joinQuery_k28 : (Rows.joinQueryRow.kinds == (if Rows.joinQueryRow.domain.isEmpty then [] else Tryz.f8.params.toList.map fun t => match PP.underlying t with | some (.int k) => some k | _ => none)) = true := by kernel_rfl
theorem joinQuery_k29 : (Rows.joinQueryRow.pinned == Rows.joinQueryRow.pinnedBy) = true := by kernel_rfl
theorem joinQuery_k30 : (Rows.joinQueryRow.veiled == (Tryz.f8.params.toList ++ (OpenSpec.ofChange Rows.joinQuerySpec).bare.plain.varTypes PP ++ Tryz.f8.resultTypes.toList).any (PP.veiledRec ·)) = true := by kernel_rfl
theorem joinQuery_k31 : Rows.joinQueryRow.veiledFits PP Tryz.f8.params.toList (Tryz.f8.params.toList ++ (OpenSpec.ofChange Rows.joinQuerySpec).bare.plain.varTypes PP ++ Tryz.f8.resultTypes.toList) = true := by kernel_rfl
set_option maxRecDepth 100000 in
theorem joinQuery_closed : joinedFacts PP 8 Tryz.f8 (OpenSpec.ofChange Rows.joinQuerySpec).bare Rows.joinQueryRow = true := and2 (and2 (and2 (and2 (and2 (and2 (and2 (and2 (and2 (and2 (and2 (and2 (and2 (and2 (and2 (and2 (and2 (and2 (and2 (and2 (and2 (and2 (and2 (and2 (and2 (and2 (and2 (and2 (and2 (and2 (and2 (joinQuery_k0) j_laidOut) j_rowed) joinQuery_k3) joinQuery_k4) joinQuery_k5) j_stops) joinQuery_k7) j_knobs) joinQuery_k9) joinQuery_k10) joinQuery_k11) joinQuery_k12) joinQuery_k13) joinQuery_k14) joinQuery_k15) joinQuery_k16) joinQuery_k17) joinQuery_k18) joinQuery_k19) joinQuery_k20) joinQuery_k21) j_plain) joinQuery_k23) j_heard) j_enter) j_lift) j_make) joinQuery_k28) joinQuery_k29) joinQuery_k30) joinQuery_k31
theorem joinQuery_named : Tryz.pinned.checked.prog.funcNamed Rows.joinQueryRow.func = some 8 := by kernel_rfl
theorem joinQuery_text : Rows.joinQueryRow.wfByText (OpenSpec.ofChange Rows.joinQuerySpec) = true := by kernel_rfl
theorem joinQuery_goes : false = Rows.joinQueryRow.goesBy Tryz.pinned.checked.prog := by kernel_rfl
theorem joinQuery_said : Rows.JoinQuerySaid :=
  OpenClaim.holds_of_cond 8 Tryz.f8 rfl rfl rfl rfl rfl rfl rfl ⟨rfl, rfl, rfl, rfl, rfl⟩ rfl rfl rfl rfl rfl joinQuery_named Tryz.func8 joinQuery_closed
    (of_decide_eq_true (by kernel_rfl)) (by unfold Func.isWrapper; first | (rw [if_pos (by decide +kernel)]; kernel_rfl) | (rw [if_neg (by decide +kernel)]; exact ⟨rfl, rfl⟩))
    (fun os started H enc _ F => by rw [OpenClaim.pre_eq_preRow]; exact joinQuery_lifted os started H enc F)
theorem joinQuery_plain (f : FuncId) (fn : Func) (hf : Tryz.pinned.checked.prog.funcNamed "postmark/postmarklaw11.JoinQuery" = some f) (hfn : Tryz.pinned.checked.prog.funcs[f]? = some fn) :
    true = Tryz.pinned.checked.prog.looks [] ∧ ∀ (j : Nat) t, fn.params[j]? = some t → Tryz.pinned.checked.prog.wantsStandIn t = false := by
  obtain rfl : f = 8 := Option.some.inj ((show Tryz.prog.funcNamed "postmark/postmarklaw11.JoinQuery" = some 8 by kernel_rfl).symm.trans hf) |>.symm
  obtain rfl : fn = Tryz.f8 := (Option.some.inj (Tryz.func8.symm.trans hfn)).symm
  refine ⟨by kernel_rfl, fun j t ht => ?_⟩
  rw [Tryz.params8] at ht
  have hm := Array.mem_of_getElem? ht
  simp only [Array.mem_def, List.mem_cons, List.not_mem_nil, or_false] at hm
  rcases hm with rfl | rfl
  · exact (show Tryz.prog.wantsStandIn 27 = false by kernel_rfl)
  · exact (show Tryz.prog.wantsStandIn 9 = false by kernel_rfl)
theorem joinQuery_holds : Rows.JoinQueryCardSaid :=
  Claim7.holds_tied_plain_at .later [] _ _ _ _ joinQuery_said (fun _ h => by cases h) joinQuery_text (fun _ h => by cases h) joinQuery_row_tie rfl ⟨rfl, rfl⟩ j_main rfl joinQuery_plain joinQuery_goes
#print axioms joinQuery_holds
end Go.Proofs.YtphigjogeejdjaaGreatDoor
