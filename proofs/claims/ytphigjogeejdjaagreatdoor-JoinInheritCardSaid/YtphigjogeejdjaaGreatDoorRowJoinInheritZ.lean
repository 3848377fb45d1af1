/-
JoinInherit: whatever comes in, the law's call returns true, and the arguments read behind the call as they did before; no condition on them. The row lists the two tables of unicode/utf8 (first, acceptRanges); the card ties them.
-/
import Derived.Test.YtphigjogeejdjaaGreatDoorTz
import Derived.Test.YtphigjogeejdjaaGreatDoorJq
set_option linter.unusedVariables false
set_option linter.unusedSimpArgs false
/-! The walk of JoinInherit. -/
namespace Go.Proofs.YtphigjogeejdjaaGreatDoor
open Go.RowKit
theorem parse_no {o : Option PM.Url} {e : Ending} {w' : World} (h : ParseR o e w') (ho : o = none) : ∃ v : UV, e = .returned (.tuple #[.agg v.cells, .bool false]) ∧ v.pm = uz.pm ∧ v.Ok w' := by
  subst ho
  obtain ⟨v, h1, h2, h3⟩ := h
  have h2' : v.pm = uz.pm := h2
  have hx : v.xs = v.pm.path := rfl
  exact ⟨v, h1, h2', h3 (by rw [hx, h2']; decide)⟩
theorem res_path {b u : PM.Url} {s : List UInt8} (h : PM.resolve b s = some u) (hs : s.length ≤ 3000) (hb : b.path.length ≤ 900) (hx : ∀ x ∈ b.path, x.length ≤ 1000000) : u.path.length ≤ 10000 := by
  rw [PM.resolve_eq] at h
  have hcl := clean_len s
  split at h
  · cases h
  · split at h
    · have := (parse_short h).pn
      omega
    · split at h
      · cases h
      · rename_i h0
        split at h
        · have h1 := (parse_short h).pn
          have h2 : b.scheme.length ≤ 5 := by rcases PM.web_cases h0 with e | e <;> rw [e] <;> decide
          simp at h1
          omega
        · simp at h
          subst h
          have ht := (tail_len3 (PM.clean s)).1
          show (PM.wayP b.path (PM.tail (PM.clean s)).1).length ≤ 10000
          unfold PM.wayP
          split
          · omega
          · split
            · have := (parse_sizes (PM.tail (PM.clean s)).1 (by omega)).1
              omega
            · exact (merge_sizes b.path (PM.tail (PM.clean s)).1 (by omega) hb hx).1
theorem same_self (u : PM.Url) : PM.urlSame u u = true := (PM.urlSame_iff u u).2 rfl
theorem few_path {u : PM.Url} (h : PM.few u = true) : u.path.length ≤ 900 ∧ ∀ x ∈ u.path, x.length ≤ 1000000 := ⟨Nat.le_trans (PM.few_all h).1 (by decide), fun x hx => Nat.le_trans ((PM.few_all h).2.1 x hx) (by decide)⟩
/-- Where JoinInherit stands: three addresses in boxes. -/
structure CAt (ga gx gb gc : Nat) (a x b c : UV) (w W : World) : Prop where
  ha : W.heap[ga]? = some (.cells a.cells 27 (0, 0))
  hx : W.heap[gx]? = some (.cells x.cells 27 (0, 0))
  hb : W.heap[gb]? = some (.cells b.cells 27 (0, 0))
  hc : W.heap[gc]? = some (.cells c.cells 27 (0, 0))
  be : Below w.heap.size w W
  ao : a.Ok W
  xo : x.Ok W
  co : c.Ok W
theorem CAt.below {ga gx gb gc : Nat} {a x b c : UV} {w W W' : World} (h : CAt ga gx gb gc a x b c w W) (hb : Below W.heap.size W W') : CAt ga gx gb gc a x b c w W' := ⟨heap_b hb h.ha, heap_b hb h.hx, heap_b hb h.hb, heap_b hb h.hc, b_then h.be hb, h.ao.below hb, h.xo.below hb, h.co.below hb⟩
set_option maxRecDepth 100000 in
set_option maxHeartbeats 16000000 in
theorem JoinInherit_c (a b c : UV) (w : World) (hra : RdW w a.a a.pn a.xs) (hrb : RdW w b.a b.pn b.xs) (hrc : RdW w c.a c.pn c.xs) (hg : Gl w) (hT : Lib.Utf8Tabs 1 2 w) : Calls Tryz.prog 9 #[.agg a.cells, .agg b.cells, .agg c.cells] w fun e w' => e = .returned (.bool true) ∧ Below w.heap.size w w' := by
  have HG := Lib.hid hg
  have HTB := Lib.hid hT
  have Ra := Lib.hid hra
  have Rb := Lib.hid hrb
  have Rc := Lib.hid hrc
  clear hg hT hra hrb hrc
  have HB : Hid (Below w.heap.size w (((w.alloc (.cells a.cells 27)).alloc (.cells b.cells 27)).alloc (.cells c.cells 27))) := Lib.hid (b_alloc (b_alloc (b_alloc (Below.refl _ _) _) _) _)
  have Ha : Hid ((((w.alloc (.cells a.cells 27)).alloc (.cells b.cells 27)).alloc (.cells c.cells 27)).heap[w.heap.size]? = some (.cells a.cells 27 (0, 0))) := Lib.hid (heap_b (b_alloc (b_alloc (Below.refl _ _) _) _) (by have h := Go.heap_alloc_new w (.cells a.cells 27); simpa using h))
  have Hb : Hid ((((w.alloc (.cells a.cells 27)).alloc (.cells b.cells 27)).alloc (.cells c.cells 27)).heap[w.heap.size + 1]? = some (.cells b.cells 27 (0, 0))) := Lib.hid (heap_b (b_alloc (Below.refl _ _) _) (by have h := Go.heap_alloc_new (w.alloc (.cells a.cells 27)) (.cells b.cells 27); simpa using h))
  have Hc : Hid ((((w.alloc (.cells a.cells 27)).alloc (.cells b.cells 27)).alloc (.cells c.cells 27)).heap[w.heap.size + 1 + 1]? = some (.cells c.cells 27 (0, 0))) := Lib.hid ((by have h := Go.heap_alloc_new ((w.alloc (.cells a.cells 27)).alloc (.cells b.cells 27)) (.cells c.cells 27); simpa using h))
  go_enter Tryz.func9, Tryz.ntmps9
  go_upto_region 1 with fail
  generalize ((w.alloc (.cells a.cells 27)).alloc (.cells b.cells 27)).alloc (.cells c.cells 27) = V0 at HB Ha Hb Hc ⊢
  generalize hbc : w.heap.size + 1 + 1 = bc at Hc ⊢
  have hlw_bc : w.heap.size ≤ bc := by omega
  generalize hbb : w.heap.size + 1 = bb at Hb ⊢
  have hlw_bb : w.heap.size ≤ bb := by omega
  have hne_b_a : w.heap.size < bb := by omega
  have hne_c_a : w.heap.size < bc := by omega
  have hne_c_b : bb < bc := by omega
  clear hbc hbb
  go_wp2_with fail
  refine (awake11_c _ (HG.out.below HB.out) (tabs_below HTB.out HB.out)).mono ?_
  rintro e V1 ⟨rfl, hb⟩
  replace HB := Lib.hid (b_then HB.out hb)
  replace Hc := Lib.hid (obj_b hb Hc.out)
  replace Hb := Lib.hid (obj_b hb Hb.out)
  replace Ha := Lib.hid (obj_b hb Ha.out)
  clear hb
  go_wp2_with (first | go_skip | (refine wpList_load_g 27 _ rfl (by kernel_rfl) w.heap.size rfl Ha.out Tryz.underlying27 rfl (by kernel_rfl) ?_))
  refine (Few_c a _ (Ra.out.below HB.out)).mono ?_
  rintro e V2 ⟨rfl, hb⟩
  replace HB := Lib.hid (b_then HB.out hb)
  replace Hc := Lib.hid (obj_b hb Hc.out)
  replace Hb := Lib.hid (obj_b hb Hb.out)
  replace Ha := Lib.hid (obj_b hb Ha.out)
  clear hb
  go_wp2_with (first | go_skip | (refine wpList_load_g 27 _ rfl (by kernel_rfl) bb rfl Hb.out Tryz.underlying27 rfl (by kernel_rfl) ?_))
  refine (Few_c b _ (Rb.out.below HB.out)).mono ?_
  rintro e V3 ⟨rfl, hb⟩
  replace HB := Lib.hid (b_then HB.out hb)
  replace Hc := Lib.hid (obj_b hb Hc.out)
  replace Hb := Lib.hid (obj_b hb Hb.out)
  replace Ha := Lib.hid (obj_b hb Ha.out)
  clear hb
  go_wp2_with (first | go_skip | (refine wpList_load_g 27 _ rfl (by kernel_rfl) bc rfl Hc.out Tryz.underlying27 rfl (by kernel_rfl) ?_))
  refine (Few_c c _ (Rc.out.below HB.out)).mono ?_
  rintro e V4 ⟨rfl, hb⟩
  replace HB := Lib.hid (b_then HB.out hb)
  replace Hc := Lib.hid (obj_b hb Hc.out)
  replace Hb := Lib.hid (obj_b hb Hb.out)
  replace Ha := Lib.hid (obj_b hb Ha.out)
  clear hb
  cases hfa : PM.few a.pm
  · go_wp2
    go_ret
    exact ⟨rfl, HB.out⟩
  have Oa := Lib.hid (few_ok (Ra.out.below HB.out) hfa)
  have Fa := Lib.hid hfa
  clear hfa
  cases hfb : PM.few b.pm
  · go_wp2
    go_ret
    exact ⟨rfl, HB.out⟩
  have Ob := Lib.hid (few_ok (Rb.out.below HB.out) hfb)
  have Fb := Lib.hid hfb
  clear hfb
  cases hfc : PM.few c.pm
  · go_wp2
    go_ret
    exact ⟨rfl, HB.out⟩
  have Oc := Lib.hid (few_ok (Rc.out.below HB.out) hfc)
  have Fc := Lib.hid hfc
  clear hfc
  go_wp2_with (first | go_skip | (refine wpList_load_g 27 _ rfl (by kernel_rfl) w.heap.size rfl Ha.out Tryz.underlying27 rfl (by kernel_rfl) ?_) | (refine wpList_load_g 27 _ rfl (by kernel_rfl) bb rfl Hb.out Tryz.underlying27 rfl (by kernel_rfl) ?_))
  refine (Inherit_c a b _ Oa.out Ob.out.fr).mono ?_
  rintro e V5 ⟨x, rfl, hxp, hxo, -, -, hb⟩
  have Px := Lib.hid hxp
  have Ox := Lib.hid hxo
  clear hxp hxo
  replace HB := Lib.hid (b_then HB.out hb)
  replace Hc := Lib.hid (obj_b hb Hc.out)
  replace Hb := Lib.hid (obj_b hb Hb.out)
  replace Ha := Lib.hid (obj_b hb Ha.out)
  replace Oa := Lib.hid (Oa.out.below hb)
  replace Ob := Lib.hid (Ob.out.below hb)
  replace Oc := Lib.hid (Oc.out.below hb)
  clear hb
  have HN := Lib.hid (Go.heap_alloc_new V5 (.cells zurl 27))
  unfold zurl at HN 
  go_upto_region 8 with (first | (refine wpList_store_row rfl 27 _ _ rfl V5.heap.size x.cells rfl rfl 27 _ HN.out (by kernel_rfl) rfl (agg_one x) ?_))
  obtain ⟨V6, hV⟩ : ∃ V6, V6 = (V5.alloc (.cells #[.string ⟨#[]⟩, .string ⟨#[]⟩, .string ⟨#[]⟩, .int .i64 0, .string ⟨#[]⟩, .int .i64 0, .int .i64 0, .int .i64 0, .int .i64 0, .int .i64 0, .int .i64 0, .int .i64 0, .int .i64 0, .int .i64 0, .int .i64 0, .slice none 0 0, .string ⟨#[]⟩, .string ⟨#[]⟩, .string ⟨#[]⟩, .bool false, .bool false] 27)).setRow V5.heap.size x.cells := ⟨_, rfl⟩
  have hN : V6.heap[V5.heap.size]? = some (.cells x.cells 27 (0, 0)) := by rw [hV]; exact heap_setRow HN.out _
  have hb : Below V5.heap.size V5 V6 := by rw [hV]; exact below_setRow (b_alloc (Below.refl _ _) _) (Nat.le_refl _) _
  rw [← hV]
  clear hV HN 
  have Hx := Lib.hid hN
  clear hN
  have hlt_kx_Hc : bc < V5.heap.size := h_lt Hc.out
  have hlt_kx_Hb : bb < V5.heap.size := h_lt Hb.out
  have hlt_kx_Ha : w.heap.size < V5.heap.size := h_lt Ha.out
  have hlw_kx : w.heap.size ≤ V5.heap.size := HB.out.size
  replace HB := Lib.hid (b_then HB.out hb)
  replace Hc := Lib.hid (obj_b hb Hc.out)
  replace Hb := Lib.hid (obj_b hb Hb.out)
  replace Ha := Lib.hid (obj_b hb Ha.out)
  replace Oa := Lib.hid (Oa.out.below hb)
  replace Ob := Lib.hid (Ob.out.below hb)
  replace Oc := Lib.hid (Oc.out.below hb)
  replace Ox := Lib.hid (Ox.out.below hb)
  clear hb
  generalize V5.heap.size = kx at Hx hlt_kx_Hc hlt_kx_Hb hlt_kx_Ha hlw_kx ⊢
  (try simp only [Act.put])
  go_wp2_with fail
  refine wp_region_noPanic ?_
  refine wp_region_held_drew (S := fun W' => CAt w.heap.size kx bb bc a x b c w W') (by kernel_rfl) (CAt.below ⟨Ha.out, Hx.out, Hb.out, Hc.out, HB.out, Oa.out, Ox.out, Oc.out⟩ (b_drew (Below.refl _ _))) (fun hS0 => ?_)
  refine wpAnyH_take (i := 0) (v := ?_) rfl (by kernel_rfl) (by kernel_rfl) (by kernel_rfl) (fun _ _ _ h => h) (Or.inl ⟨by kernel_rfl, fun W hW => ?_⟩) (by assumption) ?_
  rotate_left
  · refine yield_row 27 (.tmp 11) ?_ kx ?_ hW.hx Tryz.underlying27 rfl (by kernel_rfl)
    · rfl
    · rfl
  (try simp only [List.getElem_toArray, List.getElem_cons_zero, List.getElem_cons_succ, Act.put, List.setIfInBounds_toArray, List.set_cons_zero, List.set_cons_succ])
  refine wpAnyH_take (i := 2) (v := ?_) rfl (by kernel_rfl) (by kernel_rfl) (by kernel_rfl) (fun _ _ _ h => h) (Or.inl ⟨by kernel_rfl, fun W hW => ?_⟩) (by assumption) ?_
  rotate_left
  · refine yield_row 27 (.tmp 3) ?_ w.heap.size ?_ hW.ha Tryz.underlying27 rfl (by kernel_rfl)
    · rfl
    · rfl
  (try simp only [List.getElem_toArray, List.getElem_cons_zero, List.getElem_cons_succ, Act.put, List.setIfInBounds_toArray, List.set_cons_zero, List.set_cons_succ])
  refine wpAnyH_ready (rs := [1]) (by kernel_rfl) (by simp) ?_
  refine AllReadyH.cons rfl (fun K hK => ?_) AllReadyH.nil
  go_simp
  refine (Bare_c x _ hS0.xo).mono ?_
  rintro e U1 ⟨x1, rfl, p1, o1, -, hb⟩
  have hSn := hS0.below hb
  have P1 := Lib.hid p1
  have O1 := Lib.hid o1
  clear hb hS0 p1 o1
  refine hK.out _ _ hSn (fun _ => ?_)
  clear hK K
  (try simp only [List.getElem_toArray, List.getElem_cons_zero, List.getElem_cons_succ, Act.put, List.setIfInBounds_toArray, List.set_cons_zero, List.set_cons_succ])
  refine wpAnyH_ready (rs := [3]) (by kernel_rfl) (by simp) ?_
  refine AllReadyH.cons rfl (fun K hK => ?_) AllReadyH.nil
  go_simp
  refine (Bare_c a _ hSn.ao).mono ?_
  rintro e U2 ⟨a1, rfl, p1, o1, -, hb⟩
  replace hSn := hSn.below hb
  have P2 := Lib.hid p1
  have O2 := Lib.hid o1
  replace O1 := Lib.hid (O1.out.below hb)
  clear hb p1 o1
  refine hK.out _ _ hSn (fun _ => ?_)
  clear hK K
  (try simp only [List.getElem_toArray, List.getElem_cons_zero, List.getElem_cons_succ, Act.put, List.setIfInBounds_toArray, List.set_cons_zero, List.set_cons_succ])
  refine wpAnyH_ready (rs := [4]) (by kernel_rfl) (by simp) ?_
  refine AllReadyH.cons rfl (fun K hK => ?_) AllReadyH.nil
  go_simp
  refine (UrlSame_c x1 a1 _ O1.out O2.out).mono ?_
  rw [P1.out, P2.out, Px.out, PM.inherit_bare, same_self]
  rintro e U3 ⟨rfl, hb⟩
  replace hSn := hSn.below hb
  clear hb
  refine hK.out _ _ hSn (fun _ => ?_)
  clear hK K
  (try simp only [List.getElem_toArray, List.getElem_cons_zero, List.getElem_cons_succ, Act.put, List.setIfInBounds_toArray, List.set_cons_zero, List.set_cons_succ])
  refine wpAnyH_take (i := 5) (v := ?_) rfl (by kernel_rfl) (by kernel_rfl) (by kernel_rfl) (fun _ _ _ h => h) (Or.inl ⟨by kernel_rfl, fun W hW => ?_⟩) (by assumption) ?_
  rotate_left
  · go_simp
    try with_reducible rfl
  (try simp only [List.getElem_toArray, List.getElem_cons_zero, List.getElem_cons_succ, Act.put, List.setIfInBounds_toArray, List.set_cons_zero, List.set_cons_succ])
  refine wpAnyH_done (by kernel_rfl) ?_ _
  refine NoPanic.normal ?_
  have Ha2 := Lib.hid hSn.ha
  have Hx2 := Lib.hid hSn.hx
  have Hb2 := Lib.hid hSn.hb
  have Hc2 := Lib.hid hSn.hc
  have HB2 := Lib.hid hSn.be
  have Oa2 := Lib.hid hSn.ao
  have Ox2 := Lib.hid hSn.xo
  have Oc2 := Lib.hid hSn.co
  clear hSn Ha Hx Hb Hc HB Oa Ox Oc Ob O1 O2 P1 P2
  have Ha := Ha2
  clear Ha2
  have Hx := Hx2
  clear Hx2
  have Hb := Hb2
  clear Hb2
  have Hc := Hc2
  clear Hc2
  have HB := HB2
  clear HB2
  have Oa := Oa2
  clear Oa2
  have Ox := Ox2
  clear Ox2
  have Oc := Oc2
  clear Oc2
  have c20 : U3.cell? ⟨w.heap.size, 20, none⟩ = some (.bool a.hf) := by rw [Lib.cell_of_heap Ha.out]; rfl
  cases hh : a.hf
  rotate_left
  · have hxp : x.pm = a.pm := by rw [Px.out]; exact PM.inherit_yes (show a.pm.hasFrag = true from hh) b.pm
    have PX := Lib.hid hxp
    clear hxp
    go_wp2_with (first | go_skip | (refine wpList_load_g 27 _ rfl (by kernel_rfl) kx rfl Hx.out Tryz.underlying27 rfl (by kernel_rfl) ?_) | (refine wpList_load_g 27 _ rfl (by kernel_rfl) w.heap.size rfl Ha.out Tryz.underlying27 rfl (by kernel_rfl) ?_))
    refine (UrlSame_c x a _ Ox.out Oa.out).mono ?_
    rw [PX.out, same_self]
    rintro e V41 ⟨rfl, hb⟩
    clear c20
    replace HB := Lib.hid (b_then HB.out hb)
    replace Hc := Lib.hid (obj_b hb Hc.out)
    replace Hb := Lib.hid (obj_b hb Hb.out)
    replace Ha := Lib.hid (obj_b hb Ha.out)
    replace Hx := Lib.hid (obj_b hb Hx.out)
    replace Oa := Lib.hid (Oa.out.below hb)
    replace Ox := Lib.hid (Ox.out.below hb)
    replace Oc := Lib.hid (Oc.out.below hb)
    clear hb
    go_wp2
    go_ret
    exact ⟨rfl, HB.out⟩
  have HH := Lib.hid hh
  have hxp : x.pm = { a.pm with frag := b.pm.frag, hasFrag := b.pm.hasFrag } := by rw [Px.out]; exact PM.inherit_no (show a.pm.hasFrag = false from hh) b.pm
  have hxf : x.fr = b.fr := congrArg PM.Url.frag hxp
  have hxh : x.hf = b.hf := congrArg PM.Url.hasFrag hxp
  have HXF := Lib.hid hxf
  have HXH := Lib.hid hxh
  clear hxp hxf hxh
  go_wp2_with fail
  clear c20
  cases hbf : b.hf
  · have HBF := Lib.hid hbf
    clear hbf
    go_wp2_with fail
    refine wp_region_noPanic ?_
    refine wp_region_held_drew (S := fun W' => CAt w.heap.size kx bb bc a x b c w W') (by kernel_rfl) (CAt.below ⟨Ha.out, Hx.out, Hb.out, Hc.out, HB.out, Oa.out, Ox.out, Oc.out⟩ (b_drew (Below.refl _ _))) (fun hS0 => ?_)
    refine wpAnyH_take (i := 0) (v := ?_) rfl (by kernel_rfl) (by kernel_rfl) (by kernel_rfl) (fun _ _ _ h => h) (Or.inl ⟨by kernel_rfl, fun W hW => ?_⟩) (by assumption) ?_
    rotate_left
    · go_simp
      try with_reducible rfl
    (try simp only [List.getElem_toArray, List.getElem_cons_zero, List.getElem_cons_succ, Act.put, List.setIfInBounds_toArray, List.set_cons_zero, List.set_cons_succ])
    refine wpAnyH_take (i := 1) (v := ?_) rfl (by kernel_rfl) (by kernel_rfl) (by kernel_rfl) (fun _ _ _ h => h) (Or.inl ⟨by kernel_rfl, fun W hW => ?_⟩) (by assumption) ?_
    rotate_left
    · go_simp
      try with_reducible rfl
    (try simp only [List.getElem_toArray, List.getElem_cons_zero, List.getElem_cons_succ, Act.put, List.setIfInBounds_toArray, List.set_cons_zero, List.set_cons_succ])
    refine wpAnyH_take (i := 2) (v := ?_) rfl (by kernel_rfl) (by kernel_rfl) (by kernel_rfl) (fun _ _ _ h => h) (Or.inl ⟨by kernel_rfl, fun W hW => ?_⟩) (by assumption) ?_
    rotate_left
    · go_simp
      try with_reducible rfl
    (try simp only [List.getElem_toArray, List.getElem_cons_zero, List.getElem_cons_succ, Act.put, List.setIfInBounds_toArray, List.set_cons_zero, List.set_cons_succ])
    refine wpAnyH_take (i := 3) (v := ?_) rfl (by kernel_rfl) (by kernel_rfl) (by kernel_rfl) (fun _ _ _ h => h) (Or.inl ⟨by kernel_rfl, fun W hW => ?_⟩) (by assumption) ?_
    rotate_left
    · have c20x : W.cell? ⟨kx, 20, none⟩ = some (.bool false) := by rw [Lib.cell_of_heap hW.hx, show UV.cells x = UV.cells { x with hf := b.hf } from by rw [← HXH.out], HBF.out]; rfl
      have c18x : W.cell? ⟨kx, 18, none⟩ = some (.string (mkS b.fr)) := by rw [Lib.cell_of_heap hW.hx, ← HXF.out]; rfl
      have c20b : W.cell? ⟨bb, 20, none⟩ = some (.bool false) := by rw [Lib.cell_of_heap hW.hb, show UV.cells b = UV.cells { b with hf := false } from by rw [← HBF.out]]; rfl
      have c18b : W.cell? ⟨bb, 18, none⟩ = some (.string (mkS b.fr)) := by rw [Lib.cell_of_heap hW.hb]; rfl
      go_simp
      try with_reducible rfl
    (try simp only [List.getElem_toArray, List.getElem_cons_zero, List.getElem_cons_succ, Act.put, List.setIfInBounds_toArray, List.set_cons_zero, List.set_cons_succ])
    refine wpAnyH_take (i := 4) (v := ?_) rfl (by kernel_rfl) (by kernel_rfl) (by kernel_rfl) (fun _ _ _ h => h) (Or.inl ⟨by kernel_rfl, fun W hW => ?_⟩) (by assumption) ?_
    rotate_left
    · go_simp
      try with_reducible rfl
    (try simp only [List.getElem_toArray, List.getElem_cons_zero, List.getElem_cons_succ, Act.put, List.setIfInBounds_toArray, List.set_cons_zero, List.set_cons_succ])
    refine wpAnyH_take (i := 5) (v := ?_) rfl (by kernel_rfl) (by kernel_rfl) (by kernel_rfl) (fun _ _ _ h => h) (Or.inl ⟨by kernel_rfl, fun W hW => ?_⟩) (by assumption) ?_
    rotate_left
    · have c20x : W.cell? ⟨kx, 20, none⟩ = some (.bool false) := by rw [Lib.cell_of_heap hW.hx, show UV.cells x = UV.cells { x with hf := b.hf } from by rw [← HXH.out], HBF.out]; rfl
      have c18x : W.cell? ⟨kx, 18, none⟩ = some (.string (mkS b.fr)) := by rw [Lib.cell_of_heap hW.hx, ← HXF.out]; rfl
      have c20b : W.cell? ⟨bb, 20, none⟩ = some (.bool false) := by rw [Lib.cell_of_heap hW.hb, show UV.cells b = UV.cells { b with hf := false } from by rw [← HBF.out]]; rfl
      have c18b : W.cell? ⟨bb, 18, none⟩ = some (.string (mkS b.fr)) := by rw [Lib.cell_of_heap hW.hb]; rfl
      go_simp
      try with_reducible rfl
    (try simp only [List.getElem_toArray, List.getElem_cons_zero, List.getElem_cons_succ, Act.put, List.setIfInBounds_toArray, List.set_cons_zero, List.set_cons_succ])
    refine wpAnyH_take (i := 6) (v := ?_) rfl (by kernel_rfl) (by kernel_rfl) (by kernel_rfl) (fun _ _ _ h => h) (Or.inl ⟨by kernel_rfl, fun W hW => ?_⟩) (by assumption) ?_
    rotate_left
    · go_simp
      try with_reducible rfl
    (try simp only [List.getElem_toArray, List.getElem_cons_zero, List.getElem_cons_succ, Act.put, List.setIfInBounds_toArray, List.set_cons_zero, List.set_cons_succ])
    refine wpAnyH_take (i := 7) (v := ?_) rfl (by kernel_rfl) (by kernel_rfl) (by kernel_rfl) (fun _ _ _ h => h) (Or.inl ⟨by kernel_rfl, fun W hW => ?_⟩) (by assumption) ?_
    rotate_left
    · go_simp
      try with_reducible rfl
    (try simp only [List.getElem_toArray, List.getElem_cons_zero, List.getElem_cons_succ, Act.put, List.setIfInBounds_toArray, List.set_cons_zero, List.set_cons_succ])
    refine wpAnyH_take (i := 8) (v := ?_) rfl (by kernel_rfl) (by kernel_rfl) (by kernel_rfl) (fun _ _ _ h => h) (Or.inl ⟨by kernel_rfl, fun W hW => ?_⟩) (by assumption) ?_
    rotate_left
    · go_simp
      try with_reducible rfl
    (try simp only [List.getElem_toArray, List.getElem_cons_zero, List.getElem_cons_succ, Act.put, List.setIfInBounds_toArray, List.set_cons_zero, List.set_cons_succ])
    refine wpAnyH_take (i := 9) (v := ?_) rfl (by kernel_rfl) (by kernel_rfl) (by kernel_rfl) (fun _ _ _ h => h) (Or.inl ⟨by kernel_rfl, fun W hW => ?_⟩) (by assumption) ?_
    rotate_left
    · go_simp
      try with_reducible rfl
    (try simp only [List.getElem_toArray, List.getElem_cons_zero, List.getElem_cons_succ, Act.put, List.setIfInBounds_toArray, List.set_cons_zero, List.set_cons_succ])
    refine wpAnyH_take (i := 10) (v := ?_) rfl (by kernel_rfl) (by kernel_rfl) (by kernel_rfl) (fun _ _ _ h => h) (Or.inl ⟨by kernel_rfl, fun W hW => ?_⟩) (by assumption) ?_
    rotate_left
    · have c20x : W.cell? ⟨kx, 20, none⟩ = some (.bool false) := by rw [Lib.cell_of_heap hW.hx, show UV.cells x = UV.cells { x with hf := b.hf } from by rw [← HXH.out], HBF.out]; rfl
      have c18x : W.cell? ⟨kx, 18, none⟩ = some (.string (mkS b.fr)) := by rw [Lib.cell_of_heap hW.hx, ← HXF.out]; rfl
      have c20b : W.cell? ⟨bb, 20, none⟩ = some (.bool false) := by rw [Lib.cell_of_heap hW.hb, show UV.cells b = UV.cells { b with hf := false } from by rw [← HBF.out]]; rfl
      have c18b : W.cell? ⟨bb, 18, none⟩ = some (.string (mkS b.fr)) := by rw [Lib.cell_of_heap hW.hb]; rfl
      go_simp
      try with_reducible rfl
    (try simp only [List.getElem_toArray, List.getElem_cons_zero, List.getElem_cons_succ, Act.put, List.setIfInBounds_toArray, List.set_cons_zero, List.set_cons_succ])
    refine wpAnyH_take (i := 11) (v := ?_) rfl (by kernel_rfl) (by kernel_rfl) (by kernel_rfl) (fun _ _ _ h => h) (Or.inl ⟨by kernel_rfl, fun W hW => ?_⟩) (by assumption) ?_
    rotate_left
    · go_simp
      try with_reducible rfl
    (try simp only [List.getElem_toArray, List.getElem_cons_zero, List.getElem_cons_succ, Act.put, List.setIfInBounds_toArray, List.set_cons_zero, List.set_cons_succ])
    refine wpAnyH_take (i := 12) (v := ?_) rfl (by kernel_rfl) (by kernel_rfl) (by kernel_rfl) (fun _ _ _ h => h) (Or.inl ⟨by kernel_rfl, fun W hW => ?_⟩) (by assumption) ?_
    rotate_left
    · have c20x : W.cell? ⟨kx, 20, none⟩ = some (.bool false) := by rw [Lib.cell_of_heap hW.hx, show UV.cells x = UV.cells { x with hf := b.hf } from by rw [← HXH.out], HBF.out]; rfl
      have c18x : W.cell? ⟨kx, 18, none⟩ = some (.string (mkS b.fr)) := by rw [Lib.cell_of_heap hW.hx, ← HXF.out]; rfl
      have c20b : W.cell? ⟨bb, 20, none⟩ = some (.bool false) := by rw [Lib.cell_of_heap hW.hb, show UV.cells b = UV.cells { b with hf := false } from by rw [← HBF.out]]; rfl
      have c18b : W.cell? ⟨bb, 18, none⟩ = some (.string (mkS b.fr)) := by rw [Lib.cell_of_heap hW.hb]; rfl
      go_simp
      try with_reducible rfl
    (try simp only [List.getElem_toArray, List.getElem_cons_zero, List.getElem_cons_succ, Act.put, List.setIfInBounds_toArray, List.set_cons_zero, List.set_cons_succ])
    refine wpAnyH_take (i := 13) (v := ?_) rfl (by kernel_rfl) (by kernel_rfl) (by kernel_rfl) (fun _ _ _ h => h) (Or.inl ⟨by kernel_rfl, fun W hW => ?_⟩) (by assumption) ?_
    rotate_left
    · go_simp
      try with_reducible rfl
    (try simp only [List.getElem_toArray, List.getElem_cons_zero, List.getElem_cons_succ, Act.put, List.setIfInBounds_toArray, List.set_cons_zero, List.set_cons_succ])
    refine wpAnyH_take (i := 14) (v := ?_) rfl (by kernel_rfl) (by kernel_rfl) (by kernel_rfl) (fun _ _ _ h => h) (Or.inl ⟨by kernel_rfl, fun W hW => ?_⟩) (by assumption) ?_
    rotate_left
    · go_simp
      try with_reducible rfl
    (try simp only [List.getElem_toArray, List.getElem_cons_zero, List.getElem_cons_succ, Act.put, List.setIfInBounds_toArray, List.set_cons_zero, List.set_cons_succ])
    refine wpAnyH_take (i := 15) (v := ?_) rfl (by kernel_rfl) (by kernel_rfl) (by kernel_rfl) (fun _ _ _ h => h) (Or.inl ⟨by kernel_rfl, fun W hW => ?_⟩) (by assumption) ?_
    rotate_left
    · go_simp
      try with_reducible rfl
    (try simp only [List.getElem_toArray, List.getElem_cons_zero, List.getElem_cons_succ, Act.put, List.setIfInBounds_toArray, List.set_cons_zero, List.set_cons_succ])
    refine wpAnyH_take (i := 16) (v := ?_) rfl (by kernel_rfl) (by kernel_rfl) (by kernel_rfl) (fun _ _ _ h => h) (Or.inl ⟨by kernel_rfl, fun W hW => ?_⟩) (by assumption) ?_
    rotate_left
    · go_simp
      try with_reducible rfl
    (try simp only [List.getElem_toArray, List.getElem_cons_zero, List.getElem_cons_succ, Act.put, List.setIfInBounds_toArray, List.set_cons_zero, List.set_cons_succ])
    refine wpAnyH_take (i := 17) (v := ?_) rfl (by kernel_rfl) (by kernel_rfl) (by kernel_rfl) (fun _ _ _ h => h) (Or.inl ⟨by kernel_rfl, fun W hW => ?_⟩) (by assumption) ?_
    rotate_left
    · have c20x : W.cell? ⟨kx, 20, none⟩ = some (.bool false) := by rw [Lib.cell_of_heap hW.hx, show UV.cells x = UV.cells { x with hf := b.hf } from by rw [← HXH.out], HBF.out]; rfl
      have c18x : W.cell? ⟨kx, 18, none⟩ = some (.string (mkS b.fr)) := by rw [Lib.cell_of_heap hW.hx, ← HXF.out]; rfl
      have c20b : W.cell? ⟨bb, 20, none⟩ = some (.bool false) := by rw [Lib.cell_of_heap hW.hb, show UV.cells b = UV.cells { b with hf := false } from by rw [← HBF.out]]; rfl
      have c18b : W.cell? ⟨bb, 18, none⟩ = some (.string (mkS b.fr)) := by rw [Lib.cell_of_heap hW.hb]; rfl
      go_simp
      try with_reducible rfl
    (try simp only [List.getElem_toArray, List.getElem_cons_zero, List.getElem_cons_succ, Act.put, List.setIfInBounds_toArray, List.set_cons_zero, List.set_cons_succ])
    refine wpAnyH_take (i := 18) (v := ?_) rfl (by kernel_rfl) (by kernel_rfl) (by kernel_rfl) (fun _ _ _ h => h) (Or.inl ⟨by kernel_rfl, fun W hW => ?_⟩) (by assumption) ?_
    rotate_left
    · go_simp
      try with_reducible rfl
    (try simp only [List.getElem_toArray, List.getElem_cons_zero, List.getElem_cons_succ, Act.put, List.setIfInBounds_toArray, List.set_cons_zero, List.set_cons_succ])
    refine wpAnyH_take (i := 19) (v := ?_) rfl (by kernel_rfl) (by kernel_rfl) (by kernel_rfl) (fun _ _ _ h => h) (Or.inl ⟨by kernel_rfl, fun W hW => ?_⟩) (by assumption) ?_
    rotate_left
    · go_simp
      try with_reducible rfl
    (try simp only [List.getElem_toArray, List.getElem_cons_zero, List.getElem_cons_succ, Act.put, List.setIfInBounds_toArray, List.set_cons_zero, List.set_cons_succ])
    refine wpAnyH_take (i := 20) (v := undef) rfl (by kernel_rfl) (by kernel_rfl) (by kernel_rfl) (fun _ _ _ h => h) (Or.inr ⟨by kernel_rfl, rfl⟩) (by assumption) ?_
    (try simp only [List.getElem_toArray, List.getElem_cons_zero, List.getElem_cons_succ, Act.put, List.setIfInBounds_toArray, List.set_cons_zero, List.set_cons_succ])
    refine wpAnyH_take (i := 21) (v := undef) rfl (by kernel_rfl) (by kernel_rfl) (by kernel_rfl) (fun _ _ _ h => h) (Or.inr ⟨by kernel_rfl, rfl⟩) (by assumption) ?_
    (try simp only [List.getElem_toArray, List.getElem_cons_zero, List.getElem_cons_succ, Act.put, List.setIfInBounds_toArray, List.set_cons_zero, List.set_cons_succ])
    refine wpAnyH_take (i := 22) (v := undef) rfl (by kernel_rfl) (by kernel_rfl) (by kernel_rfl) (fun _ _ _ h => h) (Or.inr ⟨by kernel_rfl, rfl⟩) (by assumption) ?_
    (try simp only [List.getElem_toArray, List.getElem_cons_zero, List.getElem_cons_succ, Act.put, List.setIfInBounds_toArray, List.set_cons_zero, List.set_cons_succ])
    refine wpAnyH_take (i := 23) (v := undef) rfl (by kernel_rfl) (by kernel_rfl) (by kernel_rfl) (fun _ _ _ h => h) (Or.inr ⟨by kernel_rfl, rfl⟩) (by assumption) ?_
    (try simp only [List.getElem_toArray, List.getElem_cons_zero, List.getElem_cons_succ, Act.put, List.setIfInBounds_toArray, List.set_cons_zero, List.set_cons_succ])
    refine wpAnyH_take (i := 24) (v := undef) rfl (by kernel_rfl) (by kernel_rfl) (by kernel_rfl) (fun _ _ _ h => h) (Or.inr ⟨by kernel_rfl, rfl⟩) (by assumption) ?_
    (try simp only [List.getElem_toArray, List.getElem_cons_zero, List.getElem_cons_succ, Act.put, List.setIfInBounds_toArray, List.set_cons_zero, List.set_cons_succ])
    refine wpAnyH_take (i := 25) (v := ?_) rfl (by kernel_rfl) (by kernel_rfl) (by kernel_rfl) (fun _ _ _ h => h) (Or.inl ⟨by kernel_rfl, fun W hW => ?_⟩) (by assumption) ?_
    rotate_left
    · go_simp
      try with_reducible rfl
    (try simp only [List.getElem_toArray, List.getElem_cons_zero, List.getElem_cons_succ, Act.put, List.setIfInBounds_toArray, List.set_cons_zero, List.set_cons_succ])
    refine wpAnyH_take (i := 26) (v := ?_) rfl (by kernel_rfl) (by kernel_rfl) (by kernel_rfl) (fun _ _ _ h => h) (Or.inl ⟨by kernel_rfl, fun W hW => ?_⟩) (by assumption) ?_
    rotate_left
    · go_simp
      try with_reducible rfl
    (try simp only [List.getElem_toArray, List.getElem_cons_zero, List.getElem_cons_succ, Act.put, List.setIfInBounds_toArray, List.set_cons_zero, List.set_cons_succ])
    refine wpAnyH_take (i := 27) (v := ?_) rfl (by kernel_rfl) (by kernel_rfl) (by kernel_rfl) (fun _ _ _ h => h) (Or.inl ⟨by kernel_rfl, fun W hW => ?_⟩) (by assumption) ?_
    rotate_left
    · go_simp
      try with_reducible rfl
    (try simp only [List.getElem_toArray, List.getElem_cons_zero, List.getElem_cons_succ, Act.put, List.setIfInBounds_toArray, List.set_cons_zero, List.set_cons_succ])
    refine wpAnyH_done (by kernel_rfl) ?_ _
    refine NoPanic.normal ?_
    go_wp2
    go_ret
    exact ⟨rfl, hS0.be⟩
  · have HBF := Lib.hid hbf
    clear hbf
    go_wp2_with fail
    refine wp_region_noPanic ?_
    refine wp_region_held_drew (S := fun W' => CAt w.heap.size kx bb bc a x b c w W') (by kernel_rfl) (CAt.below ⟨Ha.out, Hx.out, Hb.out, Hc.out, HB.out, Oa.out, Ox.out, Oc.out⟩ (b_drew (Below.refl _ _))) (fun hS0 => ?_)
    refine wpAnyH_take (i := 0) (v := ?_) rfl (by kernel_rfl) (by kernel_rfl) (by kernel_rfl) (fun _ _ _ h => h) (Or.inl ⟨by kernel_rfl, fun W hW => ?_⟩) (by assumption) ?_
    rotate_left
    · go_simp
      try with_reducible rfl
    (try simp only [List.getElem_toArray, List.getElem_cons_zero, List.getElem_cons_succ, Act.put, List.setIfInBounds_toArray, List.set_cons_zero, List.set_cons_succ])
    refine wpAnyH_take (i := 1) (v := ?_) rfl (by kernel_rfl) (by kernel_rfl) (by kernel_rfl) (fun _ _ _ h => h) (Or.inl ⟨by kernel_rfl, fun W hW => ?_⟩) (by assumption) ?_
    rotate_left
    · go_simp
      try with_reducible rfl
    (try simp only [List.getElem_toArray, List.getElem_cons_zero, List.getElem_cons_succ, Act.put, List.setIfInBounds_toArray, List.set_cons_zero, List.set_cons_succ])
    refine wpAnyH_take (i := 2) (v := ?_) rfl (by kernel_rfl) (by kernel_rfl) (by kernel_rfl) (fun _ _ _ h => h) (Or.inl ⟨by kernel_rfl, fun W hW => ?_⟩) (by assumption) ?_
    rotate_left
    · go_simp
      try with_reducible rfl
    (try simp only [List.getElem_toArray, List.getElem_cons_zero, List.getElem_cons_succ, Act.put, List.setIfInBounds_toArray, List.set_cons_zero, List.set_cons_succ])
    refine wpAnyH_take (i := 3) (v := ?_) rfl (by kernel_rfl) (by kernel_rfl) (by kernel_rfl) (fun _ _ _ h => h) (Or.inl ⟨by kernel_rfl, fun W hW => ?_⟩) (by assumption) ?_
    rotate_left
    · have c20x : W.cell? ⟨kx, 20, none⟩ = some (.bool true) := by rw [Lib.cell_of_heap hW.hx, show UV.cells x = UV.cells { x with hf := b.hf } from by rw [← HXH.out], HBF.out]; rfl
      have c18x : W.cell? ⟨kx, 18, none⟩ = some (.string (mkS b.fr)) := by rw [Lib.cell_of_heap hW.hx, ← HXF.out]; rfl
      have c20b : W.cell? ⟨bb, 20, none⟩ = some (.bool true) := by rw [Lib.cell_of_heap hW.hb, show UV.cells b = UV.cells { b with hf := true } from by rw [← HBF.out]]; rfl
      have c18b : W.cell? ⟨bb, 18, none⟩ = some (.string (mkS b.fr)) := by rw [Lib.cell_of_heap hW.hb]; rfl
      go_simp
      try with_reducible rfl
    (try simp only [List.getElem_toArray, List.getElem_cons_zero, List.getElem_cons_succ, Act.put, List.setIfInBounds_toArray, List.set_cons_zero, List.set_cons_succ])
    refine wpAnyH_take (i := 4) (v := ?_) rfl (by kernel_rfl) (by kernel_rfl) (by kernel_rfl) (fun _ _ _ h => h) (Or.inl ⟨by kernel_rfl, fun W hW => ?_⟩) (by assumption) ?_
    rotate_left
    · go_simp
      try with_reducible rfl
    (try simp only [List.getElem_toArray, List.getElem_cons_zero, List.getElem_cons_succ, Act.put, List.setIfInBounds_toArray, List.set_cons_zero, List.set_cons_succ])
    refine wpAnyH_take (i := 5) (v := ?_) rfl (by kernel_rfl) (by kernel_rfl) (by kernel_rfl) (fun _ _ _ h => h) (Or.inl ⟨by kernel_rfl, fun W hW => ?_⟩) (by assumption) ?_
    rotate_left
    · have c20x : W.cell? ⟨kx, 20, none⟩ = some (.bool true) := by rw [Lib.cell_of_heap hW.hx, show UV.cells x = UV.cells { x with hf := b.hf } from by rw [← HXH.out], HBF.out]; rfl
      have c18x : W.cell? ⟨kx, 18, none⟩ = some (.string (mkS b.fr)) := by rw [Lib.cell_of_heap hW.hx, ← HXF.out]; rfl
      have c20b : W.cell? ⟨bb, 20, none⟩ = some (.bool true) := by rw [Lib.cell_of_heap hW.hb, show UV.cells b = UV.cells { b with hf := true } from by rw [← HBF.out]]; rfl
      have c18b : W.cell? ⟨bb, 18, none⟩ = some (.string (mkS b.fr)) := by rw [Lib.cell_of_heap hW.hb]; rfl
      go_simp
      try with_reducible rfl
    (try simp only [List.getElem_toArray, List.getElem_cons_zero, List.getElem_cons_succ, Act.put, List.setIfInBounds_toArray, List.set_cons_zero, List.set_cons_succ])
    refine wpAnyH_take (i := 6) (v := ?_) rfl (by kernel_rfl) (by kernel_rfl) (by kernel_rfl) (fun _ _ _ h => h) (Or.inl ⟨by kernel_rfl, fun W hW => ?_⟩) (by assumption) ?_
    rotate_left
    · go_simp
      try with_reducible rfl
    (try simp only [List.getElem_toArray, List.getElem_cons_zero, List.getElem_cons_succ, Act.put, List.setIfInBounds_toArray, List.set_cons_zero, List.set_cons_succ])
    refine wpAnyH_take (i := 7) (v := ?_) rfl (by kernel_rfl) (by kernel_rfl) (by kernel_rfl) (fun _ _ _ h => h) (Or.inl ⟨by kernel_rfl, fun W hW => ?_⟩) (by assumption) ?_
    rotate_left
    · go_simp
      try with_reducible rfl
    (try simp only [List.getElem_toArray, List.getElem_cons_zero, List.getElem_cons_succ, Act.put, List.setIfInBounds_toArray, List.set_cons_zero, List.set_cons_succ])
    refine wpAnyH_take (i := 8) (v := ?_) rfl (by kernel_rfl) (by kernel_rfl) (by kernel_rfl) (fun _ _ _ h => h) (Or.inl ⟨by kernel_rfl, fun W hW => ?_⟩) (by assumption) ?_
    rotate_left
    · go_simp
      try with_reducible rfl
    (try simp only [List.getElem_toArray, List.getElem_cons_zero, List.getElem_cons_succ, Act.put, List.setIfInBounds_toArray, List.set_cons_zero, List.set_cons_succ])
    refine wpAnyH_take (i := 9) (v := ?_) rfl (by kernel_rfl) (by kernel_rfl) (by kernel_rfl) (fun _ _ _ h => h) (Or.inl ⟨by kernel_rfl, fun W hW => ?_⟩) (by assumption) ?_
    rotate_left
    · go_simp
      try with_reducible rfl
    (try simp only [List.getElem_toArray, List.getElem_cons_zero, List.getElem_cons_succ, Act.put, List.setIfInBounds_toArray, List.set_cons_zero, List.set_cons_succ])
    refine wpAnyH_take (i := 10) (v := ?_) rfl (by kernel_rfl) (by kernel_rfl) (by kernel_rfl) (fun _ _ _ h => h) (Or.inl ⟨by kernel_rfl, fun W hW => ?_⟩) (by assumption) ?_
    rotate_left
    · have c20x : W.cell? ⟨kx, 20, none⟩ = some (.bool true) := by rw [Lib.cell_of_heap hW.hx, show UV.cells x = UV.cells { x with hf := b.hf } from by rw [← HXH.out], HBF.out]; rfl
      have c18x : W.cell? ⟨kx, 18, none⟩ = some (.string (mkS b.fr)) := by rw [Lib.cell_of_heap hW.hx, ← HXF.out]; rfl
      have c20b : W.cell? ⟨bb, 20, none⟩ = some (.bool true) := by rw [Lib.cell_of_heap hW.hb, show UV.cells b = UV.cells { b with hf := true } from by rw [← HBF.out]]; rfl
      have c18b : W.cell? ⟨bb, 18, none⟩ = some (.string (mkS b.fr)) := by rw [Lib.cell_of_heap hW.hb]; rfl
      go_simp
      try with_reducible rfl
    (try simp only [List.getElem_toArray, List.getElem_cons_zero, List.getElem_cons_succ, Act.put, List.setIfInBounds_toArray, List.set_cons_zero, List.set_cons_succ])
    refine wpAnyH_take (i := 11) (v := ?_) rfl (by kernel_rfl) (by kernel_rfl) (by kernel_rfl) (fun _ _ _ h => h) (Or.inl ⟨by kernel_rfl, fun W hW => ?_⟩) (by assumption) ?_
    rotate_left
    · go_simp
      try with_reducible rfl
    (try simp only [List.getElem_toArray, List.getElem_cons_zero, List.getElem_cons_succ, Act.put, List.setIfInBounds_toArray, List.set_cons_zero, List.set_cons_succ])
    refine wpAnyH_take (i := 12) (v := ?_) rfl (by kernel_rfl) (by kernel_rfl) (by kernel_rfl) (fun _ _ _ h => h) (Or.inl ⟨by kernel_rfl, fun W hW => ?_⟩) (by assumption) ?_
    rotate_left
    · have c20x : W.cell? ⟨kx, 20, none⟩ = some (.bool true) := by rw [Lib.cell_of_heap hW.hx, show UV.cells x = UV.cells { x with hf := b.hf } from by rw [← HXH.out], HBF.out]; rfl
      have c18x : W.cell? ⟨kx, 18, none⟩ = some (.string (mkS b.fr)) := by rw [Lib.cell_of_heap hW.hx, ← HXF.out]; rfl
      have c20b : W.cell? ⟨bb, 20, none⟩ = some (.bool true) := by rw [Lib.cell_of_heap hW.hb, show UV.cells b = UV.cells { b with hf := true } from by rw [← HBF.out]]; rfl
      have c18b : W.cell? ⟨bb, 18, none⟩ = some (.string (mkS b.fr)) := by rw [Lib.cell_of_heap hW.hb]; rfl
      go_simp
      try with_reducible rfl
    (try simp only [List.getElem_toArray, List.getElem_cons_zero, List.getElem_cons_succ, Act.put, List.setIfInBounds_toArray, List.set_cons_zero, List.set_cons_succ])
    refine wpAnyH_take (i := 13) (v := ?_) rfl (by kernel_rfl) (by kernel_rfl) (by kernel_rfl) (fun _ _ _ h => h) (Or.inl ⟨by kernel_rfl, fun W hW => ?_⟩) (by assumption) ?_
    rotate_left
    · go_simp
      try with_reducible rfl
    (try simp only [List.getElem_toArray, List.getElem_cons_zero, List.getElem_cons_succ, Act.put, List.setIfInBounds_toArray, List.set_cons_zero, List.set_cons_succ])
    refine wpAnyH_take (i := 14) (v := ?_) rfl (by kernel_rfl) (by kernel_rfl) (by kernel_rfl) (fun _ _ _ h => h) (Or.inl ⟨by kernel_rfl, fun W hW => ?_⟩) (by assumption) ?_
    rotate_left
    · go_simp
      try with_reducible rfl
    (try simp only [List.getElem_toArray, List.getElem_cons_zero, List.getElem_cons_succ, Act.put, List.setIfInBounds_toArray, List.set_cons_zero, List.set_cons_succ])
    refine wpAnyH_take (i := 15) (v := ?_) rfl (by kernel_rfl) (by kernel_rfl) (by kernel_rfl) (fun _ _ _ h => h) (Or.inl ⟨by kernel_rfl, fun W hW => ?_⟩) (by assumption) ?_
    rotate_left
    · go_simp
      try with_reducible rfl
    (try simp only [List.getElem_toArray, List.getElem_cons_zero, List.getElem_cons_succ, Act.put, List.setIfInBounds_toArray, List.set_cons_zero, List.set_cons_succ])
    refine wpAnyH_take (i := 16) (v := ?_) rfl (by kernel_rfl) (by kernel_rfl) (by kernel_rfl) (fun _ _ _ h => h) (Or.inl ⟨by kernel_rfl, fun W hW => ?_⟩) (by assumption) ?_
    rotate_left
    · go_simp
      try with_reducible rfl
    (try simp only [List.getElem_toArray, List.getElem_cons_zero, List.getElem_cons_succ, Act.put, List.setIfInBounds_toArray, List.set_cons_zero, List.set_cons_succ])
    refine wpAnyH_take (i := 17) (v := ?_) rfl (by kernel_rfl) (by kernel_rfl) (by kernel_rfl) (fun _ _ _ h => h) (Or.inl ⟨by kernel_rfl, fun W hW => ?_⟩) (by assumption) ?_
    rotate_left
    · have c20x : W.cell? ⟨kx, 20, none⟩ = some (.bool true) := by rw [Lib.cell_of_heap hW.hx, show UV.cells x = UV.cells { x with hf := b.hf } from by rw [← HXH.out], HBF.out]; rfl
      have c18x : W.cell? ⟨kx, 18, none⟩ = some (.string (mkS b.fr)) := by rw [Lib.cell_of_heap hW.hx, ← HXF.out]; rfl
      have c20b : W.cell? ⟨bb, 20, none⟩ = some (.bool true) := by rw [Lib.cell_of_heap hW.hb, show UV.cells b = UV.cells { b with hf := true } from by rw [← HBF.out]]; rfl
      have c18b : W.cell? ⟨bb, 18, none⟩ = some (.string (mkS b.fr)) := by rw [Lib.cell_of_heap hW.hb]; rfl
      go_simp
      try with_reducible rfl
    (try simp only [List.getElem_toArray, List.getElem_cons_zero, List.getElem_cons_succ, Act.put, List.setIfInBounds_toArray, List.set_cons_zero, List.set_cons_succ])
    refine wpAnyH_take (i := 18) (v := ?_) rfl (by kernel_rfl) (by kernel_rfl) (by kernel_rfl) (fun _ _ _ h => h) (Or.inl ⟨by kernel_rfl, fun W hW => ?_⟩) (by assumption) ?_
    rotate_left
    · go_simp
      try with_reducible rfl
    (try simp only [List.getElem_toArray, List.getElem_cons_zero, List.getElem_cons_succ, Act.put, List.setIfInBounds_toArray, List.set_cons_zero, List.set_cons_succ])
    refine wpAnyH_take (i := 19) (v := ?_) rfl (by kernel_rfl) (by kernel_rfl) (by kernel_rfl) (fun _ _ _ h => h) (Or.inl ⟨by kernel_rfl, fun W hW => ?_⟩) (by assumption) ?_
    rotate_left
    · go_simp
      try with_reducible rfl
    (try simp only [List.getElem_toArray, List.getElem_cons_zero, List.getElem_cons_succ, Act.put, List.setIfInBounds_toArray, List.set_cons_zero, List.set_cons_succ])
    refine wpAnyH_take (i := 20) (v := ?_) rfl (by kernel_rfl) (by kernel_rfl) (by kernel_rfl) (fun _ _ _ h => h) (Or.inl ⟨by kernel_rfl, fun W hW => ?_⟩) (by assumption) ?_
    rotate_left
    · refine yield_row 27 (.tmp 11) ?_ kx ?_ hW.hx Tryz.underlying27 rfl (by kernel_rfl)
      · rfl
      · rfl
    (try simp only [List.getElem_toArray, List.getElem_cons_zero, List.getElem_cons_succ, Act.put, List.setIfInBounds_toArray, List.set_cons_zero, List.set_cons_succ])
    refine wpAnyH_take (i := 21) (v := ?_) rfl (by kernel_rfl) (by kernel_rfl) (by kernel_rfl) (fun _ _ _ h => h) (Or.inl ⟨by kernel_rfl, fun W hW => ?_⟩) (by assumption) ?_
    rotate_left
    · refine yield_row 27 (.tmp 5) ?_ bc ?_ hW.hc Tryz.underlying27 rfl (by kernel_rfl)
      · rfl
      · rfl
    (try simp only [List.getElem_toArray, List.getElem_cons_zero, List.getElem_cons_succ, Act.put, List.setIfInBounds_toArray, List.set_cons_zero, List.set_cons_succ])
    refine wpAnyH_take (i := 23) (v := ?_) rfl (by kernel_rfl) (by kernel_rfl) (by kernel_rfl) (fun _ _ _ h => h) (Or.inl ⟨by kernel_rfl, fun W hW => ?_⟩) (by assumption) ?_
    rotate_left
    · refine yield_row 27 (.tmp 11) ?_ kx ?_ hW.hx Tryz.underlying27 rfl (by kernel_rfl)
      · rfl
      · rfl
    (try simp only [List.getElem_toArray, List.getElem_cons_zero, List.getElem_cons_succ, Act.put, List.setIfInBounds_toArray, List.set_cons_zero, List.set_cons_succ])
    refine wpAnyH_ready (rs := [22]) (by kernel_rfl) (by simp) ?_
    refine AllReadyH.cons rfl (fun K hK => ?_) AllReadyH.nil
    go_simp
    refine (Inherit_c x c _ hS0.xo hS0.co.fr).mono ?_
    rintro e U1 ⟨y, rfl, hyp, hyo, -, -, hb⟩
    have YO := Lib.hid hyo
    have hyp2 : y.pm = x.pm := by rw [hyp]; exact PM.inherit_yes (show x.hf = true by rw [HXH.out]; exact HBF.out) c.pm
    have YP := Lib.hid hyp2
    clear hyo hyp hyp2
    have hSn := hS0.below hb
    clear hb hS0
    refine hK.out _ _ hSn (fun _ => ?_)
    clear hK K
    (try simp only [List.getElem_toArray, List.getElem_cons_zero, List.getElem_cons_succ, Act.put, List.setIfInBounds_toArray, List.set_cons_zero, List.set_cons_succ])
    refine wpAnyH_ready (rs := [24]) (by kernel_rfl) (by simp) ?_
    refine AllReadyH.cons rfl (fun K hK => ?_) AllReadyH.nil
    go_simp
    refine (UrlSame_c y x _ YO.out hSn.xo).mono ?_
    rw [YP.out, same_self]
    rintro e U2 ⟨rfl, hb⟩
    replace hSn := hSn.below hb
    clear hb
    refine hK.out _ _ hSn (fun _ => ?_)
    clear hK K
    (try simp only [List.getElem_toArray, List.getElem_cons_zero, List.getElem_cons_succ, Act.put, List.setIfInBounds_toArray, List.set_cons_zero, List.set_cons_succ])
    refine wpAnyH_take (i := 25) (v := ?_) rfl (by kernel_rfl) (by kernel_rfl) (by kernel_rfl) (fun _ _ _ h => h) (Or.inl ⟨by kernel_rfl, fun W hW => ?_⟩) (by assumption) ?_
    rotate_left
    · go_simp
      try with_reducible rfl
    (try simp only [List.getElem_toArray, List.getElem_cons_zero, List.getElem_cons_succ, Act.put, List.setIfInBounds_toArray, List.set_cons_zero, List.set_cons_succ])
    refine wpAnyH_take (i := 26) (v := ?_) rfl (by kernel_rfl) (by kernel_rfl) (by kernel_rfl) (fun _ _ _ h => h) (Or.inl ⟨by kernel_rfl, fun W hW => ?_⟩) (by assumption) ?_
    rotate_left
    · go_simp
      try with_reducible rfl
    (try simp only [List.getElem_toArray, List.getElem_cons_zero, List.getElem_cons_succ, Act.put, List.setIfInBounds_toArray, List.set_cons_zero, List.set_cons_succ])
    refine wpAnyH_take (i := 27) (v := ?_) rfl (by kernel_rfl) (by kernel_rfl) (by kernel_rfl) (fun _ _ _ h => h) (Or.inl ⟨by kernel_rfl, fun W hW => ?_⟩) (by assumption) ?_
    rotate_left
    · go_simp
      try with_reducible rfl
    (try simp only [List.getElem_toArray, List.getElem_cons_zero, List.getElem_cons_succ, Act.put, List.setIfInBounds_toArray, List.set_cons_zero, List.set_cons_succ])
    refine wpAnyH_done (by kernel_rfl) ?_ _
    refine NoPanic.normal ?_
    go_wp2
    go_ret
    exact ⟨rfl, hSn.be⟩
end Go.Proofs.YtphigjogeejdjaaGreatDoor
/-! The row of JoinInherit. -/
namespace Go.Proofs.YtphigjogeejdjaaGreatDoor
open Go.ChangeShapes Go.WideShapes Go.ChangeAt Go.RowKit
open Go.WideMaps Go.WideElems
open Go.ChangeMaps (open_string shut_string)
theorem joinInherit_reads (os : Os) {H : Type} (enc : TypeId × Value → H) : ∃ x, DataW.whole enc Tryz.prog ((laidWorld os).forCall (fun _ _ => 0) ⟨#[], #[.agg #[.string ⟨#[]⟩, .string ⟨#[]⟩, .string ⟨#[]⟩, .int .i64 0, .string ⟨#[]⟩, .int .i64 0, .int .i64 0, .int .i64 0, .int .i64 0, .int .i64 0, .int .i64 0, .int .i64 0, .int .i64 0, .int .i64 0, .int .i64 0, .slice none 0 0, .string ⟨#[]⟩, .string ⟨#[]⟩, .string ⟨#[]⟩, .bool false, .bool false], .agg #[.string ⟨#[]⟩, .string ⟨#[]⟩, .string ⟨#[]⟩, .int .i64 0, .string ⟨#[]⟩, .int .i64 0, .int .i64 0, .int .i64 0, .int .i64 0, .int .i64 0, .int .i64 0, .int .i64 0, .int .i64 0, .int .i64 0, .int .i64 0, .slice none 0 0, .string ⟨#[]⟩, .string ⟨#[]⟩, .string ⟨#[]⟩, .bool false, .bool false], .agg #[.string ⟨#[]⟩, .string ⟨#[]⟩, .string ⟨#[]⟩, .int .i64 0, .string ⟨#[]⟩, .int .i64 0, .int .i64 0, .int .i64 0, .int .i64 0, .int .i64 0, .int .i64 0, .int .i64 0, .int .i64 0, .int .i64 0, .int .i64 0, .slice none 0 0, .string ⟨#[]⟩, .string ⟨#[]⟩, .string ⟨#[]⟩, .bool false, .bool false]], []⟩).memory Tryz.f9.params.toList Rows.joinInheritSpec.vars false (#[.agg #[.string ⟨#[]⟩, .string ⟨#[]⟩, .string ⟨#[]⟩, .int .i64 0, .string ⟨#[]⟩, .int .i64 0, .int .i64 0, .int .i64 0, .int .i64 0, .int .i64 0, .int .i64 0, .int .i64 0, .int .i64 0, .int .i64 0, .int .i64 0, .slice none 0 0, .string ⟨#[]⟩, .string ⟨#[]⟩, .string ⟨#[]⟩, .bool false, .bool false], .agg #[.string ⟨#[]⟩, .string ⟨#[]⟩, .string ⟨#[]⟩, .int .i64 0, .string ⟨#[]⟩, .int .i64 0, .int .i64 0, .int .i64 0, .int .i64 0, .int .i64 0, .int .i64 0, .int .i64 0, .int .i64 0, .int .i64 0, .int .i64 0, .slice none 0 0, .string ⟨#[]⟩, .string ⟨#[]⟩, .string ⟨#[]⟩, .bool false, .bool false], .agg #[.string ⟨#[]⟩, .string ⟨#[]⟩, .string ⟨#[]⟩, .int .i64 0, .string ⟨#[]⟩, .int .i64 0, .int .i64 0, .int .i64 0, .int .i64 0, .int .i64 0, .int .i64 0, .int .i64 0, .int .i64 0, .int .i64 0, .int .i64 0, .slice none 0 0, .string ⟨#[]⟩, .string ⟨#[]⟩, .string ⟨#[]⟩, .bool false, .bool false]] : Array Value).toList 8 = some x :=
  Option.isSome_iff_exists.1 (by kernel_rfl)
set_option maxRecDepth 100000 in
theorem joinInherit_lifted (os : Os) (started : os.Started) (H : Type) (enc : TypeId × Value → H) (F : Stop.Interp) :
    ReturnsInHanded {} Tryz.checked os 9 .any ((OpenSpec.ofChange Rows.joinInheritSpec).preRow enc Tryz.prog Tryz.f9 Rows.joinInheritRow.domain false Rows.joinInheritRow.laid) (((OpenSpec.ofChange Rows.joinInheritSpec).at F).post enc Tryz.prog Tryz.f9 false true false false) := by
  obtain ⟨x, hx⟩ := joinInherit_reads os enc
  refine returnsInHanded_of_row (C := Tryz.checked) (s := OpenSpec.ofChange Rows.joinInheritSpec) own started (by kernel_rfl) Tryz.func9
    (witness_row_atRef (enc := enc) (C := Tryz.checked) false (laidWorld os) #[.agg #[.string ⟨#[]⟩, .string ⟨#[]⟩, .string ⟨#[]⟩, .int .i64 0, .string ⟨#[]⟩, .int .i64 0, .int .i64 0, .int .i64 0, .int .i64 0, .int .i64 0, .int .i64 0, .int .i64 0, .int .i64 0, .int .i64 0, .int .i64 0, .slice none 0 0, .string ⟨#[]⟩, .string ⟨#[]⟩, .string ⟨#[]⟩, .bool false, .bool false], .agg #[.string ⟨#[]⟩, .string ⟨#[]⟩, .string ⟨#[]⟩, .int .i64 0, .string ⟨#[]⟩, .int .i64 0, .int .i64 0, .int .i64 0, .int .i64 0, .int .i64 0, .int .i64 0, .int .i64 0, .int .i64 0, .int .i64 0, .int .i64 0, .slice none 0 0, .string ⟨#[]⟩, .string ⟨#[]⟩, .string ⟨#[]⟩, .bool false, .bool false], .agg #[.string ⟨#[]⟩, .string ⟨#[]⟩, .string ⟨#[]⟩, .int .i64 0, .string ⟨#[]⟩, .int .i64 0, .int .i64 0, .int .i64 0, .int .i64 0, .int .i64 0, .int .i64 0, .int .i64 0, .int .i64 0, .int .i64 0, .int .i64 0, .slice none 0 0, .string ⟨#[]⟩, .string ⟨#[]⟩, .string ⟨#[]⟩, .bool false, .bool false]] rfl (by kernel_rfl) (by kernel_rfl) (by kernel_rfl)
      (OpenSpec.preRow_of_cond 8 hx rfl (fun k hk => by cases hk) (by kernel_rfl) (laid_met os _))) ?_
  intro W base args ds gs before hval0 hW _ _ _ hL hsh _
  have hval : ∀ (j : Nat) t v, Tryz.f9.params[j]? = some t → args[j]? = some v → Value.okWide Tryz.prog W .any base t v := hval0
  have hW' := hW
  obtain ⟨p, q, hA0, hV, rfl, hfz, hnd⟩ := hW
  have hA : DataW.TrodAll enc Tryz.prog W 0 (fun _ => true) true Tryz.f9.params.toList args.toList ds p := hA0
  rw [Tryz.params9] at hA hval
  obtain ⟨v0, v1, v2, d0, d1, d2, p0, p1, p2, rfl, rfl, rfl, h0, h1, h2⟩ := trodAll_three hA
  obtain ⟨rfl, rfl⟩ := trodVars_none hV
  simp only [List.append_nil] at hfz hnd hW'
  have hlt : ∀ x ∈ p0 ++ p1 ++ p2, x.block < W.heap.size := fun x hx => hW'.lt x hx
  have h0k := h0
  obtain ⟨u0, rfl, hr0⟩ := open_url (hval 0 27 v0 rfl rfl) h0
  have h1k := h1
  obtain ⟨u1, rfl, hr1⟩ := open_url (hval 1 27 v1 rfl rfl) h1
  have h2k := h2
  obtain ⟨u2, rfl, hr2⟩ := open_url (hval 2 27 v2 rfl rfl) h2
  refine (JoinInherit_c u0 u1 u2 W hr0 hr1 hr2 (gl_of hsh) (tabs_laid hL)).mono fun e W' ⟨he, hb⟩ => ?_
  subst he
  refine ⟨_, rfl, _, _, _, [], p0 ++ p1 ++ p2, [], hW', ?_, ?_, ?_, hb.frame _, fun h => by cases h⟩
  · exact trodAll_mk1 (shut_bool Tryz.underlying4 _)
  · have h3 := trodAll_mk3 (Below.trod laidOut (by kernel_rfl) (of_decide_eq_true (by kernel_rfl)) h0k hb (fun x hx => hlt x (by simp [hx]))) (Below.trod laidOut (by kernel_rfl) (of_decide_eq_true (by kernel_rfl)) h1k hb (fun x hx => hlt x (by simp [hx]))) (Below.trod laidOut (by kernel_rfl) (of_decide_eq_true (by kernel_rfl)) h2k hb (fun x hx => hlt x (by simp [hx])))
    rw [← List.append_assoc] at h3
    exact h3
  · rfl
theorem joinInherit_k0 : Rows.joinInheritRow.wf (OpenSpec.ofChange (OpenSpec.ofChange Rows.joinInheritSpec).bare) = true := by kernel_rfl
theorem joinInherit_k3 : Tryz.f9.params.all (PP.readableRec ·) = true := by kernel_rfl
theorem joinInherit_k4 : namedTie PP Rows.joinInheritRow.named (OpenSpec.ofChange Rows.joinInheritSpec).bare.vars = true := by kernel_rfl
theorem joinInherit_k5 : (Rows.joinInheritRow.stops == []) = true := by kernel_rfl
theorem joinInherit_k7 : (Rows.joinInheritRow.knobs == []) = true := by kernel_rfl
theorem joinInherit_k9 : (Rows.joinInheritRow.inPlace == PP.inPlace 9) = true := by kernel_rfl
theorem joinInherit_k10 : (Rows.joinInheritRow.unfollowed == PP.unfollowed 9) = true := by kernel_rfl
theorem joinInherit_k11 : (Rows.joinInheritRow.recurses == PP.recurses 9) = true := by kernel_rfl
theorem joinInherit_k12 : (Rows.joinInheritRow.named == PP.varsNamed 9) = true := by kernel_rfl
theorem joinInherit_k13 : (Rows.joinInheritRow.maps == (Tryz.f9.params.toList ++ (OpenSpec.ofChange Rows.joinInheritSpec).bare.plain.varTypes PP).any (PP.mapsRec ·)) = true := by kernel_rfl
theorem joinInherit_k14 : (Rows.joinInheritRow.ifaces == (Tryz.f9.params.toList ++ (OpenSpec.ofChange Rows.joinInheritSpec).bare.plain.varTypes PP).any (PP.ifacesRec ·)) = true := by kernel_rfl
theorem joinInherit_k15 : (Rows.joinInheritRow.mapsOut == PP.mapsAmong Tryz.f9.resultTypes.toList) = true := by kernel_rfl
theorem joinInherit_k16 : (Rows.joinInheritRow.loops == (Tryz.f9.params.toList ++ (OpenSpec.ofChange Rows.joinInheritSpec).bare.plain.varTypes PP).any (PP.loopsFrom ·)) = true := by kernel_rfl
theorem joinInherit_k17 : (Rows.joinInheritRow.wideKeys == (Tryz.f9.params.toList ++ (OpenSpec.ofChange Rows.joinInheritSpec).bare.plain.varTypes PP ++ Tryz.f9.resultTypes.toList).any (PP.wideKeysFrom ·)) = true := by kernel_rfl
theorem joinInherit_k18 : (OpenSpec.ofChange Rows.joinInheritSpec).bare.vars.all (PP.varReadable ·) = true := by kernel_rfl
theorem joinInherit_k19 : Tryz.f9.resultTypes.all (fun t => PP.readableRec t && decide (t < PP.types.size)) = true := by kernel_rfl
theorem joinInherit_k20 : (Rows.joinInheritRow.ifacesOut == Tryz.f9.resultTypes.toList.any (PP.ifacesRec ·)) = true := by kernel_rfl
theorem joinInherit_k21 : (Rows.joinInheritRow.loopsOut == Tryz.f9.resultTypes.toList.any (PP.loopsFrom ·)) = true := by kernel_rfl
theorem joinInherit_k23 : Rows.joinInheritRow.shortTexts.isNone = true := by kernel_rfl
theorem joinInherit_k28 : (Rows.joinInheritRow.kinds == (if Rows.joinInheritRow.domain.isEmpty then [] else Tryz.f9.params.toList.map fun t => match PP.underlying t with | some (.int k) => some k | _ => none)) = true := by kernel_rfl
theorem joinInherit_k29 : (Rows.joinInheritRow.pinned == Rows.joinInheritRow.pinnedBy) = true := by kernel_rfl
theorem joinInherit_k30 : (Rows.joinInheritRow.veiled == (Tryz.f9.params.toList ++ (OpenSpec.ofChange Rows.joinInheritSpec).bare.plain.varTypes PP ++ Tryz.f9.resultTypes.toList).any (PP.veiledRec ·)) = true := by kernel_rfl
theorem joinInherit_k31 : Rows.joinInheritRow.veiledFits PP Tryz.f9.params.toList (Tryz.f9.params.toList ++ (OpenSpec.ofChange Rows.joinInheritSpec).bare.plain.varTypes PP ++ Tryz.f9.resultTypes.toList) = true := by kernel_rfl
set_option maxRecDepth 100000 in
theorem joinInherit_closed : joinedFacts PP 9 Tryz.f9 (OpenSpec.ofChange Rows.joinInheritSpec).bare Rows.joinInheritRow = true := and2 (and2 (and2 (and2 (and2 (and2 (and2 (and2 (and2 (and2 (and2 (and2 (and2 (and2 (and2 (and2 (and2 (and2 (and2 (and2 (and2 (and2 (and2 (and2 (and2 (and2 (and2 (and2 (and2 (and2 (and2 (joinInherit_k0) j_laidOut) j_rowed) joinInherit_k3) joinInherit_k4) joinInherit_k5) j_stops) joinInherit_k7) j_knobs) joinInherit_k9) joinInherit_k10) joinInherit_k11) joinInherit_k12) joinInherit_k13) joinInherit_k14) joinInherit_k15) joinInherit_k16) joinInherit_k17) joinInherit_k18) joinInherit_k19) joinInherit_k20) joinInherit_k21) j_plain) joinInherit_k23) j_heard) j_enter) j_lift) j_make) joinInherit_k28) joinInherit_k29) joinInherit_k30) joinInherit_k31
theorem joinInherit_named : Tryz.pinned.checked.prog.funcNamed Rows.joinInheritRow.func = some 9 := by kernel_rfl
theorem joinInherit_text : Rows.joinInheritRow.wfByText (OpenSpec.ofChange Rows.joinInheritSpec) = true := by kernel_rfl
theorem joinInherit_goes : false = Rows.joinInheritRow.goesBy Tryz.pinned.checked.prog := by kernel_rfl
theorem joinInherit_said : Rows.JoinInheritSaid :=
  OpenClaim.holds_of_cond 9 Tryz.f9 rfl rfl rfl rfl rfl rfl rfl ⟨rfl, rfl, rfl, rfl, rfl⟩ rfl rfl rfl rfl rfl joinInherit_named Tryz.func9 joinInherit_closed
    (of_decide_eq_true (by kernel_rfl)) (by unfold Func.isWrapper; first | (rw [if_pos (by decide +kernel)]; kernel_rfl) | (rw [if_neg (by decide +kernel)]; exact ⟨rfl, rfl⟩))
    (fun os started H enc _ F => by rw [OpenClaim.pre_eq_preRow]; exact joinInherit_lifted os started H enc F)
theorem joinInherit_plain (f : FuncId) (fn : Func) (hf : Tryz.pinned.checked.prog.funcNamed "postmark/postmarklaw11.JoinInherit" = some f) (hfn : Tryz.pinned.checked.prog.funcs[f]? = some fn) :
    true = Tryz.pinned.checked.prog.looks [] ∧ ∀ (j : Nat) t, fn.params[j]? = some t → Tryz.pinned.checked.prog.wantsStandIn t = false := by
  obtain rfl : f = 9 := Option.some.inj ((show Tryz.prog.funcNamed "postmark/postmarklaw11.JoinInherit" = some 9 by kernel_rfl).symm.trans hf) |>.symm
  obtain rfl : fn = Tryz.f9 := (Option.some.inj (Tryz.func9.symm.trans hfn)).symm
  refine ⟨by kernel_rfl, fun j t ht => ?_⟩
  rw [Tryz.params9] at ht
  have hm := Array.mem_of_getElem? ht
  simp only [Array.mem_def, List.mem_cons, List.not_mem_nil, or_false] at hm
  rcases hm with rfl | rfl | rfl
  · exact (show Tryz.prog.wantsStandIn 27 = false by kernel_rfl)
  · exact (show Tryz.prog.wantsStandIn 27 = false by kernel_rfl)
  · exact (show Tryz.prog.wantsStandIn 27 = false by kernel_rfl)
theorem joinInherit_holds : Rows.JoinInheritCardSaid :=
  Claim7.holds_tied_plain_at .later [] _ _ _ _ joinInherit_said (fun _ h => by cases h) joinInherit_text (fun _ h => by cases h) joinInherit_row_tie rfl ⟨rfl, rfl⟩ j_main rfl joinInherit_plain joinInherit_goes
#print axioms joinInherit_holds
end Go.Proofs.YtphigjogeejdjaaGreatDoor
