/-
JoinSelf: whatever comes in, the law's call returns true, and the arguments read behind the call as they did before; no condition on them. The row lists the two tables of unicode/utf8 (first, acceptRanges); the card ties them.
-/
import Derived.Test.YtphigjogeejdjaaGreatDoorTz
import Derived.Test.YtphigjogeejdjaaGreatDoorJq
set_option linter.unusedVariables false
set_option linter.unusedSimpArgs false
/-! The walk of JoinSelf. -/
namespace Go.Proofs.YtphigjogeejdjaaGreatDoor
open Go.RowKit
theorem parse_no {o : Option PM.Url} {e : Ending} {w' : World} (h : ParseR o e w') (ho : o = none) : ∃ v : UV, e = .returned (.tuple #[.agg v.cells, .bool false]) ∧ v.pm = uz.pm ∧ v.Ok w' := by
  subst ho
  obtain ⟨v, h1, h2, h3⟩ := h
  have h2' : v.pm = uz.pm := h2
  have hx : v.xs = v.pm.path := rfl
  exact ⟨v, h1, h2', h3 (by rw [hx, h2']; decide)⟩
theorem res_path {b u : PM.Url} {s : List UInt8} (h : PM.resolve b s = some u) (hs : s.length ≤ 3000) (hb : b.path.length ≤ 900) (hx : ∀ x ∈ b.path, x.length ≤ 1000000) : u.path.length ≤ 10000 := by
  rw [PM.resolve_eq] at h
  have hcl := clean_len s
  split at h
  · cases h
  · split at h
    · have := (parse_short h).pn
      omega
    · split at h
      · cases h
      · rename_i h0
        split at h
        · have h1 := (parse_short h).pn
          have h2 : b.scheme.length ≤ 5 := by rcases PM.web_cases h0 with e | e <;> rw [e] <;> decide
          simp at h1
          omega
        · simp at h
          subst h
          have ht := (tail_len3 (PM.clean s)).1
          show (PM.wayP b.path (PM.tail (PM.clean s)).1).length ≤ 10000
          unfold PM.wayP
          split
          · omega
          · split
            · have := (parse_sizes (PM.tail (PM.clean s)).1 (by omega)).1
              omega
            · exact (merge_sizes b.path (PM.tail (PM.clean s)).1 (by omega) hb hx).1
theorem same_self (u : PM.Url) : PM.urlSame u u = true := (PM.urlSame_iff u u).2 rfl
theorem few_path {u : PM.Url} (h : PM.few u = true) : u.path.length ≤ 900 ∧ ∀ x ∈ u.path, x.length ≤ 1000000 := ⟨Nat.le_trans (PM.few_all h).1 (by decide), fun x hx => Nat.le_trans ((PM.few_all h).2.1 x hx) (by decide)⟩
/-- Where JoinSelf stands at first. -/
structure EAt (gb gu gx : Nat) (b u x : UV) (w W : World) : Prop where
  hb : W.heap[gb]? = some (.cells b.cells 27 (0, 0))
  hu : W.heap[gu]? = some (.cells u.cells 27 (0, 0))
  hx : W.heap[gx]? = some (.cells x.cells 27 (0, 0))
  be : Below w.heap.size w W
  bo : b.Ok W
  uo : u.Ok W
  xo : x.Ok W
theorem EAt.below {gb gu gx : Nat} {b u x : UV} {w W W' : World} (h : EAt gb gu gx b u x w W) (hb : Below W.heap.size W W') : EAt gb gu gx b u x w W' := ⟨heap_b hb h.hb, heap_b hb h.hu, heap_b hb h.hx, b_then h.be hb, h.bo.below hb, h.uo.below hb, h.xo.below hb⟩
/-- Where JoinSelf stands. -/
structure DAt (gb gu gx gy gz : Nat) (b u x y z : UV) (w W : World) : Prop where
  hb : W.heap[gb]? = some (.cells b.cells 27 (0, 0))
  hu : W.heap[gu]? = some (.cells u.cells 27 (0, 0))
  hx : W.heap[gx]? = some (.cells x.cells 27 (0, 0))
  hy : W.heap[gy]? = some (.cells y.cells 27 (0, 0))
  hz : W.heap[gz]? = some (.cells z.cells 27 (0, 0))
  be : Below w.heap.size w W
  bo : b.Ok W
  uo : u.Ok W
  xo : x.Ok W
  yo : y.Ok W
  zo : z.Ok W
theorem DAt.below {gb gu gx gy gz : Nat} {b u x y z : UV} {w W W' : World} (h : DAt gb gu gx gy gz b u x y z w W) (hb : Below W.heap.size W W') : DAt gb gu gx gy gz b u x y z w W' := ⟨heap_b hb h.hb, heap_b hb h.hu, heap_b hb h.hx, heap_b hb h.hy, heap_b hb h.hz, b_then h.be hb, h.bo.below hb, h.uo.below hb, h.xo.below hb, h.yo.below hb, h.zo.below hb⟩
/-- A path lies elsewhere than in block k. -/
def Nb (k : Nat) (u : UV) : Prop := ∀ g o, u.a = some ⟨g, o, none⟩ → u.xs ≠ [] → g ≠ k
theorem Ok_nb {u : UV} {W : World} {k : Nat} (h : u.Ok W) (hk : W.heap.size ≤ k) : Nb k u := fun g o e hx => by
  obtain ⟨b', o', e', hl, _⟩ := h.rd.at_.resolve_left hx
  rw [e] at e'
  cases e'
  omega
theorem Ok_rowN {v : UV} {W : World} {k : Nat} (h : v.Ok W) (hn : Nb k v) (cs : Array Value) : v.Ok (W.setRow k cs) :=
  ⟨h.sc, h.us, h.pa, h.n, h.op, h.qu, h.fr, h.xn, h.xl, h.rd.frame (by simp [World.setRow]) fun g' o e hx => by
    have := hn g' o e hx
    simp [World.setRow, Array.getElem?_modify, show k ≠ g' by omega]⟩
theorem EAt.row {gb gu gx : Nat} {b u x : UV} {w W : World} (h : EAt gb gu gx b u x w W) {k : Nat} (cs : Array Value) (h1 : gb ≠ k) (h2 : gu ≠ k) (h3 : gx ≠ k) (hk : w.heap.size ≤ k) (pb : Nb k b) (pu : Nb k u) (px : Nb k x) : EAt gb gu gx b u x w (W.setRow k cs) :=
  ⟨(heap_setRow_other h1.symm _).trans h.hb, (heap_setRow_other h2.symm _).trans h.hu, (heap_setRow_other h3.symm _).trans h.hx, below_setRow h.be hk _, Ok_rowN h.bo pb _, Ok_rowN h.uo pu _, Ok_rowN h.xo px _⟩
theorem parse_okF {o : Option PM.Url} {B : Nat} {e : Ending} {w' : World} {p : PM.Url} (h : ParseRF o B e w') (ho : o = some p) (hl : p.path.length ≤ 10000) : ∃ v : UV, e = .returned (.tuple #[.agg v.cells, .bool true]) ∧ v.pm = p ∧ From B v.a v.xs ∧ v.Ok w' := by
  subst ho
  obtain ⟨v, h1, h2, h4, h3⟩ := h
  have h2' : v.pm = p := h2
  have hx : v.xs = v.pm.path := rfl
  exact ⟨v, h1, h2', h4, h3 (by rw [hx, h2']; exact hl)⟩
set_option maxRecDepth 100000 in
set_option maxHeartbeats 16000000 in
theorem Resolve3_c (b : UV) (s : List UInt8) (w : World) (hs : s.length ≤ 30000) (hs2 : PM.whole s = false → s.length ≤ 3000) (hb0 : b.Ok w) (hn : b.xs.length ≤ 900) (hg : Gl w) (hT : Lib.Utf8Tabs 1 2 w) : Calls Tryz.prog 25 #[.agg b.cells, .string (mkS s)] w fun e w' => ParseRF (PM.resolve b.pm s) w.heap.size e w' ∧ Below w.heap.size w w' := by
  have HG := Lib.hid hg
  have HTB := Lib.hid hT
  have OB := Lib.hid hb0
  have HN := Lib.hid hn
  have HC : Hid (∀ W, Lib.Utf8Tabs 1 2 W → Calls Tryz.prog 59 #[.string (mkS s)] W fun e w' => e = .returned (.string (mkS (PM.clean s))) ∧ Below W.heap.size W w') := Lib.hid fun W h => Clean_c s (by omega) W h
  have hcl := clean_len s
  have hr : PM.resolve b.pm s = PM.resolveC b.pm (PM.clean s) := rfl
  rw [hr]
  have hwc : PM.whole (PM.clean s) = false → (PM.clean s).length ≤ 3000 := fun h => Nat.le_trans hcl (hs2 (by rw [← PM.whole_clean]; exact h))
  obtain ⟨c, hc⟩ : ∃ c, PM.clean s = c := ⟨_, rfl⟩
  rw [hc] at hcl HC hwc ⊢
  have HCL : Hid (c.length ≤ 30000) := Lib.hid (by omega)
  have HWC := Lib.hid hwc
  clear hg hT hb0 hn hs hcl hr hc hs2 hwc
  have hrc : PM.resolveC b.pm c = if !PM.urlMay b.pm then none else if PM.whole c then PM.urlParse c else if PM.web b.pm.scheme = 0 then none else if PM.two47 c then PM.urlParse (b.pm.scheme ++ 58 :: c) else some (PM.beside b.pm c) := rfl
  have HR := Lib.hid hrc
  clear hrc
  have HB : Hid (Below w.heap.size w ((w.alloc (.cells b.cells 27)).alloc (.cells #[.string ⟨#[]⟩, .string ⟨#[]⟩, .string ⟨#[]⟩, .int .i64 0, .string ⟨#[]⟩, .int .i64 0, .int .i64 0, .int .i64 0, .int .i64 0, .int .i64 0, .int .i64 0, .int .i64 0, .int .i64 0, .int .i64 0, .int .i64 0, .slice none 0 0, .string ⟨#[]⟩, .string ⟨#[]⟩, .string ⟨#[]⟩, .bool false, .bool false] 27))) := Lib.hid (b_alloc (b_alloc (Below.refl _ _) _) _)
  have Hb : Hid (((w.alloc (.cells b.cells 27)).alloc (.cells #[.string ⟨#[]⟩, .string ⟨#[]⟩, .string ⟨#[]⟩, .int .i64 0, .string ⟨#[]⟩, .int .i64 0, .int .i64 0, .int .i64 0, .int .i64 0, .int .i64 0, .int .i64 0, .int .i64 0, .int .i64 0, .int .i64 0, .int .i64 0, .slice none 0 0, .string ⟨#[]⟩, .string ⟨#[]⟩, .string ⟨#[]⟩, .bool false, .bool false] 27)).heap[w.heap.size]? = some (.cells b.cells 27 (0, 0))) := Lib.hid (heap_b (b_alloc (Below.refl _ _) _) (by have h := Go.heap_alloc_new w (.cells b.cells 27); simpa using h))
  have Hz : Hid (((w.alloc (.cells b.cells 27)).alloc (.cells #[.string ⟨#[]⟩, .string ⟨#[]⟩, .string ⟨#[]⟩, .int .i64 0, .string ⟨#[]⟩, .int .i64 0, .int .i64 0, .int .i64 0, .int .i64 0, .int .i64 0, .int .i64 0, .int .i64 0, .int .i64 0, .int .i64 0, .int .i64 0, .slice none 0 0, .string ⟨#[]⟩, .string ⟨#[]⟩, .string ⟨#[]⟩, .bool false, .bool false] 27)).heap[w.heap.size + 1]? = some (.cells #[.string ⟨#[]⟩, .string ⟨#[]⟩, .string ⟨#[]⟩, .int .i64 0, .string ⟨#[]⟩, .int .i64 0, .int .i64 0, .int .i64 0, .int .i64 0, .int .i64 0, .int .i64 0, .int .i64 0, .int .i64 0, .int .i64 0, .int .i64 0, .slice none 0 0, .string ⟨#[]⟩, .string ⟨#[]⟩, .string ⟨#[]⟩, .bool false, .bool false] 27 (0, 0))) := Lib.hid ((by have h := Go.heap_alloc_new (w.alloc (.cells b.cells 27)) (.cells #[.string ⟨#[]⟩, .string ⟨#[]⟩, .string ⟨#[]⟩, .int .i64 0, .string ⟨#[]⟩, .int .i64 0, .int .i64 0, .int .i64 0, .int .i64 0, .int .i64 0, .int .i64 0, .int .i64 0, .int .i64 0, .int .i64 0, .int .i64 0, .slice none 0 0, .string ⟨#[]⟩, .string ⟨#[]⟩, .string ⟨#[]⟩, .bool false, .bool false] 27); simpa using h))
  go_enter Tryz.func25, Tryz.ntmps25
  go_upto_region 1 with fail
  generalize (w.alloc (.cells b.cells 27)).alloc (.cells #[.string ⟨#[]⟩, .string ⟨#[]⟩, .string ⟨#[]⟩, .int .i64 0, .string ⟨#[]⟩, .int .i64 0, .int .i64 0, .int .i64 0, .int .i64 0, .int .i64 0, .int .i64 0, .int .i64 0, .int .i64 0, .int .i64 0, .int .i64 0, .slice none 0 0, .string ⟨#[]⟩, .string ⟨#[]⟩, .string ⟨#[]⟩, .bool false, .bool false] 27) = V0 at HB Hb Hz ⊢
  generalize hbz : w.heap.size + 1 = bz at Hz ⊢
  have hlw_bz : w.heap.size ≤ bz := by omega
  have hne_z_b : w.heap.size < bz := by omega
  clear hbz
  have OB2 := Lib.hid (OB.out.below HB.out)
  clear OB
  go_wp2_with fail
  refine (HC.out _ (tabs_below HTB.out HB.out)).mono ?_
  rintro e V1 ⟨rfl, hb⟩
  replace HB := Lib.hid (b_then HB.out hb)
  replace Hz := Lib.hid (obj_b hb Hz.out)
  replace Hb := Lib.hid (obj_b hb Hb.out)
  replace OB2 := Lib.hid (OB2.out.below hb)
  clear hb
  clear HC
  obtain ⟨m, hm⟩ : ∃ m, PM.urlMay b.pm = m := ⟨_, rfl⟩
  have HM := Lib.hid hm
  rw [hm] at HR
  clear hm
  obtain ⟨p, hp⟩ : ∃ p, PM.whole c = p := ⟨_, rfl⟩
  have HP := Lib.hid hp
  rw [hp] at HR
  clear hp
  go_wp2_with (first | go_skip | (refine wpList_load_g 27 _ rfl (by kernel_rfl) w.heap.size rfl Hb.out Tryz.underlying27 rfl (by kernel_rfl) ?_))
  refine (urlMay_c b _ OB2.out (HG.out.below HB.out)).mono ?_
  rw [HM.out]
  rintro e V2 ⟨rfl, hb⟩
  replace HB := Lib.hid (b_then HB.out hb)
  replace Hz := Lib.hid (obj_b hb Hz.out)
  replace Hb := Lib.hid (obj_b hb Hb.out)
  replace OB2 := Lib.hid (OB2.out.below hb)
  clear hb
  cases m
  · skip
    go_wp2_with (first | go_skip | (refine wpList_store_row rfl 27 _ _ rfl bz uz.cells rfl rfl 27 _ Hz.out (by kernel_rfl) rfl (agg_one uz) ?_))
    refine bodyPost_ret (results_cell_tmp (fr := (0, 0)) rfl _ _ bz 27 uz.cells _ rfl (heap_setRow Hz.out _) Tryz.underlying27 rfl (by kernel_rfl)) rfl ?_
    exact ⟨by rw [HR.out]; exact ⟨uz, rfl, rfl, (fun g o e _ => by cases e), fun _ => ⟨by decide, by decide, by decide, by decide, by decide, by decide, by decide, by decide, by simp [uz], zrd _⟩⟩, below_setRow HB.out hlw_bz _⟩
  go_wp2_with fail
  refine (Whole_c c (Nat.le_trans HCL.out (by decide)) _ (HG.out.below HB.out) (tabs_below HTB.out HB.out)).mono ?_
  rw [HP.out]
  rintro e V3 ⟨rfl, hb⟩
  replace HB := Lib.hid (b_then HB.out hb)
  replace Hz := Lib.hid (obj_b hb Hz.out)
  replace Hb := Lib.hid (obj_b hb Hb.out)
  replace OB2 := Lib.hid (OB2.out.below hb)
  clear hb
  cases p
  rotate_left
  · skip
    have hlt : bz < V3.heap.size := h_lt Hz.out
    have HLT := Lib.hid hlt
    clear hlt
    go_wp2_with fail
    refine (UrlParseF_c c (Nat.le_trans HCL.out (by decide)) _ (HG.out.below HB.out) (tabs_below HTB.out HB.out)).mono ?_
    unfold ParseRF
    rintro e V4 ⟨⟨v, rfl, hvp, hvf, hvo⟩, hb⟩
    replace HB := Lib.hid (b_then HB.out hb)
    replace Hz := Lib.hid (obj_b hb Hz.out)
    replace Hb := Lib.hid (obj_b hb Hb.out)
    replace OB2 := Lib.hid (OB2.out.below hb)
    clear hb
    have VP := Lib.hid hvp
    have VO := Lib.hid hvo
    clear hvp hvo
    have hbz2 : From (bz + 1) v.a v.xs := fun g o e hx => by have := hvf g o e hx; have := HLT.out; omega
    have HVF := Lib.hid hbz2
    clear hvf hbz2
    go_wp2_with (first | go_skip | (refine wpList_store_row rfl 27 _ _ rfl bz v.cells rfl rfl 27 _ Hz.out (by kernel_rfl) rfl (agg_one v) ?_))
    refine bodyPost_ret (results_cell_tmp (fr := (0, 0)) rfl _ _ bz 27 v.cells _ rfl (heap_setRow Hz.out _) Tryz.underlying27 rfl (by kernel_rfl)) rfl ?_
    exact ⟨by rw [HR.out]; exact ⟨v, rfl, VP.out, (fun g o e hx => by have := HVF.out g o e hx; omega), fun h => Ok_row (VO.out h) HVF.out (Nat.lt_succ_self _) _⟩, below_setRow HB.out hlw_bz _⟩
  replace HCL : Hid (c.length ≤ 3000) := Lib.hid (HWC.out HP.out)
  clear HWC
  obtain ⟨c0, c1, c2, c3, c4, c5, c6, c7, c8, c9, c10, c11, c12, c13, c14, c15, c16, c17, c18, c19, c20⟩ := UrlAt.of_heap Hb.out
  go_wp2_with fail
  refine (Web_c b.sc _).mono ?_
  rintro e V50 ⟨rfl, rfl⟩
  clear c0 c1 c2 c3 c4 c5 c6 c7 c8 c9 c10 c11 c12 c13 c14 c15 c16 c17 c18 c19 c20
  by_cases hw : PM.web b.sc = 0
  · have hw2 : (PM.web b.sc == 0) = true := by simpa using hw
    have HW := Lib.hid hw
    clear hw
    replace HR : Hid (PM.resolveC b.pm c = none) := Lib.hid (by rw [HR.out, if_neg (by simp), if_neg (by simp), if_pos (show PM.web b.pm.scheme = 0 from HW.out)])
    go_wp2_with (first | go_skip | (refine wpList_store_row rfl 27 _ _ rfl bz uz.cells rfl rfl 27 _ Hz.out (by kernel_rfl) rfl (agg_one uz) ?_))
    refine bodyPost_ret (results_cell_tmp (fr := (0, 0)) rfl _ _ bz 27 uz.cells _ rfl (heap_setRow Hz.out _) Tryz.underlying27 rfl (by kernel_rfl)) rfl ?_
    exact ⟨by rw [HR.out]; exact ⟨uz, rfl, rfl, (fun g o e _ => by cases e), fun _ => ⟨by decide, by decide, by decide, by decide, by decide, by decide, by decide, by decide, by simp [uz], zrd _⟩⟩, below_setRow HB.out hlw_bz _⟩
  have hw2 : (PM.web b.sc == 0) = false := by simpa using hw
  have HW := Lib.hid hw
  clear hw
  obtain ⟨r, hr⟩ : ∃ r, PM.two47 c = r := ⟨_, rfl⟩
  have HRR := Lib.hid hr
  rw [hr] at HR
  clear hr
  replace HR : Hid (PM.resolveC b.pm c = if r then PM.urlParse (b.pm.scheme ++ 58 :: c) else some (PM.beside b.pm c)) := Lib.hid (by rw [HR.out, if_neg (by simp), if_neg (by simp), if_neg (show PM.web b.pm.scheme ≠ 0 from HW.out)])
  have HSC : Hid (b.sc.length ≤ 5) := Lib.hid (by rcases PM.web_cases HW.out with e | e <;> rw [e] <;> decide)
  go_wp2_with fail
  refine (HasP2_c c _).mono ?_
  rw [HRR.out]
  rintro e V51 ⟨rfl, rfl⟩
  clear hw2
  cases r
  rotate_left
  · have hlt : bz < V51.heap.size := h_lt Hz.out
    have HLT := Lib.hid hlt
    clear hlt
    replace HR : Hid (PM.resolveC b.pm c = PM.urlParse (b.sc ++ 58 :: c)) := Lib.hid (HR.out.trans (if_pos rfl))
    have c0 : V51.cell? ⟨w.heap.size, 0, none⟩ = some (.string (mkS b.sc)) := by rw [Lib.cell_of_heap Hb.out]; rfl
    have l1 : ¬ 9223372036854775807 < b.sc.length + 1 := by have := HSC.out; omega
    have l2 : ¬ 9223372036854775807 < b.sc.length + 1 + c.length := by have := HSC.out; have := HCL.out; omega
    have he : mkS b.sc ++ { data := #[58] } ++ mkS c = mkS (b.sc ++ 58 :: c) := by
      show mkS b.sc ++ mkS [58] ++ mkS c = _
      rw [mkS_append, mkS_append]
      simp
    have HE := Lib.hid he
    clear he
    go_wp2_with fail
    rw [HE.out]
    refine (UrlParseF_c (b.sc ++ 58 :: c) (by have := HSC.out; have := HCL.out; simp; omega) _ (HG.out.below HB.out) (tabs_below HTB.out HB.out)).mono ?_
    unfold ParseRF
    rintro e V52 ⟨⟨v, rfl, hvp, hvf, hvo⟩, hb⟩
    clear c0 l1 l2
    replace HB := Lib.hid (b_then HB.out hb)
    replace Hz := Lib.hid (obj_b hb Hz.out)
    replace Hb := Lib.hid (obj_b hb Hb.out)
    replace OB2 := Lib.hid (OB2.out.below hb)
    clear hb
    have VP := Lib.hid hvp
    have VO := Lib.hid hvo
    clear hvp hvo
    have hbz2 : From (bz + 1) v.a v.xs := fun g o e hx => by have := hvf g o e hx; have := HLT.out; omega
    have HVF := Lib.hid hbz2
    clear hvf hbz2
    go_wp2_with (first | go_skip | (refine wpList_store_row rfl 27 _ _ rfl bz v.cells rfl rfl 27 _ Hz.out (by kernel_rfl) rfl (agg_one v) ?_))
    refine bodyPost_ret (results_cell_tmp (fr := (0, 0)) rfl _ _ bz 27 v.cells _ rfl (heap_setRow Hz.out _) Tryz.underlying27 rfl (by kernel_rfl)) rfl ?_
    exact ⟨by rw [HR.out]; exact ⟨v, rfl, VP.out, (fun g o e hx => by have := HVF.out g o e hx; omega), fun h => Ok_row (VO.out h) HVF.out (Nat.lt_succ_self _) _⟩, below_setRow HB.out hlw_bz _⟩
  replace HR : Hid (PM.resolveC b.pm c = some (PM.beside b.pm c)) := Lib.hid (HR.out.trans (if_neg (by simp)))
  have HBW : Hid (PM.urlMay b.pm = true ∧ PM.web b.pm.scheme ≠ 0) := Lib.hid ⟨HM.out, HW.out⟩
  have hlz : bz < V51.heap.size := h_lt Hz.out
  have HLZ := Lib.hid hlz
  clear hlz
  go_wp2_with (first | go_skip | (refine wpList_load_g 27 _ rfl (by kernel_rfl) w.heap.size rfl Hb.out Tryz.underlying27 rfl (by kernel_rfl) ?_))
  refine (Bare2_c b _ OB2.out).mono ?_
  rintro e V3 ⟨x, rfl, hxp, hxo, hxf, hcap, hb⟩
  replace HB := Lib.hid (b_then HB.out hb)
  replace Hz := Lib.hid (obj_b hb Hz.out)
  replace Hb := Lib.hid (obj_b hb Hb.out)
  replace OB2 := Lib.hid (OB2.out.below hb)
  clear hb
  have XP := Lib.hid hxp
  have XO := Lib.hid hxo
  have hoff : Off V3.heap.size x := ⟨fun g o e hx => by
      obtain ⟨b', o', e', hl, _⟩ := hxo.rd.at_.resolve_left hx
      rw [e] at e'
      cases e'
      omega, hcap⟩
  have HOFF := Lib.hid hoff
  have hxf2 : From (bz + 1) x.a x.xs := fun g o e hx => by have := hxf g o e hx; have : bz < V51.heap.size := HLZ.out; omega
  have XF := Lib.hid hxf2
  clear hxp hxo hxf hcap hoff OB2 hxf2
  go_upto_region 11 with (first | go_skip | (refine wpList_work rfl _ rfl x rfl ?_))
  obtain ⟨V4, hV⟩ : ∃ V4, V4 = V3.alloc (.cells (newX x).cells 80) := ⟨_, rfl⟩
  rw [← hV]
  have hb : Below V3.heap.size V3 V4 := by rw [hV]; exact b_alloc (Below.refl _ _) _
  have hxa : XAt V3.heap.size (newX x) V4 := ⟨by rw [hV]; exact Go.heap_alloc_new _ _, XO.out.below hb, HOFF.out⟩
  have HXA := Lib.hid hxa
  clear hV hxa XO HOFF
  have hltz : bz < V3.heap.size := h_lt Hz.out
  have hlb : w.heap.size < V3.heap.size := h_lt Hb.out
  replace HB := Lib.hid (b_then HB.out hb)
  replace Hz := Lib.hid (obj_b hb Hz.out)
  replace Hb := Lib.hid (obj_b hb Hb.out)
  clear hb
  generalize V3.heap.size = bw at HXA hltz hlb ⊢
  obtain ⟨t, y, z, q, f, htl⟩ : ∃ t y z q f, PM.tail c = (t, y, z, q, f) := ⟨_, _, _, _, _, rfl⟩
  have HTL := Lib.hid htl
  have hT := fun W h => Tail_c c (Nat.le_trans HCL.out (by decide)) W h
  rw [htl] at hT
  have HT := Lib.hid hT
  have htlen : t.length ≤ 3000 ∧ y.length ≤ 3000 ∧ z.length ≤ 3000 := by
    have h := tail_len3 c
    rw [htl] at h
    have := HCL.out
    exact ⟨Nat.le_trans h.1 this, Nat.le_trans h.2.1 this, Nat.le_trans h.2.2 this⟩
  have HTN := Lib.hid htlen
  clear htl hT htlen
  go_wp2_with fail
  refine (HT.out _ (HG.out.below HB.out)).mono ?_
  rintro e V5 ⟨rfl, hb⟩
  replace HXA := Lib.hid (HXA.out.below hb)
  replace HB := Lib.hid (b_then HB.out hb)
  replace Hz := Lib.hid (obj_b hb Hz.out)
  replace Hb := Lib.hid (obj_b hb Hb.out)
  clear hb
  have c21 : V5.cell? ⟨bw, 21, none⟩ = some (.string (mkS [])) := (Lib.cell_of_heap HXA.out.at_ 21).trans rfl
  have f21 := Lib.frozen_of_heap HXA.out.at_ 21
  have c22 : V5.cell? ⟨bw, 22, none⟩ = some (.string (mkS [])) := (Lib.cell_of_heap HXA.out.at_ 22).trans rfl
  have f22 := Lib.frozen_of_heap HXA.out.at_ 22
  have c23 : V5.cell? ⟨bw, 23, none⟩ = some (.string (mkS [])) := (Lib.cell_of_heap HXA.out.at_ 23).trans rfl
  have f23 := Lib.frozen_of_heap HXA.out.at_ 23
  have c24 : V5.cell? ⟨bw, 24, none⟩ = some (.bool false) := (Lib.cell_of_heap HXA.out.at_ 24).trans rfl
  have f24 := Lib.frozen_of_heap HXA.out.at_ 24
  have c25 : V5.cell? ⟨bw, 25, none⟩ = some (.bool false) := (Lib.cell_of_heap HXA.out.at_ 25).trans rfl
  have f25 := Lib.frozen_of_heap HXA.out.at_ 25
  go_upto_region 12 with fail
  clear c21 f21 c22 f22 c23 f23 c24 f24 c25 f25
  obtain ⟨V6, hV⟩ : ∃ V6, V6 = ((((V5.setCell ⟨bw, 21, none⟩ (.string (mkS t))).setCell ⟨bw, 22, none⟩ (.string (mkS y))).setCell ⟨bw, 23, none⟩ (.string (mkS z))).setCell ⟨bw, 24, none⟩ (.bool q)).setCell ⟨bw, 25, none⟩ (.bool f) := ⟨_, rfl⟩
  rw [← hV]
  have h5 := five_store HXA.out t y z q f
  rw [← hV] at h5
  clear hV
  replace HXA := Lib.hid h5.1
  replace Hz := Lib.hid (h5.2.2 _ _ (by omega) Hz.out)
  replace HB : Hid (Below w.heap.size w V6) := Lib.hid (HB.out.trans (h5.2.1.mono (Nat.le_of_lt hlb)))
  clear h5 Hb
  have hmf : ∀ (fn : Fn) (first cap : Array Value) (w : World), (Instr.makeFunc fn first cap).run Tryz.prog w = .ok (.func fn first cap) w := fun _ _ _ _ => rfl
  go_wp2_with fail
  obtain ⟨V7, hV⟩ : ∃ V7, V7 = V6.alloc (.cells #[.func (Fn.func 62) #[.pointer (some ⟨bw, 0, none⟩)] #[], .func (Fn.func 63) #[.pointer (some ⟨bw, 0, none⟩)] #[]] 1) := ⟨_, rfl⟩
  rw [← hV]
  have hfs : V7.heap[V6.heap.size]? = some (.cells #[.func (Fn.func 62) #[.pointer (some ⟨bw, 0, none⟩)] #[], .func (Fn.func 63) #[.pointer (some ⟨bw, 0, none⟩)] #[]] 1 (0, 0)) := by rw [hV]; exact Go.heap_alloc_new _ _
  have hb : Below V6.heap.size V6 V7 := by rw [hV]; exact b_alloc (Below.refl _ _) _
  have hbs : bw < V6.heap.size := h_lt HXA.out.at_
  replace HXA := Lib.hid (HXA.out.below hb)
  replace Hz := Lib.hid (obj_b hb Hz.out)
  replace HB := Lib.hid (b_then HB.out hb)
  have HFS := Lib.hid hfs
  clear hV hfs hb hmf
  generalize V6.heap.size = bs at HFS hbs ⊢
  have hxs : x.xs = b.xs := by
    have h := congrArg PM.Url.path XP.out
    exact h
  have hxne : x.xs ≠ [] := by rw [hxs]; exact (PM.pathMay_segs (PM.may_web HBW.out.1 HBW.out.2).2.2.2.1).1
  have HXNE := Lib.hid hxne
  have HXN : Hid (x.xs.length ≤ 900) := Lib.hid (by rw [hxs]; exact HN.out)
  clear hxs hxne
  go_loopw [74] (fun i wr => Hid (Below w.heap.size w wr) ∧ Hid (wr.heap[bz]? = some (.cells #[.string ⟨#[]⟩, .string ⟨#[]⟩, .string ⟨#[]⟩, .int .i64 0, .string ⟨#[]⟩, .int .i64 0, .int .i64 0, .int .i64 0, .int .i64 0, .int .i64 0, .int .i64 0, .int .i64 0, .int .i64 0, .int .i64 0, .int .i64 0, .slice none 0 0, .string ⟨#[]⟩, .string ⟨#[]⟩, .string ⟨#[]⟩, .bool false, .bool false] 27 (0, 0))) ∧ Hid (wr.heap[bs]? = some (.cells #[.func (Fn.func 62) #[.pointer (some ⟨bw, 0, none⟩)] #[], .func (Fn.func 63) #[.pointer (some ⟨bw, 0, none⟩)] #[]] 1 (0, 0))) ∧ ((i = .int .i64 0 ∧ Hid (XAt bw ⟨x, t, y, z, q, f⟩ wr)) ∨ (i = .int .i64 1 ∧ ∃ u1 : UV, Hid (XAt bw ⟨u1, t, y, z, q, f⟩ wr) ∧ Hid (u1.pm = { x.pm with path := PM.wayP x.pm.path t }) ∧ Hid (From (bz + 1) u1.a u1.xs)) ∨ (i = .int .i64 2 ∧ ∃ u1 : UV, Hid (XAt bw ⟨tailV ⟨u1, t, y, z, q, f⟩, t, y, z, q, f⟩ wr) ∧ Hid (u1.pm = { x.pm with path := PM.wayP x.pm.path t }) ∧ Hid (From (bz + 1) u1.a u1.xs)))) (fun i _ => 4 - (intOf i).toNat)
  case atStart => exact ⟨HB, Hz, HFS, .inl ⟨rfl, HXA⟩⟩
  case round =>
    obtain ⟨HB, Hz, HFS, hrel⟩ := hrel
    rcases hrel with ⟨rfl, HXA⟩ | ⟨rfl, u1, HXA, HPM, HFR⟩ | ⟨rfl, u1, HXA, HPM, HFR⟩
    · have q0 : wr.cell? ⟨bs, 0, none⟩ = some (.func (Fn.func 62) #[.pointer (some ⟨bw, 0, none⟩)] #[]) := by rw [Lib.cell_of_heap HFS.out]; rfl
      have hltw : bz + 1 ≤ wr.heap.size := h_lt Hz.out
      have HLTW := Lib.hid hltw
      clear hltw
      go_wp2_with fail
      refine (way_c bw ⟨x, t, y, z, q, f⟩ _ HXA.out HXNE.out HTN.out.1 HXN.out (HG.out.below HB.out)).mono ?_
      rintro e V8 ⟨rfl, u1, hxa, hpm, hbe, hkp, hfr⟩
      have H1 := Lib.hid hxa
      have H2 := Lib.hid hpm
      have H3 := Lib.hid (hfr (bz + 1) HLTW.out XF.out)
      have H4 := Lib.hid (hkp _ _ (by omega) Hz.out)
      have H5 := Lib.hid (hkp _ _ (by omega) HFS.out)
      have H6 : Hid (Below w.heap.size w V8) := Lib.hid (HB.out.trans (hbe.mono (Nat.le_of_lt hlb)))
      clear hxa hpm hbe hkp hfr q0
      go_wp2
      exact ⟨⟨H6, H4, H5, .inr (.inl ⟨rfl, u1, H1, H2, H3⟩)⟩, by simp only [intOf]; omega⟩
    · have q1 : wr.cell? ⟨bs, 1, none⟩ = some (.func (Fn.func 63) #[.pointer (some ⟨bw, 0, none⟩)] #[]) := by rw [Lib.cell_of_heap HFS.out]; rfl
      go_wp2_with fail
      refine (tail_c bw u1 t y z q f _ HXA.out HTN.out.2.1 HTN.out.2.2).mono ?_
      rintro e V9 ⟨rfl, hxa, hbe, hkp⟩
      have H1 := Lib.hid hxa
      have H4 := Lib.hid (hkp _ _ (by omega) Hz.out)
      have H5 := Lib.hid (hkp _ _ (by omega) HFS.out)
      have H6 : Hid (Below w.heap.size w V9) := Lib.hid (HB.out.trans (hbe.mono (Nat.le_of_lt hlb)))
      clear hxa hbe hkp q1
      go_wp2
      exact ⟨⟨H6, H4, H5, .inr (.inr ⟨rfl, u1, H1, HPM, HFR⟩)⟩, by simp only [intOf]; omega⟩
    · go_wp2_with (first | go_skip | (refine wpList_load_mg 27 _ rfl (by kernel_rfl) bw 0 rfl (tailV ⟨u1, t, y, z, q, f⟩).cells (x_url HXA.out.at_) Tryz.underlying27 rfl (by kernel_rfl) ?_) | (refine wpList_store_row rfl 27 _ _ rfl bz (tailV ⟨u1, t, y, z, q, f⟩).cells rfl rfl 27 _ Hz.out (by kernel_rfl) rfl (agg_one (tailV ⟨u1, t, y, z, q, f⟩)) ?_))
      refine bodyPost_ret (results_cell_tmp (fr := (0, 0)) rfl _ _ bz 27 (tailV ⟨u1, t, y, z, q, f⟩).cells _ rfl (heap_setRow Hz.out _) Tryz.underlying27 rfl (by kernel_rfl)) rfl ?_
      exact ⟨by rw [HR.out]; exact ⟨(tailV ⟨u1, t, y, z, q, f⟩), rfl, tail_pm HTL.out XP.out HPM.out, (fun g o e hx => by have h : From (bz + 1) u1.a u1.xs := HFR.out; have := h g o e hx; omega), fun h => Ok_row HXA.out.ok HFR.out (Nat.lt_succ_self _) _⟩, below_setRow HB.out hlw_bz _⟩
set_option maxRecDepth 100000 in
set_option maxHeartbeats 16000000 in
theorem JoinSelf_c (b u : UV) (f : List UInt8) (w : World) (hrb : RdW w b.a b.pn b.xs) (hru : RdW w u.a u.pn u.xs) (hg : Gl w) (hT : Lib.Utf8Tabs 1 2 w) : Calls Tryz.prog 6 #[.agg b.cells, .agg u.cells, .string (mkS f)] w fun e w' => e = .returned (.bool true) ∧ Below w.heap.size w w' := by
  have HG := Lib.hid hg
  have HTB := Lib.hid hT
  have Rb := Lib.hid hrb
  have Ru := Lib.hid hru
  clear hg hT hrb hru
  have HB : Hid (Below w.heap.size w ((w.alloc (.cells b.cells 27)).alloc (.cells u.cells 27))) := Lib.hid (b_alloc (b_alloc (Below.refl _ _) _) _)
  have Hb : Hid (((w.alloc (.cells b.cells 27)).alloc (.cells u.cells 27)).heap[w.heap.size]? = some (.cells b.cells 27 (0, 0))) := Lib.hid (heap_b (b_alloc (Below.refl _ _) _) (by have h := Go.heap_alloc_new w (.cells b.cells 27); simpa using h))
  have Hu : Hid (((w.alloc (.cells b.cells 27)).alloc (.cells u.cells 27)).heap[w.heap.size + 1]? = some (.cells u.cells 27 (0, 0))) := Lib.hid ((by have h := Go.heap_alloc_new (w.alloc (.cells b.cells 27)) (.cells u.cells 27); simpa using h))
  go_enter Tryz.func6, Tryz.ntmps6
  go_upto_region 1 with fail
  generalize (w.alloc (.cells b.cells 27)).alloc (.cells u.cells 27) = V0 at HB Hb Hu ⊢
  generalize hbu : w.heap.size + 1 = bu at Hu ⊢
  have hlw_bu : w.heap.size ≤ bu := by omega
  have hne_u_b : w.heap.size < bu := by omega
  clear hbu
  go_wp2_with fail
  refine (awake11_c _ (HG.out.below HB.out) (tabs_below HTB.out HB.out)).mono ?_
  rintro e V1 ⟨rfl, hb⟩
  replace HB := Lib.hid (b_then HB.out hb)
  replace Hu := Lib.hid (obj_b hb Hu.out)
  replace Hb := Lib.hid (obj_b hb Hb.out)
  clear hb
  go_wp2_with (first | go_skip | (refine wpList_load_g 27 _ rfl (by kernel_rfl) w.heap.size rfl Hb.out Tryz.underlying27 rfl (by kernel_rfl) ?_))
  refine (Few_c b _ (Rb.out.below HB.out)).mono ?_
  rintro e V2 ⟨rfl, hb⟩
  replace HB := Lib.hid (b_then HB.out hb)
  replace Hu := Lib.hid (obj_b hb Hu.out)
  replace Hb := Lib.hid (obj_b hb Hb.out)
  clear hb
  go_wp2_with (first | go_skip | (refine wpList_load_g 27 _ rfl (by kernel_rfl) bu rfl Hu.out Tryz.underlying27 rfl (by kernel_rfl) ?_))
  refine (Few_c u _ (Ru.out.below HB.out)).mono ?_
  rintro e V3 ⟨rfl, hb⟩
  replace HB := Lib.hid (b_then HB.out hb)
  replace Hu := Lib.hid (obj_b hb Hu.out)
  replace Hb := Lib.hid (obj_b hb Hb.out)
  clear hb
  cases hfb : PM.few b.pm
  · go_wp2
    go_ret
    exact ⟨rfl, HB.out⟩
  have Ob := Lib.hid (few_ok (Rb.out.below HB.out) hfb)
  have Fb := Lib.hid hfb
  clear hfb
  cases hfu : PM.few u.pm
  · go_wp2
    go_ret
    exact ⟨rfl, HB.out⟩
  have Ou := Lib.hid (few_ok (Ru.out.below HB.out) hfu)
  have Fu := Lib.hid hfu
  clear hfu
  by_cases hlf : 100 < f.length
  · have hlf2 : (100 : Int) < f.length := by omega
    go_wp2
    go_ret
    exact ⟨rfl, HB.out⟩
  have hlf2 : decide ((100 : Int) < (f.length : Int)) = false := decide_eq_false (by omega)
  have HLf : Hid (f.length ≤ 100) := Lib.hid (by omega)
  clear hlf
  obtain ⟨m, hm⟩ : ∃ m, PM.urlMay b.pm = m := ⟨_, rfl⟩
  have HMb := Lib.hid hm
  clear hm
  go_wp2_with (first | go_skip | (refine wpList_load_g 27 _ rfl (by kernel_rfl) w.heap.size rfl Hb.out Tryz.underlying27 rfl (by kernel_rfl) ?_) | (refine wpList_load_g 27 _ rfl (by kernel_rfl) bu rfl Hu.out Tryz.underlying27 rfl (by kernel_rfl) ?_))
  refine (urlMay_c b _ Ob.out (HG.out.below HB.out)).mono ?_
  rw [HMb.out]
  rintro e V4 ⟨rfl, hb⟩
  replace HB := Lib.hid (b_then HB.out hb)
  replace Hu := Lib.hid (obj_b hb Hu.out)
  replace Hb := Lib.hid (obj_b hb Hb.out)
  replace Ob := Lib.hid (Ob.out.below hb)
  replace Ou := Lib.hid (Ou.out.below hb)
  clear hb
  cases m
  · go_wp2
    go_ret
    exact ⟨rfl, HB.out⟩
  obtain ⟨m, hm⟩ : ∃ m, PM.urlMay u.pm = m := ⟨_, rfl⟩
  have HMu := Lib.hid hm
  clear hm
  go_wp2_with (first | go_skip | (refine wpList_load_g 27 _ rfl (by kernel_rfl) w.heap.size rfl Hb.out Tryz.underlying27 rfl (by kernel_rfl) ?_) | (refine wpList_load_g 27 _ rfl (by kernel_rfl) bu rfl Hu.out Tryz.underlying27 rfl (by kernel_rfl) ?_))
  refine (urlMay_c u _ Ou.out (HG.out.below HB.out)).mono ?_
  rw [HMu.out]
  rintro e V5 ⟨rfl, hb⟩
  replace HB := Lib.hid (b_then HB.out hb)
  replace Hu := Lib.hid (obj_b hb Hu.out)
  replace Hb := Lib.hid (obj_b hb Hb.out)
  replace Ob := Lib.hid (Ob.out.below hb)
  replace Ou := Lib.hid (Ou.out.below hb)
  clear hb
  cases m
  · go_wp2
    go_ret
    exact ⟨rfl, HB.out⟩
  have c0 : V5.cell? ⟨w.heap.size, 0, none⟩ = some (.string (mkS b.sc)) := by rw [Lib.cell_of_heap Hb.out]; rfl
  go_wp2_with fail
  refine (Web_c b.sc _).mono ?_
  rintro e V6 ⟨rfl, rfl⟩
  clear c0
  by_cases hw : PM.web b.sc = 0
  · have hw2 : (PM.web b.sc == 0) = true := by simpa using hw
    clear hw
    go_wp2
    go_ret
    exact ⟨rfl, HB.out⟩
  have hw2 : (PM.web b.sc == 0) = false := by simpa using hw
  have HW : Hid (PM.web b.pm.scheme ≠ 0) := Lib.hid hw
  clear hw
  go_wp2_with (first | go_skip | (refine wpList_load_g 27 _ rfl (by kernel_rfl) w.heap.size rfl Hb.out Tryz.underlying27 rfl (by kernel_rfl) ?_) | (refine wpList_load_g 27 _ rfl (by kernel_rfl) bu rfl Hu.out Tryz.underlying27 rfl (by kernel_rfl) ?_))
  refine (show Calls Tryz.prog 25 #[.agg b.cells, .string ⟨#[]⟩] _ _ from Resolve_c b [] _ (by decide) Ob.out (Nat.le_trans (PM.few_all Fb.out).1 (by decide)) (HG.out.below HB.out) (tabs_below HTB.out HB.out)).mono ?_
  rintro e V7 ⟨hp, hb⟩
  obtain ⟨x, rfl, hxp, hxo⟩ := parse_ok hp (PM.resolve_nil HMb.out HW.out) (Nat.le_trans (few_path Fb.out).1 (by decide))
  have Px := Lib.hid hxp
  have Ox := Lib.hid hxo
  clear hp hxp hxo
  replace HB := Lib.hid (b_then HB.out hb)
  replace Hu := Lib.hid (obj_b hb Hu.out)
  replace Hb := Lib.hid (obj_b hb Hb.out)
  replace Ob := Lib.hid (Ob.out.below hb)
  replace Ou := Lib.hid (Ou.out.below hb)
  clear hb
  have HN := Lib.hid (Go.heap_alloc_new V7 (.cells zurl 27))
  unfold zurl at HN 
  go_upto_region 7 with (first | (refine wpList_store_row rfl 27 _ _ rfl V7.heap.size x.cells rfl rfl 27 _ HN.out (by kernel_rfl) rfl (agg_one x) ?_))
  obtain ⟨V8, hV⟩ : ∃ V8, V8 = (V7.alloc (.cells #[.string ⟨#[]⟩, .string ⟨#[]⟩, .string ⟨#[]⟩, .int .i64 0, .string ⟨#[]⟩, .int .i64 0, .int .i64 0, .int .i64 0, .int .i64 0, .int .i64 0, .int .i64 0, .int .i64 0, .int .i64 0, .int .i64 0, .int .i64 0, .slice none 0 0, .string ⟨#[]⟩, .string ⟨#[]⟩, .string ⟨#[]⟩, .bool false, .bool false] 27)).setRow V7.heap.size x.cells := ⟨_, rfl⟩
  have hN : V8.heap[V7.heap.size]? = some (.cells x.cells 27 (0, 0)) := by rw [hV]; exact heap_setRow HN.out _
  have hb : Below V7.heap.size V7 V8 := by rw [hV]; exact below_setRow (b_alloc (Below.refl _ _) _) (Nat.le_refl _) _
  rw [← hV]
  clear hV HN 
  have Hx := Lib.hid hN
  clear hN
  have hlt_kx_Hu : bu < V7.heap.size := h_lt Hu.out
  have hlt_kx_Hb : w.heap.size < V7.heap.size := h_lt Hb.out
  have hlw_kx : w.heap.size ≤ V7.heap.size := HB.out.size
  replace HB := Lib.hid (b_then HB.out hb)
  replace Hu := Lib.hid (obj_b hb Hu.out)
  replace Hb := Lib.hid (obj_b hb Hb.out)
  replace Ob := Lib.hid (Ob.out.below hb)
  replace Ou := Lib.hid (Ou.out.below hb)
  replace Ox := Lib.hid (Ox.out.below hb)
  clear hb
  generalize V7.heap.size = kx at Hx hlt_kx_Hu hlt_kx_Hb hlw_kx ⊢
  (try simp only [Act.put])
  have Ou0 := Ou
  have hsl := show_few Fu.out rfl
  have HSL := Lib.hid hsl
  clear hsl
  obtain ⟨X, hX⟩ : ∃ X, PM.showUrl u.pm = X := ⟨_, rfl⟩
  have HX := Lib.hid hX
  have HRY : Hid (PM.resolve b.pm X = some u.pm) := Lib.hid (by rw [← hX]; exact PM.resolve_show HMb.out HMu.out rfl)
  clear hX
  rw [HX.out] at HSL
  go_wp2_with fail
  go_cut [12, 13] (fun p c wr => ∃ (ky : Nat) (y : UV) (W9 : World), W9 = wr ∧ p = .pointer (some ⟨ky, 0, none⟩) ∧ c = .bool true ∧ Hid (y.pm = u.pm) ∧ Hid (y.Ok wr) ∧ Hid (wr.heap[ky]? = some (.cells y.cells 27 (0, 0))) ∧ Hid (EAt w.heap.size bu kx b u x w wr))
  case first =>
    have n1 : ∀ k, V8.heap.size ≤ k → w.heap.size ≠ k ∧ bu ≠ k ∧ kx ≠ k ∧ w.heap.size ≤ k := fun k hk => by have h1 := h_lt Hb.out; have h2 := h_lt Hu.out; have h3 := h_lt Hx.out; have h4 := HB.out.size; omega
    have n2 : ∀ k, V8.heap.size ≤ k → Nb k b ∧ Nb k u ∧ Nb k x := fun k hk => ⟨Ok_nb Ob.out hk, Ok_nb Ou.out hk, Ok_nb Ox.out hk⟩
    have N1 := Lib.hid n1
    have N2 := Lib.hid n2
    clear n1 n2
    refine wp_region_noPanic ?_
    refine wp_region_held_drew (S := fun W' => EAt w.heap.size bu kx b u x w W') (by kernel_rfl) (EAt.below ⟨Hb.out, Hu.out, Hx.out, HB.out, Ob.out, Ou.out, Ox.out⟩ (b_drew (Below.refl _ _))) (fun hS0 => ?_)
    have hS := hS0
    clear hS0
    have SZ : Hid (V8.heap.size ≤ V8.drew.heap.size) := Lib.hid (Nat.le_refl _)
    refine wpAnyH_take (i := 0) (v := ?_) rfl (by kernel_rfl) (by kernel_rfl) (by kernel_rfl) (fun _ _ _ h => h) (Or.inl ⟨by kernel_rfl, fun W hW => ?_⟩) (by assumption) ?_
    rotate_left
    · refine yield_row 27 (.tmp 3) ?_ w.heap.size ?_ hW.hb Tryz.underlying27 rfl (by kernel_rfl)
      · rfl
      · rfl
    (try simp only [List.getElem_toArray, List.getElem_cons_zero, List.getElem_cons_succ, Act.put, List.setIfInBounds_toArray, List.set_cons_zero, List.set_cons_succ])
    refine wpAnyH_take (i := 1) (v := ?_) rfl (by kernel_rfl) (by kernel_rfl) (by kernel_rfl) (fun _ _ _ h => h) (Or.inl ⟨by kernel_rfl, fun W hW => ?_⟩) (by assumption) ?_
    rotate_left
    · refine yield_row 27 (.tmp 4) ?_ bu ?_ hW.hu Tryz.underlying27 rfl (by kernel_rfl)
      · rfl
      · rfl
    (try simp only [List.getElem_toArray, List.getElem_cons_zero, List.getElem_cons_succ, Act.put, List.setIfInBounds_toArray, List.set_cons_zero, List.set_cons_succ])
    refine wpAnyH_ready (rs := [2, 7]) (by kernel_rfl) (by simp) ?_
    refine AllReadyH.cons rfl (fun K hK => ?_) (AllReadyH.cons rfl (fun K hK => ?_) AllReadyH.nil)
    · go_simp
      refine (showUrl_c u _ hS.uo (HG.out.below hS.be)).mono ?_
      rw [HX.out]
      rintro e U1 ⟨rfl, hb⟩
      replace hS := hS.below hb
      replace SZ : Hid (V8.heap.size ≤ U1.heap.size) := Lib.hid (Nat.le_trans SZ.out hb.size)
      clear hb
      refine hK.out _ _ hS (fun _ => ?_)
      clear hK K
      (try simp only [List.getElem_toArray, List.getElem_cons_zero, List.getElem_cons_succ, Act.put, List.setIfInBounds_toArray, List.set_cons_zero, List.set_cons_succ])
      refine wpAnyH_ready (rs := [3, 7]) (by kernel_rfl) (by simp) ?_
      refine AllReadyH.cons rfl (fun K hK => ?_) (AllReadyH.cons rfl (fun K hK => ?_) AllReadyH.nil)
      · go_simp
        refine (Resolve3_c b X _ HSL.out (fun h => by have h2 := PM.parse_whole (PM.parse_show HMu.out rfl); rw [HX.out, h] at h2; cases h2) hS.bo (Nat.le_trans (PM.few_all Fb.out).1 (by decide)) (HG.out.below hS.be) (tabs_below HTB.out hS.be)).mono ?_
        rintro e U2 ⟨hp, hb⟩
        obtain ⟨y, rfl, hyp, hyf, hyo⟩ := parse_okF hp HRY.out Ou0.out.xn
        have Py := Lib.hid hyp
        have Oy := Lib.hid hyo
        replace hS := hS.below hb
        replace SZ : Hid (V8.heap.size ≤ U2.heap.size) := Lib.hid (Nat.le_trans SZ.out hb.size)
        clear hb hp hyp hyf hyo
        refine hK.out _ _ hS (fun _ => ?_)
        clear hK K
        (try simp only [List.getElem_toArray, List.getElem_cons_zero, List.getElem_cons_succ, Act.put, List.setIfInBounds_toArray, List.set_cons_zero, List.set_cons_succ])
        refine wpAnyH_take (i := 4) (v := ?_) rfl (by kernel_rfl) (by kernel_rfl) (by kernel_rfl) (fun _ _ _ h => h) (Or.inl ⟨by kernel_rfl, fun W hW => ?_⟩) (by assumption) ?_
        rotate_left
        · go_simp
          try with_reducible rfl
        (try simp only [List.getElem_toArray, List.getElem_cons_zero, List.getElem_cons_succ, Act.put, List.setIfInBounds_toArray, List.set_cons_zero, List.set_cons_succ])
        refine wpAnyH_take (i := 5) (v := ?_) rfl (by kernel_rfl) (by kernel_rfl) (by kernel_rfl) (fun _ _ _ h => h) (Or.inl ⟨by kernel_rfl, fun W hW => ?_⟩) (by assumption) ?_
        rotate_left
        · go_simp
          try with_reducible rfl
        (try simp only [List.getElem_toArray, List.getElem_cons_zero, List.getElem_cons_succ, Act.put, List.setIfInBounds_toArray, List.set_cons_zero, List.set_cons_succ])
        refine wpAnyH_take (i := 6) (v := ?_) rfl (by kernel_rfl) (by kernel_rfl) (by kernel_rfl) (fun _ _ _ h => h) (Or.inl ⟨by kernel_rfl, fun W hW => ?_⟩) (by assumption) ?_
        rotate_left
        · go_simp
          try with_reducible rfl
        (try simp only [List.getElem_toArray, List.getElem_cons_zero, List.getElem_cons_succ, Act.put, List.setIfInBounds_toArray, List.set_cons_zero, List.set_cons_succ])
        refine wpAnyH_ready (rs := [7]) (by kernel_rfl) (by simp) ?_
        refine AllReadyH.cons rfl (fun K hK => ?_) AllReadyH.nil
        go_simp
        have hN : (U2.alloc (.cells #[.string ⟨#[]⟩, .string ⟨#[]⟩, .string ⟨#[]⟩, .int .i64 0, .string ⟨#[]⟩, .int .i64 0, .int .i64 0, .int .i64 0, .int .i64 0, .int .i64 0, .int .i64 0, .int .i64 0, .int .i64 0, .int .i64 0, .int .i64 0, .slice none 0 0, .string ⟨#[]⟩, .string ⟨#[]⟩, .string ⟨#[]⟩, .bool false, .bool false] 27)).heap[U2.heap.size]? = some (.cells #[.string ⟨#[]⟩, .string ⟨#[]⟩, .string ⟨#[]⟩, .int .i64 0, .string ⟨#[]⟩, .int .i64 0, .int .i64 0, .int .i64 0, .int .i64 0, .int .i64 0, .int .i64 0, .int .i64 0, .int .i64 0, .int .i64 0, .int .i64 0, .slice none 0 0, .string ⟨#[]⟩, .string ⟨#[]⟩, .string ⟨#[]⟩, .bool false, .bool false] 27 (0, 0)) := Go.heap_alloc_new U2 _
        have hb : Below U2.heap.size U2 (U2.alloc (.cells #[.string ⟨#[]⟩, .string ⟨#[]⟩, .string ⟨#[]⟩, .int .i64 0, .string ⟨#[]⟩, .int .i64 0, .int .i64 0, .int .i64 0, .int .i64 0, .int .i64 0, .int .i64 0, .int .i64 0, .int .i64 0, .int .i64 0, .int .i64 0, .slice none 0 0, .string ⟨#[]⟩, .string ⟨#[]⟩, .string ⟨#[]⟩, .bool false, .bool false] 27)) := b_alloc (Below.refl _ _) _
        have hny : Nb (U2.heap.size) y := Ok_nb Oy.out (Nat.le_refl _)
        have NY := Lib.hid hny
        clear hny
        have HLB : Hid (V8.heap.size ≤ U2.heap.size) := Lib.hid SZ.out
        replace hS := hS.below hb
        replace SZ : Hid (V8.heap.size ≤ (U2.alloc (.cells #[.string ⟨#[]⟩, .string ⟨#[]⟩, .string ⟨#[]⟩, .int .i64 0, .string ⟨#[]⟩, .int .i64 0, .int .i64 0, .int .i64 0, .int .i64 0, .int .i64 0, .int .i64 0, .int .i64 0, .int .i64 0, .int .i64 0, .int .i64 0, .slice none 0 0, .string ⟨#[]⟩, .string ⟨#[]⟩, .string ⟨#[]⟩, .bool false, .bool false] 27)).heap.size) := Lib.hid (Nat.le_trans SZ.out hb.size)
        replace Oy := Lib.hid (Oy.out.below hb)
        have HN := Lib.hid hN
        clear hb hN
        refine hK.out _ _ hS (fun _ => ?_)
        clear hK K
        (try simp only [List.getElem_toArray, List.getElem_cons_zero, List.getElem_cons_succ, Act.put, List.setIfInBounds_toArray, List.set_cons_zero, List.set_cons_succ])
        refine wpAnyH_ready (rs := [8]) (by kernel_rfl) (by simp) ?_
        refine AllReadyH.cons rfl (fun K hK => ?_) AllReadyH.nil
        try rw [if_pos (by rfl)]
        refine wp_store_row 27 _ _ rfl (U2.heap.size) y.cells rfl rfl 27 _ HN.out (by kernel_rfl) rfl (agg_one y) ?_
        have hS8 : EAt w.heap.size bu kx b u x w ((U2.alloc (.cells #[.string ⟨#[]⟩, .string ⟨#[]⟩, .string ⟨#[]⟩, .int .i64 0, .string ⟨#[]⟩, .int .i64 0, .int .i64 0, .int .i64 0, .int .i64 0, .int .i64 0, .int .i64 0, .int .i64 0, .int .i64 0, .int .i64 0, .int .i64 0, .slice none 0 0, .string ⟨#[]⟩, .string ⟨#[]⟩, .string ⟨#[]⟩, .bool false, .bool false] 27)).setRow (U2.heap.size) y.cells) := hS.row y.cells (N1.out _ HLB.out).1 (N1.out _ HLB.out).2.1 (N1.out _ HLB.out).2.2.1 (N1.out _ HLB.out).2.2.2 (N2.out _ HLB.out).1 (N2.out _ HLB.out).2.1 (N2.out _ HLB.out).2.2
        refine hK.out _ _ hS8 (fun _ => ?_)
        clear hK K
        (try simp only [List.getElem_toArray, List.getElem_cons_zero, List.getElem_cons_succ, Act.put, List.setIfInBounds_toArray, List.set_cons_zero, List.set_cons_succ])
        refine wpAnyH_take (i := 9) (v := ?_) rfl (by kernel_rfl) (by kernel_rfl) (by kernel_rfl) (fun _ _ _ h => h) (Or.inl ⟨by kernel_rfl, fun W hW => ?_⟩) (by assumption) ?_
        rotate_left
        · go_simp
          try with_reducible rfl
        (try simp only [List.getElem_toArray, List.getElem_cons_zero, List.getElem_cons_succ, Act.put, List.setIfInBounds_toArray, List.set_cons_zero, List.set_cons_succ])
        refine wpAnyH_done (by kernel_rfl) ?_ _
        refine NoPanic.normal ?_
        go_wp2
        go_meet
        exact ⟨_, y, _, rfl, rfl, rfl, Py, Lib.hid (Ok_rowN Oy.out NY.out _), Lib.hid (heap_setRow HN.out _), Lib.hid hS8⟩
      · go_simp
        have hN : (U1.alloc (.cells #[.string ⟨#[]⟩, .string ⟨#[]⟩, .string ⟨#[]⟩, .int .i64 0, .string ⟨#[]⟩, .int .i64 0, .int .i64 0, .int .i64 0, .int .i64 0, .int .i64 0, .int .i64 0, .int .i64 0, .int .i64 0, .int .i64 0, .int .i64 0, .slice none 0 0, .string ⟨#[]⟩, .string ⟨#[]⟩, .string ⟨#[]⟩, .bool false, .bool false] 27)).heap[U1.heap.size]? = some (.cells #[.string ⟨#[]⟩, .string ⟨#[]⟩, .string ⟨#[]⟩, .int .i64 0, .string ⟨#[]⟩, .int .i64 0, .int .i64 0, .int .i64 0, .int .i64 0, .int .i64 0, .int .i64 0, .int .i64 0, .int .i64 0, .int .i64 0, .int .i64 0, .slice none 0 0, .string ⟨#[]⟩, .string ⟨#[]⟩, .string ⟨#[]⟩, .bool false, .bool false] 27 (0, 0)) := Go.heap_alloc_new U1 _
        have hb : Below U1.heap.size U1 (U1.alloc (.cells #[.string ⟨#[]⟩, .string ⟨#[]⟩, .string ⟨#[]⟩, .int .i64 0, .string ⟨#[]⟩, .int .i64 0, .int .i64 0, .int .i64 0, .int .i64 0, .int .i64 0, .int .i64 0, .int .i64 0, .int .i64 0, .int .i64 0, .int .i64 0, .slice none 0 0, .string ⟨#[]⟩, .string ⟨#[]⟩, .string ⟨#[]⟩, .bool false, .bool false] 27)) := b_alloc (Below.refl _ _) _
        have HLB : Hid (V8.heap.size ≤ U1.heap.size) := Lib.hid SZ.out
        replace hS := hS.below hb
        replace SZ : Hid (V8.heap.size ≤ (U1.alloc (.cells #[.string ⟨#[]⟩, .string ⟨#[]⟩, .string ⟨#[]⟩, .int .i64 0, .string ⟨#[]⟩, .int .i64 0, .int .i64 0, .int .i64 0, .int .i64 0, .int .i64 0, .int .i64 0, .int .i64 0, .int .i64 0, .int .i64 0, .int .i64 0, .slice none 0 0, .string ⟨#[]⟩, .string ⟨#[]⟩, .string ⟨#[]⟩, .bool false, .bool false] 27)).heap.size) := Lib.hid (Nat.le_trans SZ.out hb.size)
        have HN := Lib.hid hN
        clear hb hN
        refine hK.out _ _ hS (fun _ => ?_)
        clear hK K
        (try simp only [List.getElem_toArray, List.getElem_cons_zero, List.getElem_cons_succ, Act.put, List.setIfInBounds_toArray, List.set_cons_zero, List.set_cons_succ])
        refine wpAnyH_ready (rs := [3]) (by kernel_rfl) (by simp) ?_
        refine AllReadyH.cons rfl (fun K hK => ?_) AllReadyH.nil
        go_simp
        have hlt8 := h_lt HN.out
        refine (Resolve3_c b X _ HSL.out (fun h => by have h2 := PM.parse_whole (PM.parse_show HMu.out rfl); rw [HX.out, h] at h2; cases h2) hS.bo (Nat.le_trans (PM.few_all Fb.out).1 (by decide)) (HG.out.below hS.be) (tabs_below HTB.out hS.be)).mono ?_
        rintro e U3 ⟨hp, hb⟩
        obtain ⟨y, rfl, hyp, hyf, hyo⟩ := parse_okF hp HRY.out Ou0.out.xn
        have Py := Lib.hid hyp
        have Oy := Lib.hid hyo
        have hny : Nb (U1.heap.size) y := fun g o e hx => by have := hyf g o e hx; omega
        have NY := Lib.hid hny
        clear hny hlt8
        replace hS := hS.below hb
        replace SZ : Hid (V8.heap.size ≤ U3.heap.size) := Lib.hid (Nat.le_trans SZ.out hb.size)
        replace HN := Lib.hid (obj_b hb HN.out)
        clear hb hp hyp hyf hyo
        refine hK.out _ _ hS (fun _ => ?_)
        clear hK K
        (try simp only [List.getElem_toArray, List.getElem_cons_zero, List.getElem_cons_succ, Act.put, List.setIfInBounds_toArray, List.set_cons_zero, List.set_cons_succ])
        refine wpAnyH_take (i := 4) (v := ?_) rfl (by kernel_rfl) (by kernel_rfl) (by kernel_rfl) (fun _ _ _ h => h) (Or.inl ⟨by kernel_rfl, fun W hW => ?_⟩) (by assumption) ?_
        rotate_left
        · go_simp
          try with_reducible rfl
        (try simp only [List.getElem_toArray, List.getElem_cons_zero, List.getElem_cons_succ, Act.put, List.setIfInBounds_toArray, List.set_cons_zero, List.set_cons_succ])
        refine wpAnyH_take (i := 5) (v := ?_) rfl (by kernel_rfl) (by kernel_rfl) (by kernel_rfl) (fun _ _ _ h => h) (Or.inl ⟨by kernel_rfl, fun W hW => ?_⟩) (by assumption) ?_
        rotate_left
        · go_simp
          try with_reducible rfl
        (try simp only [List.getElem_toArray, List.getElem_cons_zero, List.getElem_cons_succ, Act.put, List.setIfInBounds_toArray, List.set_cons_zero, List.set_cons_succ])
        refine wpAnyH_take (i := 6) (v := ?_) rfl (by kernel_rfl) (by kernel_rfl) (by kernel_rfl) (fun _ _ _ h => h) (Or.inl ⟨by kernel_rfl, fun W hW => ?_⟩) (by assumption) ?_
        rotate_left
        · go_simp
          try with_reducible rfl
        (try simp only [List.getElem_toArray, List.getElem_cons_zero, List.getElem_cons_succ, Act.put, List.setIfInBounds_toArray, List.set_cons_zero, List.set_cons_succ])
        refine wpAnyH_ready (rs := [8]) (by kernel_rfl) (by simp) ?_
        refine AllReadyH.cons rfl (fun K hK => ?_) AllReadyH.nil
        try rw [if_pos (by rfl)]
        refine wp_store_row 27 _ _ rfl (U1.heap.size) y.cells rfl rfl 27 _ HN.out (by kernel_rfl) rfl (agg_one y) ?_
        have hS8 : EAt w.heap.size bu kx b u x w (U3.setRow (U1.heap.size) y.cells) := hS.row y.cells (N1.out _ HLB.out).1 (N1.out _ HLB.out).2.1 (N1.out _ HLB.out).2.2.1 (N1.out _ HLB.out).2.2.2 (N2.out _ HLB.out).1 (N2.out _ HLB.out).2.1 (N2.out _ HLB.out).2.2
        refine hK.out _ _ hS8 (fun _ => ?_)
        clear hK K
        (try simp only [List.getElem_toArray, List.getElem_cons_zero, List.getElem_cons_succ, Act.put, List.setIfInBounds_toArray, List.set_cons_zero, List.set_cons_succ])
        refine wpAnyH_take (i := 9) (v := ?_) rfl (by kernel_rfl) (by kernel_rfl) (by kernel_rfl) (fun _ _ _ h => h) (Or.inl ⟨by kernel_rfl, fun W hW => ?_⟩) (by assumption) ?_
        rotate_left
        · go_simp
          try with_reducible rfl
        (try simp only [List.getElem_toArray, List.getElem_cons_zero, List.getElem_cons_succ, Act.put, List.setIfInBounds_toArray, List.set_cons_zero, List.set_cons_succ])
        refine wpAnyH_done (by kernel_rfl) ?_ _
        refine NoPanic.normal ?_
        go_wp2
        go_meet
        exact ⟨_, y, _, rfl, rfl, rfl, Py, Lib.hid (Ok_rowN Oy.out NY.out _), Lib.hid (heap_setRow HN.out _), Lib.hid hS8⟩
    · go_simp
      have hN : (V8.alloc (.cells #[.string ⟨#[]⟩, .string ⟨#[]⟩, .string ⟨#[]⟩, .int .i64 0, .string ⟨#[]⟩, .int .i64 0, .int .i64 0, .int .i64 0, .int .i64 0, .int .i64 0, .int .i64 0, .int .i64 0, .int .i64 0, .int .i64 0, .int .i64 0, .slice none 0 0, .string ⟨#[]⟩, .string ⟨#[]⟩, .string ⟨#[]⟩, .bool false, .bool false] 27)).drew.heap[V8.heap.size]? = some (.cells #[.string ⟨#[]⟩, .string ⟨#[]⟩, .string ⟨#[]⟩, .int .i64 0, .string ⟨#[]⟩, .int .i64 0, .int .i64 0, .int .i64 0, .int .i64 0, .int .i64 0, .int .i64 0, .int .i64 0, .int .i64 0, .int .i64 0, .int .i64 0, .slice none 0 0, .string ⟨#[]⟩, .string ⟨#[]⟩, .string ⟨#[]⟩, .bool false, .bool false] 27 (0, 0)) := Go.heap_alloc_new V8 _
      have hb : Below V8.drew.heap.size V8.drew (V8.alloc (.cells #[.string ⟨#[]⟩, .string ⟨#[]⟩, .string ⟨#[]⟩, .int .i64 0, .string ⟨#[]⟩, .int .i64 0, .int .i64 0, .int .i64 0, .int .i64 0, .int .i64 0, .int .i64 0, .int .i64 0, .int .i64 0, .int .i64 0, .int .i64 0, .slice none 0 0, .string ⟨#[]⟩, .string ⟨#[]⟩, .string ⟨#[]⟩, .bool false, .bool false] 27)).drew := b_alloc (Below.refl V8.drew.heap.size V8.drew) _
      have HLB : Hid (V8.heap.size ≤ V8.heap.size) := Lib.hid SZ.out
      replace hS := hS.below hb
      replace SZ : Hid (V8.heap.size ≤ (V8.alloc (.cells #[.string ⟨#[]⟩, .string ⟨#[]⟩, .string ⟨#[]⟩, .int .i64 0, .string ⟨#[]⟩, .int .i64 0, .int .i64 0, .int .i64 0, .int .i64 0, .int .i64 0, .int .i64 0, .int .i64 0, .int .i64 0, .int .i64 0, .int .i64 0, .slice none 0 0, .string ⟨#[]⟩, .string ⟨#[]⟩, .string ⟨#[]⟩, .bool false, .bool false] 27)).drew.heap.size) := Lib.hid (Nat.le_trans SZ.out hb.size)
      have HN := Lib.hid hN
      clear hb hN
      refine hK.out _ _ hS (fun _ => ?_)
      clear hK K
      (try simp only [List.getElem_toArray, List.getElem_cons_zero, List.getElem_cons_succ, Act.put, List.setIfInBounds_toArray, List.set_cons_zero, List.set_cons_succ])
      refine wpAnyH_ready (rs := [2]) (by kernel_rfl) (by simp) ?_
      refine AllReadyH.cons rfl (fun K hK => ?_) AllReadyH.nil
      go_simp
      refine (showUrl_c u _ hS.uo (HG.out.below hS.be)).mono ?_
      rw [HX.out]
      rintro e U4 ⟨rfl, hb⟩
      replace hS := hS.below hb
      replace SZ : Hid (V8.heap.size ≤ U4.heap.size) := Lib.hid (Nat.le_trans SZ.out hb.size)
      replace HN := Lib.hid (obj_b hb HN.out)
      clear hb
      refine hK.out _ _ hS (fun _ => ?_)
      clear hK K
      (try simp only [List.getElem_toArray, List.getElem_cons_zero, List.getElem_cons_succ, Act.put, List.setIfInBounds_toArray, List.set_cons_zero, List.set_cons_succ])
      refine wpAnyH_ready (rs := [3]) (by kernel_rfl) (by simp) ?_
      refine AllReadyH.cons rfl (fun K hK => ?_) AllReadyH.nil
      go_simp
      have hlt8 := h_lt HN.out
      refine (Resolve3_c b X _ HSL.out (fun h => by have h2 := PM.parse_whole (PM.parse_show HMu.out rfl); rw [HX.out, h] at h2; cases h2) hS.bo (Nat.le_trans (PM.few_all Fb.out).1 (by decide)) (HG.out.below hS.be) (tabs_below HTB.out hS.be)).mono ?_
      rintro e U5 ⟨hp, hb⟩
      obtain ⟨y, rfl, hyp, hyf, hyo⟩ := parse_okF hp HRY.out Ou0.out.xn
      have Py := Lib.hid hyp
      have Oy := Lib.hid hyo
      have hny : Nb (V8.heap.size) y := fun g o e hx => by have := hyf g o e hx; omega
      have NY := Lib.hid hny
      clear hny hlt8
      replace hS := hS.below hb
      replace SZ : Hid (V8.heap.size ≤ U5.heap.size) := Lib.hid (Nat.le_trans SZ.out hb.size)
      replace HN := Lib.hid (obj_b hb HN.out)
      clear hb hp hyp hyf hyo
      refine hK.out _ _ hS (fun _ => ?_)
      clear hK K
      (try simp only [List.getElem_toArray, List.getElem_cons_zero, List.getElem_cons_succ, Act.put, List.setIfInBounds_toArray, List.set_cons_zero, List.set_cons_succ])
      refine wpAnyH_take (i := 4) (v := ?_) rfl (by kernel_rfl) (by kernel_rfl) (by kernel_rfl) (fun _ _ _ h => h) (Or.inl ⟨by kernel_rfl, fun W hW => ?_⟩) (by assumption) ?_
      rotate_left
      · go_simp
        try with_reducible rfl
      (try simp only [List.getElem_toArray, List.getElem_cons_zero, List.getElem_cons_succ, Act.put, List.setIfInBounds_toArray, List.set_cons_zero, List.set_cons_succ])
      refine wpAnyH_take (i := 5) (v := ?_) rfl (by kernel_rfl) (by kernel_rfl) (by kernel_rfl) (fun _ _ _ h => h) (Or.inl ⟨by kernel_rfl, fun W hW => ?_⟩) (by assumption) ?_
      rotate_left
      · go_simp
        try with_reducible rfl
      (try simp only [List.getElem_toArray, List.getElem_cons_zero, List.getElem_cons_succ, Act.put, List.setIfInBounds_toArray, List.set_cons_zero, List.set_cons_succ])
      refine wpAnyH_take (i := 6) (v := ?_) rfl (by kernel_rfl) (by kernel_rfl) (by kernel_rfl) (fun _ _ _ h => h) (Or.inl ⟨by kernel_rfl, fun W hW => ?_⟩) (by assumption) ?_
      rotate_left
      · go_simp
        try with_reducible rfl
      (try simp only [List.getElem_toArray, List.getElem_cons_zero, List.getElem_cons_succ, Act.put, List.setIfInBounds_toArray, List.set_cons_zero, List.set_cons_succ])
      refine wpAnyH_ready (rs := [8]) (by kernel_rfl) (by simp) ?_
      refine AllReadyH.cons rfl (fun K hK => ?_) AllReadyH.nil
      try rw [if_pos (by rfl)]
      refine wp_store_row 27 _ _ rfl (V8.heap.size) y.cells rfl rfl 27 _ HN.out (by kernel_rfl) rfl (agg_one y) ?_
      have hS8 : EAt w.heap.size bu kx b u x w (U5.setRow (V8.heap.size) y.cells) := hS.row y.cells (N1.out _ HLB.out).1 (N1.out _ HLB.out).2.1 (N1.out _ HLB.out).2.2.1 (N1.out _ HLB.out).2.2.2 (N2.out _ HLB.out).1 (N2.out _ HLB.out).2.1 (N2.out _ HLB.out).2.2
      refine hK.out _ _ hS8 (fun _ => ?_)
      clear hK K
      (try simp only [List.getElem_toArray, List.getElem_cons_zero, List.getElem_cons_succ, Act.put, List.setIfInBounds_toArray, List.set_cons_zero, List.set_cons_succ])
      refine wpAnyH_take (i := 9) (v := ?_) rfl (by kernel_rfl) (by kernel_rfl) (by kernel_rfl) (fun _ _ _ h => h) (Or.inl ⟨by kernel_rfl, fun W hW => ?_⟩) (by assumption) ?_
      rotate_left
      · go_simp
        try with_reducible rfl
      (try simp only [List.getElem_toArray, List.getElem_cons_zero, List.getElem_cons_succ, Act.put, List.setIfInBounds_toArray, List.set_cons_zero, List.set_cons_succ])
      refine wpAnyH_done (by kernel_rfl) ?_ _
      refine NoPanic.normal ?_
      go_wp2
      go_meet
      exact ⟨_, y, _, rfl, rfl, rfl, Py, Lib.hid (Ok_rowN Oy.out NY.out _), Lib.hid (heap_setRow HN.out _), Lib.hid hS8⟩
  case rest =>
    obtain ⟨ky, y, W9, rfl, rfl, rfl, Py, Oy, Hy, hEA⟩ := hcut
    clear Hb Hu Hx HB Ob Ou Ox
    have Hb := Lib.hid hEA.out.hb
    have Hu := Lib.hid hEA.out.hu
    have Hx := Lib.hid hEA.out.hx
    have HB := Lib.hid hEA.out.be
    have Ob := Lib.hid hEA.out.bo
    have Ou := Lib.hid hEA.out.uo
    have Ox := Lib.hid hEA.out.xo
    clear hEA
    have l1 : ¬ 9223372036854775807 < 1 + f.length := by have := HLf.out; omega
    have he : ({ data := #[35] } : ByteArray) ++ mkS f = mkS (35 :: f) := by
      show mkS [35] ++ mkS f = _
      rw [mkS_append]
      rfl
    have HE := Lib.hid he
    clear he
    obtain ⟨z0, hz1, hz2, hz3, hz4⟩ := PM.resolve_frag HMb.out HW.out f
    have HZ1 := Lib.hid hz1
    have HZ2 := Lib.hid hz2
    have HZ3 := Lib.hid hz3
    have HZ4 := Lib.hid hz4
    clear hz1 hz2 hz3 hz4
    go_wp2_with (first | go_skip | (refine wpList_load_g 27 _ rfl (by kernel_rfl) w.heap.size rfl Hb.out Tryz.underlying27 rfl (by kernel_rfl) ?_))
    rw [HE.out]
    refine (Resolve_c b (35 :: f) _ (by have := HLf.out; simp; omega) Ob.out (Nat.le_trans (PM.few_all Fb.out).1 (by decide)) (HG.out.below HB.out) (tabs_below HTB.out HB.out)).mono ?_
    rintro e V71 ⟨hp, hb⟩
    obtain ⟨z, rfl, hxp, hxo⟩ := parse_ok hp HZ1.out (by rw [HZ4.out]; exact Nat.le_trans (few_path Fb.out).1 (by decide))
    have Pz := Lib.hid hxp
    have Oz := Lib.hid hxo
    clear hp hxp hxo l1
    replace HB := Lib.hid (b_then HB.out hb)
    replace Hb := Lib.hid (obj_b hb Hb.out)
    replace Hu := Lib.hid (obj_b hb Hu.out)
    replace Hx := Lib.hid (obj_b hb Hx.out)
    replace Hy := Lib.hid (obj_b hb Hy.out)
    replace Ob := Lib.hid (Ob.out.below hb)
    replace Ou := Lib.hid (Ou.out.below hb)
    replace Ox := Lib.hid (Ox.out.below hb)
    replace Oy := Lib.hid (Oy.out.below hb)
    clear hb
    have HN := Lib.hid (Go.heap_alloc_new V71 (.cells zurl 27))
    unfold zurl at HN 
    go_upto_region 9 with (first | (refine wpList_store_row rfl 27 _ _ rfl V71.heap.size z.cells rfl rfl 27 _ HN.out (by kernel_rfl) rfl (agg_one z) ?_))
    obtain ⟨V72, hV⟩ : ∃ V72, V72 = (V71.alloc (.cells #[.string ⟨#[]⟩, .string ⟨#[]⟩, .string ⟨#[]⟩, .int .i64 0, .string ⟨#[]⟩, .int .i64 0, .int .i64 0, .int .i64 0, .int .i64 0, .int .i64 0, .int .i64 0, .int .i64 0, .int .i64 0, .int .i64 0, .int .i64 0, .slice none 0 0, .string ⟨#[]⟩, .string ⟨#[]⟩, .string ⟨#[]⟩, .bool false, .bool false] 27)).setRow V71.heap.size z.cells := ⟨_, rfl⟩
    have hN : V72.heap[V71.heap.size]? = some (.cells z.cells 27 (0, 0)) := by rw [hV]; exact heap_setRow HN.out _
    have hb : Below V71.heap.size V71 V72 := by rw [hV]; exact below_setRow (b_alloc (Below.refl _ _) _) (Nat.le_refl _) _
    rw [← hV]
    clear hV HN 
    have Hz := Lib.hid hN
    clear hN
    have hlt_kz_Hb : w.heap.size < V71.heap.size := h_lt Hb.out
    have hlt_kz_Hu : bu < V71.heap.size := h_lt Hu.out
    have hlt_kz_Hx : kx < V71.heap.size := h_lt Hx.out
    have hlt_kz_Hy : ky < V71.heap.size := h_lt Hy.out
    have hlw_kz : w.heap.size ≤ V71.heap.size := HB.out.size
    replace HB := Lib.hid (b_then HB.out hb)
    replace Hb := Lib.hid (obj_b hb Hb.out)
    replace Hu := Lib.hid (obj_b hb Hu.out)
    replace Hx := Lib.hid (obj_b hb Hx.out)
    replace Hy := Lib.hid (obj_b hb Hy.out)
    replace Ob := Lib.hid (Ob.out.below hb)
    replace Ou := Lib.hid (Ou.out.below hb)
    replace Ox := Lib.hid (Ox.out.below hb)
    replace Oy := Lib.hid (Oy.out.below hb)
    replace Oz := Lib.hid (Oz.out.below hb)
    clear hb
    generalize V71.heap.size = kz at Hz hlt_kz_Hb hlt_kz_Hu hlt_kz_Hx hlt_kz_Hy hlw_kz ⊢
    (try simp only [Act.put])
    have hzf : z.hf = true := by have h := HZ3.out; rw [← Pz.out] at h; exact h
    have HZF := Lib.hid hzf
    clear hzf
    go_wp2_with fail
    refine wp_region_noPanic ?_
    refine wp_region_held_drew (S := fun W' => DAt w.heap.size bu kx ky kz b u x y z w W') (by kernel_rfl) (DAt.below ⟨Hb.out, Hu.out, Hx.out, Hy.out, Hz.out, HB.out, Ob.out, Ou.out, Ox.out, Oy.out, Oz.out⟩ (b_drew (Below.refl _ _))) (fun hS0 => ?_)
    refine wpAnyH_take (i := 0) (v := ?_) rfl (by kernel_rfl) (by kernel_rfl) (by kernel_rfl) (fun _ _ _ h => h) (Or.inl ⟨by kernel_rfl, fun W hW => ?_⟩) (by assumption) ?_
    rotate_left
    · go_simp
      try with_reducible rfl
    (try simp only [List.getElem_toArray, List.getElem_cons_zero, List.getElem_cons_succ, Act.put, List.setIfInBounds_toArray, List.set_cons_zero, List.set_cons_succ])
    refine wpAnyH_take (i := 1) (v := ?_) rfl (by kernel_rfl) (by kernel_rfl) (by kernel_rfl) (fun _ _ _ h => h) (Or.inl ⟨by kernel_rfl, fun W hW => ?_⟩) (by assumption) ?_
    rotate_left
    · go_simp
      try with_reducible rfl
    (try simp only [List.getElem_toArray, List.getElem_cons_zero, List.getElem_cons_succ, Act.put, List.setIfInBounds_toArray, List.set_cons_zero, List.set_cons_succ])
    refine wpAnyH_take (i := 2) (v := ?_) rfl (by kernel_rfl) (by kernel_rfl) (by kernel_rfl) (fun _ _ _ h => h) (Or.inl ⟨by kernel_rfl, fun W hW => ?_⟩) (by assumption) ?_
    rotate_left
    · refine yield_row 27 (.tmp 10) ?_ kx ?_ hW.hx Tryz.underlying27 rfl (by kernel_rfl)
      · rfl
      · rfl
    (try simp only [List.getElem_toArray, List.getElem_cons_zero, List.getElem_cons_succ, Act.put, List.setIfInBounds_toArray, List.set_cons_zero, List.set_cons_succ])
    refine wpAnyH_take (i := 3) (v := ?_) rfl (by kernel_rfl) (by kernel_rfl) (by kernel_rfl) (fun _ _ _ h => h) (Or.inl ⟨by kernel_rfl, fun W hW => ?_⟩) (by assumption) ?_
    rotate_left
    · refine yield_row 27 (.tmp 3) ?_ w.heap.size ?_ hW.hb Tryz.underlying27 rfl (by kernel_rfl)
      · rfl
      · rfl
    (try simp only [List.getElem_toArray, List.getElem_cons_zero, List.getElem_cons_succ, Act.put, List.setIfInBounds_toArray, List.set_cons_zero, List.set_cons_succ])
    refine wpAnyH_ready (rs := [4]) (by kernel_rfl) (by simp) ?_
    refine AllReadyH.cons rfl (fun K hK => ?_) AllReadyH.nil
    go_simp
    refine (Bare_c b _ hS0.bo).mono ?_
    rintro e U26 ⟨b1, rfl, p1, o1, -, hb⟩
    have hSn := hS0.below hb
    clear hb hS0
    have PB1 := Lib.hid p1
    clear p1
    have OB1 := Lib.hid o1
    clear o1
    refine hK.out _ _ hSn (fun _ => ?_)
    clear hK K
    (try simp only [List.getElem_toArray, List.getElem_cons_zero, List.getElem_cons_succ, Act.put, List.setIfInBounds_toArray, List.set_cons_zero, List.set_cons_succ])
    refine wpAnyH_ready (rs := [5]) (by kernel_rfl) (by simp) ?_
    refine AllReadyH.cons rfl (fun K hK => ?_) AllReadyH.nil
    go_simp
    refine (UrlSame_c x b1 _ hSn.xo OB1.out).mono ?_
    rw [Px.out, PB1.out, same_self]
    rintro e U27 ⟨rfl, hb⟩
    replace hSn := hSn.below hb
    replace OB1 := Lib.hid (OB1.out.below hb)
    clear hb
    refine hK.out _ _ hSn (fun _ => ?_)
    clear hK K
    (try simp only [List.getElem_toArray, List.getElem_cons_zero, List.getElem_cons_succ, Act.put, List.setIfInBounds_toArray, List.set_cons_zero, List.set_cons_succ])
    refine wpAnyH_take (i := 6) (v := ?_) rfl (by kernel_rfl) (by kernel_rfl) (by kernel_rfl) (fun _ _ _ h => h) (Or.inl ⟨by kernel_rfl, fun W hW => ?_⟩) (by assumption) ?_
    rotate_left
    · go_simp
      try with_reducible rfl
    (try simp only [List.getElem_toArray, List.getElem_cons_zero, List.getElem_cons_succ, Act.put, List.setIfInBounds_toArray, List.set_cons_zero, List.set_cons_succ])
    refine wpAnyH_take (i := 7) (v := ?_) rfl (by kernel_rfl) (by kernel_rfl) (by kernel_rfl) (fun _ _ _ h => h) (Or.inl ⟨by kernel_rfl, fun W hW => ?_⟩) (by assumption) ?_
    rotate_left
    · go_simp
      try with_reducible rfl
    (try simp only [List.getElem_toArray, List.getElem_cons_zero, List.getElem_cons_succ, Act.put, List.setIfInBounds_toArray, List.set_cons_zero, List.set_cons_succ])
    refine wpAnyH_take (i := 8) (v := ?_) rfl (by kernel_rfl) (by kernel_rfl) (by kernel_rfl) (fun _ _ _ h => h) (Or.inl ⟨by kernel_rfl, fun W hW => ?_⟩) (by assumption) ?_
    rotate_left
    · go_simp
      try with_reducible rfl
    (try simp only [List.getElem_toArray, List.getElem_cons_zero, List.getElem_cons_succ, Act.put, List.setIfInBounds_toArray, List.set_cons_zero, List.set_cons_succ])
    refine wpAnyH_take (i := 9) (v := ?_) rfl (by kernel_rfl) (by kernel_rfl) (by kernel_rfl) (fun _ _ _ h => h) (Or.inl ⟨by kernel_rfl, fun W hW => ?_⟩) (by assumption) ?_
    rotate_left
    · go_simp
      try with_reducible rfl
    (try simp only [List.getElem_toArray, List.getElem_cons_zero, List.getElem_cons_succ, Act.put, List.setIfInBounds_toArray, List.set_cons_zero, List.set_cons_succ])
    refine wpAnyH_take (i := 10) (v := ?_) rfl (by kernel_rfl) (by kernel_rfl) (by kernel_rfl) (fun _ _ _ h => h) (Or.inl ⟨by kernel_rfl, fun W hW => ?_⟩) (by assumption) ?_
    rotate_left
    · go_simp
      try with_reducible rfl
    (try simp only [List.getElem_toArray, List.getElem_cons_zero, List.getElem_cons_succ, Act.put, List.setIfInBounds_toArray, List.set_cons_zero, List.set_cons_succ])
    refine wpAnyH_take (i := 11) (v := ?_) rfl (by kernel_rfl) (by kernel_rfl) (by kernel_rfl) (fun _ _ _ h => h) (Or.inl ⟨by kernel_rfl, fun W hW => ?_⟩) (by assumption) ?_
    rotate_left
    · refine yield_row 27 (.tmp 12) ?_ ky ?_ hW.hy Tryz.underlying27 rfl (by kernel_rfl)
      · rfl
      · rfl
    (try simp only [List.getElem_toArray, List.getElem_cons_zero, List.getElem_cons_succ, Act.put, List.setIfInBounds_toArray, List.set_cons_zero, List.set_cons_succ])
    refine wpAnyH_take (i := 12) (v := ?_) rfl (by kernel_rfl) (by kernel_rfl) (by kernel_rfl) (fun _ _ _ h => h) (Or.inl ⟨by kernel_rfl, fun W hW => ?_⟩) (by assumption) ?_
    rotate_left
    · refine yield_row 27 (.tmp 4) ?_ bu ?_ hW.hu Tryz.underlying27 rfl (by kernel_rfl)
      · rfl
      · rfl
    (try simp only [List.getElem_toArray, List.getElem_cons_zero, List.getElem_cons_succ, Act.put, List.setIfInBounds_toArray, List.set_cons_zero, List.set_cons_succ])
    refine wpAnyH_ready (rs := [13]) (by kernel_rfl) (by simp) ?_
    refine AllReadyH.cons rfl (fun K hK => ?_) AllReadyH.nil
    go_simp
    refine (UrlSame_c y u _ hSn.yo hSn.uo).mono ?_
    rw [Py.out, same_self]
    rintro e U28 ⟨rfl, hb⟩
    replace hSn := hSn.below hb
    replace OB1 := Lib.hid (OB1.out.below hb)
    clear hb
    refine hK.out _ _ hSn (fun _ => ?_)
    clear hK K
    (try simp only [List.getElem_toArray, List.getElem_cons_zero, List.getElem_cons_succ, Act.put, List.setIfInBounds_toArray, List.set_cons_zero, List.set_cons_succ])
    refine wpAnyH_take (i := 14) (v := ?_) rfl (by kernel_rfl) (by kernel_rfl) (by kernel_rfl) (fun _ _ _ h => h) (Or.inl ⟨by kernel_rfl, fun W hW => ?_⟩) (by assumption) ?_
    rotate_left
    · go_simp
      try with_reducible rfl
    (try simp only [List.getElem_toArray, List.getElem_cons_zero, List.getElem_cons_succ, Act.put, List.setIfInBounds_toArray, List.set_cons_zero, List.set_cons_succ])
    refine wpAnyH_take (i := 15) (v := ?_) rfl (by kernel_rfl) (by kernel_rfl) (by kernel_rfl) (fun _ _ _ h => h) (Or.inl ⟨by kernel_rfl, fun W hW => ?_⟩) (by assumption) ?_
    rotate_left
    · go_simp
      try with_reducible rfl
    (try simp only [List.getElem_toArray, List.getElem_cons_zero, List.getElem_cons_succ, Act.put, List.setIfInBounds_toArray, List.set_cons_zero, List.set_cons_succ])
    refine wpAnyH_take (i := 16) (v := ?_) rfl (by kernel_rfl) (by kernel_rfl) (by kernel_rfl) (fun _ _ _ h => h) (Or.inl ⟨by kernel_rfl, fun W hW => ?_⟩) (by assumption) ?_
    rotate_left
    · go_simp
      try with_reducible rfl
    (try simp only [List.getElem_toArray, List.getElem_cons_zero, List.getElem_cons_succ, Act.put, List.setIfInBounds_toArray, List.set_cons_zero, List.set_cons_succ])
    refine wpAnyH_take (i := 17) (v := ?_) rfl (by kernel_rfl) (by kernel_rfl) (by kernel_rfl) (fun _ _ _ h => h) (Or.inl ⟨by kernel_rfl, fun W hW => ?_⟩) (by assumption) ?_
    rotate_left
    · go_simp
      try with_reducible rfl
    (try simp only [List.getElem_toArray, List.getElem_cons_zero, List.getElem_cons_succ, Act.put, List.setIfInBounds_toArray, List.set_cons_zero, List.set_cons_succ])
    refine wpAnyH_take (i := 18) (v := ?_) rfl (by kernel_rfl) (by kernel_rfl) (by kernel_rfl) (fun _ _ _ h => h) (Or.inl ⟨by kernel_rfl, fun W hW => ?_⟩) (by assumption) ?_
    rotate_left
    · go_simp
      try with_reducible rfl
    (try simp only [List.getElem_toArray, List.getElem_cons_zero, List.getElem_cons_succ, Act.put, List.setIfInBounds_toArray, List.set_cons_zero, List.set_cons_succ])
    refine wpAnyH_take (i := 19) (v := ?_) rfl (by kernel_rfl) (by kernel_rfl) (by kernel_rfl) (fun _ _ _ h => h) (Or.inl ⟨by kernel_rfl, fun W hW => ?_⟩) (by assumption) ?_
    rotate_left
    · refine yield_row 27 (.tmp 14) ?_ kz ?_ hW.hz Tryz.underlying27 rfl (by kernel_rfl)
      · rfl
      · rfl
    (try simp only [List.getElem_toArray, List.getElem_cons_zero, List.getElem_cons_succ, Act.put, List.setIfInBounds_toArray, List.set_cons_zero, List.set_cons_succ])
    refine wpAnyH_take (i := 21) (v := ?_) rfl (by kernel_rfl) (by kernel_rfl) (by kernel_rfl) (fun _ _ _ h => h) (Or.inl ⟨by kernel_rfl, fun W hW => ?_⟩) (by assumption) ?_
    rotate_left
    · refine yield_row 27 (.tmp 3) ?_ w.heap.size ?_ hW.hb Tryz.underlying27 rfl (by kernel_rfl)
      · rfl
      · rfl
    (try simp only [List.getElem_toArray, List.getElem_cons_zero, List.getElem_cons_succ, Act.put, List.setIfInBounds_toArray, List.set_cons_zero, List.set_cons_succ])
    refine wpAnyH_ready (rs := [20]) (by kernel_rfl) (by simp) ?_
    refine AllReadyH.cons rfl (fun K hK => ?_) AllReadyH.nil
    go_simp
    refine (Bare_c z _ hSn.zo).mono ?_
    rintro e U29 ⟨z1, rfl, p1, o1, -, hb⟩
    replace hSn := hSn.below hb
    replace OB1 := Lib.hid (OB1.out.below hb)
    clear hb
    have PZ1 := Lib.hid p1
    clear p1
    have OZ1 := Lib.hid o1
    clear o1
    refine hK.out _ _ hSn (fun _ => ?_)
    clear hK K
    (try simp only [List.getElem_toArray, List.getElem_cons_zero, List.getElem_cons_succ, Act.put, List.setIfInBounds_toArray, List.set_cons_zero, List.set_cons_succ])
    refine wpAnyH_ready (rs := [22]) (by kernel_rfl) (by simp) ?_
    refine AllReadyH.cons rfl (fun K hK => ?_) AllReadyH.nil
    go_simp
    refine (Bare_c b _ hSn.bo).mono ?_
    rintro e U30 ⟨b2, rfl, p1, o1, -, hb⟩
    replace hSn := hSn.below hb
    replace OB1 := Lib.hid (OB1.out.below hb)
    replace OZ1 := Lib.hid (OZ1.out.below hb)
    clear hb
    have PB2 := Lib.hid p1
    clear p1
    have OB2 := Lib.hid o1
    clear o1
    refine hK.out _ _ hSn (fun _ => ?_)
    clear hK K
    (try simp only [List.getElem_toArray, List.getElem_cons_zero, List.getElem_cons_succ, Act.put, List.setIfInBounds_toArray, List.set_cons_zero, List.set_cons_succ])
    refine wpAnyH_ready (rs := [23]) (by kernel_rfl) (by simp) ?_
    refine AllReadyH.cons rfl (fun K hK => ?_) AllReadyH.nil
    go_simp
    refine (UrlSame_c z1 b2 _ OZ1.out OB2.out).mono ?_
    rw [PZ1.out, PB2.out, Pz.out, HZ2.out, same_self]
    rintro e U31 ⟨rfl, hb⟩
    replace hSn := hSn.below hb
    replace OB1 := Lib.hid (OB1.out.below hb)
    replace OZ1 := Lib.hid (OZ1.out.below hb)
    replace OB2 := Lib.hid (OB2.out.below hb)
    clear hb
    refine hK.out _ _ hSn (fun _ => ?_)
    clear hK K
    (try simp only [List.getElem_toArray, List.getElem_cons_zero, List.getElem_cons_succ, Act.put, List.setIfInBounds_toArray, List.set_cons_zero, List.set_cons_succ])
    refine wpAnyH_take (i := 24) (v := ?_) rfl (by kernel_rfl) (by kernel_rfl) (by kernel_rfl) (fun _ _ _ h => h) (Or.inl ⟨by kernel_rfl, fun W hW => ?_⟩) (by assumption) ?_
    rotate_left
    · go_simp
      try with_reducible rfl
    (try simp only [List.getElem_toArray, List.getElem_cons_zero, List.getElem_cons_succ, Act.put, List.setIfInBounds_toArray, List.set_cons_zero, List.set_cons_succ])
    refine wpAnyH_take (i := 25) (v := ?_) rfl (by kernel_rfl) (by kernel_rfl) (by kernel_rfl) (fun _ _ _ h => h) (Or.inl ⟨by kernel_rfl, fun W hW => ?_⟩) (by assumption) ?_
    rotate_left
    · go_simp
      try with_reducible rfl
    (try simp only [List.getElem_toArray, List.getElem_cons_zero, List.getElem_cons_succ, Act.put, List.setIfInBounds_toArray, List.set_cons_zero, List.set_cons_succ])
    refine wpAnyH_take (i := 26) (v := ?_) rfl (by kernel_rfl) (by kernel_rfl) (by kernel_rfl) (fun _ _ _ h => h) (Or.inl ⟨by kernel_rfl, fun W hW => ?_⟩) (by assumption) ?_
    rotate_left
    · go_simp
      try with_reducible rfl
    (try simp only [List.getElem_toArray, List.getElem_cons_zero, List.getElem_cons_succ, Act.put, List.setIfInBounds_toArray, List.set_cons_zero, List.set_cons_succ])
    refine wpAnyH_take (i := 27) (v := ?_) rfl (by kernel_rfl) (by kernel_rfl) (by kernel_rfl) (fun _ _ _ h => h) (Or.inl ⟨by kernel_rfl, fun W hW => ?_⟩) (by assumption) ?_
    rotate_left
    · have c20 : W.cell? ⟨kz, 20, none⟩ = some (.bool true) := by rw [Lib.cell_of_heap hW.hz, show UV.cells z = UV.cells { z with hf := true } from by rw [← HZF.out]]; rfl
      go_simp
      try with_reducible rfl
    (try simp only [List.getElem_toArray, List.getElem_cons_zero, List.getElem_cons_succ, Act.put, List.setIfInBounds_toArray, List.set_cons_zero, List.set_cons_succ])
    refine wpAnyH_take (i := 28) (v := ?_) rfl (by kernel_rfl) (by kernel_rfl) (by kernel_rfl) (fun _ _ _ h => h) (Or.inl ⟨by kernel_rfl, fun W hW => ?_⟩) (by assumption) ?_
    rotate_left
    · go_simp
      try with_reducible rfl
    (try simp only [List.getElem_toArray, List.getElem_cons_zero, List.getElem_cons_succ, Act.put, List.setIfInBounds_toArray, List.set_cons_zero, List.set_cons_succ])
    refine wpAnyH_take (i := 29) (v := ?_) rfl (by kernel_rfl) (by kernel_rfl) (by kernel_rfl) (fun _ _ _ h => h) (Or.inl ⟨by kernel_rfl, fun W hW => ?_⟩) (by assumption) ?_
    rotate_left
    · go_simp
      try with_reducible rfl
    (try simp only [List.getElem_toArray, List.getElem_cons_zero, List.getElem_cons_succ, Act.put, List.setIfInBounds_toArray, List.set_cons_zero, List.set_cons_succ])
    refine wpAnyH_done (by kernel_rfl) ?_ _
    refine NoPanic.normal ?_
    go_wp2
    go_ret
    exact ⟨rfl, hSn.be⟩
end Go.Proofs.YtphigjogeejdjaaGreatDoor
/-! The row of JoinSelf. -/
namespace Go.Proofs.YtphigjogeejdjaaGreatDoor
open Go.ChangeShapes Go.WideShapes Go.ChangeAt Go.RowKit
open Go.WideMaps Go.WideElems
open Go.ChangeMaps (open_string shut_string)
theorem joinSelf_reads (os : Os) {H : Type} (enc : TypeId × Value → H) : ∃ x, DataW.whole enc Tryz.prog ((laidWorld os).forCall (fun _ _ => 0) ⟨#[], #[.agg #[.string ⟨#[]⟩, .string ⟨#[]⟩, .string ⟨#[]⟩, .int .i64 0, .string ⟨#[]⟩, .int .i64 0, .int .i64 0, .int .i64 0, .int .i64 0, .int .i64 0, .int .i64 0, .int .i64 0, .int .i64 0, .int .i64 0, .int .i64 0, .slice none 0 0, .string ⟨#[]⟩, .string ⟨#[]⟩, .string ⟨#[]⟩, .bool false, .bool false], .agg #[.string ⟨#[]⟩, .string ⟨#[]⟩, .string ⟨#[]⟩, .int .i64 0, .string ⟨#[]⟩, .int .i64 0, .int .i64 0, .int .i64 0, .int .i64 0, .int .i64 0, .int .i64 0, .int .i64 0, .int .i64 0, .int .i64 0, .int .i64 0, .slice none 0 0, .string ⟨#[]⟩, .string ⟨#[]⟩, .string ⟨#[]⟩, .bool false, .bool false], .string ⟨#[]⟩], []⟩).memory Tryz.f6.params.toList Rows.joinSelfSpec.vars false (#[.agg #[.string ⟨#[]⟩, .string ⟨#[]⟩, .string ⟨#[]⟩, .int .i64 0, .string ⟨#[]⟩, .int .i64 0, .int .i64 0, .int .i64 0, .int .i64 0, .int .i64 0, .int .i64 0, .int .i64 0, .int .i64 0, .int .i64 0, .int .i64 0, .slice none 0 0, .string ⟨#[]⟩, .string ⟨#[]⟩, .string ⟨#[]⟩, .bool false, .bool false], .agg #[.string ⟨#[]⟩, .string ⟨#[]⟩, .string ⟨#[]⟩, .int .i64 0, .string ⟨#[]⟩, .int .i64 0, .int .i64 0, .int .i64 0, .int .i64 0, .int .i64 0, .int .i64 0, .int .i64 0, .int .i64 0, .int .i64 0, .int .i64 0, .slice none 0 0, .string ⟨#[]⟩, .string ⟨#[]⟩, .string ⟨#[]⟩, .bool false, .bool false], .string ⟨#[]⟩] : Array Value).toList 8 = some x :=
  Option.isSome_iff_exists.1 (by kernel_rfl)
set_option maxRecDepth 100000 in
theorem joinSelf_lifted (os : Os) (started : os.Started) (H : Type) (enc : TypeId × Value → H) (F : Stop.Interp) :
    ReturnsInHanded {} Tryz.checked os 6 .any ((OpenSpec.ofChange Rows.joinSelfSpec).preRow enc Tryz.prog Tryz.f6 Rows.joinSelfRow.domain false Rows.joinSelfRow.laid) (((OpenSpec.ofChange Rows.joinSelfSpec).at F).post enc Tryz.prog Tryz.f6 false true false false) := by
  obtain ⟨x, hx⟩ := joinSelf_reads os enc
  refine returnsInHanded_of_row (C := Tryz.checked) (s := OpenSpec.ofChange Rows.joinSelfSpec) own started (by kernel_rfl) Tryz.func6
    (witness_row_atRef (enc := enc) (C := Tryz.checked) false (laidWorld os) #[.agg #[.string ⟨#[]⟩, .string ⟨#[]⟩, .string ⟨#[]⟩, .int .i64 0, .string ⟨#[]⟩, .int .i64 0, .int .i64 0, .int .i64 0, .int .i64 0, .int .i64 0, .int .i64 0, .int .i64 0, .int .i64 0, .int .i64 0, .int .i64 0, .slice none 0 0, .string ⟨#[]⟩, .string ⟨#[]⟩, .string ⟨#[]⟩, .bool false, .bool false], .agg #[.string ⟨#[]⟩, .string ⟨#[]⟩, .string ⟨#[]⟩, .int .i64 0, .string ⟨#[]⟩, .int .i64 0, .int .i64 0, .int .i64 0, .int .i64 0, .int .i64 0, .int .i64 0, .int .i64 0, .int .i64 0, .int .i64 0, .int .i64 0, .slice none 0 0, .string ⟨#[]⟩, .string ⟨#[]⟩, .string ⟨#[]⟩, .bool false, .bool false], .string ⟨#[]⟩] rfl (by kernel_rfl) (by kernel_rfl) (by kernel_rfl)
      (OpenSpec.preRow_of_cond 8 hx rfl (fun k hk => by cases hk) (by kernel_rfl) (laid_met os _))) ?_
  intro W base args ds gs before hval0 hW _ _ _ hL hsh _
  have hval : ∀ (j : Nat) t v, Tryz.f6.params[j]? = some t → args[j]? = some v → Value.okWide Tryz.prog W .any base t v := hval0
  have hW' := hW
  obtain ⟨p, q, hA0, hV, rfl, hfz, hnd⟩ := hW
  have hA : DataW.TrodAll enc Tryz.prog W 0 (fun _ => true) true Tryz.f6.params.toList args.toList ds p := hA0
  rw [Tryz.params6] at hA hval
  obtain ⟨v0, v1, v2, d0, d1, d2, p0, p1, p2, rfl, rfl, rfl, h0, h1, h2⟩ := trodAll_three hA
  obtain ⟨rfl, rfl⟩ := trodVars_none hV
  simp only [List.append_nil] at hfz hnd hW'
  have hlt : ∀ x ∈ p0 ++ p1 ++ p2, x.block < W.heap.size := fun x hx => hW'.lt x hx
  have h0k := h0
  obtain ⟨u0, rfl, hr0⟩ := open_url (hval 0 27 v0 rfl rfl) h0
  have h1k := h1
  obtain ⟨u1, rfl, hr1⟩ := open_url (hval 1 27 v1 rfl rfl) h1
  have h2k := h2
  obtain ⟨s2, e2, _, _, w2⟩ := open_string Tryz.underlying9 (hval 2 9 v2 rfl rfl) h2
  obtain ⟨l2, rfl⟩ := mkS_surj s2
  subst e2
  refine (JoinSelf_c u0 u1 l2 W hr0 hr1 (gl_of hsh) (tabs_laid hL)).mono fun e W' ⟨he, hb⟩ => ?_
  subst he
  refine ⟨_, rfl, _, _, _, [], p0 ++ p1 ++ p2, [], hW', ?_, ?_, ?_, hb.frame _, fun h => by cases h⟩
  · exact trodAll_mk1 (shut_bool Tryz.underlying4 _)
  · have h3 := trodAll_mk3 (Below.trod laidOut (by kernel_rfl) (of_decide_eq_true (by kernel_rfl)) h0k hb (fun x hx => hlt x (by simp [hx]))) (Below.trod laidOut (by kernel_rfl) (of_decide_eq_true (by kernel_rfl)) h1k hb (fun x hx => hlt x (by simp [hx]))) (Below.trod laidOut (by kernel_rfl) (of_decide_eq_true (by kernel_rfl)) h2k hb (fun x hx => hlt x (by simp [hx])))
    rw [← List.append_assoc] at h3
    exact h3
  · rfl
theorem joinSelf_k0 : Rows.joinSelfRow.wf (OpenSpec.ofChange (OpenSpec.ofChange Rows.joinSelfSpec).bare) = true := by kernel_rfl
theorem joinSelf_k3 : Tryz.f6.params.all (PP.readableRec ·) = true := by kernel_rfl
theorem joinSelf_k4 : namedTie PP Rows.joinSelfRow.named (OpenSpec.ofChange Rows.joinSelfSpec).bare.vars = true := by kernel_rfl
theorem joinSelf_k5 : (Rows.joinSelfRow.stops == []) = true := by kernel_rfl
theorem joinSelf_k7 : (Rows.joinSelfRow.knobs == []) = true := by kernel_rfl
theorem joinSelf_k9 : (Rows.joinSelfRow.inPlace == PP.inPlace 6) = true := by kernel_rfl
theorem joinSelf_k10 : (Rows.joinSelfRow.unfollowed == PP.unfollowed 6) = true := by kernel_rfl
theorem joinSelf_k11 : (Rows.joinSelfRow.recurses == PP.recurses 6) = true := by kernel_rfl
theorem joinSelf_k12 : (Rows.joinSelfRow.named == PP.varsNamed 6) = true := by kernel_rfl
theorem joinSelf_k13 : (Rows.joinSelfRow.maps == (Tryz.f6.params.toList ++ (OpenSpec.ofChange Rows.joinSelfSpec).bare.plain.varTypes PP).any (PP.mapsRec ·)) = true := by kernel_rfl
theorem joinSelf_k14 : (Rows.joinSelfRow.ifaces == (Tryz.f6.params.toList ++ (OpenSpec.ofChange Rows.joinSelfSpec).bare.plain.varTypes PP).any (PP.ifacesRec ·)) = true := by kernel_rfl
theorem joinSelf_k15 : (Rows.joinSelfRow.mapsOut == PP.mapsAmong Tryz.f6.resultTypes.toList) = true := by kernel_rfl
theorem joinSelf_k16 : (Rows.joinSelfRow.loops == (Tryz.f6.params.toList ++ (OpenSpec.ofChange Rows.joinSelfSpec).bare.plain.varTypes PP).any (PP.loopsFrom ·)) = true := by kernel_rfl
theorem joinSelf_k17 : (Rows.joinSelfRow.wideKeys == (Tryz.f6.params.toList ++ (OpenSpec.ofChange Rows.joinSelfSpec).bare.plain.varTypes PP ++ Tryz.f6.resultTypes.toList).any (PP.wideKeysFrom ·)) = true := by kernel_rfl
theorem joinSelf_k18 : (OpenSpec.ofChange Rows.joinSelfSpec).bare.vars.all (PP.varReadable ·) = true := by kernel_rfl
theorem joinSelf_k19 : Tryz.f6.resultTypes.all (fun t => PP.readableRec t && decide (t < PP.types.size)) = true := by kernel_rfl
theorem joinSelf_k20 : (Rows.joinSelfRow.ifacesOut == Tryz.f6.resultTypes.toList.any (PP.ifacesRec ·)) = true := by kernel_rfl
theorem joinSelf_k21 : (Rows.joinSelfRow.loopsOut == Tryz.f6.resultTypes.toList.any (PP.loopsFrom ·)) = true := by kernel_rfl
theorem joinSelf_k23 : Rows.joinSelfRow.shortTexts.isNone = true := by kernel_rfl
theorem joinSelf_k28 : (Rows.joinSelfRow.kinds == (if Rows.joinSelfRow.domain.isEmpty then [] else Tryz.f6.params.toList.map fun t => match PP.underlying t with | some (.int k) => some k | _ => none)) = true := by kernel_rfl
theorem joinSelf_k29 : (Rows.joinSelfRow.pinned == Rows.joinSelfRow.pinnedBy) = true := by kernel_rfl
theorem joinSelf_k30 : (Rows.joinSelfRow.veiled == (Tryz.f6.params.toList ++ (OpenSpec.ofChange Rows.joinSelfSpec).bare.plain.varTypes PP ++ Tryz.f6.resultTypes.toList).any (PP.veiledRec ·)) = true := by kernel_rfl
theorem joinSelf_k31 : Rows.joinSelfRow.veiledFits PP Tryz.f6.params.toList (Tryz.f6.params.toList ++ (OpenSpec.ofChange Rows.joinSelfSpec).bare.plain.varTypes PP ++ Tryz.f6.resultTypes.toList) = true := by kernel_rfl
set_option maxRecDepth 100000 in
theorem joinSelf_closed : joinedFacts PP 6 Tryz.f6 (OpenSpec.ofChange Rows.joinSelfSpec).bare Rows.joinSelfRow = true := and2 (and2 (and2 (and2 (and2 (and2 (and2 (and2 (and2 (and2 (and2 (and2 (and2 (and2 (and2 (and2 (and2 (and2 (and2 (and2 (and2 (and2 (and2 (and2 (and2 (and2 (and2 (and2 (and2 (and2 (and2 (joinSelf_k0) j_laidOut) j_rowed) joinSelf_k3) joinSelf_k4) joinSelf_k5) j_stops) joinSelf_k7) j_knobs) joinSelf_k9) joinSelf_k10) joinSelf_k11) joinSelf_k12) joinSelf_k13) joinSelf_k14) joinSelf_k15) joinSelf_k16) joinSelf_k17) joinSelf_k18) joinSelf_k19) joinSelf_k20) joinSelf_k21) j_plain) joinSelf_k23) j_heard) j_enter) j_lift) j_make) joinSelf_k28) joinSelf_k29) joinSelf_k30) joinSelf_k31
theorem joinSelf_named : Tryz.pinned.checked.prog.funcNamed Rows.joinSelfRow.func = some 6 := by kernel_rfl
theorem joinSelf_text : Rows.joinSelfRow.wfByText (OpenSpec.ofChange Rows.joinSelfSpec) = true := by kernel_rfl
theorem joinSelf_goes : false = Rows.joinSelfRow.goesBy Tryz.pinned.checked.prog := by kernel_rfl
theorem joinSelf_said : Rows.JoinSelfSaid :=
  OpenClaim.holds_of_cond 6 Tryz.f6 rfl rfl rfl rfl rfl rfl rfl ⟨rfl, rfl, rfl, rfl, rfl⟩ rfl rfl rfl rfl rfl joinSelf_named Tryz.func6 joinSelf_closed
    (of_decide_eq_true (by kernel_rfl)) (by unfold Func.isWrapper; first | (rw [if_pos (by decide +kernel)]; kernel_rfl) | (rw [if_neg (by decide +kernel)]; exact ⟨rfl, rfl⟩))
    (fun os started H enc _ F => by rw [OpenClaim.pre_eq_preRow]; exact joinSelf_lifted os started H enc F)
theorem joinSelf_plain (f : FuncId) (fn : Func) (hf : Tryz.pinned.checked.prog.funcNamed "postmark/postmarklaw11.JoinSelf" = some f) (hfn : Tryz.pinned.checked.prog.funcs[f]? = some fn) :
    true = Tryz.pinned.checked.prog.looks [] ∧ ∀ (j : Nat) t, fn.params[j]? = some t → Tryz.pinned.checked.prog.wantsStandIn t = false := by
  obtain rfl : f = 6 := Option.some.inj ((show Tryz.prog.funcNamed "postmark/postmarklaw11.JoinSelf" = some 6 by kernel_rfl).symm.trans hf) |>.symm
  obtain rfl : fn = Tryz.f6 := (Option.some.inj (Tryz.func6.symm.trans hfn)).symm
  refine ⟨by kernel_rfl, fun j t ht => ?_⟩
  rw [Tryz.params6] at ht
  have hm := Array.mem_of_getElem? ht
  simp only [Array.mem_def, List.mem_cons, List.not_mem_nil, or_false] at hm
  rcases hm with rfl | rfl | rfl
  · exact (show Tryz.prog.wantsStandIn 27 = false by kernel_rfl)
  · exact (show Tryz.prog.wantsStandIn 27 = false by kernel_rfl)
  · exact (show Tryz.prog.wantsStandIn 9 = false by kernel_rfl)
theorem joinSelf_holds : Rows.JoinSelfCardSaid :=
  Claim7.holds_tied_plain_at .later [] _ _ _ _ joinSelf_said (fun _ h => by cases h) joinSelf_text (fun _ h => by cases h) joinSelf_row_tie rfl ⟨rfl, rfl⟩ j_main rfl joinSelf_plain joinSelf_goes
#print axioms joinSelf_holds
end Go.Proofs.YtphigjogeejdjaaGreatDoor
