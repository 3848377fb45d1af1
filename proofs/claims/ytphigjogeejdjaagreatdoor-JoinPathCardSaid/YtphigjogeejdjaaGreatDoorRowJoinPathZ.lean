/-
JoinPath: whatever comes in, the law's call returns true, and the arguments read behind the call as they did before; no condition on them. The row lists the two tables of unicode/utf8 (first, acceptRanges); the card ties them.
-/
import Derived.Test.YtphigjogeejdjaaGreatDoorTz
import Derived.Test.YtphigjogeejdjaaGreatDoorJq
set_option linter.unusedVariables false
set_option linter.unusedSimpArgs false
/-! The walk of JoinPath. -/
namespace Go.Proofs.YtphigjogeejdjaaGreatDoor
open Go.RowKit
theorem parse_no {o : Option PM.Url} {e : Ending} {w' : World} (h : ParseR o e w') (ho : o = none) : ∃ v : UV, e = .returned (.tuple #[.agg v.cells, .bool false]) ∧ v.pm = uz.pm ∧ v.Ok w' := by
  subst ho
  obtain ⟨v, h1, h2, h3⟩ := h
  have h2' : v.pm = uz.pm := h2
  have hx : v.xs = v.pm.path := rfl
  exact ⟨v, h1, h2', h3 (by rw [hx, h2']; decide)⟩
theorem res_path {b u : PM.Url} {s : List UInt8} (h : PM.resolve b s = some u) (hs : s.length ≤ 3000) (hb : b.path.length ≤ 900) (hx : ∀ x ∈ b.path, x.length ≤ 1000000) : u.path.length ≤ 10000 := by
  rw [PM.resolve_eq] at h
  have hcl := clean_len s
  split at h
  · cases h
  · split at h
    · have := (parse_short h).pn
      omega
    · split at h
      · cases h
      · rename_i h0
        split at h
        · have h1 := (parse_short h).pn
          have h2 : b.scheme.length ≤ 5 := by rcases PM.web_cases h0 with e | e <;> rw [e] <;> decide
          simp at h1
          omega
        · simp at h
          subst h
          have ht := (tail_len3 (PM.clean s)).1
          show (PM.wayP b.path (PM.tail (PM.clean s)).1).length ≤ 10000
          unfold PM.wayP
          split
          · omega
          · split
            · have := (parse_sizes (PM.tail (PM.clean s)).1 (by omega)).1
              omega
            · exact (merge_sizes b.path (PM.tail (PM.clean s)).1 (by omega) hb hx).1
theorem same_self (u : PM.Url) : PM.urlSame u u = true := (PM.urlSame_iff u u).2 rfl
theorem few_path {u : PM.Url} (h : PM.few u = true) : u.path.length ≤ 900 ∧ ∀ x ∈ u.path, x.length ≤ 1000000 := ⟨Nat.le_trans (PM.few_all h).1 (by decide), fun x hx => Nat.le_trans ((PM.few_all h).2.1 x hx) (by decide)⟩
theorem nb (c : UInt8) (h : ¬ ((c.toNat : Int) ≤ 32)) : PM.blank c = false := by
  unfold PM.blank
  exact decide_eq_false (by omega)
theorem ne8 (c : UInt8) (n : Nat) (hn : n < 256) (h : ((c.toNat : Int) == (n : Int)) = false) : c ≠ UInt8.ofNat n := by
  refine (PM.u8_ne c n hn).1 fun e => ?_
  rw [e] at h
  simp at h
def okS (c : UInt8) : Prop := PM.blank c = false ∧ c ≠ 63 ∧ c ≠ 35
def okQ (c : UInt8) : Prop := PM.blank c = false ∧ c ≠ 35
theorem all_take {p : UInt8 → Prop} {d : List UInt8} {k : Nat} (hlt : k < d.length) (h : ∀ c ∈ d.take k, p c) (hc : p d[k]) : ∀ c ∈ d.take (k + 1), p c := by
  intro x hx
  rw [List.take_succ_eq_append_getElem hlt] at hx
  rcases List.mem_append.1 hx with hx | hx
  · exact h x hx
  · simp at hx
    rw [hx]
    exact hc
/-- A path lies elsewhere than in block k. -/
def Nb (k : Nat) (u : UV) : Prop := ∀ g o, u.a = some ⟨g, o, none⟩ → u.xs ≠ [] → g ≠ k
theorem rd_nb {a : Option Addr} {n : Nat} {l : List (List UInt8)} {W : World} {k : Nat} (h : RdS W a n l) (hk : W.heap.size ≤ k) : ∀ g o, a = some ⟨g, o, none⟩ → l ≠ [] → g ≠ k := fun g o e hx => by
  obtain ⟨b', o', e', hl, _⟩ := h.at_.resolve_left hx
  rw [e] at e'
  cases e'
  omega
theorem Ok_nb {u : UV} {W : World} {k : Nat} (h : u.Ok W) (hk : W.heap.size ≤ k) : Nb k u := rd_nb h.rd hk
/-- Where JoinPath stands. -/
structure QAt (gb gx gy : Nat) (b x y : UV) (a : Option Addr) (l : List (List UInt8)) (w W : World) : Prop where
  hb : W.heap[gb]? = some (.cells b.cells 27 (0, 0))
  hx : W.heap[gx]? = some (.cells x.cells 27 (0, 0))
  hy : W.heap[gy]? = some (.cells y.cells 27 (0, 0))
  be : Below w.heap.size w W
  bo : b.Ok W
  xo : x.Ok W
  yo : y.Ok W
  rd : RdS W a l.length l
theorem QAt.below {gb gx gy : Nat} {b x y : UV} {a : Option Addr} {l : List (List UInt8)} {w W W' : World} (h : QAt gb gx gy b x y a l w W) (hb : Below W.heap.size W W') : QAt gb gx gy b x y a l w W' := ⟨heap_b hb h.hb, heap_b hb h.hx, heap_b hb h.hy, b_then h.be hb, h.bo.below hb, h.xo.below hb, h.yo.below hb, h.rd.below hb⟩
theorem pre47 (c : UInt8) (r : List UInt8) : List.isPrefixOf [47] (c :: r) = ((c.toNat : Int) == 47) := by
  by_cases h : c = 47
  · subst h; simp [List.isPrefixOf]
  · have h2 : ((c.toNat : Int) == 47) = false := by
      simp only [beq_eq_false_iff_ne, ne_eq]
      intro e
      exact h (UInt8.toNat_inj.1 (by have : (47 : UInt8).toNat = 47 := rfl; omega))
    rw [h2]
    simp [List.isPrefixOf, Ne.symm h]
theorem two_pre (c : UInt8) (r : List UInt8) : PM.two47 (c :: r) = (List.isPrefixOf [47] (c :: r) && List.isPrefixOf [47] r) := by
  unfold PM.two47
  cases r with
  | nil => simp [List.isPrefixOf]
  | cons d r2 => simp [List.isPrefixOf]
set_option maxRecDepth 100000 in
set_option maxHeartbeats 32000000 in
theorem JoinPath_c (b : UV) (s : List UInt8) (w : World) (hrb : RdW w b.a b.pn b.xs) (hcap : b.pn ≤ b.pc) (hg : Gl w) (hT : Lib.Utf8Tabs 1 2 w) : Calls Tryz.prog 7 #[.agg b.cells, .string (mkS s)] w fun e w' => e = .returned (.bool true) ∧ Below w.heap.size w w' := by
  have HG := Lib.hid hg
  have HTB := Lib.hid hT
  have HCAP := Lib.hid hcap
  clear hcap
  have Rb := Lib.hid hrb
  clear hg hT hrb
  have HB : Hid (Below w.heap.size w (w.alloc (.cells b.cells 27))) := Lib.hid (b_alloc (Below.refl _ _) _)
  have Hb : Hid ((w.alloc (.cells b.cells 27)).heap[w.heap.size]? = some (.cells b.cells 27 (0, 0))) := Lib.hid ((by have h := Go.heap_alloc_new w (.cells b.cells 27); simpa using h))
  go_enter Tryz.func7, Tryz.ntmps7
  go_upto_region 1 with fail
  generalize w.alloc (.cells b.cells 27) = V0 at HB Hb ⊢
  go_wp2_with fail
  refine (awake11_c _ (HG.out.below HB.out) (tabs_below HTB.out HB.out)).mono ?_
  rintro e V1 ⟨rfl, hb⟩
  replace HB := Lib.hid (b_then HB.out hb)
  replace Hb := Lib.hid (obj_b hb Hb.out)
  clear hb
  go_wp2_with (first | go_skip | (refine wpList_load_g 27 _ rfl (by kernel_rfl) w.heap.size rfl Hb.out Tryz.underlying27 rfl (by kernel_rfl) ?_))
  refine (Few_c b _ (Rb.out.below HB.out)).mono ?_
  rintro e V2 ⟨rfl, hb⟩
  replace HB := Lib.hid (b_then HB.out hb)
  replace Hb := Lib.hid (obj_b hb Hb.out)
  clear hb
  cases hfb : PM.few b.pm
  · go_wp2
    go_ret
    exact ⟨rfl, HB.out⟩
  have Ob := Lib.hid (few_ok (Rb.out.below HB.out) hfb)
  have Fb := Lib.hid hfb
  clear hfb
  by_cases hls : 300 < s.length
  · have hls2 : (300 : Int) < s.length := by omega
    go_wp2
    go_ret
    exact ⟨rfl, HB.out⟩
  have hls2 : decide ((300 : Int) < (s.length : Int)) = false := decide_eq_false (by omega)
  have HLs : Hid (s.length ≤ 300) := Lib.hid (by omega)
  clear hls
  obtain ⟨m, hm⟩ : ∃ m, PM.urlMay b.pm = m := ⟨_, rfl⟩
  have HMb := Lib.hid hm
  clear hm
  go_wp2_with (first | go_skip | (refine wpList_load_g 27 _ rfl (by kernel_rfl) w.heap.size rfl Hb.out Tryz.underlying27 rfl (by kernel_rfl) ?_))
  refine (urlMay_c b _ Ob.out (HG.out.below HB.out)).mono ?_
  rw [HMb.out]
  rintro e V3 ⟨rfl, hb⟩
  replace HB := Lib.hid (b_then HB.out hb)
  replace Hb := Lib.hid (obj_b hb Hb.out)
  replace Ob := Lib.hid (Ob.out.below hb)
  clear hb
  cases m
  · go_wp2
    go_ret
    exact ⟨rfl, HB.out⟩
  have c0 : V3.cell? ⟨w.heap.size, 0, none⟩ = some (.string (mkS b.sc)) := by rw [Lib.cell_of_heap Hb.out]; rfl
  go_wp2_with fail
  refine (Web_c b.sc _).mono ?_
  rintro e V4 ⟨rfl, rfl⟩
  clear c0
  by_cases hw : PM.web b.sc = 0
  · have hw2 : (PM.web b.sc == 0) = true := by simpa using hw
    clear hw
    go_wp2
    go_ret
    exact ⟨rfl, HB.out⟩
  have hw2 : (PM.web b.sc == 0) = false := by simpa using hw
  have HW : Hid (PM.web b.pm.scheme ≠ 0) := Lib.hid hw
  clear hw
  obtain ⟨W, hW⟩ : ∃ W, PM.whole s = W := ⟨_, rfl⟩
  have HWH := Lib.hid hW
  clear hW
  go_wp2_with fail
  refine (Whole_c s (Nat.le_trans HLs.out (by decide)) _ (HG.out.below HB.out) (tabs_below HTB.out HB.out)).mono ?_
  rw [HWH.out]
  rintro e V5 ⟨rfl, hb⟩
  replace HB := Lib.hid (b_then HB.out hb)
  replace Hb := Lib.hid (obj_b hb Hb.out)
  replace Ob := Lib.hid (Ob.out.below hb)
  clear hb
  cases W
  rotate_left
  · go_wp2
    go_ret
    exact ⟨rfl, HB.out⟩
  clear hls2 hw2
  have hlx : s.length ≤ 300 := HLs.out
  go_wp2
  go_loopw [4, 7] (fun r i wr => wr = V5 ∧ r = .bool false ∧ ∃ k : Nat, k ≤ s.length ∧ i = .int .i64 k ∧ Hid (∀ c ∈ s.take k, okS c)) (fun _ i _ => s.length - (intOf i).toNat)
  case atStart => exact ⟨rfl, rfl, 0, Nat.zero_le _, rfl, Lib.hid (by intro c hc; simp at hc)⟩
  case round =>
    obtain ⟨hwr, rfl, k, hk, rfl, HQ⟩ := hrel
    have hwr' := hwr.symm
    subst hwr'
    clear hwr
    by_cases hlt : k < s.length
    · by_cases t0 : ((s[k]'hlt).toNat : Int) ≤ 32
      · go_wp2
        go_ret
        exact ⟨rfl, HB.out⟩
      cases t63 : (((s[k]'hlt).toNat : Int) == 63)
      rotate_left
      · go_wp2
        go_ret
        exact ⟨rfl, HB.out⟩
      cases t35 : (((s[k]'hlt).toNat : Int) == 35)
      rotate_left
      · go_wp2
        go_ret
        exact ⟨rfl, HB.out⟩
      have HQ2 := Lib.hid (all_take hlt HQ.out (show okS s[k] from ⟨nb _ t0, ne8 _ 63 (by decide) t63, ne8 _ 35 (by decide) t35⟩))
      go_wp2
      go_roundw
      case rel => exact ⟨trivial, rfl, k + 1, by omega, congrArg (Value.int .i64) (by omega), HQ2⟩
      case measure => simp [intOf]; omega
    · obtain rfl : k = s.length := by omega
      rw [List.take_length] at HQ
      have HQS : Hid (∀ c ∈ s, 32 < c.toNat ∧ c ≠ 63 ∧ c ≠ 35) := Lib.hid (fun c hc => by have h := HQ.out c hc; have hb : PM.blank c = false := h.1; unfold PM.blank at hb; simp at hb; exact ⟨by omega, h.2.1, h.2.2⟩)
      clear HQ hk hlt hlx
      cases s with
      | nil =>
        go_wp2
        go_ret
        exact ⟨rfl, HB.out⟩
      | cons c r =>
        obtain ⟨p47, hp47⟩ : ∃ p, ((c.toNat : Int) == 47) = p := ⟨_, rfl⟩
        have HE0 : (c :: r == ([] : List UInt8)) = false := by simp
        have h47 : List.isPrefixOf [47] (c :: r) = p47 := by
          rw [← hp47]
          exact pre47 c r
        have HP47 := Lib.hid h47
        clear h47
        have h2s : Hid (PM.two47 (c :: r) = (p47 && List.isPrefixOf [47] r)) := Lib.hid (by rw [← HP47.out]; exact two_pre c r)
        skip
        cases p47
        · cases r with
          | nil =>
            have H2 : Hid (PM.two47 [c] = false) := Lib.hid (by rw [h2s.out]; rfl)
            have hrp := PM.resolve_path HMb.out HW.out HWH.out HQS.out (by simp) H2.out
            rw [HP47.out] at hrp
            obtain ⟨WL, hWL⟩ : ∃ WL, PM.mergeP b.pm.path [c] = WL := ⟨_, rfl⟩
            have hsz : WL.length ≤ 10000 ∧ ∀ x ∈ WL, x.length ≤ 1000000 := by
              rw [← hWL]
              exact merge_sizes b.pm.path [c] (Nat.le_trans HLs.out (by decide)) (few_path Fb.out).1 (few_path Fb.out).2
            have hrp2 : PM.resolve b.pm [c] = some { PM.bare b.pm with path := WL, query := [], hasQuery := false } := by rw [← hWL]; exact hrp
            have HRP := Lib.hid hrp2
            have HWL := Lib.hid hWL
            have HSZ := Lib.hid hsz
            clear hrp hrp2 hWL hsz
            go_wp2_with (first | go_skip | (refine wpList_load_g 27 _ rfl (by kernel_rfl) w.heap.size rfl Hb.out Tryz.underlying27 rfl (by kernel_rfl) ?_))
            refine (Resolve_c b [c] _ (Nat.le_trans HLs.out (by decide)) Ob.out (Nat.le_trans (PM.few_all Fb.out).1 (by decide)) (HG.out.below HB.out) (tabs_below HTB.out HB.out)).mono ?_
            rintro e V6 ⟨hp, hb⟩
            obtain ⟨x, rfl, hxp, hxo⟩ := parse_ok hp HRP.out HSZ.out.1
            have Px := Lib.hid hxp
            have Ox := Lib.hid hxo
            clear hp hxp hxo
            replace HB := Lib.hid (b_then HB.out hb)
            replace Hb := Lib.hid (obj_b hb Hb.out)
            replace Ob := Lib.hid (Ob.out.below hb)
            clear hb
            have HN := Lib.hid (Go.heap_alloc_new V6 (.cells zurl 27))
            unfold zurl at HN 
            go_upto_region 13 with (first | (refine wpList_store_row rfl 27 _ _ rfl V6.heap.size x.cells rfl rfl 27 _ HN.out (by kernel_rfl) rfl (agg_one x) ?_))
            obtain ⟨V7, hV⟩ : ∃ V7, V7 = (V6.alloc (.cells #[.string ⟨#[]⟩, .string ⟨#[]⟩, .string ⟨#[]⟩, .int .i64 0, .string ⟨#[]⟩, .int .i64 0, .int .i64 0, .int .i64 0, .int .i64 0, .int .i64 0, .int .i64 0, .int .i64 0, .int .i64 0, .int .i64 0, .int .i64 0, .slice none 0 0, .string ⟨#[]⟩, .string ⟨#[]⟩, .string ⟨#[]⟩, .bool false, .bool false] 27)).setRow V6.heap.size x.cells := ⟨_, rfl⟩
            have hN : V7.heap[V6.heap.size]? = some (.cells x.cells 27 (0, 0)) := by rw [hV]; exact heap_setRow HN.out _
            have hb : Below V6.heap.size V6 V7 := by rw [hV]; exact below_setRow (b_alloc (Below.refl _ _) _) (Nat.le_refl _) _
            rw [← hV]
            clear hV HN 
            have Hx := Lib.hid hN
            clear hN
            have hlt_kx_Hb : w.heap.size < V6.heap.size := h_lt Hb.out
            have hlw_kx : w.heap.size ≤ V6.heap.size := HB.out.size
            replace HB := Lib.hid (b_then HB.out hb)
            replace Hb := Lib.hid (obj_b hb Hb.out)
            replace Ob := Lib.hid (Ob.out.below hb)
            replace Ox := Lib.hid (Ox.out.below hb)
            clear hb
            generalize V6.heap.size = kx at Hx hlt_kx_Hb hlw_kx ⊢
            (try simp only [Act.put])
            have c15 : V7.cell? ⟨w.heap.size, 15, none⟩ = some (.slice b.a b.pn b.pc) := by rw [Lib.cell_of_heap Hb.out]; rfl
            go_wp2_with fail
            refine (Merge_c b.xs [c] b.a b.pn b.pc (PM.pathMay_segs (PM.may_web HMb.out HW.out).2.2.2.1).1 Ob.out.xl Ob.out.xn (Nat.le_trans HLs.out (by decide)) HCAP.out _ Ob.out.rd (HG.out.below HB.out)).mono ?_
            rintro e V8 ⟨v1, rfl, hown, hb⟩
            have HOWN := Lib.hid hown
            clear hown c15
            replace HB := Lib.hid (b_then HB.out hb)
            replace Hb := Lib.hid (obj_b hb Hb.out)
            replace Hx := Lib.hid (obj_b hb Hx.out)
            replace Ob := Lib.hid (Ob.out.below hb)
            replace Ox := Lib.hid (Ox.out.below hb)
            clear hb
            have hwl : PM.mergeP b.xs [c] = WL := HWL.out
            rw [hwl] at HOWN
            clear hwl
            obtain ⟨wa, wc, hwv, hwr, -⟩ := own_rdS HOWN.out rfl (by have := HSZ.out.1; omega)
            subst hwv
            have HWR := Lib.hid hwr
            clear hwr HOWN
            have NBb : Hid (Nb V8.heap.size b) := Lib.hid (Ok_nb Ob.out (Nat.le_refl _))
            have NBx : Hid (Nb V8.heap.size x) := Lib.hid (Ok_nb Ox.out (Nat.le_refl _))
            have NBl : Hid (∀ g o, wa = some ⟨g, o, none⟩ → WL ≠ [] → g ≠ V8.heap.size) := Lib.hid (rd_nb HWR.out (Nat.le_refl _))
            have HN := Lib.hid (Go.heap_alloc_new V8 (.cells zurl 27))
            have Hx2 := Lib.hid (obj_b (b_alloc (Below.refl _ _) (.cells zurl 27)) Hx.out)
            unfold zurl at HN Hx2
            go_upto_region 17 with (first | (refine wpList_load_g 27 _ rfl (by kernel_rfl) kx rfl Hx2.out Tryz.underlying27 rfl (by kernel_rfl) ?_) | (refine wpList_load_g 27 _ rfl (by kernel_rfl) kx rfl Hx.out Tryz.underlying27 rfl (by kernel_rfl) ?_) | (refine wpList_store_row rfl 27 _ _ rfl V8.heap.size x.cells rfl rfl 27 _ HN.out (by kernel_rfl) rfl (agg_one x) ?_))
            obtain ⟨V9, hV⟩ : ∃ V9, V9 = (V8.alloc (.cells #[.string ⟨#[]⟩, .string ⟨#[]⟩, .string ⟨#[]⟩, .int .i64 0, .string ⟨#[]⟩, .int .i64 0, .int .i64 0, .int .i64 0, .int .i64 0, .int .i64 0, .int .i64 0, .int .i64 0, .int .i64 0, .int .i64 0, .int .i64 0, .slice none 0 0, .string ⟨#[]⟩, .string ⟨#[]⟩, .string ⟨#[]⟩, .bool false, .bool false] 27)).setRow V8.heap.size x.cells := ⟨_, rfl⟩
            have hN : V9.heap[V8.heap.size]? = some (.cells x.cells 27 (0, 0)) := by rw [hV]; exact heap_setRow HN.out _
            have hb : Below V8.heap.size V8 V9 := by rw [hV]; exact below_setRow (b_alloc (Below.refl _ _) _) (Nat.le_refl _) _
            rw [← hV]
            clear hV HN Hx2
            have Hy := Lib.hid hN
            clear hN
            have hlt_ky_Hb : w.heap.size < V8.heap.size := h_lt Hb.out
            have hlt_ky_Hx : kx < V8.heap.size := h_lt Hx.out
            have hlw_ky : w.heap.size ≤ V8.heap.size := HB.out.size
            replace HB := Lib.hid (b_then HB.out hb)
            replace Hb := Lib.hid (obj_b hb Hb.out)
            replace Hx := Lib.hid (obj_b hb Hx.out)
            replace Ob := Lib.hid (Ob.out.below hb)
            replace Ox := Lib.hid (Ox.out.below hb)
            replace HWR := Lib.hid (HWR.out.below hb)
            clear hb
            generalize V8.heap.size = ky at NBb NBx NBl Hy hlt_ky_Hb hlt_ky_Hx hlw_ky ⊢
            (try simp only [Act.put])
            have cx : V9.cell? ⟨w.heap.size, 15, none⟩ = some (.slice b.a b.pn b.pc) := by rw [Lib.cell_of_heap Hb.out]; rfl
            have ff := Lib.frozen_of_heap Hy.out 15
            have dd : V9.cell? ⟨ky, 15, none⟩ = some (.slice x.a x.pn x.pc) := by rw [Lib.cell_of_heap Hy.out]; rfl
            go_upto_region 18 with fail
            clear ff dd cx
            obtain ⟨S1, hV⟩ : ∃ S1, S1 = V9.setCell ⟨ky, 15, none⟩ (.slice b.a b.pn b.pc) := ⟨_, rfl⟩
            rw [← hV]
            replace Hy := Lib.hid (show S1.heap[ky]? = some (.cells (wayV x b.a b.pn b.pc b.xs).cells 27 (0, 0)) from by rw [hV]; exact setCell_heap Hy.out 15 _)
            replace Hb := Lib.hid (show S1.heap[w.heap.size]? = some (.cells _ 27 (0, 0)) from by rw [hV]; exact heap_set_other Hb.out _ _ _ (by omega))
            replace Hx := Lib.hid (show S1.heap[kx]? = some (.cells _ 27 (0, 0)) from by rw [hV]; exact heap_set_other Hx.out _ _ _ (by omega))
            replace HB := Lib.hid (show Below w.heap.size w S1 from by rw [hV]; exact b_set HB.out _ hlw_ky _)
            replace Ob := Lib.hid (show b.Ok S1 from by rw [hV]; exact Ok_set Ob.out NBb.out 15 _)
            replace Ox := Lib.hid (show x.Ok S1 from by rw [hV]; exact Ok_set Ox.out NBx.out 15 _)
            replace HWR := Lib.hid (show RdS S1 wa WL.length WL from by rw [hV]; exact HWR.out.frame (by simp [World.setCell]) fun g o e hx => heap_set_other rfl _ _ _ (fun e2 => NBl.out g o e hx e2.symm))
            clear hV
            have cx : S1.cell? ⟨w.heap.size, 17, none⟩ = some (.string (mkS b.qu)) := by rw [Lib.cell_of_heap Hb.out]; rfl
            have ff := Lib.frozen_of_heap Hy.out 17
            have dd : S1.cell? ⟨ky, 17, none⟩ = some (.string (mkS x.qu)) := by rw [Lib.cell_of_heap Hy.out]; rfl
            go_upto_region 19 with fail
            clear ff dd cx
            obtain ⟨S2, hV⟩ : ∃ S2, S2 = S1.setCell ⟨ky, 17, none⟩ (.string (mkS b.qu)) := ⟨_, rfl⟩
            rw [← hV]
            replace Hy := Lib.hid (show S2.heap[ky]? = some (.cells ({ wayV x b.a b.pn b.pc b.xs with qu := b.qu } : UV).cells 27 (0, 0)) from by rw [hV]; exact setCell_heap Hy.out 17 _)
            replace Hb := Lib.hid (show S2.heap[w.heap.size]? = some (.cells _ 27 (0, 0)) from by rw [hV]; exact heap_set_other Hb.out _ _ _ (by omega))
            replace Hx := Lib.hid (show S2.heap[kx]? = some (.cells _ 27 (0, 0)) from by rw [hV]; exact heap_set_other Hx.out _ _ _ (by omega))
            replace HB := Lib.hid (show Below w.heap.size w S2 from by rw [hV]; exact b_set HB.out _ hlw_ky _)
            replace Ob := Lib.hid (show b.Ok S2 from by rw [hV]; exact Ok_set Ob.out NBb.out 17 _)
            replace Ox := Lib.hid (show x.Ok S2 from by rw [hV]; exact Ok_set Ox.out NBx.out 17 _)
            replace HWR := Lib.hid (show RdS S2 wa WL.length WL from by rw [hV]; exact HWR.out.frame (by simp [World.setCell]) fun g o e hx => heap_set_other rfl _ _ _ (fun e2 => NBl.out g o e hx e2.symm))
            clear hV
            have cx : S2.cell? ⟨w.heap.size, 19, none⟩ = some (.bool b.hq) := by rw [Lib.cell_of_heap Hb.out]; rfl
            have ff := Lib.frozen_of_heap Hy.out 19
            have dd : S2.cell? ⟨ky, 19, none⟩ = some (.bool x.hq) := by rw [Lib.cell_of_heap Hy.out]; rfl
            go_upto_region 20 with fail
            clear ff dd cx
            obtain ⟨S3, hV⟩ : ∃ S3, S3 = S2.setCell ⟨ky, 19, none⟩ (.bool b.hq) := ⟨_, rfl⟩
            rw [← hV]
            replace Hy := Lib.hid (show S3.heap[ky]? = some (.cells ({ wayV x b.a b.pn b.pc b.xs with qu := b.qu, hq := b.hq } : UV).cells 27 (0, 0)) from by rw [hV]; exact setCell_heap Hy.out 19 _)
            replace Hb := Lib.hid (show S3.heap[w.heap.size]? = some (.cells _ 27 (0, 0)) from by rw [hV]; exact heap_set_other Hb.out _ _ _ (by omega))
            replace Hx := Lib.hid (show S3.heap[kx]? = some (.cells _ 27 (0, 0)) from by rw [hV]; exact heap_set_other Hx.out _ _ _ (by omega))
            replace HB := Lib.hid (show Below w.heap.size w S3 from by rw [hV]; exact b_set HB.out _ hlw_ky _)
            replace Ob := Lib.hid (show b.Ok S3 from by rw [hV]; exact Ok_set Ob.out NBb.out 19 _)
            replace Ox := Lib.hid (show x.Ok S3 from by rw [hV]; exact Ok_set Ox.out NBx.out 19 _)
            replace HWR := Lib.hid (show RdS S3 wa WL.length WL from by rw [hV]; exact HWR.out.frame (by simp [World.setCell]) fun g o e hx => heap_set_other rfl _ _ _ (fun e2 => NBl.out g o e hx e2.symm))
            clear hV
            obtain ⟨y, hpy, oy, hy⟩ : ∃ y : UV, y.pm = PM.bare b.pm ∧ y.Ok S3 ∧ S3.heap[ky]? = some (.cells y.cells 27 (0, 0)) := ⟨{ wayV x b.a b.pn b.pc b.xs with qu := b.qu, hq := b.hq }, by
                have h := Px.out
                show ({ x.pm with path := b.xs, query := b.qu, hasQuery := b.hq } : PM.Url) = _
                rw [h]
                rfl, ⟨Ox.out.sc, Ox.out.us, Ox.out.pa, Ox.out.n, Ox.out.op, Ob.out.qu, Ox.out.fr, Ob.out.xn, Ob.out.xl, Ob.out.rd⟩, Hy.out⟩
            have HPY := Lib.hid hpy
            have OY := Lib.hid oy
            clear Hy
            have Hy := Lib.hid hy
            clear hpy oy hy
            have HXS : Hid (x.xs = WL) := Lib.hid (congrArg PM.Url.path Px.out)
            have HXQ : Hid (x.hq = false) := Lib.hid (congrArg PM.Url.hasQuery Px.out)
            have HXF : Hid (x.hf = false) := Lib.hid (congrArg PM.Url.hasFrag Px.out)
            have HD : Hid (PM.door x.pm = PM.door b.pm) := Lib.hid (by rw [Px.out]; exact PM.door_way HMb.out (PM.resolve_may HRP.out rfl).1 rfl rfl rfl)
            go_wp2_with fail
            refine wp_region_noPanic ?_
            refine wp_region_held_drew (S := fun W' => QAt w.heap.size kx ky b x y wa WL w W') (by kernel_rfl) (QAt.below ⟨Hb.out, Hx.out, Hy.out, HB.out, Ob.out, Ox.out, OY.out, HWR.out⟩ (b_drew (Below.refl _ _))) (fun hS0 => ?_)
            refine wpAnyH_take (i := 0) (v := ?_) rfl (by kernel_rfl) (by kernel_rfl) (by kernel_rfl) (fun _ _ _ h => h) (Or.inl ⟨by kernel_rfl, fun W hW => ?_⟩) (by assumption) ?_
            rotate_left
            · go_simp
              try with_reducible rfl
            (try simp only [List.getElem_toArray, List.getElem_cons_zero, List.getElem_cons_succ, Act.put, List.setIfInBounds_toArray, List.set_cons_zero, List.set_cons_succ])
            refine wpAnyH_take (i := 1) (v := ?_) rfl (by kernel_rfl) (by kernel_rfl) (by kernel_rfl) (fun _ _ _ h => h) (Or.inl ⟨by kernel_rfl, fun W hW => ?_⟩) (by assumption) ?_
            rotate_left
            · go_simp
              try with_reducible rfl
            (try simp only [List.getElem_toArray, List.getElem_cons_zero, List.getElem_cons_succ, Act.put, List.setIfInBounds_toArray, List.set_cons_zero, List.set_cons_succ])
            refine wpAnyH_take (i := 2) (v := ?_) rfl (by kernel_rfl) (by kernel_rfl) (by kernel_rfl) (fun _ _ _ h => h) (Or.inl ⟨by kernel_rfl, fun W hW => ?_⟩) (by assumption) ?_
            rotate_left
            · go_simp
              try with_reducible rfl
            (try simp only [List.getElem_toArray, List.getElem_cons_zero, List.getElem_cons_succ, Act.put, List.setIfInBounds_toArray, List.set_cons_zero, List.set_cons_succ])
            refine wpAnyH_take (i := 3) (v := ?_) rfl (by kernel_rfl) (by kernel_rfl) (by kernel_rfl) (fun _ _ _ h => h) (Or.inl ⟨by kernel_rfl, fun W hW => ?_⟩) (by assumption) ?_
            rotate_left
            · have c15 : W.cell? ⟨kx, 15, none⟩ = some (.slice x.a x.pn x.pc) := by rw [Lib.cell_of_heap hW.hx]; rfl
              go_simp
              try with_reducible rfl
            (try simp only [List.getElem_toArray, List.getElem_cons_zero, List.getElem_cons_succ, Act.put, List.setIfInBounds_toArray, List.set_cons_zero, List.set_cons_succ])
            refine wpAnyH_take (i := 5) (v := ?_) rfl (by kernel_rfl) (by kernel_rfl) (by kernel_rfl) (fun _ _ _ h => h) (Or.inl ⟨by kernel_rfl, fun W hW => ?_⟩) (by assumption) ?_
            rotate_left
            · go_simp
              try with_reducible rfl
            (try simp only [List.getElem_toArray, List.getElem_cons_zero, List.getElem_cons_succ, Act.put, List.setIfInBounds_toArray, List.set_cons_zero, List.set_cons_succ])
            refine wpAnyH_ready (rs := [4]) (by kernel_rfl) (by simp) ?_
            refine AllReadyH.cons rfl (fun K hK => ?_) AllReadyH.nil
            go_simp
            refine (pathShow_c x.xs (fun s hs => Nat.le_trans (hS0.xo.xl s hs) (by decide)) hS0.xo.xn x.a x.pn x.pc _ hS0.xo.rd).mono ?_
            rw [HXS.out]
            rintro e U41 ⟨rfl, hb⟩
            have hSn := hS0.below hb
            clear hb hS0
            refine hK.out _ _ hSn (fun _ => ?_)
            clear hK K
            (try simp only [List.getElem_toArray, List.getElem_cons_zero, List.getElem_cons_succ, Act.put, List.setIfInBounds_toArray, List.set_cons_zero, List.set_cons_succ])
            refine wpAnyH_ready (rs := [6]) (by kernel_rfl) (by simp) ?_
            refine AllReadyH.cons rfl (fun K hK => ?_) AllReadyH.nil
            go_simp
            refine (pathShow_c WL (fun s hs => Nat.le_trans (HSZ.out.2 s hs) (by decide)) HSZ.out.1 wa WL.length wc _ hSn.rd).mono ?_
            rintro e U42 ⟨rfl, hb⟩
            replace hSn := hSn.below hb
            clear hb
            refine hK.out _ _ hSn (fun _ => ?_)
            clear hK K
            (try simp only [List.getElem_toArray, List.getElem_cons_zero, List.getElem_cons_succ, Act.put, List.setIfInBounds_toArray, List.set_cons_zero, List.set_cons_succ])
            refine wpAnyH_take (i := 7) (v := ?_) rfl (by kernel_rfl) (by kernel_rfl) (by kernel_rfl) (fun _ _ _ h => h) (Or.inl ⟨by kernel_rfl, fun W hW => ?_⟩) (by assumption) ?_
            rotate_left
            · go_simp
              try with_reducible rfl
            (try simp only [List.getElem_toArray, List.getElem_cons_zero, List.getElem_cons_succ, Act.put, List.setIfInBounds_toArray, List.set_cons_zero, List.set_cons_succ])
            refine wpAnyH_take (i := 8) (v := ?_) rfl (by kernel_rfl) (by kernel_rfl) (by kernel_rfl) (fun _ _ _ h => h) (Or.inl ⟨by kernel_rfl, fun W hW => ?_⟩) (by assumption) ?_
            rotate_left
            · go_simp
              try with_reducible rfl
            (try simp only [List.getElem_toArray, List.getElem_cons_zero, List.getElem_cons_succ, Act.put, List.setIfInBounds_toArray, List.set_cons_zero, List.set_cons_succ])
            refine wpAnyH_take (i := 9) (v := ?_) rfl (by kernel_rfl) (by kernel_rfl) (by kernel_rfl) (fun _ _ _ h => h) (Or.inl ⟨by kernel_rfl, fun W hW => ?_⟩) (by assumption) ?_
            rotate_left
            · go_simp
              try with_reducible rfl
            (try simp only [List.getElem_toArray, List.getElem_cons_zero, List.getElem_cons_succ, Act.put, List.setIfInBounds_toArray, List.set_cons_zero, List.set_cons_succ])
            refine wpAnyH_take (i := 10) (v := ?_) rfl (by kernel_rfl) (by kernel_rfl) (by kernel_rfl) (fun _ _ _ h => h) (Or.inl ⟨by kernel_rfl, fun W hW => ?_⟩) (by assumption) ?_
            rotate_left
            · go_simp
              try with_reducible rfl
            (try simp only [List.getElem_toArray, List.getElem_cons_zero, List.getElem_cons_succ, Act.put, List.setIfInBounds_toArray, List.set_cons_zero, List.set_cons_succ])
            refine wpAnyH_take (i := 11) (v := ?_) rfl (by kernel_rfl) (by kernel_rfl) (by kernel_rfl) (fun _ _ _ h => h) (Or.inl ⟨by kernel_rfl, fun W hW => ?_⟩) (by assumption) ?_
            rotate_left
            · have c19 : W.cell? ⟨kx, 19, none⟩ = some (.bool false) := by rw [Lib.cell_of_heap hW.hx, show UV.cells x = UV.cells { x with hq := false } from by rw [← HXQ.out]]; rfl
              go_simp
              try with_reducible rfl
            (try simp only [List.getElem_toArray, List.getElem_cons_zero, List.getElem_cons_succ, Act.put, List.setIfInBounds_toArray, List.set_cons_zero, List.set_cons_succ])
            refine wpAnyH_take (i := 12) (v := ?_) rfl (by kernel_rfl) (by kernel_rfl) (by kernel_rfl) (fun _ _ _ h => h) (Or.inl ⟨by kernel_rfl, fun W hW => ?_⟩) (by assumption) ?_
            rotate_left
            · go_simp
              try with_reducible rfl
            (try simp only [List.getElem_toArray, List.getElem_cons_zero, List.getElem_cons_succ, Act.put, List.setIfInBounds_toArray, List.set_cons_zero, List.set_cons_succ])
            refine wpAnyH_take (i := 13) (v := ?_) rfl (by kernel_rfl) (by kernel_rfl) (by kernel_rfl) (fun _ _ _ h => h) (Or.inl ⟨by kernel_rfl, fun W hW => ?_⟩) (by assumption) ?_
            rotate_left
            · go_simp
              try with_reducible rfl
            (try simp only [List.getElem_toArray, List.getElem_cons_zero, List.getElem_cons_succ, Act.put, List.setIfInBounds_toArray, List.set_cons_zero, List.set_cons_succ])
            refine wpAnyH_take (i := 14) (v := ?_) rfl (by kernel_rfl) (by kernel_rfl) (by kernel_rfl) (fun _ _ _ h => h) (Or.inl ⟨by kernel_rfl, fun W hW => ?_⟩) (by assumption) ?_
            rotate_left
            · go_simp
              try with_reducible rfl
            (try simp only [List.getElem_toArray, List.getElem_cons_zero, List.getElem_cons_succ, Act.put, List.setIfInBounds_toArray, List.set_cons_zero, List.set_cons_succ])
            refine wpAnyH_take (i := 15) (v := ?_) rfl (by kernel_rfl) (by kernel_rfl) (by kernel_rfl) (fun _ _ _ h => h) (Or.inl ⟨by kernel_rfl, fun W hW => ?_⟩) (by assumption) ?_
            rotate_left
            · go_simp
              try with_reducible rfl
            (try simp only [List.getElem_toArray, List.getElem_cons_zero, List.getElem_cons_succ, Act.put, List.setIfInBounds_toArray, List.set_cons_zero, List.set_cons_succ])
            refine wpAnyH_take (i := 16) (v := ?_) rfl (by kernel_rfl) (by kernel_rfl) (by kernel_rfl) (fun _ _ _ h => h) (Or.inl ⟨by kernel_rfl, fun W hW => ?_⟩) (by assumption) ?_
            rotate_left
            · have c20 : W.cell? ⟨kx, 20, none⟩ = some (.bool false) := by rw [Lib.cell_of_heap hW.hx, show UV.cells x = UV.cells { x with hf := false } from by rw [← HXF.out]]; rfl
              go_simp
              try with_reducible rfl
            (try simp only [List.getElem_toArray, List.getElem_cons_zero, List.getElem_cons_succ, Act.put, List.setIfInBounds_toArray, List.set_cons_zero, List.set_cons_succ])
            refine wpAnyH_take (i := 17) (v := ?_) rfl (by kernel_rfl) (by kernel_rfl) (by kernel_rfl) (fun _ _ _ h => h) (Or.inl ⟨by kernel_rfl, fun W hW => ?_⟩) (by assumption) ?_
            rotate_left
            · go_simp
              try with_reducible rfl
            (try simp only [List.getElem_toArray, List.getElem_cons_zero, List.getElem_cons_succ, Act.put, List.setIfInBounds_toArray, List.set_cons_zero, List.set_cons_succ])
            refine wpAnyH_take (i := 18) (v := ?_) rfl (by kernel_rfl) (by kernel_rfl) (by kernel_rfl) (fun _ _ _ h => h) (Or.inl ⟨by kernel_rfl, fun W hW => ?_⟩) (by assumption) ?_
            rotate_left
            · go_simp
              try with_reducible rfl
            (try simp only [List.getElem_toArray, List.getElem_cons_zero, List.getElem_cons_succ, Act.put, List.setIfInBounds_toArray, List.set_cons_zero, List.set_cons_succ])
            refine wpAnyH_take (i := 19) (v := ?_) rfl (by kernel_rfl) (by kernel_rfl) (by kernel_rfl) (fun _ _ _ h => h) (Or.inl ⟨by kernel_rfl, fun W hW => ?_⟩) (by assumption) ?_
            rotate_left
            · go_simp
              try with_reducible rfl
            (try simp only [List.getElem_toArray, List.getElem_cons_zero, List.getElem_cons_succ, Act.put, List.setIfInBounds_toArray, List.set_cons_zero, List.set_cons_succ])
            refine wpAnyH_take (i := 20) (v := ?_) rfl (by kernel_rfl) (by kernel_rfl) (by kernel_rfl) (fun _ _ _ h => h) (Or.inl ⟨by kernel_rfl, fun W hW => ?_⟩) (by assumption) ?_
            rotate_left
            · refine yield_row 27 (.tmp 11) ?_ ky ?_ hW.hy Tryz.underlying27 rfl (by kernel_rfl)
              · rfl
              · rfl
            (try simp only [List.getElem_toArray, List.getElem_cons_zero, List.getElem_cons_succ, Act.put, List.setIfInBounds_toArray, List.set_cons_zero, List.set_cons_succ])
            refine wpAnyH_take (i := 21) (v := ?_) rfl (by kernel_rfl) (by kernel_rfl) (by kernel_rfl) (fun _ _ _ h => h) (Or.inl ⟨by kernel_rfl, fun W hW => ?_⟩) (by assumption) ?_
            rotate_left
            · refine yield_row 27 (.tmp 2) ?_ w.heap.size ?_ hW.hb Tryz.underlying27 rfl (by kernel_rfl)
              · rfl
              · rfl
            (try simp only [List.getElem_toArray, List.getElem_cons_zero, List.getElem_cons_succ, Act.put, List.setIfInBounds_toArray, List.set_cons_zero, List.set_cons_succ])
            refine wpAnyH_ready (rs := [22]) (by kernel_rfl) (by simp) ?_
            refine AllReadyH.cons rfl (fun K hK => ?_) AllReadyH.nil
            go_simp
            refine (Bare_c b _ hSn.bo).mono ?_
            rintro e U43 ⟨b1, rfl, p1, o1, -, hb⟩
            replace hSn := hSn.below hb
            clear hb
            have PB1 := Lib.hid p1
            clear p1
            have OB1 := Lib.hid o1
            clear o1
            refine hK.out _ _ hSn (fun _ => ?_)
            clear hK K
            (try simp only [List.getElem_toArray, List.getElem_cons_zero, List.getElem_cons_succ, Act.put, List.setIfInBounds_toArray, List.set_cons_zero, List.set_cons_succ])
            refine wpAnyH_ready (rs := [23]) (by kernel_rfl) (by simp) ?_
            refine AllReadyH.cons rfl (fun K hK => ?_) AllReadyH.nil
            go_simp
            refine (UrlSame_c y b1 _ hSn.yo OB1.out).mono ?_
            rw [HPY.out, PB1.out, same_self]
            rintro e U44 ⟨rfl, hb⟩
            replace hSn := hSn.below hb
            replace OB1 := Lib.hid (OB1.out.below hb)
            clear hb
            refine hK.out _ _ hSn (fun _ => ?_)
            clear hK K
            (try simp only [List.getElem_toArray, List.getElem_cons_zero, List.getElem_cons_succ, Act.put, List.setIfInBounds_toArray, List.set_cons_zero, List.set_cons_succ])
            refine wpAnyH_take (i := 24) (v := ?_) rfl (by kernel_rfl) (by kernel_rfl) (by kernel_rfl) (fun _ _ _ h => h) (Or.inl ⟨by kernel_rfl, fun W hW => ?_⟩) (by assumption) ?_
            rotate_left
            · go_simp
              try with_reducible rfl
            (try simp only [List.getElem_toArray, List.getElem_cons_zero, List.getElem_cons_succ, Act.put, List.setIfInBounds_toArray, List.set_cons_zero, List.set_cons_succ])
            refine wpAnyH_take (i := 25) (v := ?_) rfl (by kernel_rfl) (by kernel_rfl) (by kernel_rfl) (fun _ _ _ h => h) (Or.inl ⟨by kernel_rfl, fun W hW => ?_⟩) (by assumption) ?_
            rotate_left
            · go_simp
              try with_reducible rfl
            (try simp only [List.getElem_toArray, List.getElem_cons_zero, List.getElem_cons_succ, Act.put, List.setIfInBounds_toArray, List.set_cons_zero, List.set_cons_succ])
            refine wpAnyH_take (i := 26) (v := ?_) rfl (by kernel_rfl) (by kernel_rfl) (by kernel_rfl) (fun _ _ _ h => h) (Or.inl ⟨by kernel_rfl, fun W hW => ?_⟩) (by assumption) ?_
            rotate_left
            · refine yield_row 27 (.tmp 8) ?_ kx ?_ hW.hx Tryz.underlying27 rfl (by kernel_rfl)
              · rfl
              · rfl
            (try simp only [List.getElem_toArray, List.getElem_cons_zero, List.getElem_cons_succ, Act.put, List.setIfInBounds_toArray, List.set_cons_zero, List.set_cons_succ])
            refine wpAnyH_take (i := 28) (v := ?_) rfl (by kernel_rfl) (by kernel_rfl) (by kernel_rfl) (fun _ _ _ h => h) (Or.inl ⟨by kernel_rfl, fun W hW => ?_⟩) (by assumption) ?_
            rotate_left
            · refine yield_row 27 (.tmp 2) ?_ w.heap.size ?_ hW.hb Tryz.underlying27 rfl (by kernel_rfl)
              · rfl
              · rfl
            (try simp only [List.getElem_toArray, List.getElem_cons_zero, List.getElem_cons_succ, Act.put, List.setIfInBounds_toArray, List.set_cons_zero, List.set_cons_succ])
            refine wpAnyH_ready (rs := [27]) (by kernel_rfl) (by simp) ?_
            refine AllReadyH.cons rfl (fun K hK => ?_) AllReadyH.nil
            go_simp
            refine (Door_c x _ hSn.xo (HG.out.below hSn.be)).mono ?_
            rw [HD.out]
            rintro e U45 ⟨rfl, hb⟩
            replace hSn := hSn.below hb
            replace OB1 := Lib.hid (OB1.out.below hb)
            clear hb
            refine hK.out _ _ hSn (fun _ => ?_)
            clear hK K
            (try simp only [List.getElem_toArray, List.getElem_cons_zero, List.getElem_cons_succ, Act.put, List.setIfInBounds_toArray, List.set_cons_zero, List.set_cons_succ])
            refine wpAnyH_ready (rs := [29]) (by kernel_rfl) (by simp) ?_
            refine AllReadyH.cons rfl (fun K hK => ?_) AllReadyH.nil
            go_simp
            refine (Door_c b _ hSn.bo (HG.out.below hSn.be)).mono ?_
            rintro e U46 ⟨rfl, hb⟩
            replace hSn := hSn.below hb
            replace OB1 := Lib.hid (OB1.out.below hb)
            clear hb
            refine hK.out _ _ hSn (fun _ => ?_)
            clear hK K
            (try simp only [List.getElem_toArray, List.getElem_cons_zero, List.getElem_cons_succ, Act.put, List.setIfInBounds_toArray, List.set_cons_zero, List.set_cons_succ])
            refine wpAnyH_take (i := 30) (v := ?_) rfl (by kernel_rfl) (by kernel_rfl) (by kernel_rfl) (fun _ _ _ h => h) (Or.inl ⟨by kernel_rfl, fun W hW => ?_⟩) (by assumption) ?_
            rotate_left
            · go_simp
              try with_reducible rfl
            (try simp only [List.getElem_toArray, List.getElem_cons_zero, List.getElem_cons_succ, Act.put, List.setIfInBounds_toArray, List.set_cons_zero, List.set_cons_succ])
            refine wpAnyH_take (i := 31) (v := ?_) rfl (by kernel_rfl) (by kernel_rfl) (by kernel_rfl) (fun _ _ _ h => h) (Or.inl ⟨by kernel_rfl, fun W hW => ?_⟩) (by assumption) ?_
            rotate_left
            · go_simp
              try with_reducible rfl
            (try simp only [List.getElem_toArray, List.getElem_cons_zero, List.getElem_cons_succ, Act.put, List.setIfInBounds_toArray, List.set_cons_zero, List.set_cons_succ])
            refine wpAnyH_take (i := 32) (v := ?_) rfl (by kernel_rfl) (by kernel_rfl) (by kernel_rfl) (fun _ _ _ h => h) (Or.inl ⟨by kernel_rfl, fun W hW => ?_⟩) (by assumption) ?_
            rotate_left
            · go_simp
              try with_reducible rfl
            (try simp only [List.getElem_toArray, List.getElem_cons_zero, List.getElem_cons_succ, Act.put, List.setIfInBounds_toArray, List.set_cons_zero, List.set_cons_succ])
            refine wpAnyH_done (by kernel_rfl) ?_ _
            refine NoPanic.normal ?_
            go_wp2
            go_ret
            exact ⟨rfl, hSn.be⟩
          | cons d r2 =>
            have hl1 : (1 : Int) < ((c :: d :: r2).length : Int) := by simp; omega
            have H2 : Hid (PM.two47 (c :: d :: r2) = false) := Lib.hid (by rw [h2s.out]; rfl)
            have hrp := PM.resolve_path HMb.out HW.out HWH.out HQS.out (by simp) H2.out
            rw [HP47.out] at hrp
            obtain ⟨WL, hWL⟩ : ∃ WL, PM.mergeP b.pm.path (c :: d :: r2) = WL := ⟨_, rfl⟩
            have hsz : WL.length ≤ 10000 ∧ ∀ x ∈ WL, x.length ≤ 1000000 := by
              rw [← hWL]
              exact merge_sizes b.pm.path (c :: d :: r2) (Nat.le_trans HLs.out (by decide)) (few_path Fb.out).1 (few_path Fb.out).2
            have hrp2 : PM.resolve b.pm (c :: d :: r2) = some { PM.bare b.pm with path := WL, query := [], hasQuery := false } := by rw [← hWL]; exact hrp
            have HRP := Lib.hid hrp2
            have HWL := Lib.hid hWL
            have HSZ := Lib.hid hsz
            clear hrp hrp2 hWL hsz
            go_wp2_with (first | go_skip | (refine wpList_load_g 27 _ rfl (by kernel_rfl) w.heap.size rfl Hb.out Tryz.underlying27 rfl (by kernel_rfl) ?_))
            refine (Resolve_c b (c :: d :: r2) _ (Nat.le_trans HLs.out (by decide)) Ob.out (Nat.le_trans (PM.few_all Fb.out).1 (by decide)) (HG.out.below HB.out) (tabs_below HTB.out HB.out)).mono ?_
            rintro e V6 ⟨hp, hb⟩
            obtain ⟨x, rfl, hxp, hxo⟩ := parse_ok hp HRP.out HSZ.out.1
            have Px := Lib.hid hxp
            have Ox := Lib.hid hxo
            clear hp hxp hxo
            replace HB := Lib.hid (b_then HB.out hb)
            replace Hb := Lib.hid (obj_b hb Hb.out)
            replace Ob := Lib.hid (Ob.out.below hb)
            clear hb
            have HN := Lib.hid (Go.heap_alloc_new V6 (.cells zurl 27))
            unfold zurl at HN 
            go_upto_region 13 with (first | (refine wpList_store_row rfl 27 _ _ rfl V6.heap.size x.cells rfl rfl 27 _ HN.out (by kernel_rfl) rfl (agg_one x) ?_))
            obtain ⟨V7, hV⟩ : ∃ V7, V7 = (V6.alloc (.cells #[.string ⟨#[]⟩, .string ⟨#[]⟩, .string ⟨#[]⟩, .int .i64 0, .string ⟨#[]⟩, .int .i64 0, .int .i64 0, .int .i64 0, .int .i64 0, .int .i64 0, .int .i64 0, .int .i64 0, .int .i64 0, .int .i64 0, .int .i64 0, .slice none 0 0, .string ⟨#[]⟩, .string ⟨#[]⟩, .string ⟨#[]⟩, .bool false, .bool false] 27)).setRow V6.heap.size x.cells := ⟨_, rfl⟩
            have hN : V7.heap[V6.heap.size]? = some (.cells x.cells 27 (0, 0)) := by rw [hV]; exact heap_setRow HN.out _
            have hb : Below V6.heap.size V6 V7 := by rw [hV]; exact below_setRow (b_alloc (Below.refl _ _) _) (Nat.le_refl _) _
            rw [← hV]
            clear hV HN 
            have Hx := Lib.hid hN
            clear hN
            have hlt_kx_Hb : w.heap.size < V6.heap.size := h_lt Hb.out
            have hlw_kx : w.heap.size ≤ V6.heap.size := HB.out.size
            replace HB := Lib.hid (b_then HB.out hb)
            replace Hb := Lib.hid (obj_b hb Hb.out)
            replace Ob := Lib.hid (Ob.out.below hb)
            replace Ox := Lib.hid (Ox.out.below hb)
            clear hb
            generalize V6.heap.size = kx at Hx hlt_kx_Hb hlw_kx ⊢
            (try simp only [Act.put])
            have c15 : V7.cell? ⟨w.heap.size, 15, none⟩ = some (.slice b.a b.pn b.pc) := by rw [Lib.cell_of_heap Hb.out]; rfl
            go_wp2_with fail
            refine (Merge_c b.xs (c :: d :: r2) b.a b.pn b.pc (PM.pathMay_segs (PM.may_web HMb.out HW.out).2.2.2.1).1 Ob.out.xl Ob.out.xn (Nat.le_trans HLs.out (by decide)) HCAP.out _ Ob.out.rd (HG.out.below HB.out)).mono ?_
            rintro e V8 ⟨v1, rfl, hown, hb⟩
            have HOWN := Lib.hid hown
            clear hown c15
            replace HB := Lib.hid (b_then HB.out hb)
            replace Hb := Lib.hid (obj_b hb Hb.out)
            replace Hx := Lib.hid (obj_b hb Hx.out)
            replace Ob := Lib.hid (Ob.out.below hb)
            replace Ox := Lib.hid (Ox.out.below hb)
            clear hb
            have hwl : PM.mergeP b.xs (c :: d :: r2) = WL := HWL.out
            rw [hwl] at HOWN
            clear hwl
            obtain ⟨wa, wc, hwv, hwr, -⟩ := own_rdS HOWN.out rfl (by have := HSZ.out.1; omega)
            subst hwv
            have HWR := Lib.hid hwr
            clear hwr HOWN
            have NBb : Hid (Nb V8.heap.size b) := Lib.hid (Ok_nb Ob.out (Nat.le_refl _))
            have NBx : Hid (Nb V8.heap.size x) := Lib.hid (Ok_nb Ox.out (Nat.le_refl _))
            have NBl : Hid (∀ g o, wa = some ⟨g, o, none⟩ → WL ≠ [] → g ≠ V8.heap.size) := Lib.hid (rd_nb HWR.out (Nat.le_refl _))
            have HN := Lib.hid (Go.heap_alloc_new V8 (.cells zurl 27))
            have Hx2 := Lib.hid (obj_b (b_alloc (Below.refl _ _) (.cells zurl 27)) Hx.out)
            unfold zurl at HN Hx2
            go_upto_region 17 with (first | (refine wpList_load_g 27 _ rfl (by kernel_rfl) kx rfl Hx2.out Tryz.underlying27 rfl (by kernel_rfl) ?_) | (refine wpList_load_g 27 _ rfl (by kernel_rfl) kx rfl Hx.out Tryz.underlying27 rfl (by kernel_rfl) ?_) | (refine wpList_store_row rfl 27 _ _ rfl V8.heap.size x.cells rfl rfl 27 _ HN.out (by kernel_rfl) rfl (agg_one x) ?_))
            obtain ⟨V9, hV⟩ : ∃ V9, V9 = (V8.alloc (.cells #[.string ⟨#[]⟩, .string ⟨#[]⟩, .string ⟨#[]⟩, .int .i64 0, .string ⟨#[]⟩, .int .i64 0, .int .i64 0, .int .i64 0, .int .i64 0, .int .i64 0, .int .i64 0, .int .i64 0, .int .i64 0, .int .i64 0, .int .i64 0, .slice none 0 0, .string ⟨#[]⟩, .string ⟨#[]⟩, .string ⟨#[]⟩, .bool false, .bool false] 27)).setRow V8.heap.size x.cells := ⟨_, rfl⟩
            have hN : V9.heap[V8.heap.size]? = some (.cells x.cells 27 (0, 0)) := by rw [hV]; exact heap_setRow HN.out _
            have hb : Below V8.heap.size V8 V9 := by rw [hV]; exact below_setRow (b_alloc (Below.refl _ _) _) (Nat.le_refl _) _
            rw [← hV]
            clear hV HN Hx2
            have Hy := Lib.hid hN
            clear hN
            have hlt_ky_Hb : w.heap.size < V8.heap.size := h_lt Hb.out
            have hlt_ky_Hx : kx < V8.heap.size := h_lt Hx.out
            have hlw_ky : w.heap.size ≤ V8.heap.size := HB.out.size
            replace HB := Lib.hid (b_then HB.out hb)
            replace Hb := Lib.hid (obj_b hb Hb.out)
            replace Hx := Lib.hid (obj_b hb Hx.out)
            replace Ob := Lib.hid (Ob.out.below hb)
            replace Ox := Lib.hid (Ox.out.below hb)
            replace HWR := Lib.hid (HWR.out.below hb)
            clear hb
            generalize V8.heap.size = ky at NBb NBx NBl Hy hlt_ky_Hb hlt_ky_Hx hlw_ky ⊢
            (try simp only [Act.put])
            have cx : V9.cell? ⟨w.heap.size, 15, none⟩ = some (.slice b.a b.pn b.pc) := by rw [Lib.cell_of_heap Hb.out]; rfl
            have ff := Lib.frozen_of_heap Hy.out 15
            have dd : V9.cell? ⟨ky, 15, none⟩ = some (.slice x.a x.pn x.pc) := by rw [Lib.cell_of_heap Hy.out]; rfl
            go_upto_region 18 with fail
            clear ff dd cx
            obtain ⟨S1, hV⟩ : ∃ S1, S1 = V9.setCell ⟨ky, 15, none⟩ (.slice b.a b.pn b.pc) := ⟨_, rfl⟩
            rw [← hV]
            replace Hy := Lib.hid (show S1.heap[ky]? = some (.cells (wayV x b.a b.pn b.pc b.xs).cells 27 (0, 0)) from by rw [hV]; exact setCell_heap Hy.out 15 _)
            replace Hb := Lib.hid (show S1.heap[w.heap.size]? = some (.cells _ 27 (0, 0)) from by rw [hV]; exact heap_set_other Hb.out _ _ _ (by omega))
            replace Hx := Lib.hid (show S1.heap[kx]? = some (.cells _ 27 (0, 0)) from by rw [hV]; exact heap_set_other Hx.out _ _ _ (by omega))
            replace HB := Lib.hid (show Below w.heap.size w S1 from by rw [hV]; exact b_set HB.out _ hlw_ky _)
            replace Ob := Lib.hid (show b.Ok S1 from by rw [hV]; exact Ok_set Ob.out NBb.out 15 _)
            replace Ox := Lib.hid (show x.Ok S1 from by rw [hV]; exact Ok_set Ox.out NBx.out 15 _)
            replace HWR := Lib.hid (show RdS S1 wa WL.length WL from by rw [hV]; exact HWR.out.frame (by simp [World.setCell]) fun g o e hx => heap_set_other rfl _ _ _ (fun e2 => NBl.out g o e hx e2.symm))
            clear hV
            have cx : S1.cell? ⟨w.heap.size, 17, none⟩ = some (.string (mkS b.qu)) := by rw [Lib.cell_of_heap Hb.out]; rfl
            have ff := Lib.frozen_of_heap Hy.out 17
            have dd : S1.cell? ⟨ky, 17, none⟩ = some (.string (mkS x.qu)) := by rw [Lib.cell_of_heap Hy.out]; rfl
            go_upto_region 19 with fail
            clear ff dd cx
            obtain ⟨S2, hV⟩ : ∃ S2, S2 = S1.setCell ⟨ky, 17, none⟩ (.string (mkS b.qu)) := ⟨_, rfl⟩
            rw [← hV]
            replace Hy := Lib.hid (show S2.heap[ky]? = some (.cells ({ wayV x b.a b.pn b.pc b.xs with qu := b.qu } : UV).cells 27 (0, 0)) from by rw [hV]; exact setCell_heap Hy.out 17 _)
            replace Hb := Lib.hid (show S2.heap[w.heap.size]? = some (.cells _ 27 (0, 0)) from by rw [hV]; exact heap_set_other Hb.out _ _ _ (by omega))
            replace Hx := Lib.hid (show S2.heap[kx]? = some (.cells _ 27 (0, 0)) from by rw [hV]; exact heap_set_other Hx.out _ _ _ (by omega))
            replace HB := Lib.hid (show Below w.heap.size w S2 from by rw [hV]; exact b_set HB.out _ hlw_ky _)
            replace Ob := Lib.hid (show b.Ok S2 from by rw [hV]; exact Ok_set Ob.out NBb.out 17 _)
            replace Ox := Lib.hid (show x.Ok S2 from by rw [hV]; exact Ok_set Ox.out NBx.out 17 _)
            replace HWR := Lib.hid (show RdS S2 wa WL.length WL from by rw [hV]; exact HWR.out.frame (by simp [World.setCell]) fun g o e hx => heap_set_other rfl _ _ _ (fun e2 => NBl.out g o e hx e2.symm))
            clear hV
            have cx : S2.cell? ⟨w.heap.size, 19, none⟩ = some (.bool b.hq) := by rw [Lib.cell_of_heap Hb.out]; rfl
            have ff := Lib.frozen_of_heap Hy.out 19
            have dd : S2.cell? ⟨ky, 19, none⟩ = some (.bool x.hq) := by rw [Lib.cell_of_heap Hy.out]; rfl
            go_upto_region 20 with fail
            clear ff dd cx
            obtain ⟨S3, hV⟩ : ∃ S3, S3 = S2.setCell ⟨ky, 19, none⟩ (.bool b.hq) := ⟨_, rfl⟩
            rw [← hV]
            replace Hy := Lib.hid (show S3.heap[ky]? = some (.cells ({ wayV x b.a b.pn b.pc b.xs with qu := b.qu, hq := b.hq } : UV).cells 27 (0, 0)) from by rw [hV]; exact setCell_heap Hy.out 19 _)
            replace Hb := Lib.hid (show S3.heap[w.heap.size]? = some (.cells _ 27 (0, 0)) from by rw [hV]; exact heap_set_other Hb.out _ _ _ (by omega))
            replace Hx := Lib.hid (show S3.heap[kx]? = some (.cells _ 27 (0, 0)) from by rw [hV]; exact heap_set_other Hx.out _ _ _ (by omega))
            replace HB := Lib.hid (show Below w.heap.size w S3 from by rw [hV]; exact b_set HB.out _ hlw_ky _)
            replace Ob := Lib.hid (show b.Ok S3 from by rw [hV]; exact Ok_set Ob.out NBb.out 19 _)
            replace Ox := Lib.hid (show x.Ok S3 from by rw [hV]; exact Ok_set Ox.out NBx.out 19 _)
            replace HWR := Lib.hid (show RdS S3 wa WL.length WL from by rw [hV]; exact HWR.out.frame (by simp [World.setCell]) fun g o e hx => heap_set_other rfl _ _ _ (fun e2 => NBl.out g o e hx e2.symm))
            clear hV
            obtain ⟨y, hpy, oy, hy⟩ : ∃ y : UV, y.pm = PM.bare b.pm ∧ y.Ok S3 ∧ S3.heap[ky]? = some (.cells y.cells 27 (0, 0)) := ⟨{ wayV x b.a b.pn b.pc b.xs with qu := b.qu, hq := b.hq }, by
                have h := Px.out
                show ({ x.pm with path := b.xs, query := b.qu, hasQuery := b.hq } : PM.Url) = _
                rw [h]
                rfl, ⟨Ox.out.sc, Ox.out.us, Ox.out.pa, Ox.out.n, Ox.out.op, Ob.out.qu, Ox.out.fr, Ob.out.xn, Ob.out.xl, Ob.out.rd⟩, Hy.out⟩
            have HPY := Lib.hid hpy
            have OY := Lib.hid oy
            clear Hy
            have Hy := Lib.hid hy
            clear hpy oy hy
            have HXS : Hid (x.xs = WL) := Lib.hid (congrArg PM.Url.path Px.out)
            have HXQ : Hid (x.hq = false) := Lib.hid (congrArg PM.Url.hasQuery Px.out)
            have HXF : Hid (x.hf = false) := Lib.hid (congrArg PM.Url.hasFrag Px.out)
            have HD : Hid (PM.door x.pm = PM.door b.pm) := Lib.hid (by rw [Px.out]; exact PM.door_way HMb.out (PM.resolve_may HRP.out rfl).1 rfl rfl rfl)
            go_wp2_with fail
            refine wp_region_noPanic ?_
            refine wp_region_held_drew (S := fun W' => QAt w.heap.size kx ky b x y wa WL w W') (by kernel_rfl) (QAt.below ⟨Hb.out, Hx.out, Hy.out, HB.out, Ob.out, Ox.out, OY.out, HWR.out⟩ (b_drew (Below.refl _ _))) (fun hS0 => ?_)
            refine wpAnyH_take (i := 0) (v := ?_) rfl (by kernel_rfl) (by kernel_rfl) (by kernel_rfl) (fun _ _ _ h => h) (Or.inl ⟨by kernel_rfl, fun W hW => ?_⟩) (by assumption) ?_
            rotate_left
            · go_simp
              try with_reducible rfl
            (try simp only [List.getElem_toArray, List.getElem_cons_zero, List.getElem_cons_succ, Act.put, List.setIfInBounds_toArray, List.set_cons_zero, List.set_cons_succ])
            refine wpAnyH_take (i := 1) (v := ?_) rfl (by kernel_rfl) (by kernel_rfl) (by kernel_rfl) (fun _ _ _ h => h) (Or.inl ⟨by kernel_rfl, fun W hW => ?_⟩) (by assumption) ?_
            rotate_left
            · go_simp
              try with_reducible rfl
            (try simp only [List.getElem_toArray, List.getElem_cons_zero, List.getElem_cons_succ, Act.put, List.setIfInBounds_toArray, List.set_cons_zero, List.set_cons_succ])
            refine wpAnyH_take (i := 2) (v := ?_) rfl (by kernel_rfl) (by kernel_rfl) (by kernel_rfl) (fun _ _ _ h => h) (Or.inl ⟨by kernel_rfl, fun W hW => ?_⟩) (by assumption) ?_
            rotate_left
            · go_simp
              try with_reducible rfl
            (try simp only [List.getElem_toArray, List.getElem_cons_zero, List.getElem_cons_succ, Act.put, List.setIfInBounds_toArray, List.set_cons_zero, List.set_cons_succ])
            refine wpAnyH_take (i := 3) (v := ?_) rfl (by kernel_rfl) (by kernel_rfl) (by kernel_rfl) (fun _ _ _ h => h) (Or.inl ⟨by kernel_rfl, fun W hW => ?_⟩) (by assumption) ?_
            rotate_left
            · have c15 : W.cell? ⟨kx, 15, none⟩ = some (.slice x.a x.pn x.pc) := by rw [Lib.cell_of_heap hW.hx]; rfl
              go_simp
              try with_reducible rfl
            (try simp only [List.getElem_toArray, List.getElem_cons_zero, List.getElem_cons_succ, Act.put, List.setIfInBounds_toArray, List.set_cons_zero, List.set_cons_succ])
            refine wpAnyH_take (i := 5) (v := ?_) rfl (by kernel_rfl) (by kernel_rfl) (by kernel_rfl) (fun _ _ _ h => h) (Or.inl ⟨by kernel_rfl, fun W hW => ?_⟩) (by assumption) ?_
            rotate_left
            · go_simp
              try with_reducible rfl
            (try simp only [List.getElem_toArray, List.getElem_cons_zero, List.getElem_cons_succ, Act.put, List.setIfInBounds_toArray, List.set_cons_zero, List.set_cons_succ])
            refine wpAnyH_ready (rs := [4]) (by kernel_rfl) (by simp) ?_
            refine AllReadyH.cons rfl (fun K hK => ?_) AllReadyH.nil
            go_simp
            refine (pathShow_c x.xs (fun s hs => Nat.le_trans (hS0.xo.xl s hs) (by decide)) hS0.xo.xn x.a x.pn x.pc _ hS0.xo.rd).mono ?_
            rw [HXS.out]
            rintro e U41 ⟨rfl, hb⟩
            have hSn := hS0.below hb
            clear hb hS0
            refine hK.out _ _ hSn (fun _ => ?_)
            clear hK K
            (try simp only [List.getElem_toArray, List.getElem_cons_zero, List.getElem_cons_succ, Act.put, List.setIfInBounds_toArray, List.set_cons_zero, List.set_cons_succ])
            refine wpAnyH_ready (rs := [6]) (by kernel_rfl) (by simp) ?_
            refine AllReadyH.cons rfl (fun K hK => ?_) AllReadyH.nil
            go_simp
            refine (pathShow_c WL (fun s hs => Nat.le_trans (HSZ.out.2 s hs) (by decide)) HSZ.out.1 wa WL.length wc _ hSn.rd).mono ?_
            rintro e U42 ⟨rfl, hb⟩
            replace hSn := hSn.below hb
            clear hb
            refine hK.out _ _ hSn (fun _ => ?_)
            clear hK K
            (try simp only [List.getElem_toArray, List.getElem_cons_zero, List.getElem_cons_succ, Act.put, List.setIfInBounds_toArray, List.set_cons_zero, List.set_cons_succ])
            refine wpAnyH_take (i := 7) (v := ?_) rfl (by kernel_rfl) (by kernel_rfl) (by kernel_rfl) (fun _ _ _ h => h) (Or.inl ⟨by kernel_rfl, fun W hW => ?_⟩) (by assumption) ?_
            rotate_left
            · go_simp
              try with_reducible rfl
            (try simp only [List.getElem_toArray, List.getElem_cons_zero, List.getElem_cons_succ, Act.put, List.setIfInBounds_toArray, List.set_cons_zero, List.set_cons_succ])
            refine wpAnyH_take (i := 8) (v := ?_) rfl (by kernel_rfl) (by kernel_rfl) (by kernel_rfl) (fun _ _ _ h => h) (Or.inl ⟨by kernel_rfl, fun W hW => ?_⟩) (by assumption) ?_
            rotate_left
            · go_simp
              try with_reducible rfl
            (try simp only [List.getElem_toArray, List.getElem_cons_zero, List.getElem_cons_succ, Act.put, List.setIfInBounds_toArray, List.set_cons_zero, List.set_cons_succ])
            refine wpAnyH_take (i := 9) (v := ?_) rfl (by kernel_rfl) (by kernel_rfl) (by kernel_rfl) (fun _ _ _ h => h) (Or.inl ⟨by kernel_rfl, fun W hW => ?_⟩) (by assumption) ?_
            rotate_left
            · go_simp
              try with_reducible rfl
            (try simp only [List.getElem_toArray, List.getElem_cons_zero, List.getElem_cons_succ, Act.put, List.setIfInBounds_toArray, List.set_cons_zero, List.set_cons_succ])
            refine wpAnyH_take (i := 10) (v := ?_) rfl (by kernel_rfl) (by kernel_rfl) (by kernel_rfl) (fun _ _ _ h => h) (Or.inl ⟨by kernel_rfl, fun W hW => ?_⟩) (by assumption) ?_
            rotate_left
            · go_simp
              try with_reducible rfl
            (try simp only [List.getElem_toArray, List.getElem_cons_zero, List.getElem_cons_succ, Act.put, List.setIfInBounds_toArray, List.set_cons_zero, List.set_cons_succ])
            refine wpAnyH_take (i := 11) (v := ?_) rfl (by kernel_rfl) (by kernel_rfl) (by kernel_rfl) (fun _ _ _ h => h) (Or.inl ⟨by kernel_rfl, fun W hW => ?_⟩) (by assumption) ?_
            rotate_left
            · have c19 : W.cell? ⟨kx, 19, none⟩ = some (.bool false) := by rw [Lib.cell_of_heap hW.hx, show UV.cells x = UV.cells { x with hq := false } from by rw [← HXQ.out]]; rfl
              go_simp
              try with_reducible rfl
            (try simp only [List.getElem_toArray, List.getElem_cons_zero, List.getElem_cons_succ, Act.put, List.setIfInBounds_toArray, List.set_cons_zero, List.set_cons_succ])
            refine wpAnyH_take (i := 12) (v := ?_) rfl (by kernel_rfl) (by kernel_rfl) (by kernel_rfl) (fun _ _ _ h => h) (Or.inl ⟨by kernel_rfl, fun W hW => ?_⟩) (by assumption) ?_
            rotate_left
            · go_simp
              try with_reducible rfl
            (try simp only [List.getElem_toArray, List.getElem_cons_zero, List.getElem_cons_succ, Act.put, List.setIfInBounds_toArray, List.set_cons_zero, List.set_cons_succ])
            refine wpAnyH_take (i := 13) (v := ?_) rfl (by kernel_rfl) (by kernel_rfl) (by kernel_rfl) (fun _ _ _ h => h) (Or.inl ⟨by kernel_rfl, fun W hW => ?_⟩) (by assumption) ?_
            rotate_left
            · go_simp
              try with_reducible rfl
            (try simp only [List.getElem_toArray, List.getElem_cons_zero, List.getElem_cons_succ, Act.put, List.setIfInBounds_toArray, List.set_cons_zero, List.set_cons_succ])
            refine wpAnyH_take (i := 14) (v := ?_) rfl (by kernel_rfl) (by kernel_rfl) (by kernel_rfl) (fun _ _ _ h => h) (Or.inl ⟨by kernel_rfl, fun W hW => ?_⟩) (by assumption) ?_
            rotate_left
            · go_simp
              try with_reducible rfl
            (try simp only [List.getElem_toArray, List.getElem_cons_zero, List.getElem_cons_succ, Act.put, List.setIfInBounds_toArray, List.set_cons_zero, List.set_cons_succ])
            refine wpAnyH_take (i := 15) (v := ?_) rfl (by kernel_rfl) (by kernel_rfl) (by kernel_rfl) (fun _ _ _ h => h) (Or.inl ⟨by kernel_rfl, fun W hW => ?_⟩) (by assumption) ?_
            rotate_left
            · go_simp
              try with_reducible rfl
            (try simp only [List.getElem_toArray, List.getElem_cons_zero, List.getElem_cons_succ, Act.put, List.setIfInBounds_toArray, List.set_cons_zero, List.set_cons_succ])
            refine wpAnyH_take (i := 16) (v := ?_) rfl (by kernel_rfl) (by kernel_rfl) (by kernel_rfl) (fun _ _ _ h => h) (Or.inl ⟨by kernel_rfl, fun W hW => ?_⟩) (by assumption) ?_
            rotate_left
            · have c20 : W.cell? ⟨kx, 20, none⟩ = some (.bool false) := by rw [Lib.cell_of_heap hW.hx, show UV.cells x = UV.cells { x with hf := false } from by rw [← HXF.out]]; rfl
              go_simp
              try with_reducible rfl
            (try simp only [List.getElem_toArray, List.getElem_cons_zero, List.getElem_cons_succ, Act.put, List.setIfInBounds_toArray, List.set_cons_zero, List.set_cons_succ])
            refine wpAnyH_take (i := 17) (v := ?_) rfl (by kernel_rfl) (by kernel_rfl) (by kernel_rfl) (fun _ _ _ h => h) (Or.inl ⟨by kernel_rfl, fun W hW => ?_⟩) (by assumption) ?_
            rotate_left
            · go_simp
              try with_reducible rfl
            (try simp only [List.getElem_toArray, List.getElem_cons_zero, List.getElem_cons_succ, Act.put, List.setIfInBounds_toArray, List.set_cons_zero, List.set_cons_succ])
            refine wpAnyH_take (i := 18) (v := ?_) rfl (by kernel_rfl) (by kernel_rfl) (by kernel_rfl) (fun _ _ _ h => h) (Or.inl ⟨by kernel_rfl, fun W hW => ?_⟩) (by assumption) ?_
            rotate_left
            · go_simp
              try with_reducible rfl
            (try simp only [List.getElem_toArray, List.getElem_cons_zero, List.getElem_cons_succ, Act.put, List.setIfInBounds_toArray, List.set_cons_zero, List.set_cons_succ])
            refine wpAnyH_take (i := 19) (v := ?_) rfl (by kernel_rfl) (by kernel_rfl) (by kernel_rfl) (fun _ _ _ h => h) (Or.inl ⟨by kernel_rfl, fun W hW => ?_⟩) (by assumption) ?_
            rotate_left
            · go_simp
              try with_reducible rfl
            (try simp only [List.getElem_toArray, List.getElem_cons_zero, List.getElem_cons_succ, Act.put, List.setIfInBounds_toArray, List.set_cons_zero, List.set_cons_succ])
            refine wpAnyH_take (i := 20) (v := ?_) rfl (by kernel_rfl) (by kernel_rfl) (by kernel_rfl) (fun _ _ _ h => h) (Or.inl ⟨by kernel_rfl, fun W hW => ?_⟩) (by assumption) ?_
            rotate_left
            · refine yield_row 27 (.tmp 11) ?_ ky ?_ hW.hy Tryz.underlying27 rfl (by kernel_rfl)
              · rfl
              · rfl
            (try simp only [List.getElem_toArray, List.getElem_cons_zero, List.getElem_cons_succ, Act.put, List.setIfInBounds_toArray, List.set_cons_zero, List.set_cons_succ])
            refine wpAnyH_take (i := 21) (v := ?_) rfl (by kernel_rfl) (by kernel_rfl) (by kernel_rfl) (fun _ _ _ h => h) (Or.inl ⟨by kernel_rfl, fun W hW => ?_⟩) (by assumption) ?_
            rotate_left
            · refine yield_row 27 (.tmp 2) ?_ w.heap.size ?_ hW.hb Tryz.underlying27 rfl (by kernel_rfl)
              · rfl
              · rfl
            (try simp only [List.getElem_toArray, List.getElem_cons_zero, List.getElem_cons_succ, Act.put, List.setIfInBounds_toArray, List.set_cons_zero, List.set_cons_succ])
            refine wpAnyH_ready (rs := [22]) (by kernel_rfl) (by simp) ?_
            refine AllReadyH.cons rfl (fun K hK => ?_) AllReadyH.nil
            go_simp
            refine (Bare_c b _ hSn.bo).mono ?_
            rintro e U43 ⟨b1, rfl, p1, o1, -, hb⟩
            replace hSn := hSn.below hb
            clear hb
            have PB1 := Lib.hid p1
            clear p1
            have OB1 := Lib.hid o1
            clear o1
            refine hK.out _ _ hSn (fun _ => ?_)
            clear hK K
            (try simp only [List.getElem_toArray, List.getElem_cons_zero, List.getElem_cons_succ, Act.put, List.setIfInBounds_toArray, List.set_cons_zero, List.set_cons_succ])
            refine wpAnyH_ready (rs := [23]) (by kernel_rfl) (by simp) ?_
            refine AllReadyH.cons rfl (fun K hK => ?_) AllReadyH.nil
            go_simp
            refine (UrlSame_c y b1 _ hSn.yo OB1.out).mono ?_
            rw [HPY.out, PB1.out, same_self]
            rintro e U44 ⟨rfl, hb⟩
            replace hSn := hSn.below hb
            replace OB1 := Lib.hid (OB1.out.below hb)
            clear hb
            refine hK.out _ _ hSn (fun _ => ?_)
            clear hK K
            (try simp only [List.getElem_toArray, List.getElem_cons_zero, List.getElem_cons_succ, Act.put, List.setIfInBounds_toArray, List.set_cons_zero, List.set_cons_succ])
            refine wpAnyH_take (i := 24) (v := ?_) rfl (by kernel_rfl) (by kernel_rfl) (by kernel_rfl) (fun _ _ _ h => h) (Or.inl ⟨by kernel_rfl, fun W hW => ?_⟩) (by assumption) ?_
            rotate_left
            · go_simp
              try with_reducible rfl
            (try simp only [List.getElem_toArray, List.getElem_cons_zero, List.getElem_cons_succ, Act.put, List.setIfInBounds_toArray, List.set_cons_zero, List.set_cons_succ])
            refine wpAnyH_take (i := 25) (v := ?_) rfl (by kernel_rfl) (by kernel_rfl) (by kernel_rfl) (fun _ _ _ h => h) (Or.inl ⟨by kernel_rfl, fun W hW => ?_⟩) (by assumption) ?_
            rotate_left
            · go_simp
              try with_reducible rfl
            (try simp only [List.getElem_toArray, List.getElem_cons_zero, List.getElem_cons_succ, Act.put, List.setIfInBounds_toArray, List.set_cons_zero, List.set_cons_succ])
            refine wpAnyH_take (i := 26) (v := ?_) rfl (by kernel_rfl) (by kernel_rfl) (by kernel_rfl) (fun _ _ _ h => h) (Or.inl ⟨by kernel_rfl, fun W hW => ?_⟩) (by assumption) ?_
            rotate_left
            · refine yield_row 27 (.tmp 8) ?_ kx ?_ hW.hx Tryz.underlying27 rfl (by kernel_rfl)
              · rfl
              · rfl
            (try simp only [List.getElem_toArray, List.getElem_cons_zero, List.getElem_cons_succ, Act.put, List.setIfInBounds_toArray, List.set_cons_zero, List.set_cons_succ])
            refine wpAnyH_take (i := 28) (v := ?_) rfl (by kernel_rfl) (by kernel_rfl) (by kernel_rfl) (fun _ _ _ h => h) (Or.inl ⟨by kernel_rfl, fun W hW => ?_⟩) (by assumption) ?_
            rotate_left
            · refine yield_row 27 (.tmp 2) ?_ w.heap.size ?_ hW.hb Tryz.underlying27 rfl (by kernel_rfl)
              · rfl
              · rfl
            (try simp only [List.getElem_toArray, List.getElem_cons_zero, List.getElem_cons_succ, Act.put, List.setIfInBounds_toArray, List.set_cons_zero, List.set_cons_succ])
            refine wpAnyH_ready (rs := [27]) (by kernel_rfl) (by simp) ?_
            refine AllReadyH.cons rfl (fun K hK => ?_) AllReadyH.nil
            go_simp
            refine (Door_c x _ hSn.xo (HG.out.below hSn.be)).mono ?_
            rw [HD.out]
            rintro e U45 ⟨rfl, hb⟩
            replace hSn := hSn.below hb
            replace OB1 := Lib.hid (OB1.out.below hb)
            clear hb
            refine hK.out _ _ hSn (fun _ => ?_)
            clear hK K
            (try simp only [List.getElem_toArray, List.getElem_cons_zero, List.getElem_cons_succ, Act.put, List.setIfInBounds_toArray, List.set_cons_zero, List.set_cons_succ])
            refine wpAnyH_ready (rs := [29]) (by kernel_rfl) (by simp) ?_
            refine AllReadyH.cons rfl (fun K hK => ?_) AllReadyH.nil
            go_simp
            refine (Door_c b _ hSn.bo (HG.out.below hSn.be)).mono ?_
            rintro e U46 ⟨rfl, hb⟩
            replace hSn := hSn.below hb
            replace OB1 := Lib.hid (OB1.out.below hb)
            clear hb
            refine hK.out _ _ hSn (fun _ => ?_)
            clear hK K
            (try simp only [List.getElem_toArray, List.getElem_cons_zero, List.getElem_cons_succ, Act.put, List.setIfInBounds_toArray, List.set_cons_zero, List.set_cons_succ])
            refine wpAnyH_take (i := 30) (v := ?_) rfl (by kernel_rfl) (by kernel_rfl) (by kernel_rfl) (fun _ _ _ h => h) (Or.inl ⟨by kernel_rfl, fun W hW => ?_⟩) (by assumption) ?_
            rotate_left
            · go_simp
              try with_reducible rfl
            (try simp only [List.getElem_toArray, List.getElem_cons_zero, List.getElem_cons_succ, Act.put, List.setIfInBounds_toArray, List.set_cons_zero, List.set_cons_succ])
            refine wpAnyH_take (i := 31) (v := ?_) rfl (by kernel_rfl) (by kernel_rfl) (by kernel_rfl) (fun _ _ _ h => h) (Or.inl ⟨by kernel_rfl, fun W hW => ?_⟩) (by assumption) ?_
            rotate_left
            · go_simp
              try with_reducible rfl
            (try simp only [List.getElem_toArray, List.getElem_cons_zero, List.getElem_cons_succ, Act.put, List.setIfInBounds_toArray, List.set_cons_zero, List.set_cons_succ])
            refine wpAnyH_take (i := 32) (v := ?_) rfl (by kernel_rfl) (by kernel_rfl) (by kernel_rfl) (fun _ _ _ h => h) (Or.inl ⟨by kernel_rfl, fun W hW => ?_⟩) (by assumption) ?_
            rotate_left
            · go_simp
              try with_reducible rfl
            (try simp only [List.getElem_toArray, List.getElem_cons_zero, List.getElem_cons_succ, Act.put, List.setIfInBounds_toArray, List.set_cons_zero, List.set_cons_succ])
            refine wpAnyH_done (by kernel_rfl) ?_ _
            refine NoPanic.normal ?_
            go_wp2
            go_ret
            exact ⟨rfl, hSn.be⟩
        · cases r with
          | nil =>
            have H2 : Hid (PM.two47 [c] = false) := Lib.hid (by rw [h2s.out]; rfl)
            have hrp := PM.resolve_path HMb.out HW.out HWH.out HQS.out (by simp) H2.out
            rw [HP47.out] at hrp
            obtain ⟨WL, hWL⟩ : ∃ WL, PM.pathParse [c] = WL := ⟨_, rfl⟩
            have hsz : WL.length ≤ 10000 ∧ ∀ x ∈ WL, x.length ≤ 1000000 := by
              rw [← hWL]
              exact ⟨Nat.le_trans (parse_sizes [c] (Nat.le_trans HLs.out (by decide))).1 (by decide), (parse_sizes [c] (Nat.le_trans HLs.out (by decide))).2⟩
            have hrp2 : PM.resolve b.pm [c] = some { PM.bare b.pm with path := WL, query := [], hasQuery := false } := by rw [← hWL]; exact hrp
            have HRP := Lib.hid hrp2
            have HWL := Lib.hid hWL
            have HSZ := Lib.hid hsz
            clear hrp hrp2 hWL hsz
            go_wp2_with (first | go_skip | (refine wpList_load_g 27 _ rfl (by kernel_rfl) w.heap.size rfl Hb.out Tryz.underlying27 rfl (by kernel_rfl) ?_))
            refine (Resolve_c b [c] _ (Nat.le_trans HLs.out (by decide)) Ob.out (Nat.le_trans (PM.few_all Fb.out).1 (by decide)) (HG.out.below HB.out) (tabs_below HTB.out HB.out)).mono ?_
            rintro e V6 ⟨hp, hb⟩
            obtain ⟨x, rfl, hxp, hxo⟩ := parse_ok hp HRP.out HSZ.out.1
            have Px := Lib.hid hxp
            have Ox := Lib.hid hxo
            clear hp hxp hxo
            replace HB := Lib.hid (b_then HB.out hb)
            replace Hb := Lib.hid (obj_b hb Hb.out)
            replace Ob := Lib.hid (Ob.out.below hb)
            clear hb
            have HN := Lib.hid (Go.heap_alloc_new V6 (.cells zurl 27))
            unfold zurl at HN 
            go_upto_region 13 with (first | (refine wpList_store_row rfl 27 _ _ rfl V6.heap.size x.cells rfl rfl 27 _ HN.out (by kernel_rfl) rfl (agg_one x) ?_))
            obtain ⟨V7, hV⟩ : ∃ V7, V7 = (V6.alloc (.cells #[.string ⟨#[]⟩, .string ⟨#[]⟩, .string ⟨#[]⟩, .int .i64 0, .string ⟨#[]⟩, .int .i64 0, .int .i64 0, .int .i64 0, .int .i64 0, .int .i64 0, .int .i64 0, .int .i64 0, .int .i64 0, .int .i64 0, .int .i64 0, .slice none 0 0, .string ⟨#[]⟩, .string ⟨#[]⟩, .string ⟨#[]⟩, .bool false, .bool false] 27)).setRow V6.heap.size x.cells := ⟨_, rfl⟩
            have hN : V7.heap[V6.heap.size]? = some (.cells x.cells 27 (0, 0)) := by rw [hV]; exact heap_setRow HN.out _
            have hb : Below V6.heap.size V6 V7 := by rw [hV]; exact below_setRow (b_alloc (Below.refl _ _) _) (Nat.le_refl _) _
            rw [← hV]
            clear hV HN 
            have Hx := Lib.hid hN
            clear hN
            have hlt_kx_Hb : w.heap.size < V6.heap.size := h_lt Hb.out
            have hlw_kx : w.heap.size ≤ V6.heap.size := HB.out.size
            replace HB := Lib.hid (b_then HB.out hb)
            replace Hb := Lib.hid (obj_b hb Hb.out)
            replace Ob := Lib.hid (Ob.out.below hb)
            replace Ox := Lib.hid (Ox.out.below hb)
            clear hb
            generalize V6.heap.size = kx at Hx hlt_kx_Hb hlw_kx ⊢
            (try simp only [Act.put])
            have c15 : V7.cell? ⟨w.heap.size, 15, none⟩ = some (.slice b.a b.pn b.pc) := by rw [Lib.cell_of_heap Hb.out]; rfl
            go_wp2_with fail
            refine (Merge_c b.xs [c] b.a b.pn b.pc (PM.pathMay_segs (PM.may_web HMb.out HW.out).2.2.2.1).1 Ob.out.xl Ob.out.xn (Nat.le_trans HLs.out (by decide)) HCAP.out _ Ob.out.rd (HG.out.below HB.out)).mono ?_
            rintro e V8 ⟨v1, rfl, hown, hb⟩
            have HOWN := Lib.hid hown
            clear hown c15
            replace HB := Lib.hid (b_then HB.out hb)
            replace Hb := Lib.hid (obj_b hb Hb.out)
            replace Hx := Lib.hid (obj_b hb Hx.out)
            replace Ob := Lib.hid (Ob.out.below hb)
            replace Ox := Lib.hid (Ox.out.below hb)
            clear hb
            have hx47 := hp47
            go_wp2_with fail
            refine (PathParse_c [c] (Nat.le_trans HLs.out (by decide)) _ (HG.out.below HB.out)).mono ?_
            rintro e V9 ⟨v2, rfl, hown, hb⟩
            clear HOWN
            have HOWN := Lib.hid hown
            clear hown hx47
            replace HB := Lib.hid (b_then HB.out hb)
            replace Hb := Lib.hid (obj_b hb Hb.out)
            replace Hx := Lib.hid (obj_b hb Hx.out)
            replace Ob := Lib.hid (Ob.out.below hb)
            replace Ox := Lib.hid (Ox.out.below hb)
            clear hb
            rw [HWL.out] at HOWN
            obtain ⟨wa, wc, hwv, hwr, -⟩ := own_rdS HOWN.out rfl (by have := HSZ.out.1; omega)
            subst hwv
            have HWR := Lib.hid hwr
            clear hwr HOWN
            have NBb : Hid (Nb V9.heap.size b) := Lib.hid (Ok_nb Ob.out (Nat.le_refl _))
            have NBx : Hid (Nb V9.heap.size x) := Lib.hid (Ok_nb Ox.out (Nat.le_refl _))
            have NBl : Hid (∀ g o, wa = some ⟨g, o, none⟩ → WL ≠ [] → g ≠ V9.heap.size) := Lib.hid (rd_nb HWR.out (Nat.le_refl _))
            have HN := Lib.hid (Go.heap_alloc_new V9 (.cells zurl 27))
            have Hx2 := Lib.hid (obj_b (b_alloc (Below.refl _ _) (.cells zurl 27)) Hx.out)
            unfold zurl at HN Hx2
            go_upto_region 17 with (first | (refine wpList_load_g 27 _ rfl (by kernel_rfl) kx rfl Hx2.out Tryz.underlying27 rfl (by kernel_rfl) ?_) | (refine wpList_load_g 27 _ rfl (by kernel_rfl) kx rfl Hx.out Tryz.underlying27 rfl (by kernel_rfl) ?_) | (refine wpList_store_row rfl 27 _ _ rfl V9.heap.size x.cells rfl rfl 27 _ HN.out (by kernel_rfl) rfl (agg_one x) ?_))
            obtain ⟨V10, hV⟩ : ∃ V10, V10 = (V9.alloc (.cells #[.string ⟨#[]⟩, .string ⟨#[]⟩, .string ⟨#[]⟩, .int .i64 0, .string ⟨#[]⟩, .int .i64 0, .int .i64 0, .int .i64 0, .int .i64 0, .int .i64 0, .int .i64 0, .int .i64 0, .int .i64 0, .int .i64 0, .int .i64 0, .slice none 0 0, .string ⟨#[]⟩, .string ⟨#[]⟩, .string ⟨#[]⟩, .bool false, .bool false] 27)).setRow V9.heap.size x.cells := ⟨_, rfl⟩
            have hN : V10.heap[V9.heap.size]? = some (.cells x.cells 27 (0, 0)) := by rw [hV]; exact heap_setRow HN.out _
            have hb : Below V9.heap.size V9 V10 := by rw [hV]; exact below_setRow (b_alloc (Below.refl _ _) _) (Nat.le_refl _) _
            rw [← hV]
            clear hV HN Hx2
            have Hy := Lib.hid hN
            clear hN
            have hlt_ky_Hb : w.heap.size < V9.heap.size := h_lt Hb.out
            have hlt_ky_Hx : kx < V9.heap.size := h_lt Hx.out
            have hlw_ky : w.heap.size ≤ V9.heap.size := HB.out.size
            replace HB := Lib.hid (b_then HB.out hb)
            replace Hb := Lib.hid (obj_b hb Hb.out)
            replace Hx := Lib.hid (obj_b hb Hx.out)
            replace Ob := Lib.hid (Ob.out.below hb)
            replace Ox := Lib.hid (Ox.out.below hb)
            replace HWR := Lib.hid (HWR.out.below hb)
            clear hb
            generalize V9.heap.size = ky at NBb NBx NBl Hy hlt_ky_Hb hlt_ky_Hx hlw_ky ⊢
            (try simp only [Act.put])
            have cx : V10.cell? ⟨w.heap.size, 15, none⟩ = some (.slice b.a b.pn b.pc) := by rw [Lib.cell_of_heap Hb.out]; rfl
            have ff := Lib.frozen_of_heap Hy.out 15
            have dd : V10.cell? ⟨ky, 15, none⟩ = some (.slice x.a x.pn x.pc) := by rw [Lib.cell_of_heap Hy.out]; rfl
            go_upto_region 18 with fail
            clear ff dd cx
            obtain ⟨S1, hV⟩ : ∃ S1, S1 = V10.setCell ⟨ky, 15, none⟩ (.slice b.a b.pn b.pc) := ⟨_, rfl⟩
            rw [← hV]
            replace Hy := Lib.hid (show S1.heap[ky]? = some (.cells (wayV x b.a b.pn b.pc b.xs).cells 27 (0, 0)) from by rw [hV]; exact setCell_heap Hy.out 15 _)
            replace Hb := Lib.hid (show S1.heap[w.heap.size]? = some (.cells _ 27 (0, 0)) from by rw [hV]; exact heap_set_other Hb.out _ _ _ (by omega))
            replace Hx := Lib.hid (show S1.heap[kx]? = some (.cells _ 27 (0, 0)) from by rw [hV]; exact heap_set_other Hx.out _ _ _ (by omega))
            replace HB := Lib.hid (show Below w.heap.size w S1 from by rw [hV]; exact b_set HB.out _ hlw_ky _)
            replace Ob := Lib.hid (show b.Ok S1 from by rw [hV]; exact Ok_set Ob.out NBb.out 15 _)
            replace Ox := Lib.hid (show x.Ok S1 from by rw [hV]; exact Ok_set Ox.out NBx.out 15 _)
            replace HWR := Lib.hid (show RdS S1 wa WL.length WL from by rw [hV]; exact HWR.out.frame (by simp [World.setCell]) fun g o e hx => heap_set_other rfl _ _ _ (fun e2 => NBl.out g o e hx e2.symm))
            clear hV
            have cx : S1.cell? ⟨w.heap.size, 17, none⟩ = some (.string (mkS b.qu)) := by rw [Lib.cell_of_heap Hb.out]; rfl
            have ff := Lib.frozen_of_heap Hy.out 17
            have dd : S1.cell? ⟨ky, 17, none⟩ = some (.string (mkS x.qu)) := by rw [Lib.cell_of_heap Hy.out]; rfl
            go_upto_region 19 with fail
            clear ff dd cx
            obtain ⟨S2, hV⟩ : ∃ S2, S2 = S1.setCell ⟨ky, 17, none⟩ (.string (mkS b.qu)) := ⟨_, rfl⟩
            rw [← hV]
            replace Hy := Lib.hid (show S2.heap[ky]? = some (.cells ({ wayV x b.a b.pn b.pc b.xs with qu := b.qu } : UV).cells 27 (0, 0)) from by rw [hV]; exact setCell_heap Hy.out 17 _)
            replace Hb := Lib.hid (show S2.heap[w.heap.size]? = some (.cells _ 27 (0, 0)) from by rw [hV]; exact heap_set_other Hb.out _ _ _ (by omega))
            replace Hx := Lib.hid (show S2.heap[kx]? = some (.cells _ 27 (0, 0)) from by rw [hV]; exact heap_set_other Hx.out _ _ _ (by omega))
            replace HB := Lib.hid (show Below w.heap.size w S2 from by rw [hV]; exact b_set HB.out _ hlw_ky _)
            replace Ob := Lib.hid (show b.Ok S2 from by rw [hV]; exact Ok_set Ob.out NBb.out 17 _)
            replace Ox := Lib.hid (show x.Ok S2 from by rw [hV]; exact Ok_set Ox.out NBx.out 17 _)
            replace HWR := Lib.hid (show RdS S2 wa WL.length WL from by rw [hV]; exact HWR.out.frame (by simp [World.setCell]) fun g o e hx => heap_set_other rfl _ _ _ (fun e2 => NBl.out g o e hx e2.symm))
            clear hV
            have cx : S2.cell? ⟨w.heap.size, 19, none⟩ = some (.bool b.hq) := by rw [Lib.cell_of_heap Hb.out]; rfl
            have ff := Lib.frozen_of_heap Hy.out 19
            have dd : S2.cell? ⟨ky, 19, none⟩ = some (.bool x.hq) := by rw [Lib.cell_of_heap Hy.out]; rfl
            go_upto_region 20 with fail
            clear ff dd cx
            obtain ⟨S3, hV⟩ : ∃ S3, S3 = S2.setCell ⟨ky, 19, none⟩ (.bool b.hq) := ⟨_, rfl⟩
            rw [← hV]
            replace Hy := Lib.hid (show S3.heap[ky]? = some (.cells ({ wayV x b.a b.pn b.pc b.xs with qu := b.qu, hq := b.hq } : UV).cells 27 (0, 0)) from by rw [hV]; exact setCell_heap Hy.out 19 _)
            replace Hb := Lib.hid (show S3.heap[w.heap.size]? = some (.cells _ 27 (0, 0)) from by rw [hV]; exact heap_set_other Hb.out _ _ _ (by omega))
            replace Hx := Lib.hid (show S3.heap[kx]? = some (.cells _ 27 (0, 0)) from by rw [hV]; exact heap_set_other Hx.out _ _ _ (by omega))
            replace HB := Lib.hid (show Below w.heap.size w S3 from by rw [hV]; exact b_set HB.out _ hlw_ky _)
            replace Ob := Lib.hid (show b.Ok S3 from by rw [hV]; exact Ok_set Ob.out NBb.out 19 _)
            replace Ox := Lib.hid (show x.Ok S3 from by rw [hV]; exact Ok_set Ox.out NBx.out 19 _)
            replace HWR := Lib.hid (show RdS S3 wa WL.length WL from by rw [hV]; exact HWR.out.frame (by simp [World.setCell]) fun g o e hx => heap_set_other rfl _ _ _ (fun e2 => NBl.out g o e hx e2.symm))
            clear hV
            obtain ⟨y, hpy, oy, hy⟩ : ∃ y : UV, y.pm = PM.bare b.pm ∧ y.Ok S3 ∧ S3.heap[ky]? = some (.cells y.cells 27 (0, 0)) := ⟨{ wayV x b.a b.pn b.pc b.xs with qu := b.qu, hq := b.hq }, by
                have h := Px.out
                show ({ x.pm with path := b.xs, query := b.qu, hasQuery := b.hq } : PM.Url) = _
                rw [h]
                rfl, ⟨Ox.out.sc, Ox.out.us, Ox.out.pa, Ox.out.n, Ox.out.op, Ob.out.qu, Ox.out.fr, Ob.out.xn, Ob.out.xl, Ob.out.rd⟩, Hy.out⟩
            have HPY := Lib.hid hpy
            have OY := Lib.hid oy
            clear Hy
            have Hy := Lib.hid hy
            clear hpy oy hy
            have HXS : Hid (x.xs = WL) := Lib.hid (congrArg PM.Url.path Px.out)
            have HXQ : Hid (x.hq = false) := Lib.hid (congrArg PM.Url.hasQuery Px.out)
            have HXF : Hid (x.hf = false) := Lib.hid (congrArg PM.Url.hasFrag Px.out)
            have HD : Hid (PM.door x.pm = PM.door b.pm) := Lib.hid (by rw [Px.out]; exact PM.door_way HMb.out (PM.resolve_may HRP.out rfl).1 rfl rfl rfl)
            go_wp2_with fail
            refine wp_region_noPanic ?_
            refine wp_region_held_drew (S := fun W' => QAt w.heap.size kx ky b x y wa WL w W') (by kernel_rfl) (QAt.below ⟨Hb.out, Hx.out, Hy.out, HB.out, Ob.out, Ox.out, OY.out, HWR.out⟩ (b_drew (Below.refl _ _))) (fun hS0 => ?_)
            refine wpAnyH_take (i := 0) (v := ?_) rfl (by kernel_rfl) (by kernel_rfl) (by kernel_rfl) (fun _ _ _ h => h) (Or.inl ⟨by kernel_rfl, fun W hW => ?_⟩) (by assumption) ?_
            rotate_left
            · go_simp
              try with_reducible rfl
            (try simp only [List.getElem_toArray, List.getElem_cons_zero, List.getElem_cons_succ, Act.put, List.setIfInBounds_toArray, List.set_cons_zero, List.set_cons_succ])
            refine wpAnyH_take (i := 1) (v := ?_) rfl (by kernel_rfl) (by kernel_rfl) (by kernel_rfl) (fun _ _ _ h => h) (Or.inl ⟨by kernel_rfl, fun W hW => ?_⟩) (by assumption) ?_
            rotate_left
            · go_simp
              try with_reducible rfl
            (try simp only [List.getElem_toArray, List.getElem_cons_zero, List.getElem_cons_succ, Act.put, List.setIfInBounds_toArray, List.set_cons_zero, List.set_cons_succ])
            refine wpAnyH_take (i := 2) (v := ?_) rfl (by kernel_rfl) (by kernel_rfl) (by kernel_rfl) (fun _ _ _ h => h) (Or.inl ⟨by kernel_rfl, fun W hW => ?_⟩) (by assumption) ?_
            rotate_left
            · go_simp
              try with_reducible rfl
            (try simp only [List.getElem_toArray, List.getElem_cons_zero, List.getElem_cons_succ, Act.put, List.setIfInBounds_toArray, List.set_cons_zero, List.set_cons_succ])
            refine wpAnyH_take (i := 3) (v := ?_) rfl (by kernel_rfl) (by kernel_rfl) (by kernel_rfl) (fun _ _ _ h => h) (Or.inl ⟨by kernel_rfl, fun W hW => ?_⟩) (by assumption) ?_
            rotate_left
            · have c15 : W.cell? ⟨kx, 15, none⟩ = some (.slice x.a x.pn x.pc) := by rw [Lib.cell_of_heap hW.hx]; rfl
              go_simp
              try with_reducible rfl
            (try simp only [List.getElem_toArray, List.getElem_cons_zero, List.getElem_cons_succ, Act.put, List.setIfInBounds_toArray, List.set_cons_zero, List.set_cons_succ])
            refine wpAnyH_take (i := 5) (v := ?_) rfl (by kernel_rfl) (by kernel_rfl) (by kernel_rfl) (fun _ _ _ h => h) (Or.inl ⟨by kernel_rfl, fun W hW => ?_⟩) (by assumption) ?_
            rotate_left
            · go_simp
              try with_reducible rfl
            (try simp only [List.getElem_toArray, List.getElem_cons_zero, List.getElem_cons_succ, Act.put, List.setIfInBounds_toArray, List.set_cons_zero, List.set_cons_succ])
            refine wpAnyH_ready (rs := [4]) (by kernel_rfl) (by simp) ?_
            refine AllReadyH.cons rfl (fun K hK => ?_) AllReadyH.nil
            go_simp
            refine (pathShow_c x.xs (fun s hs => Nat.le_trans (hS0.xo.xl s hs) (by decide)) hS0.xo.xn x.a x.pn x.pc _ hS0.xo.rd).mono ?_
            rw [HXS.out]
            rintro e U41 ⟨rfl, hb⟩
            have hSn := hS0.below hb
            clear hb hS0
            refine hK.out _ _ hSn (fun _ => ?_)
            clear hK K
            (try simp only [List.getElem_toArray, List.getElem_cons_zero, List.getElem_cons_succ, Act.put, List.setIfInBounds_toArray, List.set_cons_zero, List.set_cons_succ])
            refine wpAnyH_ready (rs := [6]) (by kernel_rfl) (by simp) ?_
            refine AllReadyH.cons rfl (fun K hK => ?_) AllReadyH.nil
            go_simp
            refine (pathShow_c WL (fun s hs => Nat.le_trans (HSZ.out.2 s hs) (by decide)) HSZ.out.1 wa WL.length wc _ hSn.rd).mono ?_
            rintro e U42 ⟨rfl, hb⟩
            replace hSn := hSn.below hb
            clear hb
            refine hK.out _ _ hSn (fun _ => ?_)
            clear hK K
            (try simp only [List.getElem_toArray, List.getElem_cons_zero, List.getElem_cons_succ, Act.put, List.setIfInBounds_toArray, List.set_cons_zero, List.set_cons_succ])
            refine wpAnyH_take (i := 7) (v := ?_) rfl (by kernel_rfl) (by kernel_rfl) (by kernel_rfl) (fun _ _ _ h => h) (Or.inl ⟨by kernel_rfl, fun W hW => ?_⟩) (by assumption) ?_
            rotate_left
            · go_simp
              try with_reducible rfl
            (try simp only [List.getElem_toArray, List.getElem_cons_zero, List.getElem_cons_succ, Act.put, List.setIfInBounds_toArray, List.set_cons_zero, List.set_cons_succ])
            refine wpAnyH_take (i := 8) (v := ?_) rfl (by kernel_rfl) (by kernel_rfl) (by kernel_rfl) (fun _ _ _ h => h) (Or.inl ⟨by kernel_rfl, fun W hW => ?_⟩) (by assumption) ?_
            rotate_left
            · go_simp
              try with_reducible rfl
            (try simp only [List.getElem_toArray, List.getElem_cons_zero, List.getElem_cons_succ, Act.put, List.setIfInBounds_toArray, List.set_cons_zero, List.set_cons_succ])
            refine wpAnyH_take (i := 9) (v := ?_) rfl (by kernel_rfl) (by kernel_rfl) (by kernel_rfl) (fun _ _ _ h => h) (Or.inl ⟨by kernel_rfl, fun W hW => ?_⟩) (by assumption) ?_
            rotate_left
            · go_simp
              try with_reducible rfl
            (try simp only [List.getElem_toArray, List.getElem_cons_zero, List.getElem_cons_succ, Act.put, List.setIfInBounds_toArray, List.set_cons_zero, List.set_cons_succ])
            refine wpAnyH_take (i := 10) (v := ?_) rfl (by kernel_rfl) (by kernel_rfl) (by kernel_rfl) (fun _ _ _ h => h) (Or.inl ⟨by kernel_rfl, fun W hW => ?_⟩) (by assumption) ?_
            rotate_left
            · go_simp
              try with_reducible rfl
            (try simp only [List.getElem_toArray, List.getElem_cons_zero, List.getElem_cons_succ, Act.put, List.setIfInBounds_toArray, List.set_cons_zero, List.set_cons_succ])
            refine wpAnyH_take (i := 11) (v := ?_) rfl (by kernel_rfl) (by kernel_rfl) (by kernel_rfl) (fun _ _ _ h => h) (Or.inl ⟨by kernel_rfl, fun W hW => ?_⟩) (by assumption) ?_
            rotate_left
            · have c19 : W.cell? ⟨kx, 19, none⟩ = some (.bool false) := by rw [Lib.cell_of_heap hW.hx, show UV.cells x = UV.cells { x with hq := false } from by rw [← HXQ.out]]; rfl
              go_simp
              try with_reducible rfl
            (try simp only [List.getElem_toArray, List.getElem_cons_zero, List.getElem_cons_succ, Act.put, List.setIfInBounds_toArray, List.set_cons_zero, List.set_cons_succ])
            refine wpAnyH_take (i := 12) (v := ?_) rfl (by kernel_rfl) (by kernel_rfl) (by kernel_rfl) (fun _ _ _ h => h) (Or.inl ⟨by kernel_rfl, fun W hW => ?_⟩) (by assumption) ?_
            rotate_left
            · go_simp
              try with_reducible rfl
            (try simp only [List.getElem_toArray, List.getElem_cons_zero, List.getElem_cons_succ, Act.put, List.setIfInBounds_toArray, List.set_cons_zero, List.set_cons_succ])
            refine wpAnyH_take (i := 13) (v := ?_) rfl (by kernel_rfl) (by kernel_rfl) (by kernel_rfl) (fun _ _ _ h => h) (Or.inl ⟨by kernel_rfl, fun W hW => ?_⟩) (by assumption) ?_
            rotate_left
            · go_simp
              try with_reducible rfl
            (try simp only [List.getElem_toArray, List.getElem_cons_zero, List.getElem_cons_succ, Act.put, List.setIfInBounds_toArray, List.set_cons_zero, List.set_cons_succ])
            refine wpAnyH_take (i := 14) (v := ?_) rfl (by kernel_rfl) (by kernel_rfl) (by kernel_rfl) (fun _ _ _ h => h) (Or.inl ⟨by kernel_rfl, fun W hW => ?_⟩) (by assumption) ?_
            rotate_left
            · go_simp
              try with_reducible rfl
            (try simp only [List.getElem_toArray, List.getElem_cons_zero, List.getElem_cons_succ, Act.put, List.setIfInBounds_toArray, List.set_cons_zero, List.set_cons_succ])
            refine wpAnyH_take (i := 15) (v := ?_) rfl (by kernel_rfl) (by kernel_rfl) (by kernel_rfl) (fun _ _ _ h => h) (Or.inl ⟨by kernel_rfl, fun W hW => ?_⟩) (by assumption) ?_
            rotate_left
            · go_simp
              try with_reducible rfl
            (try simp only [List.getElem_toArray, List.getElem_cons_zero, List.getElem_cons_succ, Act.put, List.setIfInBounds_toArray, List.set_cons_zero, List.set_cons_succ])
            refine wpAnyH_take (i := 16) (v := ?_) rfl (by kernel_rfl) (by kernel_rfl) (by kernel_rfl) (fun _ _ _ h => h) (Or.inl ⟨by kernel_rfl, fun W hW => ?_⟩) (by assumption) ?_
            rotate_left
            · have c20 : W.cell? ⟨kx, 20, none⟩ = some (.bool false) := by rw [Lib.cell_of_heap hW.hx, show UV.cells x = UV.cells { x with hf := false } from by rw [← HXF.out]]; rfl
              go_simp
              try with_reducible rfl
            (try simp only [List.getElem_toArray, List.getElem_cons_zero, List.getElem_cons_succ, Act.put, List.setIfInBounds_toArray, List.set_cons_zero, List.set_cons_succ])
            refine wpAnyH_take (i := 17) (v := ?_) rfl (by kernel_rfl) (by kernel_rfl) (by kernel_rfl) (fun _ _ _ h => h) (Or.inl ⟨by kernel_rfl, fun W hW => ?_⟩) (by assumption) ?_
            rotate_left
            · go_simp
              try with_reducible rfl
            (try simp only [List.getElem_toArray, List.getElem_cons_zero, List.getElem_cons_succ, Act.put, List.setIfInBounds_toArray, List.set_cons_zero, List.set_cons_succ])
            refine wpAnyH_take (i := 18) (v := ?_) rfl (by kernel_rfl) (by kernel_rfl) (by kernel_rfl) (fun _ _ _ h => h) (Or.inl ⟨by kernel_rfl, fun W hW => ?_⟩) (by assumption) ?_
            rotate_left
            · go_simp
              try with_reducible rfl
            (try simp only [List.getElem_toArray, List.getElem_cons_zero, List.getElem_cons_succ, Act.put, List.setIfInBounds_toArray, List.set_cons_zero, List.set_cons_succ])
            refine wpAnyH_take (i := 19) (v := ?_) rfl (by kernel_rfl) (by kernel_rfl) (by kernel_rfl) (fun _ _ _ h => h) (Or.inl ⟨by kernel_rfl, fun W hW => ?_⟩) (by assumption) ?_
            rotate_left
            · go_simp
              try with_reducible rfl
            (try simp only [List.getElem_toArray, List.getElem_cons_zero, List.getElem_cons_succ, Act.put, List.setIfInBounds_toArray, List.set_cons_zero, List.set_cons_succ])
            refine wpAnyH_take (i := 20) (v := ?_) rfl (by kernel_rfl) (by kernel_rfl) (by kernel_rfl) (fun _ _ _ h => h) (Or.inl ⟨by kernel_rfl, fun W hW => ?_⟩) (by assumption) ?_
            rotate_left
            · refine yield_row 27 (.tmp 11) ?_ ky ?_ hW.hy Tryz.underlying27 rfl (by kernel_rfl)
              · rfl
              · rfl
            (try simp only [List.getElem_toArray, List.getElem_cons_zero, List.getElem_cons_succ, Act.put, List.setIfInBounds_toArray, List.set_cons_zero, List.set_cons_succ])
            refine wpAnyH_take (i := 21) (v := ?_) rfl (by kernel_rfl) (by kernel_rfl) (by kernel_rfl) (fun _ _ _ h => h) (Or.inl ⟨by kernel_rfl, fun W hW => ?_⟩) (by assumption) ?_
            rotate_left
            · refine yield_row 27 (.tmp 2) ?_ w.heap.size ?_ hW.hb Tryz.underlying27 rfl (by kernel_rfl)
              · rfl
              · rfl
            (try simp only [List.getElem_toArray, List.getElem_cons_zero, List.getElem_cons_succ, Act.put, List.setIfInBounds_toArray, List.set_cons_zero, List.set_cons_succ])
            refine wpAnyH_ready (rs := [22]) (by kernel_rfl) (by simp) ?_
            refine AllReadyH.cons rfl (fun K hK => ?_) AllReadyH.nil
            go_simp
            refine (Bare_c b _ hSn.bo).mono ?_
            rintro e U43 ⟨b1, rfl, p1, o1, -, hb⟩
            replace hSn := hSn.below hb
            clear hb
            have PB1 := Lib.hid p1
            clear p1
            have OB1 := Lib.hid o1
            clear o1
            refine hK.out _ _ hSn (fun _ => ?_)
            clear hK K
            (try simp only [List.getElem_toArray, List.getElem_cons_zero, List.getElem_cons_succ, Act.put, List.setIfInBounds_toArray, List.set_cons_zero, List.set_cons_succ])
            refine wpAnyH_ready (rs := [23]) (by kernel_rfl) (by simp) ?_
            refine AllReadyH.cons rfl (fun K hK => ?_) AllReadyH.nil
            go_simp
            refine (UrlSame_c y b1 _ hSn.yo OB1.out).mono ?_
            rw [HPY.out, PB1.out, same_self]
            rintro e U44 ⟨rfl, hb⟩
            replace hSn := hSn.below hb
            replace OB1 := Lib.hid (OB1.out.below hb)
            clear hb
            refine hK.out _ _ hSn (fun _ => ?_)
            clear hK K
            (try simp only [List.getElem_toArray, List.getElem_cons_zero, List.getElem_cons_succ, Act.put, List.setIfInBounds_toArray, List.set_cons_zero, List.set_cons_succ])
            refine wpAnyH_take (i := 24) (v := ?_) rfl (by kernel_rfl) (by kernel_rfl) (by kernel_rfl) (fun _ _ _ h => h) (Or.inl ⟨by kernel_rfl, fun W hW => ?_⟩) (by assumption) ?_
            rotate_left
            · go_simp
              try with_reducible rfl
            (try simp only [List.getElem_toArray, List.getElem_cons_zero, List.getElem_cons_succ, Act.put, List.setIfInBounds_toArray, List.set_cons_zero, List.set_cons_succ])
            refine wpAnyH_take (i := 25) (v := ?_) rfl (by kernel_rfl) (by kernel_rfl) (by kernel_rfl) (fun _ _ _ h => h) (Or.inl ⟨by kernel_rfl, fun W hW => ?_⟩) (by assumption) ?_
            rotate_left
            · go_simp
              try with_reducible rfl
            (try simp only [List.getElem_toArray, List.getElem_cons_zero, List.getElem_cons_succ, Act.put, List.setIfInBounds_toArray, List.set_cons_zero, List.set_cons_succ])
            refine wpAnyH_take (i := 26) (v := ?_) rfl (by kernel_rfl) (by kernel_rfl) (by kernel_rfl) (fun _ _ _ h => h) (Or.inl ⟨by kernel_rfl, fun W hW => ?_⟩) (by assumption) ?_
            rotate_left
            · refine yield_row 27 (.tmp 8) ?_ kx ?_ hW.hx Tryz.underlying27 rfl (by kernel_rfl)
              · rfl
              · rfl
            (try simp only [List.getElem_toArray, List.getElem_cons_zero, List.getElem_cons_succ, Act.put, List.setIfInBounds_toArray, List.set_cons_zero, List.set_cons_succ])
            refine wpAnyH_take (i := 28) (v := ?_) rfl (by kernel_rfl) (by kernel_rfl) (by kernel_rfl) (fun _ _ _ h => h) (Or.inl ⟨by kernel_rfl, fun W hW => ?_⟩) (by assumption) ?_
            rotate_left
            · refine yield_row 27 (.tmp 2) ?_ w.heap.size ?_ hW.hb Tryz.underlying27 rfl (by kernel_rfl)
              · rfl
              · rfl
            (try simp only [List.getElem_toArray, List.getElem_cons_zero, List.getElem_cons_succ, Act.put, List.setIfInBounds_toArray, List.set_cons_zero, List.set_cons_succ])
            refine wpAnyH_ready (rs := [27]) (by kernel_rfl) (by simp) ?_
            refine AllReadyH.cons rfl (fun K hK => ?_) AllReadyH.nil
            go_simp
            refine (Door_c x _ hSn.xo (HG.out.below hSn.be)).mono ?_
            rw [HD.out]
            rintro e U45 ⟨rfl, hb⟩
            replace hSn := hSn.below hb
            replace OB1 := Lib.hid (OB1.out.below hb)
            clear hb
            refine hK.out _ _ hSn (fun _ => ?_)
            clear hK K
            (try simp only [List.getElem_toArray, List.getElem_cons_zero, List.getElem_cons_succ, Act.put, List.setIfInBounds_toArray, List.set_cons_zero, List.set_cons_succ])
            refine wpAnyH_ready (rs := [29]) (by kernel_rfl) (by simp) ?_
            refine AllReadyH.cons rfl (fun K hK => ?_) AllReadyH.nil
            go_simp
            refine (Door_c b _ hSn.bo (HG.out.below hSn.be)).mono ?_
            rintro e U46 ⟨rfl, hb⟩
            replace hSn := hSn.below hb
            replace OB1 := Lib.hid (OB1.out.below hb)
            clear hb
            refine hK.out _ _ hSn (fun _ => ?_)
            clear hK K
            (try simp only [List.getElem_toArray, List.getElem_cons_zero, List.getElem_cons_succ, Act.put, List.setIfInBounds_toArray, List.set_cons_zero, List.set_cons_succ])
            refine wpAnyH_take (i := 30) (v := ?_) rfl (by kernel_rfl) (by kernel_rfl) (by kernel_rfl) (fun _ _ _ h => h) (Or.inl ⟨by kernel_rfl, fun W hW => ?_⟩) (by assumption) ?_
            rotate_left
            · go_simp
              try with_reducible rfl
            (try simp only [List.getElem_toArray, List.getElem_cons_zero, List.getElem_cons_succ, Act.put, List.setIfInBounds_toArray, List.set_cons_zero, List.set_cons_succ])
            refine wpAnyH_take (i := 31) (v := ?_) rfl (by kernel_rfl) (by kernel_rfl) (by kernel_rfl) (fun _ _ _ h => h) (Or.inl ⟨by kernel_rfl, fun W hW => ?_⟩) (by assumption) ?_
            rotate_left
            · go_simp
              try with_reducible rfl
            (try simp only [List.getElem_toArray, List.getElem_cons_zero, List.getElem_cons_succ, Act.put, List.setIfInBounds_toArray, List.set_cons_zero, List.set_cons_succ])
            refine wpAnyH_take (i := 32) (v := ?_) rfl (by kernel_rfl) (by kernel_rfl) (by kernel_rfl) (fun _ _ _ h => h) (Or.inl ⟨by kernel_rfl, fun W hW => ?_⟩) (by assumption) ?_
            rotate_left
            · go_simp
              try with_reducible rfl
            (try simp only [List.getElem_toArray, List.getElem_cons_zero, List.getElem_cons_succ, Act.put, List.setIfInBounds_toArray, List.set_cons_zero, List.set_cons_succ])
            refine wpAnyH_done (by kernel_rfl) ?_ _
            refine NoPanic.normal ?_
            go_wp2
            go_ret
            exact ⟨rfl, hSn.be⟩
          | cons d r2 =>
            have hl1 : (1 : Int) < ((c :: d :: r2).length : Int) := by simp; omega
            cases hq47 : ((d.toNat : Int) == 47)
            rotate_left
            · have hx := hp47
              go_wp2
              go_ret
              exact ⟨rfl, HB.out⟩
            have H2 : Hid (PM.two47 (c :: d :: r2) = false) := Lib.hid (by rw [h2s.out, pre47, hq47]; rfl)
            have hrp := PM.resolve_path HMb.out HW.out HWH.out HQS.out (by simp) H2.out
            rw [HP47.out] at hrp
            obtain ⟨WL, hWL⟩ : ∃ WL, PM.pathParse (c :: d :: r2) = WL := ⟨_, rfl⟩
            have hsz : WL.length ≤ 10000 ∧ ∀ x ∈ WL, x.length ≤ 1000000 := by
              rw [← hWL]
              exact ⟨Nat.le_trans (parse_sizes (c :: d :: r2) (Nat.le_trans HLs.out (by decide))).1 (by decide), (parse_sizes (c :: d :: r2) (Nat.le_trans HLs.out (by decide))).2⟩
            have hrp2 : PM.resolve b.pm (c :: d :: r2) = some { PM.bare b.pm with path := WL, query := [], hasQuery := false } := by rw [← hWL]; exact hrp
            have HRP := Lib.hid hrp2
            have HWL := Lib.hid hWL
            have HSZ := Lib.hid hsz
            clear hrp hrp2 hWL hsz
            go_wp2_with (first | go_skip | (refine wpList_load_g 27 _ rfl (by kernel_rfl) w.heap.size rfl Hb.out Tryz.underlying27 rfl (by kernel_rfl) ?_))
            refine (Resolve_c b (c :: d :: r2) _ (Nat.le_trans HLs.out (by decide)) Ob.out (Nat.le_trans (PM.few_all Fb.out).1 (by decide)) (HG.out.below HB.out) (tabs_below HTB.out HB.out)).mono ?_
            rintro e V6 ⟨hp, hb⟩
            obtain ⟨x, rfl, hxp, hxo⟩ := parse_ok hp HRP.out HSZ.out.1
            have Px := Lib.hid hxp
            have Ox := Lib.hid hxo
            clear hp hxp hxo
            replace HB := Lib.hid (b_then HB.out hb)
            replace Hb := Lib.hid (obj_b hb Hb.out)
            replace Ob := Lib.hid (Ob.out.below hb)
            clear hb
            have HN := Lib.hid (Go.heap_alloc_new V6 (.cells zurl 27))
            unfold zurl at HN 
            go_upto_region 13 with (first | (refine wpList_store_row rfl 27 _ _ rfl V6.heap.size x.cells rfl rfl 27 _ HN.out (by kernel_rfl) rfl (agg_one x) ?_))
            obtain ⟨V7, hV⟩ : ∃ V7, V7 = (V6.alloc (.cells #[.string ⟨#[]⟩, .string ⟨#[]⟩, .string ⟨#[]⟩, .int .i64 0, .string ⟨#[]⟩, .int .i64 0, .int .i64 0, .int .i64 0, .int .i64 0, .int .i64 0, .int .i64 0, .int .i64 0, .int .i64 0, .int .i64 0, .int .i64 0, .slice none 0 0, .string ⟨#[]⟩, .string ⟨#[]⟩, .string ⟨#[]⟩, .bool false, .bool false] 27)).setRow V6.heap.size x.cells := ⟨_, rfl⟩
            have hN : V7.heap[V6.heap.size]? = some (.cells x.cells 27 (0, 0)) := by rw [hV]; exact heap_setRow HN.out _
            have hb : Below V6.heap.size V6 V7 := by rw [hV]; exact below_setRow (b_alloc (Below.refl _ _) _) (Nat.le_refl _) _
            rw [← hV]
            clear hV HN 
            have Hx := Lib.hid hN
            clear hN
            have hlt_kx_Hb : w.heap.size < V6.heap.size := h_lt Hb.out
            have hlw_kx : w.heap.size ≤ V6.heap.size := HB.out.size
            replace HB := Lib.hid (b_then HB.out hb)
            replace Hb := Lib.hid (obj_b hb Hb.out)
            replace Ob := Lib.hid (Ob.out.below hb)
            replace Ox := Lib.hid (Ox.out.below hb)
            clear hb
            generalize V6.heap.size = kx at Hx hlt_kx_Hb hlw_kx ⊢
            (try simp only [Act.put])
            have c15 : V7.cell? ⟨w.heap.size, 15, none⟩ = some (.slice b.a b.pn b.pc) := by rw [Lib.cell_of_heap Hb.out]; rfl
            go_wp2_with fail
            refine (Merge_c b.xs (c :: d :: r2) b.a b.pn b.pc (PM.pathMay_segs (PM.may_web HMb.out HW.out).2.2.2.1).1 Ob.out.xl Ob.out.xn (Nat.le_trans HLs.out (by decide)) HCAP.out _ Ob.out.rd (HG.out.below HB.out)).mono ?_
            rintro e V8 ⟨v1, rfl, hown, hb⟩
            have HOWN := Lib.hid hown
            clear hown c15
            replace HB := Lib.hid (b_then HB.out hb)
            replace Hb := Lib.hid (obj_b hb Hb.out)
            replace Hx := Lib.hid (obj_b hb Hx.out)
            replace Ob := Lib.hid (Ob.out.below hb)
            replace Ox := Lib.hid (Ox.out.below hb)
            clear hb
            have hx47 := hp47
            go_wp2_with fail
            refine (PathParse_c (c :: d :: r2) (Nat.le_trans HLs.out (by decide)) _ (HG.out.below HB.out)).mono ?_
            rintro e V9 ⟨v2, rfl, hown, hb⟩
            clear HOWN
            have HOWN := Lib.hid hown
            clear hown hx47
            replace HB := Lib.hid (b_then HB.out hb)
            replace Hb := Lib.hid (obj_b hb Hb.out)
            replace Hx := Lib.hid (obj_b hb Hx.out)
            replace Ob := Lib.hid (Ob.out.below hb)
            replace Ox := Lib.hid (Ox.out.below hb)
            clear hb
            rw [HWL.out] at HOWN
            obtain ⟨wa, wc, hwv, hwr, -⟩ := own_rdS HOWN.out rfl (by have := HSZ.out.1; omega)
            subst hwv
            have HWR := Lib.hid hwr
            clear hwr HOWN
            have NBb : Hid (Nb V9.heap.size b) := Lib.hid (Ok_nb Ob.out (Nat.le_refl _))
            have NBx : Hid (Nb V9.heap.size x) := Lib.hid (Ok_nb Ox.out (Nat.le_refl _))
            have NBl : Hid (∀ g o, wa = some ⟨g, o, none⟩ → WL ≠ [] → g ≠ V9.heap.size) := Lib.hid (rd_nb HWR.out (Nat.le_refl _))
            have HN := Lib.hid (Go.heap_alloc_new V9 (.cells zurl 27))
            have Hx2 := Lib.hid (obj_b (b_alloc (Below.refl _ _) (.cells zurl 27)) Hx.out)
            unfold zurl at HN Hx2
            go_upto_region 17 with (first | (refine wpList_load_g 27 _ rfl (by kernel_rfl) kx rfl Hx2.out Tryz.underlying27 rfl (by kernel_rfl) ?_) | (refine wpList_load_g 27 _ rfl (by kernel_rfl) kx rfl Hx.out Tryz.underlying27 rfl (by kernel_rfl) ?_) | (refine wpList_store_row rfl 27 _ _ rfl V9.heap.size x.cells rfl rfl 27 _ HN.out (by kernel_rfl) rfl (agg_one x) ?_))
            obtain ⟨V10, hV⟩ : ∃ V10, V10 = (V9.alloc (.cells #[.string ⟨#[]⟩, .string ⟨#[]⟩, .string ⟨#[]⟩, .int .i64 0, .string ⟨#[]⟩, .int .i64 0, .int .i64 0, .int .i64 0, .int .i64 0, .int .i64 0, .int .i64 0, .int .i64 0, .int .i64 0, .int .i64 0, .int .i64 0, .slice none 0 0, .string ⟨#[]⟩, .string ⟨#[]⟩, .string ⟨#[]⟩, .bool false, .bool false] 27)).setRow V9.heap.size x.cells := ⟨_, rfl⟩
            have hN : V10.heap[V9.heap.size]? = some (.cells x.cells 27 (0, 0)) := by rw [hV]; exact heap_setRow HN.out _
            have hb : Below V9.heap.size V9 V10 := by rw [hV]; exact below_setRow (b_alloc (Below.refl _ _) _) (Nat.le_refl _) _
            rw [← hV]
            clear hV HN Hx2
            have Hy := Lib.hid hN
            clear hN
            have hlt_ky_Hb : w.heap.size < V9.heap.size := h_lt Hb.out
            have hlt_ky_Hx : kx < V9.heap.size := h_lt Hx.out
            have hlw_ky : w.heap.size ≤ V9.heap.size := HB.out.size
            replace HB := Lib.hid (b_then HB.out hb)
            replace Hb := Lib.hid (obj_b hb Hb.out)
            replace Hx := Lib.hid (obj_b hb Hx.out)
            replace Ob := Lib.hid (Ob.out.below hb)
            replace Ox := Lib.hid (Ox.out.below hb)
            replace HWR := Lib.hid (HWR.out.below hb)
            clear hb
            generalize V9.heap.size = ky at NBb NBx NBl Hy hlt_ky_Hb hlt_ky_Hx hlw_ky ⊢
            (try simp only [Act.put])
            have cx : V10.cell? ⟨w.heap.size, 15, none⟩ = some (.slice b.a b.pn b.pc) := by rw [Lib.cell_of_heap Hb.out]; rfl
            have ff := Lib.frozen_of_heap Hy.out 15
            have dd : V10.cell? ⟨ky, 15, none⟩ = some (.slice x.a x.pn x.pc) := by rw [Lib.cell_of_heap Hy.out]; rfl
            go_upto_region 18 with fail
            clear ff dd cx
            obtain ⟨S1, hV⟩ : ∃ S1, S1 = V10.setCell ⟨ky, 15, none⟩ (.slice b.a b.pn b.pc) := ⟨_, rfl⟩
            rw [← hV]
            replace Hy := Lib.hid (show S1.heap[ky]? = some (.cells (wayV x b.a b.pn b.pc b.xs).cells 27 (0, 0)) from by rw [hV]; exact setCell_heap Hy.out 15 _)
            replace Hb := Lib.hid (show S1.heap[w.heap.size]? = some (.cells _ 27 (0, 0)) from by rw [hV]; exact heap_set_other Hb.out _ _ _ (by omega))
            replace Hx := Lib.hid (show S1.heap[kx]? = some (.cells _ 27 (0, 0)) from by rw [hV]; exact heap_set_other Hx.out _ _ _ (by omega))
            replace HB := Lib.hid (show Below w.heap.size w S1 from by rw [hV]; exact b_set HB.out _ hlw_ky _)
            replace Ob := Lib.hid (show b.Ok S1 from by rw [hV]; exact Ok_set Ob.out NBb.out 15 _)
            replace Ox := Lib.hid (show x.Ok S1 from by rw [hV]; exact Ok_set Ox.out NBx.out 15 _)
            replace HWR := Lib.hid (show RdS S1 wa WL.length WL from by rw [hV]; exact HWR.out.frame (by simp [World.setCell]) fun g o e hx => heap_set_other rfl _ _ _ (fun e2 => NBl.out g o e hx e2.symm))
            clear hV
            have cx : S1.cell? ⟨w.heap.size, 17, none⟩ = some (.string (mkS b.qu)) := by rw [Lib.cell_of_heap Hb.out]; rfl
            have ff := Lib.frozen_of_heap Hy.out 17
            have dd : S1.cell? ⟨ky, 17, none⟩ = some (.string (mkS x.qu)) := by rw [Lib.cell_of_heap Hy.out]; rfl
            go_upto_region 19 with fail
            clear ff dd cx
            obtain ⟨S2, hV⟩ : ∃ S2, S2 = S1.setCell ⟨ky, 17, none⟩ (.string (mkS b.qu)) := ⟨_, rfl⟩
            rw [← hV]
            replace Hy := Lib.hid (show S2.heap[ky]? = some (.cells ({ wayV x b.a b.pn b.pc b.xs with qu := b.qu } : UV).cells 27 (0, 0)) from by rw [hV]; exact setCell_heap Hy.out 17 _)
            replace Hb := Lib.hid (show S2.heap[w.heap.size]? = some (.cells _ 27 (0, 0)) from by rw [hV]; exact heap_set_other Hb.out _ _ _ (by omega))
            replace Hx := Lib.hid (show S2.heap[kx]? = some (.cells _ 27 (0, 0)) from by rw [hV]; exact heap_set_other Hx.out _ _ _ (by omega))
            replace HB := Lib.hid (show Below w.heap.size w S2 from by rw [hV]; exact b_set HB.out _ hlw_ky _)
            replace Ob := Lib.hid (show b.Ok S2 from by rw [hV]; exact Ok_set Ob.out NBb.out 17 _)
            replace Ox := Lib.hid (show x.Ok S2 from by rw [hV]; exact Ok_set Ox.out NBx.out 17 _)
            replace HWR := Lib.hid (show RdS S2 wa WL.length WL from by rw [hV]; exact HWR.out.frame (by simp [World.setCell]) fun g o e hx => heap_set_other rfl _ _ _ (fun e2 => NBl.out g o e hx e2.symm))
            clear hV
            have cx : S2.cell? ⟨w.heap.size, 19, none⟩ = some (.bool b.hq) := by rw [Lib.cell_of_heap Hb.out]; rfl
            have ff := Lib.frozen_of_heap Hy.out 19
            have dd : S2.cell? ⟨ky, 19, none⟩ = some (.bool x.hq) := by rw [Lib.cell_of_heap Hy.out]; rfl
            go_upto_region 20 with fail
            clear ff dd cx
            obtain ⟨S3, hV⟩ : ∃ S3, S3 = S2.setCell ⟨ky, 19, none⟩ (.bool b.hq) := ⟨_, rfl⟩
            rw [← hV]
            replace Hy := Lib.hid (show S3.heap[ky]? = some (.cells ({ wayV x b.a b.pn b.pc b.xs with qu := b.qu, hq := b.hq } : UV).cells 27 (0, 0)) from by rw [hV]; exact setCell_heap Hy.out 19 _)
            replace Hb := Lib.hid (show S3.heap[w.heap.size]? = some (.cells _ 27 (0, 0)) from by rw [hV]; exact heap_set_other Hb.out _ _ _ (by omega))
            replace Hx := Lib.hid (show S3.heap[kx]? = some (.cells _ 27 (0, 0)) from by rw [hV]; exact heap_set_other Hx.out _ _ _ (by omega))
            replace HB := Lib.hid (show Below w.heap.size w S3 from by rw [hV]; exact b_set HB.out _ hlw_ky _)
            replace Ob := Lib.hid (show b.Ok S3 from by rw [hV]; exact Ok_set Ob.out NBb.out 19 _)
            replace Ox := Lib.hid (show x.Ok S3 from by rw [hV]; exact Ok_set Ox.out NBx.out 19 _)
            replace HWR := Lib.hid (show RdS S3 wa WL.length WL from by rw [hV]; exact HWR.out.frame (by simp [World.setCell]) fun g o e hx => heap_set_other rfl _ _ _ (fun e2 => NBl.out g o e hx e2.symm))
            clear hV
            obtain ⟨y, hpy, oy, hy⟩ : ∃ y : UV, y.pm = PM.bare b.pm ∧ y.Ok S3 ∧ S3.heap[ky]? = some (.cells y.cells 27 (0, 0)) := ⟨{ wayV x b.a b.pn b.pc b.xs with qu := b.qu, hq := b.hq }, by
                have h := Px.out
                show ({ x.pm with path := b.xs, query := b.qu, hasQuery := b.hq } : PM.Url) = _
                rw [h]
                rfl, ⟨Ox.out.sc, Ox.out.us, Ox.out.pa, Ox.out.n, Ox.out.op, Ob.out.qu, Ox.out.fr, Ob.out.xn, Ob.out.xl, Ob.out.rd⟩, Hy.out⟩
            have HPY := Lib.hid hpy
            have OY := Lib.hid oy
            clear Hy
            have Hy := Lib.hid hy
            clear hpy oy hy
            have HXS : Hid (x.xs = WL) := Lib.hid (congrArg PM.Url.path Px.out)
            have HXQ : Hid (x.hq = false) := Lib.hid (congrArg PM.Url.hasQuery Px.out)
            have HXF : Hid (x.hf = false) := Lib.hid (congrArg PM.Url.hasFrag Px.out)
            have HD : Hid (PM.door x.pm = PM.door b.pm) := Lib.hid (by rw [Px.out]; exact PM.door_way HMb.out (PM.resolve_may HRP.out rfl).1 rfl rfl rfl)
            go_wp2_with fail
            refine wp_region_noPanic ?_
            refine wp_region_held_drew (S := fun W' => QAt w.heap.size kx ky b x y wa WL w W') (by kernel_rfl) (QAt.below ⟨Hb.out, Hx.out, Hy.out, HB.out, Ob.out, Ox.out, OY.out, HWR.out⟩ (b_drew (Below.refl _ _))) (fun hS0 => ?_)
            refine wpAnyH_take (i := 0) (v := ?_) rfl (by kernel_rfl) (by kernel_rfl) (by kernel_rfl) (fun _ _ _ h => h) (Or.inl ⟨by kernel_rfl, fun W hW => ?_⟩) (by assumption) ?_
            rotate_left
            · go_simp
              try with_reducible rfl
            (try simp only [List.getElem_toArray, List.getElem_cons_zero, List.getElem_cons_succ, Act.put, List.setIfInBounds_toArray, List.set_cons_zero, List.set_cons_succ])
            refine wpAnyH_take (i := 1) (v := ?_) rfl (by kernel_rfl) (by kernel_rfl) (by kernel_rfl) (fun _ _ _ h => h) (Or.inl ⟨by kernel_rfl, fun W hW => ?_⟩) (by assumption) ?_
            rotate_left
            · go_simp
              try with_reducible rfl
            (try simp only [List.getElem_toArray, List.getElem_cons_zero, List.getElem_cons_succ, Act.put, List.setIfInBounds_toArray, List.set_cons_zero, List.set_cons_succ])
            refine wpAnyH_take (i := 2) (v := ?_) rfl (by kernel_rfl) (by kernel_rfl) (by kernel_rfl) (fun _ _ _ h => h) (Or.inl ⟨by kernel_rfl, fun W hW => ?_⟩) (by assumption) ?_
            rotate_left
            · go_simp
              try with_reducible rfl
            (try simp only [List.getElem_toArray, List.getElem_cons_zero, List.getElem_cons_succ, Act.put, List.setIfInBounds_toArray, List.set_cons_zero, List.set_cons_succ])
            refine wpAnyH_take (i := 3) (v := ?_) rfl (by kernel_rfl) (by kernel_rfl) (by kernel_rfl) (fun _ _ _ h => h) (Or.inl ⟨by kernel_rfl, fun W hW => ?_⟩) (by assumption) ?_
            rotate_left
            · have c15 : W.cell? ⟨kx, 15, none⟩ = some (.slice x.a x.pn x.pc) := by rw [Lib.cell_of_heap hW.hx]; rfl
              go_simp
              try with_reducible rfl
            (try simp only [List.getElem_toArray, List.getElem_cons_zero, List.getElem_cons_succ, Act.put, List.setIfInBounds_toArray, List.set_cons_zero, List.set_cons_succ])
            refine wpAnyH_take (i := 5) (v := ?_) rfl (by kernel_rfl) (by kernel_rfl) (by kernel_rfl) (fun _ _ _ h => h) (Or.inl ⟨by kernel_rfl, fun W hW => ?_⟩) (by assumption) ?_
            rotate_left
            · go_simp
              try with_reducible rfl
            (try simp only [List.getElem_toArray, List.getElem_cons_zero, List.getElem_cons_succ, Act.put, List.setIfInBounds_toArray, List.set_cons_zero, List.set_cons_succ])
            refine wpAnyH_ready (rs := [4]) (by kernel_rfl) (by simp) ?_
            refine AllReadyH.cons rfl (fun K hK => ?_) AllReadyH.nil
            go_simp
            refine (pathShow_c x.xs (fun s hs => Nat.le_trans (hS0.xo.xl s hs) (by decide)) hS0.xo.xn x.a x.pn x.pc _ hS0.xo.rd).mono ?_
            rw [HXS.out]
            rintro e U41 ⟨rfl, hb⟩
            have hSn := hS0.below hb
            clear hb hS0
            refine hK.out _ _ hSn (fun _ => ?_)
            clear hK K
            (try simp only [List.getElem_toArray, List.getElem_cons_zero, List.getElem_cons_succ, Act.put, List.setIfInBounds_toArray, List.set_cons_zero, List.set_cons_succ])
            refine wpAnyH_ready (rs := [6]) (by kernel_rfl) (by simp) ?_
            refine AllReadyH.cons rfl (fun K hK => ?_) AllReadyH.nil
            go_simp
            refine (pathShow_c WL (fun s hs => Nat.le_trans (HSZ.out.2 s hs) (by decide)) HSZ.out.1 wa WL.length wc _ hSn.rd).mono ?_
            rintro e U42 ⟨rfl, hb⟩
            replace hSn := hSn.below hb
            clear hb
            refine hK.out _ _ hSn (fun _ => ?_)
            clear hK K
            (try simp only [List.getElem_toArray, List.getElem_cons_zero, List.getElem_cons_succ, Act.put, List.setIfInBounds_toArray, List.set_cons_zero, List.set_cons_succ])
            refine wpAnyH_take (i := 7) (v := ?_) rfl (by kernel_rfl) (by kernel_rfl) (by kernel_rfl) (fun _ _ _ h => h) (Or.inl ⟨by kernel_rfl, fun W hW => ?_⟩) (by assumption) ?_
            rotate_left
            · go_simp
              try with_reducible rfl
            (try simp only [List.getElem_toArray, List.getElem_cons_zero, List.getElem_cons_succ, Act.put, List.setIfInBounds_toArray, List.set_cons_zero, List.set_cons_succ])
            refine wpAnyH_take (i := 8) (v := ?_) rfl (by kernel_rfl) (by kernel_rfl) (by kernel_rfl) (fun _ _ _ h => h) (Or.inl ⟨by kernel_rfl, fun W hW => ?_⟩) (by assumption) ?_
            rotate_left
            · go_simp
              try with_reducible rfl
            (try simp only [List.getElem_toArray, List.getElem_cons_zero, List.getElem_cons_succ, Act.put, List.setIfInBounds_toArray, List.set_cons_zero, List.set_cons_succ])
            refine wpAnyH_take (i := 9) (v := ?_) rfl (by kernel_rfl) (by kernel_rfl) (by kernel_rfl) (fun _ _ _ h => h) (Or.inl ⟨by kernel_rfl, fun W hW => ?_⟩) (by assumption) ?_
            rotate_left
            · go_simp
              try with_reducible rfl
            (try simp only [List.getElem_toArray, List.getElem_cons_zero, List.getElem_cons_succ, Act.put, List.setIfInBounds_toArray, List.set_cons_zero, List.set_cons_succ])
            refine wpAnyH_take (i := 10) (v := ?_) rfl (by kernel_rfl) (by kernel_rfl) (by kernel_rfl) (fun _ _ _ h => h) (Or.inl ⟨by kernel_rfl, fun W hW => ?_⟩) (by assumption) ?_
            rotate_left
            · go_simp
              try with_reducible rfl
            (try simp only [List.getElem_toArray, List.getElem_cons_zero, List.getElem_cons_succ, Act.put, List.setIfInBounds_toArray, List.set_cons_zero, List.set_cons_succ])
            refine wpAnyH_take (i := 11) (v := ?_) rfl (by kernel_rfl) (by kernel_rfl) (by kernel_rfl) (fun _ _ _ h => h) (Or.inl ⟨by kernel_rfl, fun W hW => ?_⟩) (by assumption) ?_
            rotate_left
            · have c19 : W.cell? ⟨kx, 19, none⟩ = some (.bool false) := by rw [Lib.cell_of_heap hW.hx, show UV.cells x = UV.cells { x with hq := false } from by rw [← HXQ.out]]; rfl
              go_simp
              try with_reducible rfl
            (try simp only [List.getElem_toArray, List.getElem_cons_zero, List.getElem_cons_succ, Act.put, List.setIfInBounds_toArray, List.set_cons_zero, List.set_cons_succ])
            refine wpAnyH_take (i := 12) (v := ?_) rfl (by kernel_rfl) (by kernel_rfl) (by kernel_rfl) (fun _ _ _ h => h) (Or.inl ⟨by kernel_rfl, fun W hW => ?_⟩) (by assumption) ?_
            rotate_left
            · go_simp
              try with_reducible rfl
            (try simp only [List.getElem_toArray, List.getElem_cons_zero, List.getElem_cons_succ, Act.put, List.setIfInBounds_toArray, List.set_cons_zero, List.set_cons_succ])
            refine wpAnyH_take (i := 13) (v := ?_) rfl (by kernel_rfl) (by kernel_rfl) (by kernel_rfl) (fun _ _ _ h => h) (Or.inl ⟨by kernel_rfl, fun W hW => ?_⟩) (by assumption) ?_
            rotate_left
            · go_simp
              try with_reducible rfl
            (try simp only [List.getElem_toArray, List.getElem_cons_zero, List.getElem_cons_succ, Act.put, List.setIfInBounds_toArray, List.set_cons_zero, List.set_cons_succ])
            refine wpAnyH_take (i := 14) (v := ?_) rfl (by kernel_rfl) (by kernel_rfl) (by kernel_rfl) (fun _ _ _ h => h) (Or.inl ⟨by kernel_rfl, fun W hW => ?_⟩) (by assumption) ?_
            rotate_left
            · go_simp
              try with_reducible rfl
            (try simp only [List.getElem_toArray, List.getElem_cons_zero, List.getElem_cons_succ, Act.put, List.setIfInBounds_toArray, List.set_cons_zero, List.set_cons_succ])
            refine wpAnyH_take (i := 15) (v := ?_) rfl (by kernel_rfl) (by kernel_rfl) (by kernel_rfl) (fun _ _ _ h => h) (Or.inl ⟨by kernel_rfl, fun W hW => ?_⟩) (by assumption) ?_
            rotate_left
            · go_simp
              try with_reducible rfl
            (try simp only [List.getElem_toArray, List.getElem_cons_zero, List.getElem_cons_succ, Act.put, List.setIfInBounds_toArray, List.set_cons_zero, List.set_cons_succ])
            refine wpAnyH_take (i := 16) (v := ?_) rfl (by kernel_rfl) (by kernel_rfl) (by kernel_rfl) (fun _ _ _ h => h) (Or.inl ⟨by kernel_rfl, fun W hW => ?_⟩) (by assumption) ?_
            rotate_left
            · have c20 : W.cell? ⟨kx, 20, none⟩ = some (.bool false) := by rw [Lib.cell_of_heap hW.hx, show UV.cells x = UV.cells { x with hf := false } from by rw [← HXF.out]]; rfl
              go_simp
              try with_reducible rfl
            (try simp only [List.getElem_toArray, List.getElem_cons_zero, List.getElem_cons_succ, Act.put, List.setIfInBounds_toArray, List.set_cons_zero, List.set_cons_succ])
            refine wpAnyH_take (i := 17) (v := ?_) rfl (by kernel_rfl) (by kernel_rfl) (by kernel_rfl) (fun _ _ _ h => h) (Or.inl ⟨by kernel_rfl, fun W hW => ?_⟩) (by assumption) ?_
            rotate_left
            · go_simp
              try with_reducible rfl
            (try simp only [List.getElem_toArray, List.getElem_cons_zero, List.getElem_cons_succ, Act.put, List.setIfInBounds_toArray, List.set_cons_zero, List.set_cons_succ])
            refine wpAnyH_take (i := 18) (v := ?_) rfl (by kernel_rfl) (by kernel_rfl) (by kernel_rfl) (fun _ _ _ h => h) (Or.inl ⟨by kernel_rfl, fun W hW => ?_⟩) (by assumption) ?_
            rotate_left
            · go_simp
              try with_reducible rfl
            (try simp only [List.getElem_toArray, List.getElem_cons_zero, List.getElem_cons_succ, Act.put, List.setIfInBounds_toArray, List.set_cons_zero, List.set_cons_succ])
            refine wpAnyH_take (i := 19) (v := ?_) rfl (by kernel_rfl) (by kernel_rfl) (by kernel_rfl) (fun _ _ _ h => h) (Or.inl ⟨by kernel_rfl, fun W hW => ?_⟩) (by assumption) ?_
            rotate_left
            · go_simp
              try with_reducible rfl
            (try simp only [List.getElem_toArray, List.getElem_cons_zero, List.getElem_cons_succ, Act.put, List.setIfInBounds_toArray, List.set_cons_zero, List.set_cons_succ])
            refine wpAnyH_take (i := 20) (v := ?_) rfl (by kernel_rfl) (by kernel_rfl) (by kernel_rfl) (fun _ _ _ h => h) (Or.inl ⟨by kernel_rfl, fun W hW => ?_⟩) (by assumption) ?_
            rotate_left
            · refine yield_row 27 (.tmp 11) ?_ ky ?_ hW.hy Tryz.underlying27 rfl (by kernel_rfl)
              · rfl
              · rfl
            (try simp only [List.getElem_toArray, List.getElem_cons_zero, List.getElem_cons_succ, Act.put, List.setIfInBounds_toArray, List.set_cons_zero, List.set_cons_succ])
            refine wpAnyH_take (i := 21) (v := ?_) rfl (by kernel_rfl) (by kernel_rfl) (by kernel_rfl) (fun _ _ _ h => h) (Or.inl ⟨by kernel_rfl, fun W hW => ?_⟩) (by assumption) ?_
            rotate_left
            · refine yield_row 27 (.tmp 2) ?_ w.heap.size ?_ hW.hb Tryz.underlying27 rfl (by kernel_rfl)
              · rfl
              · rfl
            (try simp only [List.getElem_toArray, List.getElem_cons_zero, List.getElem_cons_succ, Act.put, List.setIfInBounds_toArray, List.set_cons_zero, List.set_cons_succ])
            refine wpAnyH_ready (rs := [22]) (by kernel_rfl) (by simp) ?_
            refine AllReadyH.cons rfl (fun K hK => ?_) AllReadyH.nil
            go_simp
            refine (Bare_c b _ hSn.bo).mono ?_
            rintro e U43 ⟨b1, rfl, p1, o1, -, hb⟩
            replace hSn := hSn.below hb
            clear hb
            have PB1 := Lib.hid p1
            clear p1
            have OB1 := Lib.hid o1
            clear o1
            refine hK.out _ _ hSn (fun _ => ?_)
            clear hK K
            (try simp only [List.getElem_toArray, List.getElem_cons_zero, List.getElem_cons_succ, Act.put, List.setIfInBounds_toArray, List.set_cons_zero, List.set_cons_succ])
            refine wpAnyH_ready (rs := [23]) (by kernel_rfl) (by simp) ?_
            refine AllReadyH.cons rfl (fun K hK => ?_) AllReadyH.nil
            go_simp
            refine (UrlSame_c y b1 _ hSn.yo OB1.out).mono ?_
            rw [HPY.out, PB1.out, same_self]
            rintro e U44 ⟨rfl, hb⟩
            replace hSn := hSn.below hb
            replace OB1 := Lib.hid (OB1.out.below hb)
            clear hb
            refine hK.out _ _ hSn (fun _ => ?_)
            clear hK K
            (try simp only [List.getElem_toArray, List.getElem_cons_zero, List.getElem_cons_succ, Act.put, List.setIfInBounds_toArray, List.set_cons_zero, List.set_cons_succ])
            refine wpAnyH_take (i := 24) (v := ?_) rfl (by kernel_rfl) (by kernel_rfl) (by kernel_rfl) (fun _ _ _ h => h) (Or.inl ⟨by kernel_rfl, fun W hW => ?_⟩) (by assumption) ?_
            rotate_left
            · go_simp
              try with_reducible rfl
            (try simp only [List.getElem_toArray, List.getElem_cons_zero, List.getElem_cons_succ, Act.put, List.setIfInBounds_toArray, List.set_cons_zero, List.set_cons_succ])
            refine wpAnyH_take (i := 25) (v := ?_) rfl (by kernel_rfl) (by kernel_rfl) (by kernel_rfl) (fun _ _ _ h => h) (Or.inl ⟨by kernel_rfl, fun W hW => ?_⟩) (by assumption) ?_
            rotate_left
            · go_simp
              try with_reducible rfl
            (try simp only [List.getElem_toArray, List.getElem_cons_zero, List.getElem_cons_succ, Act.put, List.setIfInBounds_toArray, List.set_cons_zero, List.set_cons_succ])
            refine wpAnyH_take (i := 26) (v := ?_) rfl (by kernel_rfl) (by kernel_rfl) (by kernel_rfl) (fun _ _ _ h => h) (Or.inl ⟨by kernel_rfl, fun W hW => ?_⟩) (by assumption) ?_
            rotate_left
            · refine yield_row 27 (.tmp 8) ?_ kx ?_ hW.hx Tryz.underlying27 rfl (by kernel_rfl)
              · rfl
              · rfl
            (try simp only [List.getElem_toArray, List.getElem_cons_zero, List.getElem_cons_succ, Act.put, List.setIfInBounds_toArray, List.set_cons_zero, List.set_cons_succ])
            refine wpAnyH_take (i := 28) (v := ?_) rfl (by kernel_rfl) (by kernel_rfl) (by kernel_rfl) (fun _ _ _ h => h) (Or.inl ⟨by kernel_rfl, fun W hW => ?_⟩) (by assumption) ?_
            rotate_left
            · refine yield_row 27 (.tmp 2) ?_ w.heap.size ?_ hW.hb Tryz.underlying27 rfl (by kernel_rfl)
              · rfl
              · rfl
            (try simp only [List.getElem_toArray, List.getElem_cons_zero, List.getElem_cons_succ, Act.put, List.setIfInBounds_toArray, List.set_cons_zero, List.set_cons_succ])
            refine wpAnyH_ready (rs := [27]) (by kernel_rfl) (by simp) ?_
            refine AllReadyH.cons rfl (fun K hK => ?_) AllReadyH.nil
            go_simp
            refine (Door_c x _ hSn.xo (HG.out.below hSn.be)).mono ?_
            rw [HD.out]
            rintro e U45 ⟨rfl, hb⟩
            replace hSn := hSn.below hb
            replace OB1 := Lib.hid (OB1.out.below hb)
            clear hb
            refine hK.out _ _ hSn (fun _ => ?_)
            clear hK K
            (try simp only [List.getElem_toArray, List.getElem_cons_zero, List.getElem_cons_succ, Act.put, List.setIfInBounds_toArray, List.set_cons_zero, List.set_cons_succ])
            refine wpAnyH_ready (rs := [29]) (by kernel_rfl) (by simp) ?_
            refine AllReadyH.cons rfl (fun K hK => ?_) AllReadyH.nil
            go_simp
            refine (Door_c b _ hSn.bo (HG.out.below hSn.be)).mono ?_
            rintro e U46 ⟨rfl, hb⟩
            replace hSn := hSn.below hb
            replace OB1 := Lib.hid (OB1.out.below hb)
            clear hb
            refine hK.out _ _ hSn (fun _ => ?_)
            clear hK K
            (try simp only [List.getElem_toArray, List.getElem_cons_zero, List.getElem_cons_succ, Act.put, List.setIfInBounds_toArray, List.set_cons_zero, List.set_cons_succ])
            refine wpAnyH_take (i := 30) (v := ?_) rfl (by kernel_rfl) (by kernel_rfl) (by kernel_rfl) (fun _ _ _ h => h) (Or.inl ⟨by kernel_rfl, fun W hW => ?_⟩) (by assumption) ?_
            rotate_left
            · go_simp
              try with_reducible rfl
            (try simp only [List.getElem_toArray, List.getElem_cons_zero, List.getElem_cons_succ, Act.put, List.setIfInBounds_toArray, List.set_cons_zero, List.set_cons_succ])
            refine wpAnyH_take (i := 31) (v := ?_) rfl (by kernel_rfl) (by kernel_rfl) (by kernel_rfl) (fun _ _ _ h => h) (Or.inl ⟨by kernel_rfl, fun W hW => ?_⟩) (by assumption) ?_
            rotate_left
            · go_simp
              try with_reducible rfl
            (try simp only [List.getElem_toArray, List.getElem_cons_zero, List.getElem_cons_succ, Act.put, List.setIfInBounds_toArray, List.set_cons_zero, List.set_cons_succ])
            refine wpAnyH_take (i := 32) (v := ?_) rfl (by kernel_rfl) (by kernel_rfl) (by kernel_rfl) (fun _ _ _ h => h) (Or.inl ⟨by kernel_rfl, fun W hW => ?_⟩) (by assumption) ?_
            rotate_left
            · go_simp
              try with_reducible rfl
            (try simp only [List.getElem_toArray, List.getElem_cons_zero, List.getElem_cons_succ, Act.put, List.setIfInBounds_toArray, List.set_cons_zero, List.set_cons_succ])
            refine wpAnyH_done (by kernel_rfl) ?_ _
            refine NoPanic.normal ?_
            go_wp2
            go_ret
            exact ⟨rfl, hSn.be⟩
end Go.Proofs.YtphigjogeejdjaaGreatDoor
/-! The row of JoinPath. -/
namespace Go.Proofs.YtphigjogeejdjaaGreatDoor
open Go.ChangeShapes Go.WideShapes Go.ChangeAt Go.RowKit
open Go.WideMaps Go.WideElems
open Go.ChangeMaps (open_string shut_string)
set_option maxRecDepth 100000 in
theorem url_room {H : Type} {enc : TypeId × Value → H} {w : World} {base : Nat} {spare : Nat → Bool} {held : Bool} {u : UV} {d : DataW H} {p : List MemPlace} (h : DataW.Trod enc Tryz.prog w base spare held 27 (.agg u.cells) d p) : u.pn ≤ u.pc := by
  unfold UV.cells at h
  obtain ⟨fuel, hf0⟩ := h
  have hc25 : Tryz.prog.cellsOf 25 = 1 := by kernel_rfl
  obtain ⟨xs, m, _, _, _, hlen, hf⟩ := DataW.trod_struct Tryz.underlying27 hf0
  obtain ⟨y5, e5⟩ : ∃ y, xs[5]? = some y := some_of_lt (by rw [hlen]; decide)
  have h5 : DataW.trod enc Tryz.prog w base spare held m 25 (([.string (mkS u.sc), .string (mkS u.us), .string (mkS u.pa), .int .i64 u.k, .string (mkS u.n), .int .i64 u.m, .int .i64 u.s0, .int .i64 u.s1, .int .i64 u.s2, .int .i64 u.s3, .int .i64 u.s4, .int .i64 u.s5, .int .i64 u.s6, .int .i64 u.s7, .int .i64 u.port, .slice u.a u.pn u.pc, .string (mkS u.op), .string (mkS u.qu), .string (mkS u.fr), .bool u.hq, .bool u.hf].drop 15).take (Tryz.prog.cellsOf 25)) = xs[5]? := hf 5 _ rfl
  rw [hc25, e5] at h5
  have h6 : DataW.trod enc Tryz.prog w base spare held m 25 [.slice u.a u.pn u.pc] = some y5 := by simpa using h5
  rcases open_strings Tryz.underlying25 Tryz.underlying9 hc25 h6 with ⟨hcs, _⟩ | ⟨a, len, cap, ss, hcs, _, hl, _⟩
  · simp at hcs
    omega
  · simp at hcs
    omega
theorem joinPath_reads (os : Os) {H : Type} (enc : TypeId × Value → H) : ∃ x, DataW.whole enc Tryz.prog ((laidWorld os).forCall (fun _ _ => 0) ⟨#[], #[.agg #[.string ⟨#[]⟩, .string ⟨#[]⟩, .string ⟨#[]⟩, .int .i64 0, .string ⟨#[]⟩, .int .i64 0, .int .i64 0, .int .i64 0, .int .i64 0, .int .i64 0, .int .i64 0, .int .i64 0, .int .i64 0, .int .i64 0, .int .i64 0, .slice none 0 0, .string ⟨#[]⟩, .string ⟨#[]⟩, .string ⟨#[]⟩, .bool false, .bool false], .string ⟨#[]⟩], []⟩).memory Tryz.f7.params.toList Rows.joinPathSpec.vars false (#[.agg #[.string ⟨#[]⟩, .string ⟨#[]⟩, .string ⟨#[]⟩, .int .i64 0, .string ⟨#[]⟩, .int .i64 0, .int .i64 0, .int .i64 0, .int .i64 0, .int .i64 0, .int .i64 0, .int .i64 0, .int .i64 0, .int .i64 0, .int .i64 0, .slice none 0 0, .string ⟨#[]⟩, .string ⟨#[]⟩, .string ⟨#[]⟩, .bool false, .bool false], .string ⟨#[]⟩] : Array Value).toList 8 = some x :=
  Option.isSome_iff_exists.1 (by kernel_rfl)
set_option maxRecDepth 100000 in
theorem joinPath_lifted (os : Os) (started : os.Started) (H : Type) (enc : TypeId × Value → H) (F : Stop.Interp) :
    ReturnsInHanded {} Tryz.checked os 7 .any ((OpenSpec.ofChange Rows.joinPathSpec).preRow enc Tryz.prog Tryz.f7 Rows.joinPathRow.domain false Rows.joinPathRow.laid) (((OpenSpec.ofChange Rows.joinPathSpec).at F).post enc Tryz.prog Tryz.f7 false true false false) := by
  obtain ⟨x, hx⟩ := joinPath_reads os enc
  refine returnsInHanded_of_row (C := Tryz.checked) (s := OpenSpec.ofChange Rows.joinPathSpec) own started (by kernel_rfl) Tryz.func7
    (witness_row_atRef (enc := enc) (C := Tryz.checked) false (laidWorld os) #[.agg #[.string ⟨#[]⟩, .string ⟨#[]⟩, .string ⟨#[]⟩, .int .i64 0, .string ⟨#[]⟩, .int .i64 0, .int .i64 0, .int .i64 0, .int .i64 0, .int .i64 0, .int .i64 0, .int .i64 0, .int .i64 0, .int .i64 0, .int .i64 0, .slice none 0 0, .string ⟨#[]⟩, .string ⟨#[]⟩, .string ⟨#[]⟩, .bool false, .bool false], .string ⟨#[]⟩] rfl (by kernel_rfl) (by kernel_rfl) (by kernel_rfl)
      (OpenSpec.preRow_of_cond 8 hx rfl (fun k hk => by cases hk) (by kernel_rfl) (laid_met os _))) ?_
  intro W base args ds gs before hval0 hW _ _ _ hL hsh _
  have hval : ∀ (j : Nat) t v, Tryz.f7.params[j]? = some t → args[j]? = some v → Value.okWide Tryz.prog W .any base t v := hval0
  have hW' := hW
  obtain ⟨p, q, hA0, hV, rfl, hfz, hnd⟩ := hW
  have hA : DataW.TrodAll enc Tryz.prog W 0 (fun _ => true) true Tryz.f7.params.toList args.toList ds p := hA0
  rw [Tryz.params7] at hA hval
  obtain ⟨v0, v1, d0, d1, p0, p1, rfl, rfl, rfl, h0, h1⟩ := trodAll_two hA
  obtain ⟨rfl, rfl⟩ := trodVars_none hV
  simp only [List.append_nil] at hfz hnd hW'
  have hlt : ∀ x ∈ p0 ++ p1, x.block < W.heap.size := fun x hx => hW'.lt x hx
  have h0k := h0
  obtain ⟨u0, rfl, hr0⟩ := open_url (hval 0 27 v0 rfl rfl) h0
  have h1k := h1
  obtain ⟨s1, e1, _, _, w1⟩ := open_string Tryz.underlying9 (hval 1 9 v1 rfl rfl) h1
  obtain ⟨l1, rfl⟩ := mkS_surj s1
  subst e1
  refine (JoinPath_c u0 l1 W hr0 (url_room h0k) (gl_of hsh) (tabs_laid hL)).mono fun e W' ⟨he, hb⟩ => ?_
  subst he
  refine ⟨_, rfl, _, _, _, [], p0 ++ p1, [], hW', ?_, ?_, ?_, hb.frame _, fun h => by cases h⟩
  · exact trodAll_mk1 (shut_bool Tryz.underlying4 _)
  · exact trodAll_mk2 (Below.trod laidOut (by kernel_rfl) (of_decide_eq_true (by kernel_rfl)) h0k hb (fun x hx => hlt x (by simp [hx]))) (Below.trod laidOut (by kernel_rfl) (of_decide_eq_true (by kernel_rfl)) h1k hb (fun x hx => hlt x (by simp [hx])))
  · rfl
theorem joinPath_k0 : Rows.joinPathRow.wf (OpenSpec.ofChange (OpenSpec.ofChange Rows.joinPathSpec).bare) = true := by kernel_rfl
theorem joinPath_k3 : Tryz.f7.params.all (PP.readableRec ·) = true := by kernel_rfl
theorem joinPath_k4 : namedTie PP Rows.joinPathRow.named (OpenSpec.ofChange Rows.joinPathSpec).bare.vars = true := by kernel_rfl
theorem joinPath_k5 : (Rows.joinPathRow.stops == []) = true := by kernel_rfl
theorem joinPath_k7 : (Rows.joinPathRow.knobs == []) = true := by kernel_rfl
theorem joinPath_k9 : (Rows.joinPathRow.inPlace == PP.inPlace 7) = true := by kernel_rfl
theorem joinPath_k10 : (Rows.joinPathRow.unfollowed == PP.unfollowed 7) = true := by kernel_rfl
theorem joinPath_k11 : (Rows.joinPathRow.recurses == PP.recurses 7) = true := by kernel_rfl
theorem joinPath_k12 : (Rows.joinPathRow.named == PP.varsNamed 7) = true := by kernel_rfl
theorem joinPath_k13 : (Rows.joinPathRow.maps == (Tryz.f7.params.toList ++ (OpenSpec.ofChange Rows.joinPathSpec).bare.plain.varTypes PP).any (PP.mapsRec ·)) = true := by kernel_rfl
theorem joinPath_k14 : (Rows.joinPathRow.ifaces == (Tryz.f7.params.toList ++ (OpenSpec.ofChange Rows.joinPathSpec).bare.plain.varTypes PP).any (PP.ifacesRec ·)) = true := by kernel_rfl
theorem joinPath_k15 : (Rows.joinPathRow.mapsOut == PP.mapsAmong Tryz.f7.resultTypes.toList) = true := by kernel_rfl
theorem joinPath_k16 : (Rows.joinPathRow.loops == (Tryz.f7.params.toList ++ (OpenSpec.ofChange Rows.joinPathSpec).bare.plain.varTypes PP).any (PP.loopsFrom ·)) = true := by kernel_rfl
theorem joinPath_k17 : (Rows.joinPathRow.wideKeys == (Tryz.f7.params.toList ++ (OpenSpec.ofChange Rows.joinPathSpec).bare.plain.varTypes PP ++ Tryz.f7.resultTypes.toList).any (PP.wideKeysFrom ·)) = true := by kernel_rfl
theorem joinPath_k18 : (OpenSpec.ofChange Rows.joinPathSpec).bare.vars.all (PP.varReadable ·) = true := by kernel_rfl
theorem joinPath_k19 : Tryz.f7.resultTypes.all (fun t => PP.readableRec t && decide (t < PP.types.size)) = true := by kernel_rfl
theorem joinPath_k20 : (Rows.joinPathRow.ifacesOut == Tryz.f7.resultTypes.toList.any (PP.ifacesRec ·)) = true := by kernel_rfl
theorem joinPath_k21 : (Rows.joinPathRow.loopsOut == Tryz.f7.resultTypes.toList.any (PP.loopsFrom ·)) = true := by kernel_rfl
theorem joinPath_k23 : Rows.joinPathRow.shortTexts.isNone = true := by kernel_rfl
theorem joinPath_k28 : (Rows.joinPathRow.kinds == (if Rows.joinPathRow.domain.isEmpty then [] else Tryz.f7.params.toList.map fun t => match PP.underlying t with | some (.int k) => some k | _ => none)) = true := by kernel_rfl
theorem joinPath_k29 : (Rows.joinPathRow.pinned == Rows.joinPathRow.pinnedBy) = true := by kernel_rfl
theorem joinPath_k30 : (Rows.joinPathRow.veiled == (Tryz.f7.params.toList ++ (OpenSpec.ofChange Rows.joinPathSpec).bare.plain.varTypes PP ++ Tryz.f7.resultTypes.toList).any (PP.veiledRec ·)) = true := by kernel_rfl
theorem joinPath_k31 : Rows.joinPathRow.veiledFits PP Tryz.f7.params.toList (Tryz.f7.params.toList ++ (OpenSpec.ofChange Rows.joinPathSpec).bare.plain.varTypes PP ++ Tryz.f7.resultTypes.toList) = true := by kernel_rfl
set_option maxRecDepth 100000 in
theorem joinPath_closed : joinedFacts PP 7 Tryz.f7 (OpenSpec.ofChange Rows.joinPathSpec).bare Rows.joinPathRow = true := and2 (and2 (and2 (and2 (and2 (and2 (and2 (and2 (and2 (and2 (and2 (and2 (and2 (and2 (and2 (and2 (and2 (and2 (and2 (and2 (and2 (and2 (and2 (and2 (and2 (and2 (and2 (and2 (and2 (and2 (and2 (joinPath_k0) j_laidOut) j_rowed) joinPath_k3) joinPath_k4) joinPath_k5) j_stops) joinPath_k7) j_knobs) joinPath_k9) joinPath_k10) joinPath_k11) joinPath_k12) joinPath_k13) joinPath_k14) joinPath_k15) joinPath_k16) joinPath_k17) joinPath_k18) joinPath_k19) joinPath_k20) joinPath_k21) j_plain) joinPath_k23) j_heard) j_enter) j_lift) j_make) joinPath_k28) joinPath_k29) joinPath_k30) joinPath_k31
theorem joinPath_named : Tryz.pinned.checked.prog.funcNamed Rows.joinPathRow.func = some 7 := by kernel_rfl
theorem joinPath_text : Rows.joinPathRow.wfByText (OpenSpec.ofChange Rows.joinPathSpec) = true := by kernel_rfl
theorem joinPath_goes : false = Rows.joinPathRow.goesBy Tryz.pinned.checked.prog := by kernel_rfl
theorem joinPath_said : Rows.JoinPathSaid :=
  OpenClaim.holds_of_cond 7 Tryz.f7 rfl rfl rfl rfl rfl rfl rfl ⟨rfl, rfl, rfl, rfl, rfl⟩ rfl rfl rfl rfl rfl joinPath_named Tryz.func7 joinPath_closed
    (of_decide_eq_true (by kernel_rfl)) (by unfold Func.isWrapper; first | (rw [if_pos (by decide +kernel)]; kernel_rfl) | (rw [if_neg (by decide +kernel)]; exact ⟨rfl, rfl⟩))
    (fun os started H enc _ F => by rw [OpenClaim.pre_eq_preRow]; exact joinPath_lifted os started H enc F)
theorem joinPath_plain (f : FuncId) (fn : Func) (hf : Tryz.pinned.checked.prog.funcNamed "postmark/postmarklaw11.JoinPath" = some f) (hfn : Tryz.pinned.checked.prog.funcs[f]? = some fn) :
    true = Tryz.pinned.checked.prog.looks [] ∧ ∀ (j : Nat) t, fn.params[j]? = some t → Tryz.pinned.checked.prog.wantsStandIn t = false := by
  obtain rfl : f = 7 := Option.some.inj ((show Tryz.prog.funcNamed "postmark/postmarklaw11.JoinPath" = some 7 by kernel_rfl).symm.trans hf) |>.symm
  obtain rfl : fn = Tryz.f7 := (Option.some.inj (Tryz.func7.symm.trans hfn)).symm
  refine ⟨by kernel_rfl, fun j t ht => ?_⟩
  rw [Tryz.params7] at ht
  have hm := Array.mem_of_getElem? ht
  simp only [Array.mem_def, List.mem_cons, List.not_mem_nil, or_false] at hm
  rcases hm with rfl | rfl
  · exact (show Tryz.prog.wantsStandIn 27 = false by kernel_rfl)
  · exact (show Tryz.prog.wantsStandIn 9 = false by kernel_rfl)
theorem joinPath_holds : Rows.JoinPathCardSaid :=
  Claim7.holds_tied_plain_at .later [] _ _ _ _ joinPath_said (fun _ h => by cases h) joinPath_text (fun _ h => by cases h) joinPath_row_tie rfl ⟨rfl, rfl⟩ j_main rfl joinPath_plain joinPath_goes
#print axioms joinPath_holds
end Go.Proofs.YtphigjogeejdjaaGreatDoor
