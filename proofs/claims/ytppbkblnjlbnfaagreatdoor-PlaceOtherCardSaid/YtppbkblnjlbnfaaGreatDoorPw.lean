import Derived.Test.YtppbkblnjlbnfaaGreatDoorPq
set_option linter.unusedVariables false
set_option linter.unusedSimpArgs false
/-! Contracts: place.Place, and whose the path's block is; boxes. -/
namespace Go.Proofs.YtppbkblnjlbnfaaGreatDoor
open Go.RowKit
/-- Addresses in boxes. -/
def Bx (L : List (Nat × UV)) (w W : World) : Prop := (∀ p ∈ L, W.heap[p.1]? = some (.cells p.2.cells 27 (0, 0)) ∧ p.2.Ok W) ∧ Below w.heap.size w W
theorem Bx.hp {L : List (Nat × UV)} {w W : World} (h : Bx L w W) {g : Nat} {v : UV} (hm : (g, v) ∈ L) : W.heap[g]? = some (.cells v.cells 27 (0, 0)) := (h.1 _ hm).1
theorem Bx.ok {L : List (Nat × UV)} {w W : World} (h : Bx L w W) {g : Nat} {v : UV} (hm : (g, v) ∈ L) : v.Ok W := (h.1 _ hm).2
theorem Bx.be {L : List (Nat × UV)} {w W : World} (h : Bx L w W) : Below w.heap.size w W := h.2
theorem Bx.below {L : List (Nat × UV)} {w W W' : World} (h : Bx L w W) (hb : Below W.heap.size W W') : Bx L w W' := ⟨fun p hp => ⟨heap_b hb (h.1 p hp).1, (h.1 p hp).2.below hb⟩, b_then h.2 hb⟩
theorem Bx.nil (w W : World) (h : Below w.heap.size w W) : Bx [] w W := ⟨fun _ hm => (by cases hm), h⟩
theorem Bx.cons {L : List (Nat × UV)} {w W : World} {g : Nat} {v : UV} (h : Bx L w W) (h1 : W.heap[g]? = some (.cells v.cells 27 (0, 0))) (h2 : v.Ok W) : Bx ((g, v) :: L) w W := ⟨fun p hp => by
  rcases List.mem_cons.1 hp with rfl | hp
  · exact ⟨h1, h2⟩
  · exact h.1 p hp, h.2⟩
/-- A path lies elsewhere than in block k. -/
def Nb (k : Nat) (u : UV) : Prop := ∀ g o, u.a = some ⟨g, o, none⟩ → u.xs ≠ [] → g ≠ k
theorem Ok_nb {u : UV} {W : World} {k : Nat} (h : u.Ok W) (hk : W.heap.size ≤ k) : Nb k u := fun g o e hx => by
  obtain ⟨b', o', e', hl, _⟩ := h.rd.at_.resolve_left hx
  rw [e] at e'
  cases e'
  omega
theorem Ok_rowN {v : UV} {W : World} {k : Nat} (h : v.Ok W) (hn : Nb k v) (cs : Array Value) : v.Ok (W.setRow k cs) :=
  ⟨h.sc, h.us, h.pa, h.n, h.op, h.qu, h.fr, h.xn, h.xl, h.rd.frame (by simp [World.setRow]) fun g' o e hx => by
    have := hn g' o e hx
    simp [World.setRow, Array.getElem?_modify, show k ≠ g' by omega]⟩
/-- Block k lies behind all that a world of V0's size had. -/
theorem Bx.far {L : List (Nat × UV)} {w V : World} (h : Bx L w V) {k : Nat} (hk : V.heap.size ≤ k) : (∀ p ∈ L, p.1 ≠ k ∧ Nb k p.2) ∧ w.heap.size ≤ k := ⟨fun p hp => ⟨by have := h_lt (h.1 p hp).1; omega, Ok_nb (h.1 p hp).2 hk⟩, Nat.le_trans h.2.size hk⟩
theorem Bx.row {L : List (Nat × UV)} {w W : World} (h : Bx L w W) {k : Nat} (cs : Array Value) (hk : (∀ p ∈ L, p.1 ≠ k ∧ Nb k p.2) ∧ w.heap.size ≤ k) : Bx L w (W.setRow k cs) :=
  ⟨fun p hp => ⟨(heap_setRow_other (hk.1 p hp).1.symm _).trans (h.1 p hp).1, Ok_rowN (h.1 p hp).2 (hk.1 p hp).2 _⟩, below_setRow h.2 hk.2 _⟩
set_option maxRecDepth 100000 in
set_option maxHeartbeats 8000000 in
theorem PlaceF_c (a : Option Addr) (n c : Nat) (l : PM.Fs) (cur : UV) (w : World) (h : RdFW w a n l) (hn : n ≤ 100000) (hl : ∀ f ∈ l, f.1.length ≤ 1000000 ∧ f.2.length ≤ 1000000) (hs : (PM.rawP l).1.length ≤ 30000) (hs2 : PM.whole (PM.rawP l).1 = false → (PM.rawP l).1.length ≤ 3000) (hp : ∀ u, PM.resolve cur.pm (PM.rawP l).1 = some u → u.path.length ≤ 10000) (hc : cur.Ok w) (hcn : cur.xs.length ≤ 900) (hg : Gl w) (hT : Lib.Utf8Tabs 2 3 w) :
    Calls Tryz.prog 33 #[.slice a n c, .agg cur.cells] w fun e w' => (∃ v : UV, e = .returned (.tuple #[.agg v.cells, .int .i64 (PM.placeP l cur.pm).2]) ∧ v.pm = (PM.placeP l cur.pm).1 ∧ v.Ok w' ∧ From w.heap.size v.a v.xs) ∧ Below w.heap.size w w' := by
  have HG := Lib.hid hg
  have HTB := Lib.hid hT
  have OC := Lib.hid hc
  have HR := Lib.hid h
  have HL := Lib.hid hl
  have hpl : PM.placeP l cur.pm = PM.placeOf (PM.rawP l) cur.pm := rfl
  have hnum : (PM.rawP l).2 = 0 ∨ (PM.rawP l).2 = 1 ∨ (PM.rawP l).2 = 2 := by
    have h := PM.rawOf_num (PM.allOf l PM.LOC)
    unfold PM.rawP
    rcases h with h | h | h <;> simp [h.1]
  have HRW : Hid (∀ W, Below w.heap.size w W → Calls Tryz.prog 40 #[.slice a n c] W fun e w' => e = .returned (.tuple #[.string (mkS (PM.rawP l).1), .int .i64 (PM.rawP l).2]) ∧ Below W.heap.size W w') := Lib.hid fun W hb => Raw_c a n c l W (h.below hb) hn hl
  clear hg hT hc h hl
  obtain ⟨⟨s, k⟩, hsk⟩ : ∃ x, PM.rawP l = x := ⟨_, rfl⟩
  rw [hsk] at HRW hpl hnum hs hs2 hp
  have HPL := Lib.hid hpl
  have HS := Lib.hid hs
  have HS2 := Lib.hid hs2
  have HP := Lib.hid hp
  clear hsk hpl hs hs2 hp
  dsimp only at HRW hnum HS HS2 HP
  rcases hnum with rfl | rfl | rfl
  · skip
    have HB : Hid (Below w.heap.size w ((w.alloc (.cells cur.cells 27)).alloc (.cells #[.string ⟨#[]⟩, .string ⟨#[]⟩, .string ⟨#[]⟩, .int .i64 0, .string ⟨#[]⟩, .int .i64 0, .int .i64 0, .int .i64 0, .int .i64 0, .int .i64 0, .int .i64 0, .int .i64 0, .int .i64 0, .int .i64 0, .int .i64 0, .slice none 0 0, .string ⟨#[]⟩, .string ⟨#[]⟩, .string ⟨#[]⟩, .bool false, .bool false] 27))) := Lib.hid (b_alloc (b_alloc (Below.refl _ _) _) _)
    have Hc : Hid (((w.alloc (.cells cur.cells 27)).alloc (.cells #[.string ⟨#[]⟩, .string ⟨#[]⟩, .string ⟨#[]⟩, .int .i64 0, .string ⟨#[]⟩, .int .i64 0, .int .i64 0, .int .i64 0, .int .i64 0, .int .i64 0, .int .i64 0, .int .i64 0, .int .i64 0, .int .i64 0, .int .i64 0, .slice none 0 0, .string ⟨#[]⟩, .string ⟨#[]⟩, .string ⟨#[]⟩, .bool false, .bool false] 27)).heap[w.heap.size]? = some (.cells cur.cells 27 (0, 0))) := Lib.hid (heap_b (b_alloc (Below.refl _ _) _) (by have h := Go.heap_alloc_new w (.cells cur.cells 27); simpa using h))
    have Hz : Hid (((w.alloc (.cells cur.cells 27)).alloc (.cells #[.string ⟨#[]⟩, .string ⟨#[]⟩, .string ⟨#[]⟩, .int .i64 0, .string ⟨#[]⟩, .int .i64 0, .int .i64 0, .int .i64 0, .int .i64 0, .int .i64 0, .int .i64 0, .int .i64 0, .int .i64 0, .int .i64 0, .int .i64 0, .slice none 0 0, .string ⟨#[]⟩, .string ⟨#[]⟩, .string ⟨#[]⟩, .bool false, .bool false] 27)).heap[w.heap.size + 1]? = some (.cells #[.string ⟨#[]⟩, .string ⟨#[]⟩, .string ⟨#[]⟩, .int .i64 0, .string ⟨#[]⟩, .int .i64 0, .int .i64 0, .int .i64 0, .int .i64 0, .int .i64 0, .int .i64 0, .int .i64 0, .int .i64 0, .int .i64 0, .int .i64 0, .slice none 0 0, .string ⟨#[]⟩, .string ⟨#[]⟩, .string ⟨#[]⟩, .bool false, .bool false] 27 (0, 0))) := Lib.hid ((by have h := Go.heap_alloc_new (w.alloc (.cells cur.cells 27)) (.cells #[.string ⟨#[]⟩, .string ⟨#[]⟩, .string ⟨#[]⟩, .int .i64 0, .string ⟨#[]⟩, .int .i64 0, .int .i64 0, .int .i64 0, .int .i64 0, .int .i64 0, .int .i64 0, .int .i64 0, .int .i64 0, .int .i64 0, .int .i64 0, .slice none 0 0, .string ⟨#[]⟩, .string ⟨#[]⟩, .string ⟨#[]⟩, .bool false, .bool false] 27); simpa using h))
    go_enter Tryz.func33, Tryz.ntmps33
    go_upto_region 1 with fail
    generalize (w.alloc (.cells cur.cells 27)).alloc (.cells #[.string ⟨#[]⟩, .string ⟨#[]⟩, .string ⟨#[]⟩, .int .i64 0, .string ⟨#[]⟩, .int .i64 0, .int .i64 0, .int .i64 0, .int .i64 0, .int .i64 0, .int .i64 0, .int .i64 0, .int .i64 0, .int .i64 0, .int .i64 0, .slice none 0 0, .string ⟨#[]⟩, .string ⟨#[]⟩, .string ⟨#[]⟩, .bool false, .bool false] 27) = V0 at HB Hc Hz ⊢
    generalize hbz : w.heap.size + 1 = bz at Hz ⊢
    have hlw_bz : w.heap.size ≤ bz := by omega
    have hne_z_c : w.heap.size < bz := by omega
    clear hbz
    replace OC := Lib.hid (OC.out.below HB.out)
    go_wp2_with fail
    refine (HRW.out _ HB.out).mono ?_
    rintro e V1 ⟨rfl, hb⟩
    replace HB := Lib.hid (b_then HB.out hb)
    replace Hz := Lib.hid (obj_b hb Hz.out)
    replace Hc := Lib.hid (obj_b hb Hc.out)
    replace OC := Lib.hid (OC.out.below hb)
    clear hb
    go_wp2_with (first | go_skip | (refine wpList_store_row rfl 27 _ _ rfl bz uz.cells rfl rfl 27 _ Hz.out (by kernel_rfl) rfl (agg_one uz) ?_))
    refine bodyPost_ret (results_cell_tmp (fr := (0, 0)) rfl _ _ bz 27 uz.cells _ rfl (heap_setRow Hz.out _) Tryz.underlying27 rfl (by kernel_rfl)) rfl ?_
    exact ⟨⟨uz, by rw [HPL.out]; rfl, by rw [HPL.out]; rfl, zero_ok _, fun g o e hx => absurd rfl hx⟩, below_setRow HB.out hlw_bz _⟩
  · skip
    have HB : Hid (Below w.heap.size w ((w.alloc (.cells cur.cells 27)).alloc (.cells #[.string ⟨#[]⟩, .string ⟨#[]⟩, .string ⟨#[]⟩, .int .i64 0, .string ⟨#[]⟩, .int .i64 0, .int .i64 0, .int .i64 0, .int .i64 0, .int .i64 0, .int .i64 0, .int .i64 0, .int .i64 0, .int .i64 0, .int .i64 0, .slice none 0 0, .string ⟨#[]⟩, .string ⟨#[]⟩, .string ⟨#[]⟩, .bool false, .bool false] 27))) := Lib.hid (b_alloc (b_alloc (Below.refl _ _) _) _)
    have Hc : Hid (((w.alloc (.cells cur.cells 27)).alloc (.cells #[.string ⟨#[]⟩, .string ⟨#[]⟩, .string ⟨#[]⟩, .int .i64 0, .string ⟨#[]⟩, .int .i64 0, .int .i64 0, .int .i64 0, .int .i64 0, .int .i64 0, .int .i64 0, .int .i64 0, .int .i64 0, .int .i64 0, .int .i64 0, .slice none 0 0, .string ⟨#[]⟩, .string ⟨#[]⟩, .string ⟨#[]⟩, .bool false, .bool false] 27)).heap[w.heap.size]? = some (.cells cur.cells 27 (0, 0))) := Lib.hid (heap_b (b_alloc (Below.refl _ _) _) (by have h := Go.heap_alloc_new w (.cells cur.cells 27); simpa using h))
    have Hz : Hid (((w.alloc (.cells cur.cells 27)).alloc (.cells #[.string ⟨#[]⟩, .string ⟨#[]⟩, .string ⟨#[]⟩, .int .i64 0, .string ⟨#[]⟩, .int .i64 0, .int .i64 0, .int .i64 0, .int .i64 0, .int .i64 0, .int .i64 0, .int .i64 0, .int .i64 0, .int .i64 0, .int .i64 0, .slice none 0 0, .string ⟨#[]⟩, .string ⟨#[]⟩, .string ⟨#[]⟩, .bool false, .bool false] 27)).heap[w.heap.size + 1]? = some (.cells #[.string ⟨#[]⟩, .string ⟨#[]⟩, .string ⟨#[]⟩, .int .i64 0, .string ⟨#[]⟩, .int .i64 0, .int .i64 0, .int .i64 0, .int .i64 0, .int .i64 0, .int .i64 0, .int .i64 0, .int .i64 0, .int .i64 0, .int .i64 0, .slice none 0 0, .string ⟨#[]⟩, .string ⟨#[]⟩, .string ⟨#[]⟩, .bool false, .bool false] 27 (0, 0))) := Lib.hid ((by have h := Go.heap_alloc_new (w.alloc (.cells cur.cells 27)) (.cells #[.string ⟨#[]⟩, .string ⟨#[]⟩, .string ⟨#[]⟩, .int .i64 0, .string ⟨#[]⟩, .int .i64 0, .int .i64 0, .int .i64 0, .int .i64 0, .int .i64 0, .int .i64 0, .int .i64 0, .int .i64 0, .int .i64 0, .int .i64 0, .slice none 0 0, .string ⟨#[]⟩, .string ⟨#[]⟩, .string ⟨#[]⟩, .bool false, .bool false] 27); simpa using h))
    go_enter Tryz.func33, Tryz.ntmps33
    go_upto_region 1 with fail
    generalize (w.alloc (.cells cur.cells 27)).alloc (.cells #[.string ⟨#[]⟩, .string ⟨#[]⟩, .string ⟨#[]⟩, .int .i64 0, .string ⟨#[]⟩, .int .i64 0, .int .i64 0, .int .i64 0, .int .i64 0, .int .i64 0, .int .i64 0, .int .i64 0, .int .i64 0, .int .i64 0, .int .i64 0, .slice none 0 0, .string ⟨#[]⟩, .string ⟨#[]⟩, .string ⟨#[]⟩, .bool false, .bool false] 27) = V0 at HB Hc Hz ⊢
    generalize hbz : w.heap.size + 1 = bz at Hz ⊢
    have hlw_bz : w.heap.size ≤ bz := by omega
    have hne_z_c : w.heap.size < bz := by omega
    clear hbz
    replace OC := Lib.hid (OC.out.below HB.out)
    go_wp2_with fail
    refine (HRW.out _ HB.out).mono ?_
    rintro e V1 ⟨rfl, hb⟩
    replace HB := Lib.hid (b_then HB.out hb)
    replace Hz := Lib.hid (obj_b hb Hz.out)
    replace Hc := Lib.hid (obj_b hb Hc.out)
    replace OC := Lib.hid (OC.out.below hb)
    clear hb
    obtain ⟨o, ho⟩ : ∃ o, PM.resolve cur.pm s = o := ⟨_, rfl⟩
    have hpl2 : PM.placeP l cur.pm = PM.afterP (PM.resolve cur.pm s) cur.pm := HPL.out.trans (PM.placeOf_one s cur.pm)
    rw [ho] at hpl2
    have HPL2 := Lib.hid hpl2
    have HO := Lib.hid ho
    clear hpl2 ho HPL
    cases o with
    | none =>
      go_wp2_with (first | go_skip | (refine wpList_load_g 27 _ rfl (by kernel_rfl) w.heap.size rfl Hc.out Tryz.underlying27 rfl (by kernel_rfl) ?_))
      refine (Resolve2_c cur s _ HS.out HS2.out OC.out hcn (HG.out.below HB.out) (tabs_below HTB.out HB.out)).mono ?_
      rintro e V2 ⟨hp, hb⟩
      obtain ⟨u, rfl, hxp, hxo⟩ := parse_no hp HO.out
      have Pu := Lib.hid hxp
      have Ou := Lib.hid hxo
      clear hp hxp hxo
      replace HB := Lib.hid (b_then HB.out hb)
      replace Hz := Lib.hid (obj_b hb Hz.out)
      replace Hc := Lib.hid (obj_b hb Hc.out)
      replace OC := Lib.hid (OC.out.below hb)
      clear hb
      have HN := Lib.hid (Go.heap_alloc_new V2 (.cells zurl 27))
      unfold zurl at HN 
      go_upto_region 5 with (first | (refine wpList_store_row rfl 27 _ _ rfl V2.heap.size u.cells rfl rfl 27 _ HN.out (by kernel_rfl) rfl (agg_one u) ?_))
      obtain ⟨V3, hV⟩ : ∃ V3, V3 = (V2.alloc (.cells #[.string ⟨#[]⟩, .string ⟨#[]⟩, .string ⟨#[]⟩, .int .i64 0, .string ⟨#[]⟩, .int .i64 0, .int .i64 0, .int .i64 0, .int .i64 0, .int .i64 0, .int .i64 0, .int .i64 0, .int .i64 0, .int .i64 0, .int .i64 0, .slice none 0 0, .string ⟨#[]⟩, .string ⟨#[]⟩, .string ⟨#[]⟩, .bool false, .bool false] 27)).setRow V2.heap.size u.cells := ⟨_, rfl⟩
      have hN : V3.heap[V2.heap.size]? = some (.cells u.cells 27 (0, 0)) := by rw [hV]; exact heap_setRow HN.out _
      have hb : Below V2.heap.size V2 V3 := by rw [hV]; exact below_setRow (b_alloc (Below.refl _ _) _) (Nat.le_refl _) _
      rw [← hV]
      clear hV HN 
      have Hu := Lib.hid hN
      clear hN
      have hlt_ku_Hz : bz < V2.heap.size := h_lt Hz.out
      have hlt_ku_Hc : w.heap.size < V2.heap.size := h_lt Hc.out
      have hlw_ku : w.heap.size ≤ V2.heap.size := HB.out.size
      replace HB := Lib.hid (b_then HB.out hb)
      replace Hz := Lib.hid (obj_b hb Hz.out)
      replace Hc := Lib.hid (obj_b hb Hc.out)
      replace OC := Lib.hid (OC.out.below hb)
      replace Ou := Lib.hid (Ou.out.below hb)
      clear hb
      generalize V2.heap.size = ku at Hu hlt_ku_Hz hlt_ku_Hc hlw_ku ⊢
      (try simp only [Act.put])
      replace HPL : Hid (PM.placeP l cur.pm = (PM.zeroUrl, 2)) := Lib.hid HPL2.out
      go_wp2_with (first | go_skip | (refine wpList_store_row rfl 27 _ _ rfl bz uz.cells rfl rfl 27 _ Hz.out (by kernel_rfl) rfl (agg_one uz) ?_))
      refine bodyPost_ret (results_cell_tmp (fr := (0, 0)) rfl _ _ bz 27 uz.cells _ rfl (heap_setRow Hz.out _) Tryz.underlying27 rfl (by kernel_rfl)) rfl ?_
      exact ⟨⟨uz, by rw [HPL.out]; rfl, by rw [HPL.out]; rfl, zero_ok _, fun g o e hx => absurd rfl hx⟩, below_setRow HB.out hlw_bz _⟩
    | some p =>
      go_wp2_with (first | go_skip | (refine wpList_load_g 27 _ rfl (by kernel_rfl) w.heap.size rfl Hc.out Tryz.underlying27 rfl (by kernel_rfl) ?_))
      refine (Resolve2_c cur s _ HS.out HS2.out OC.out hcn (HG.out.below HB.out) (tabs_below HTB.out HB.out)).mono ?_
      rintro e V2 ⟨hp, hb⟩
      obtain ⟨u, rfl, hxp, hxo⟩ := parse_ok hp HO.out (HP.out _ HO.out)
      have Pu := Lib.hid hxp
      have Ou := Lib.hid hxo
      clear hp hxp hxo
      replace HB := Lib.hid (b_then HB.out hb)
      replace Hz := Lib.hid (obj_b hb Hz.out)
      replace Hc := Lib.hid (obj_b hb Hc.out)
      replace OC := Lib.hid (OC.out.below hb)
      clear hb
      have HN := Lib.hid (Go.heap_alloc_new V2 (.cells zurl 27))
      unfold zurl at HN 
      go_upto_region 5 with (first | (refine wpList_store_row rfl 27 _ _ rfl V2.heap.size u.cells rfl rfl 27 _ HN.out (by kernel_rfl) rfl (agg_one u) ?_))
      obtain ⟨V3, hV⟩ : ∃ V3, V3 = (V2.alloc (.cells #[.string ⟨#[]⟩, .string ⟨#[]⟩, .string ⟨#[]⟩, .int .i64 0, .string ⟨#[]⟩, .int .i64 0, .int .i64 0, .int .i64 0, .int .i64 0, .int .i64 0, .int .i64 0, .int .i64 0, .int .i64 0, .int .i64 0, .int .i64 0, .slice none 0 0, .string ⟨#[]⟩, .string ⟨#[]⟩, .string ⟨#[]⟩, .bool false, .bool false] 27)).setRow V2.heap.size u.cells := ⟨_, rfl⟩
      have hN : V3.heap[V2.heap.size]? = some (.cells u.cells 27 (0, 0)) := by rw [hV]; exact heap_setRow HN.out _
      have hb : Below V2.heap.size V2 V3 := by rw [hV]; exact below_setRow (b_alloc (Below.refl _ _) _) (Nat.le_refl _) _
      rw [← hV]
      clear hV HN 
      have Hu := Lib.hid hN
      clear hN
      have hlt_ku_Hz : bz < V2.heap.size := h_lt Hz.out
      have hlt_ku_Hc : w.heap.size < V2.heap.size := h_lt Hc.out
      have hlw_ku : w.heap.size ≤ V2.heap.size := HB.out.size
      replace HB := Lib.hid (b_then HB.out hb)
      replace Hz := Lib.hid (obj_b hb Hz.out)
      replace Hc := Lib.hid (obj_b hb Hc.out)
      replace OC := Lib.hid (OC.out.below hb)
      replace Ou := Lib.hid (Ou.out.below hb)
      clear hb
      generalize V2.heap.size = ku at Hu hlt_ku_Hz hlt_ku_Hc hlw_ku ⊢
      (try simp only [Act.put])
      go_wp2_with (first | go_skip | (refine wpList_load_g 27 _ rfl (by kernel_rfl) ku rfl Hu.out Tryz.underlying27 rfl (by kernel_rfl) ?_) | (refine wpList_load_g 27 _ rfl (by kernel_rfl) w.heap.size rfl Hc.out Tryz.underlying27 rfl (by kernel_rfl) ?_))
      refine (Inherit_c u cur _ Ou.out OC.out.fr).mono ?_
      rintro e V4 ⟨v, rfl, hvp, hvo, hvf, -, hb⟩
      have Pv := Lib.hid hvp
      have Ov := Lib.hid hvo
      have hzl := h_lt Hz.out
      have hwv := HB.out.size
      have Fv := Lib.hid hvf
      clear hvp hvo hvf
      replace HB := Lib.hid (b_then HB.out hb)
      replace Hz := Lib.hid (obj_b hb Hz.out)
      replace Hc := Lib.hid (obj_b hb Hc.out)
      replace Hu := Lib.hid (obj_b hb Hu.out)
      replace OC := Lib.hid (OC.out.below hb)
      replace Ou := Lib.hid (Ou.out.below hb)
      clear hb
      go_wp2_with (first | go_skip | (refine wpList_store_row rfl 27 _ _ rfl bz v.cells rfl rfl 27 _ Hz.out (by kernel_rfl) rfl (agg_one v) ?_))
      refine bodyPost_ret (results_cell_tmp (fr := (0, 0)) rfl _ _ bz 27 v.cells _ rfl (heap_setRow Hz.out _) Tryz.underlying27 rfl (by kernel_rfl)) rfl ?_
      exact ⟨⟨v, by rw [HPL2.out]; rfl, by rw [HPL2.out, Pv.out, Pu.out]; rfl, Ok_setRow Ov.out Fv.out hzl _, fun g o e hx => Nat.le_trans hwv (Fv.out g o e hx)⟩, below_setRow HB.out hlw_bz _⟩
  · skip
    have HB : Hid (Below w.heap.size w ((w.alloc (.cells cur.cells 27)).alloc (.cells #[.string ⟨#[]⟩, .string ⟨#[]⟩, .string ⟨#[]⟩, .int .i64 0, .string ⟨#[]⟩, .int .i64 0, .int .i64 0, .int .i64 0, .int .i64 0, .int .i64 0, .int .i64 0, .int .i64 0, .int .i64 0, .int .i64 0, .int .i64 0, .slice none 0 0, .string ⟨#[]⟩, .string ⟨#[]⟩, .string ⟨#[]⟩, .bool false, .bool false] 27))) := Lib.hid (b_alloc (b_alloc (Below.refl _ _) _) _)
    have Hc : Hid (((w.alloc (.cells cur.cells 27)).alloc (.cells #[.string ⟨#[]⟩, .string ⟨#[]⟩, .string ⟨#[]⟩, .int .i64 0, .string ⟨#[]⟩, .int .i64 0, .int .i64 0, .int .i64 0, .int .i64 0, .int .i64 0, .int .i64 0, .int .i64 0, .int .i64 0, .int .i64 0, .int .i64 0, .slice none 0 0, .string ⟨#[]⟩, .string ⟨#[]⟩, .string ⟨#[]⟩, .bool false, .bool false] 27)).heap[w.heap.size]? = some (.cells cur.cells 27 (0, 0))) := Lib.hid (heap_b (b_alloc (Below.refl _ _) _) (by have h := Go.heap_alloc_new w (.cells cur.cells 27); simpa using h))
    have Hz : Hid (((w.alloc (.cells cur.cells 27)).alloc (.cells #[.string ⟨#[]⟩, .string ⟨#[]⟩, .string ⟨#[]⟩, .int .i64 0, .string ⟨#[]⟩, .int .i64 0, .int .i64 0, .int .i64 0, .int .i64 0, .int .i64 0, .int .i64 0, .int .i64 0, .int .i64 0, .int .i64 0, .int .i64 0, .slice none 0 0, .string ⟨#[]⟩, .string ⟨#[]⟩, .string ⟨#[]⟩, .bool false, .bool false] 27)).heap[w.heap.size + 1]? = some (.cells #[.string ⟨#[]⟩, .string ⟨#[]⟩, .string ⟨#[]⟩, .int .i64 0, .string ⟨#[]⟩, .int .i64 0, .int .i64 0, .int .i64 0, .int .i64 0, .int .i64 0, .int .i64 0, .int .i64 0, .int .i64 0, .int .i64 0, .int .i64 0, .slice none 0 0, .string ⟨#[]⟩, .string ⟨#[]⟩, .string ⟨#[]⟩, .bool false, .bool false] 27 (0, 0))) := Lib.hid ((by have h := Go.heap_alloc_new (w.alloc (.cells cur.cells 27)) (.cells #[.string ⟨#[]⟩, .string ⟨#[]⟩, .string ⟨#[]⟩, .int .i64 0, .string ⟨#[]⟩, .int .i64 0, .int .i64 0, .int .i64 0, .int .i64 0, .int .i64 0, .int .i64 0, .int .i64 0, .int .i64 0, .int .i64 0, .int .i64 0, .slice none 0 0, .string ⟨#[]⟩, .string ⟨#[]⟩, .string ⟨#[]⟩, .bool false, .bool false] 27); simpa using h))
    go_enter Tryz.func33, Tryz.ntmps33
    go_upto_region 1 with fail
    generalize (w.alloc (.cells cur.cells 27)).alloc (.cells #[.string ⟨#[]⟩, .string ⟨#[]⟩, .string ⟨#[]⟩, .int .i64 0, .string ⟨#[]⟩, .int .i64 0, .int .i64 0, .int .i64 0, .int .i64 0, .int .i64 0, .int .i64 0, .int .i64 0, .int .i64 0, .int .i64 0, .int .i64 0, .slice none 0 0, .string ⟨#[]⟩, .string ⟨#[]⟩, .string ⟨#[]⟩, .bool false, .bool false] 27) = V0 at HB Hc Hz ⊢
    generalize hbz : w.heap.size + 1 = bz at Hz ⊢
    have hlw_bz : w.heap.size ≤ bz := by omega
    have hne_z_c : w.heap.size < bz := by omega
    clear hbz
    replace OC := Lib.hid (OC.out.below HB.out)
    go_wp2_with fail
    refine (HRW.out _ HB.out).mono ?_
    rintro e V1 ⟨rfl, hb⟩
    replace HB := Lib.hid (b_then HB.out hb)
    replace Hz := Lib.hid (obj_b hb Hz.out)
    replace Hc := Lib.hid (obj_b hb Hc.out)
    replace OC := Lib.hid (OC.out.below hb)
    clear hb
    go_wp2_with (first | go_skip | (refine wpList_store_row rfl 27 _ _ rfl bz uz.cells rfl rfl 27 _ Hz.out (by kernel_rfl) rfl (agg_one uz) ?_))
    refine bodyPost_ret (results_cell_tmp (fr := (0, 0)) rfl _ _ bz 27 uz.cells _ rfl (heap_setRow Hz.out _) Tryz.underlying27 rfl (by kernel_rfl)) rfl ?_
    exact ⟨⟨uz, by rw [HPL.out]; rfl, by rw [HPL.out]; rfl, zero_ok _, fun g o e hx => absurd rfl hx⟩, below_setRow HB.out hlw_bz _⟩
theorem PlaceF_sm_c (a : Option Addr) (n c : Nat) (l : PM.Fs) (cur : UV) (w : World) (h : RdFW w a n l) (hn : n ≤ 1000) (hl : ∀ f ∈ l, f.1.length ≤ 1000 ∧ f.2.length ≤ 1000) (hc : cur.Ok w) (hcn : cur.xs.length ≤ 900) (hg : Gl w) (hT : Lib.Utf8Tabs 2 3 w) :
    Calls Tryz.prog 33 #[.slice a n c, .agg cur.cells] w fun e w' => (∃ v : UV, e = .returned (.tuple #[.agg v.cells, .int .i64 (PM.placeP l cur.pm).2]) ∧ v.pm = (PM.placeP l cur.pm).1 ∧ v.Ok w' ∧ From w.heap.size v.a v.xs) ∧ Below w.heap.size w w' := by
  have hr := raw_len (m := 1000) fun f hf => (hl f hf).2
  exact PlaceF_c a n c l cur w h (by omega) (fun f hf => ⟨Nat.le_trans (hl f hf).1 (by decide), Nat.le_trans (hl f hf).2 (by decide)⟩) (by omega) (fun _ => by omega) (fun u hu => res_path hu (by omega) hcn hc.xl) hc hcn hg hT
end Go.Proofs.YtppbkblnjlbnfaaGreatDoor
