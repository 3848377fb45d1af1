import Derived.Test.YtppbkblnjlbnfaaGreatDoorC19
import Derived.Test.YtppbkblnjlbnfaaGreatDoorC20
import Derived.Test.YtppbkblnjlbnfaaGreatDoorLaw1
/-! Contract: show.Show. -/
set_option linter.unusedVariables false
set_option linter.unusedSimpArgs false
namespace Go.Proofs.YtppbkblnjlbnfaaGreatDoor
open Go.RowKit
theorem UrlAt.of_heap {W : World} {b : Nat} {u : UV} {T : TypeId} (h : W.heap[b]? = some (.cells u.cells T (0, 0))) : UrlAt W b u := by
  unfold UV.cells at h
  refine ⟨?_, ?_, ?_, ?_, ?_, ?_, ?_, ?_, ?_, ?_, ?_, ?_, ?_, ?_, ?_, ?_, ?_, ?_, ?_, ?_, ?_⟩ <;> (rw [Lib.cell_of_heap h]; rfl)
theorem heap_b {w W : World} (hb : Below w.heap.size w W) {b : Nat} {o : Obj} (h : w.heap[b]? = some o) : W.heap[b]? = some o := (hb.block b (Array.getElem?_eq_some_iff.1 h).1).trans h
/-- Where show.Show stands: the address, the builder with what is written, the function that writes. -/
structure SW (u : UV) (w W : World) (B b q : Nat) (l : List UInt8) (k : Nat) : Prop where
  url : W.heap[B]? = some (.cells u.cells 27 (0, 0))
  fn : W.heap[q]? = some (.cells #[.func (.func 64) #[.pointer (some ⟨b, 0, none⟩)] #[]] 93 (0, 0))
  bl : ∃ r, Bldr b r l W
  be : Below w.heap.size w W
  lb : w.heap.size ≤ B
  hb : B < b
  hq : b < q
  ln : l.length ≤ k * 100000000000
theorem SW.at_ {u : UV} {w W : World} {B b q k : Nat} {l : List UInt8} (h : SW u w W B b q l k) : UrlAt W B u := .of_heap h.url
theorem SW.below {u : UV} {w W W' : World} {B b q k : Nat} {l : List UInt8} (h : SW u w W B b q l k) (hb : Below W.heap.size W W') : SW u w W' B b q l k :=
  ⟨heap_b hb h.url, heap_b hb h.fn, let ⟨r, hr⟩ := h.bl; ⟨r, hr.keep hb⟩, b_then h.be hb, h.lb, h.hb, h.hq, h.ln⟩
theorem SW.drew {u : UV} {w W : World} {B b q k : Nat} {l : List UInt8} (h : SW u w W B b q l k) : SW u w W.drew B b q l k := h.below (b_drew (Below.refl _ _))
theorem when_s {u : UV} {w W : World} {B b q k : Nat} {l : List UInt8} (h : SW u w W B b q l k) (is : Bool) (parts : List (List UInt8)) (hl : ∀ s ∈ parts, s.length ≤ 20000000000) (hn : parts.length ≤ 3) (hk : k ≤ 50) :
    Calls Tryz.prog 65 #[.bool is, .slice (some ⟨W.heap.size, 0, none⟩) parts.length parts.length, .pointer (some ⟨q, 0, none⟩)] (W.alloc (.cells (strs parts).toArray 9)) fun e w' => e = .returned (.tuple #[]) ∧ SW u w w' B b q (l ++ PM.when is parts) (k + 1) := by
  obtain ⟨r, hB⟩ := h.bl
  have hql := h_lt h.fn
  have hbl := hB.lt
  have hq' := h.hq
  have hb' := h.hb
  have hlb := h.lb
  have hln := h.ln
  have hwl := when_len is parts hl
  have hll : l.length ≤ 10000000000000 := by omega
  have hal : Below W.heap.size W (W.alloc (.cells (strs parts).toArray 9)) := b_alloc (Below.refl _ _) _
  refine (when_c is parts hl hn W.heap.size q b parts.length r l hll _ (hB.keep hal) (heap_alloc_new _ _) (by omega) 93 (by decide) (heap_b hal h.fn) (by omega)).mono ?_
  rintro e w' ⟨rfl, r', hB', hF, hBe⟩
  exact ⟨rfl, ⟨hF.cells (heap_b hal h.url) (by decide) (by omega), hF.cells (heap_b hal h.fn) (by decide) (by omega), ⟨r', hB'⟩, (b_then h.be hal).trans (hBe.mono (by omega)), hlb, hb', hq', by rw [List.length_append]; omega⟩⟩
theorem when_1 {u : UV} {w W : World} {B b q k : Nat} {l : List UInt8} (h : SW u w W B b q l k) (is : Bool) (s1 : List UInt8) (h1 : s1.length ≤ 20000000000) (hk : k ≤ 50) (g : Nat) (hg : g = W.heap.size) :
    Calls Tryz.prog 65 #[.bool is, .slice (some ⟨g, 0, none⟩) 1 1, .pointer (some ⟨q, 0, none⟩)] (W.alloc (.cells #[.string (mkS s1)] 9)) fun e w' => e = .returned (.tuple #[]) ∧ SW u w w' B b q (l ++ PM.when is [s1]) (k + 1) := by
  subst hg
  exact when_s h is [s1] (by simp; exact h1) (by simp) hk
theorem when_2 {u : UV} {w W : World} {B b q k : Nat} {l : List UInt8} (h : SW u w W B b q l k) (is : Bool) (s1 s2 : List UInt8) (h1 : s1.length ≤ 20000000000) (h2 : s2.length ≤ 20000000000) (hk : k ≤ 50) (g : Nat) (hg : g = W.heap.size) :
    Calls Tryz.prog 65 #[.bool is, .slice (some ⟨g, 0, none⟩) 2 2, .pointer (some ⟨q, 0, none⟩)] (W.alloc (.cells #[.string (mkS s1), .string (mkS s2)] 9)) fun e w' => e = .returned (.tuple #[]) ∧ SW u w w' B b q (l ++ PM.when is [s1, s2]) (k + 1) := by
  subst hg
  exact when_s h is [s1, s2] (by simp; exact ⟨h1, h2⟩) (by simp) hk
theorem when_3 {u : UV} {w W : World} {B b q k : Nat} {l : List UInt8} (h : SW u w W B b q l k) (is : Bool) (s1 s2 s3 : List UInt8) (h1 : s1.length ≤ 20000000000) (h2 : s2.length ≤ 20000000000) (h3 : s3.length ≤ 20000000000) (hk : k ≤ 50) (g : Nat) (hg : g = W.heap.size) :
    Calls Tryz.prog 65 #[.bool is, .slice (some ⟨g, 0, none⟩) 3 3, .pointer (some ⟨q, 0, none⟩)] (W.alloc (.cells #[.string (mkS s1), .string (mkS s2), .string (mkS s3)] 9)) fun e w' => e = .returned (.tuple #[]) ∧ SW u w w' B b q (l ++ PM.when is [s1, s2, s3]) (k + 1) := by
  subst hg
  exact when_s h is [s1, s2, s3] (by simp; exact ⟨h1, h2, h3⟩) (by simp) hk
theorem yield_row {P : Program} {o : Oper} {a : Act} {W : World} (ty : TypeId) (x : Operand) (ho : o.op = .load ty x) (g : Nat) (hx : a.eval x = .pointer (some ⟨g, 0, none⟩)) {t : TypeId} {cs : Array Value} {fr : Nat × Nat} {d : TypeDesc} (hg : W.heap[g]? = some (.cells cs t fr))
    (hu : P.underlying ty = some d) (hd : (match d with | .struct _ | .array _ _ => true | _ => false) = true) (hi : (P.info? ty).map (·.size) = some cs.size) : (execOp a.eval o).run P W = .ok (.value (.agg cs)) W := by
  unfold execOp
  simp only [ho, hx, Instr.loadAt, Instr.sureAddr, Sem.run_bind, Sem.run_pure, Result.andThen_ok, run_loadVar_row W g t ty cs fr d hg hu hd hi]
theorem door_len (u : UV) (hn : u.n.length ≤ 1000000) : (PM.door u.pm).length ≤ 20000000000 := by
  have h1 := hostShow_len u.host hn rfl
  have h2 : (PM.digs u.port.toNat).length ≤ 20 := by unfold PM.digs PM.rdig; rw [List.length_reverse]; exact rdigF_len _ _
  unfold PM.door
  split
  · simp
  · split
    · exact Nat.le_trans h1 (by decide)
    · rw [List.length_append, List.length_cons]
      have h1' : (PM.hostShow u.pm.host).length ≤ 2000000 := h1
      have h2' : (PM.digs u.pm.port.toNat).length ≤ 20 := h2
      omega
theorem pathShow_len (xs : List (List UInt8)) (hn : xs.length ≤ 10000) (hl : ∀ s ∈ xs, s.length ≤ 1000000) : (PM.pathShow xs).length ≤ 20000000000 := by
  have : (PM.pathShow xs).length ≤ xs.length * 1000001 := by
    clear hn
    induction xs with
    | nil => simp [PM.pathShow]
    | cons x r ih =>
      have h1 := hl x (by simp)
      have := ih (fun s hs => hl s (by simp [hs]))
      simp only [PM.pathShow, List.flatMap_cons, List.length_append, List.length_cons] at *
      omega
  omega
set_option maxRecDepth 100000 in
set_option maxHeartbeats 1000000 in
theorem showUrl_c (u : UV) (w : World) (hu : u.Ok w) (hg : Gl w) : Calls Tryz.prog 38 #[.agg u.cells] w fun e w' => e = .returned (.string (mkS (PM.showUrl u.pm))) ∧ Below w.heap.size w w' := by
  have hH : (w.alloc (.cells u.cells 27)).heap[w.heap.size]? = some (.cells u.cells 27) := heap_alloc_new _ _
  have hB : Below w.heap.size w (w.alloc (.cells u.cells 27)) := b_alloc (Below.refl _ _) _
  have HH := Lib.hid hH
  have HB := Lib.hid hB
  have HM := Lib.hid (urlMay_c u)
  have HU := Lib.hid hu
  have HG := Lib.hid hg
  clear hu hg hH hB
  have hsz := Lib.hid (World.size_alloc w (.cells u.cells 27))
  unfold UV.cells
  go_enter Tryz.func38, Tryz.ntmps38
  go_upto_region 1 with fail
  have e0 : w.alloc (.cells u.cells 27) = w.alloc (.cells #[.string (mkS u.sc), .string (mkS u.us), .string (mkS u.pa), .int .i64 u.k, .string (mkS u.n), .int .i64 u.m, .int .i64 u.s0, .int .i64 u.s1, .int .i64 u.s2, .int .i64 u.s3, .int .i64 u.s4, .int .i64 u.s5, .int .i64 u.s6, .int .i64 u.s7, .int .i64 u.port, .slice u.a u.pn u.pc, .string (mkS u.op), .string (mkS u.qu), .string (mkS u.fr), .bool u.hq, .bool u.hf] 27) := rfl
  rw [← e0]
  clear e0
  generalize w.alloc (.cells u.cells 27) = V0 at HH HB hsz ⊢
  go_wp2_with (refine wpList_load_row rfl 27 _ rfl w.heap.size rfl 27 _ (0, 0) _ HH.out Tryz.underlying27 rfl (by kernel_rfl) ?_)
  refine (HM.out _ (HU.out.below HB.out) (HG.out.below HB.out)).mono ?_
  have hd : PM.showUrl u.pm = (if !PM.urlMay u.pm then [] else PM.showUrl u.pm) := by
    unfold PM.showUrl
    split <;> rfl
  have HD := Lib.hid hd
  clear hd
  cases hm : PM.urlMay u.pm
  · rintro e V1 ⟨rfl, hb1⟩
    go_wp2
    go_ret
    exact ⟨ret_str (by rw [HD.out, hm]; rfl), b_then HB.out hb1⟩
  · have H1 := Lib.hid hm
    clear hm
    rintro e V1 ⟨rfl, hb1⟩
    go_upto_region 6 with fail
    have hS : SW u w ((V1.alloc (.cells #[.pointer none, .slice none 0 0] 92)).alloc (.cells #[.func (.func 64) #[.pointer (some ⟨V1.heap.size, 0, none⟩)] #[]] 93)) w.heap.size V1.heap.size (V1.heap.size + 1) [] 0 := by
      have hb2 : Below V1.heap.size V1 ((V1.alloc (.cells #[.pointer none, .slice none 0 0] 92)).alloc (.cells #[.func (.func 64) #[.pointer (some ⟨V1.heap.size, 0, none⟩)] #[]] 93)) := b_alloc (b_alloc (Below.refl _ _) _) _
      have hz := hsz.out
      have hz1 := hb1.size
      exact ⟨heap_b hb2 (heap_b hb1 HH.out), by rw [← World.size_alloc V1]; exact heap_alloc_new _ _, ⟨none, (Bldr.new V1).keep (b_alloc (Below.refl _ _) _)⟩, b_then (b_then HB.out hb1) hb2, Nat.le_refl _, by omega, by omega, by simp⟩
    generalize (V1.alloc (.cells #[.pointer none, .slice none 0 0] 92)).alloc (.cells #[.func (.func 64) #[.pointer (some ⟨V1.heap.size, 0, none⟩)] #[]] 93) = V2 at hS ⊢
    have HS := Lib.hid hS
    clear hS
    obtain ⟨c0, c1, c2, c3, c4, c5, c6, c7, c8, c9, c10, c11, c12, c13, c14, c15, c16, c17, c18, c19, c20⟩ := HS.out.at_
    go_wp2_with fail
    refine (Web_c u.sc _).mono ?_
    rintro e V3 ⟨rfl, rfl⟩
    have lsc : u.sc.length ≤ 20000000000 := Nat.le_trans HU.out.sc (by decide)
    have lus : u.us.length ≤ 20000000000 := Nat.le_trans HU.out.us (by decide)
    have lpa : u.pa.length ≤ 20000000000 := Nat.le_trans HU.out.pa (by decide)
    have lop : u.op.length ≤ 20000000000 := Nat.le_trans HU.out.op (by decide)
    have lqu : u.qu.length ≤ 20000000000 := Nat.le_trans HU.out.qu (by decide)
    have lfr : u.fr.length ≤ 20000000000 := Nat.le_trans HU.out.fr (by decide)
    have hxl : ∀ s ∈ u.xs, s.length ≤ 1000000000 := fun s hs => Nat.le_trans (HU.out.xl s hs) (by decide)
    have hxn := HU.out.xn
    have hdl := door_len u HU.out.n
    have hpl := pathShow_len u.xs HU.out.xn HU.out.xl
    go_wp2_with fail
    refine (when_3 HS.out true u.sc [58] u.op lsc (by decide) lop (by decide) _ rfl).mono ?_
    rintro e V4 ⟨rfl, hS⟩
    replace HS := Lib.hid hS
    clear hS c0 c1 c2 c3 c4 c5 c6 c7 c8 c9 c10 c11 c12 c13 c14 c15 c16 c17 c18 c19 c20
    obtain ⟨c0, c1, c2, c3, c4, c5, c6, c7, c8, c9, c10, c11, c12, c13, c14, c15, c16, c17, c18, c19, c20⟩ := HS.out.at_
    go_wp2_with fail
    refine (when_2 HS.out (decide (0 < PM.web u.sc)) [47, 47] u.us (by decide) lus (by decide) _ rfl).mono ?_
    rintro e V5 ⟨rfl, hS⟩
    replace HS := Lib.hid hS
    clear hS c0 c1 c2 c3 c4 c5 c6 c7 c8 c9 c10 c11 c12 c13 c14 c15 c16 c17 c18 c19 c20
    obtain ⟨c0, c1, c2, c3, c4, c5, c6, c7, c8, c9, c10, c11, c12, c13, c14, c15, c16, c17, c18, c19, c20⟩ := HS.out.at_
    go_wp2_with fail
    refine (when_2 HS.out (!u.pa.isEmpty) [58] u.pa (by decide) lpa (by decide) _ rfl).mono ?_
    rintro e V6 ⟨rfl, hS⟩
    replace HS := Lib.hid hS
    clear hS c0 c1 c2 c3 c4 c5 c6 c7 c8 c9 c10 c11 c12 c13 c14 c15 c16 c17 c18 c19 c20
    obtain ⟨c0, c1, c2, c3, c4, c5, c6, c7, c8, c9, c10, c11, c12, c13, c14, c15, c16, c17, c18, c19, c20⟩ := HS.out.at_
    cases hus : u.us.isEmpty
    · skip
      go_wp2_with fail
      refine (when_1 HS.out true [64] (by decide) (by decide) _ rfl).mono ?_
      rintro e V7 ⟨rfl, hS⟩
      replace HS := Lib.hid hS
      clear hS c0 c1 c2 c3 c4 c5 c6 c7 c8 c9 c10 c11 c12 c13 c14 c15 c16 c17 c18 c19 c20
      obtain ⟨c0, c1, c2, c3, c4, c5, c6, c7, c8, c9, c10, c11, c12, c13, c14, c15, c16, c17, c18, c19, c20⟩ := HS.out.at_
      go_wp2_with fail
      refine wp_region_noPanic ?_
      have hT0 := HS.out.drew
      refine wp_region_held_drew (S := fun W' => ∃ l k, SW u w W' w.heap.size V1.heap.size (V1.heap.size + 1) l k) (by kernel_rfl) ⟨_, _, hT0⟩ (fun hS0 => ?_)
      refine wpAnyH_take (i := 0) (v := ?_) rfl (by kernel_rfl) (by kernel_rfl) (by kernel_rfl) (fun _ _ _ h => h) (Or.inl ⟨by kernel_rfl, fun W hW => ?_⟩) (by assumption) ?_
      rotate_left
      · obtain ⟨_, _, hW⟩ := hW
        obtain ⟨c0, c1, c2, c3, c4, c5, c6, c7, c8, c9, c10, c11, c12, c13, c14, c15, c16, c17, c18, c19, c20⟩ := hW.at_
        go_simp
        try with_reducible rfl
      (try simp only [List.getElem_toArray, List.getElem_cons_zero, List.getElem_cons_succ, Act.put, List.setIfInBounds_toArray, List.set_cons_zero, List.set_cons_succ])
      refine wpAnyH_take (i := 1) (v := ?_) rfl (by kernel_rfl) (by kernel_rfl) (by kernel_rfl) (fun _ _ _ h => h) (Or.inl ⟨by kernel_rfl, fun W hW => ?_⟩) (by assumption) ?_
      rotate_left
      · obtain ⟨_, _, hW⟩ := hW
        obtain ⟨c0, c1, c2, c3, c4, c5, c6, c7, c8, c9, c10, c11, c12, c13, c14, c15, c16, c17, c18, c19, c20⟩ := hW.at_
        go_simp
        try with_reducible rfl
      (try simp only [List.getElem_toArray, List.getElem_cons_zero, List.getElem_cons_succ, Act.put, List.setIfInBounds_toArray, List.set_cons_zero, List.set_cons_succ])
      refine wpAnyH_take (i := 2) (v := ?_) rfl (by kernel_rfl) (by kernel_rfl) (by kernel_rfl) (fun _ _ _ h => h) (Or.inl ⟨by kernel_rfl, fun W hW => ?_⟩) (by assumption) ?_
      rotate_left
      · obtain ⟨_, _, hW⟩ := hW
        refine yield_row 27 (.tmp 1) ?_ w.heap.size ?_ hW.url Tryz.underlying27 rfl (by kernel_rfl)
        · rfl
        · rfl
      (try simp only [List.getElem_toArray, List.getElem_cons_zero, List.getElem_cons_succ, Act.put, List.setIfInBounds_toArray, List.set_cons_zero, List.set_cons_succ])
      refine wpAnyH_take (i := 4) (v := ?_) rfl (by kernel_rfl) (by kernel_rfl) (by kernel_rfl) (fun _ _ _ h => h) (Or.inl ⟨by kernel_rfl, fun W hW => ?_⟩) (by assumption) ?_
      rotate_left
      · obtain ⟨_, _, hW⟩ := hW
        obtain ⟨c0, c1, c2, c3, c4, c5, c6, c7, c8, c9, c10, c11, c12, c13, c14, c15, c16, c17, c18, c19, c20⟩ := hW.at_
        go_simp
        try with_reducible rfl
      (try simp only [List.getElem_toArray, List.getElem_cons_zero, List.getElem_cons_succ, Act.put, List.setIfInBounds_toArray, List.set_cons_zero, List.set_cons_succ])
      refine wpAnyH_take (i := 5) (v := ?_) rfl (by kernel_rfl) (by kernel_rfl) (by kernel_rfl) (fun _ _ _ h => h) (Or.inl ⟨by kernel_rfl, fun W hW => ?_⟩) (by assumption) ?_
      rotate_left
      · obtain ⟨_, _, hW⟩ := hW
        obtain ⟨c0, c1, c2, c3, c4, c5, c6, c7, c8, c9, c10, c11, c12, c13, c14, c15, c16, c17, c18, c19, c20⟩ := hW.at_
        go_simp
        try with_reducible rfl
      (try simp only [List.getElem_toArray, List.getElem_cons_zero, List.getElem_cons_succ, Act.put, List.setIfInBounds_toArray, List.set_cons_zero, List.set_cons_succ])
      refine wpAnyH_ready (rs := [3]) (by kernel_rfl) (by simp) ?_
      refine AllReadyH.cons rfl (fun K hK => ?_) AllReadyH.nil
      go_simp
      refine (Door_c u _ (HU.out.below hT0.be) (HG.out.below hT0.be)).mono ?_
      rintro e U1 ⟨rfl, hb'⟩
      have hT1 := hT0.below hb'
      refine hK.out _ _ ⟨_, _, hT1⟩ (fun hS => ?_)
      clear hK K hS hb'
      (try simp only [List.getElem_toArray, List.getElem_cons_zero, List.getElem_cons_succ, Act.put, List.setIfInBounds_toArray, List.set_cons_zero, List.set_cons_succ])
      refine wpAnyH_ready (rs := [6]) (by kernel_rfl) (by simp) ?_
      refine AllReadyH.cons rfl (fun K hK => ?_) AllReadyH.nil
      go_simp
      refine (pathShow_c u.xs hxl hxn u.a u.pn u.pc _ (HU.out.rd.below hT1.be)).mono ?_
      rintro e U2 ⟨rfl, hb'⟩
      have hT2 := hT1.below hb'
      refine hK.out _ _ ⟨_, _, hT2⟩ (fun hS => ?_)
      clear hK K hS hb'
      (try simp only [List.getElem_toArray, List.getElem_cons_zero, List.getElem_cons_succ, Act.put, List.setIfInBounds_toArray, List.set_cons_zero, List.set_cons_succ])
      refine wpAnyH_ready (rs := [7]) (by kernel_rfl) (by simp) ?_
      refine AllReadyH.cons rfl (fun K hK => ?_) AllReadyH.nil
      go_simp
      refine hK.out _ _ ⟨_, _, hT2.below (b_alloc (Below.refl _ _) _)⟩ (fun hS => ?_)
      clear hK K hS
      (try simp only [List.getElem_toArray, List.getElem_cons_zero, List.getElem_cons_succ, Act.put, List.setIfInBounds_toArray, List.set_cons_zero, List.set_cons_succ])
      refine wpAnyH_ready (rs := [8]) (by kernel_rfl) (by simp) ?_
      refine AllReadyH.cons rfl (fun K hK => ?_) AllReadyH.nil
      go_simp
      refine (when_2 hT2 (decide (0 < PM.web u.sc)) (PM.door u.pm) (PM.pathShow u.xs) hdl hpl (by decide) _ rfl).mono ?_
      rintro e U3 ⟨rfl, hT3⟩
      refine hK.out _ _ ⟨_, _, hT3⟩ (fun hS => ?_)
      clear hK K hS
      (try simp only [List.getElem_toArray, List.getElem_cons_zero, List.getElem_cons_succ, Act.put, List.setIfInBounds_toArray, List.set_cons_zero, List.set_cons_succ])
      refine wpAnyH_done (by kernel_rfl) ?_ _
      refine NoPanic.normal ?_
      replace HS := Lib.hid hT3
      clear hT0 hT1 hT2 hT3
      clear c0 c1 c2 c3 c4 c5 c6 c7 c8 c9 c10 c11 c12 c13 c14 c15 c16 c17 c18 c19 c20
      obtain ⟨c0, c1, c2, c3, c4, c5, c6, c7, c8, c9, c10, c11, c12, c13, c14, c15, c16, c17, c18, c19, c20⟩ := HS.out.at_
      go_wp2_with fail
      refine (when_2 HS.out u.hq [63] u.qu (by decide) lqu (by decide) _ rfl).mono ?_
      rintro e V8 ⟨rfl, hS⟩
      replace HS := Lib.hid hS
      clear hS c0 c1 c2 c3 c4 c5 c6 c7 c8 c9 c10 c11 c12 c13 c14 c15 c16 c17 c18 c19 c20
      obtain ⟨c0, c1, c2, c3, c4, c5, c6, c7, c8, c9, c10, c11, c12, c13, c14, c15, c16, c17, c18, c19, c20⟩ := HS.out.at_
      go_wp2_with fail
      refine (when_2 HS.out u.hf [35] u.fr (by decide) lfr (by decide) _ rfl).mono ?_
      rintro e V9 ⟨rfl, hS⟩
      replace HS := Lib.hid hS
      clear hS c0 c1 c2 c3 c4 c5 c6 c7 c8 c9 c10 c11 c12 c13 c14 c15 c16 c17 c18 c19 c20
      obtain ⟨c0, c1, c2, c3, c4, c5, c6, c7, c8, c9, c10, c11, c12, c13, c14, c15, c16, c17, c18, c19, c20⟩ := HS.out.at_
      have HS0 := HS.out
      obtain ⟨r, hBl⟩ := HS0.bl
      go_wp2_with fail
      refine (Builder_String_c _ r _ _ hBl (Nat.le_refl _)).mono ?_
      rintro e V ⟨rfl, hb'⟩
      go_wp2
      go_ret
      refine ⟨ret_str ?_, HS0.be.trans (hb'.mono (by have := HS0.hb; omega))⟩
      rw [HD.out, H1.out]
      show _ = PM.showUrl u.pm
      rw [PM.showUrl_may H1.out]
      rw [show (!u.pm.user.isEmpty || !u.pm.pass.isEmpty) = true by rw [show u.pm.user.isEmpty = false from hus]; rfl]
      rfl
    · skip
      go_wp2_with fail
      refine (when_1 HS.out (!u.pa.isEmpty) [64] (by decide) (by decide) _ rfl).mono ?_
      rintro e V21 ⟨rfl, hS⟩
      replace HS := Lib.hid hS
      clear hS c0 c1 c2 c3 c4 c5 c6 c7 c8 c9 c10 c11 c12 c13 c14 c15 c16 c17 c18 c19 c20
      obtain ⟨c0, c1, c2, c3, c4, c5, c6, c7, c8, c9, c10, c11, c12, c13, c14, c15, c16, c17, c18, c19, c20⟩ := HS.out.at_
      go_wp2_with fail
      refine wp_region_noPanic ?_
      have hT0 := HS.out.drew
      refine wp_region_held_drew (S := fun W' => ∃ l k, SW u w W' w.heap.size V1.heap.size (V1.heap.size + 1) l k) (by kernel_rfl) ⟨_, _, hT0⟩ (fun hS0 => ?_)
      refine wpAnyH_take (i := 0) (v := ?_) rfl (by kernel_rfl) (by kernel_rfl) (by kernel_rfl) (fun _ _ _ h => h) (Or.inl ⟨by kernel_rfl, fun W hW => ?_⟩) (by assumption) ?_
      rotate_left
      · obtain ⟨_, _, hW⟩ := hW
        obtain ⟨c0, c1, c2, c3, c4, c5, c6, c7, c8, c9, c10, c11, c12, c13, c14, c15, c16, c17, c18, c19, c20⟩ := hW.at_
        go_simp
        try with_reducible rfl
      (try simp only [List.getElem_toArray, List.getElem_cons_zero, List.getElem_cons_succ, Act.put, List.setIfInBounds_toArray, List.set_cons_zero, List.set_cons_succ])
      refine wpAnyH_take (i := 1) (v := ?_) rfl (by kernel_rfl) (by kernel_rfl) (by kernel_rfl) (fun _ _ _ h => h) (Or.inl ⟨by kernel_rfl, fun W hW => ?_⟩) (by assumption) ?_
      rotate_left
      · obtain ⟨_, _, hW⟩ := hW
        obtain ⟨c0, c1, c2, c3, c4, c5, c6, c7, c8, c9, c10, c11, c12, c13, c14, c15, c16, c17, c18, c19, c20⟩ := hW.at_
        go_simp
        try with_reducible rfl
      (try simp only [List.getElem_toArray, List.getElem_cons_zero, List.getElem_cons_succ, Act.put, List.setIfInBounds_toArray, List.set_cons_zero, List.set_cons_succ])
      refine wpAnyH_take (i := 2) (v := ?_) rfl (by kernel_rfl) (by kernel_rfl) (by kernel_rfl) (fun _ _ _ h => h) (Or.inl ⟨by kernel_rfl, fun W hW => ?_⟩) (by assumption) ?_
      rotate_left
      · obtain ⟨_, _, hW⟩ := hW
        refine yield_row 27 (.tmp 1) ?_ w.heap.size ?_ hW.url Tryz.underlying27 rfl (by kernel_rfl)
        · rfl
        · rfl
      (try simp only [List.getElem_toArray, List.getElem_cons_zero, List.getElem_cons_succ, Act.put, List.setIfInBounds_toArray, List.set_cons_zero, List.set_cons_succ])
      refine wpAnyH_take (i := 4) (v := ?_) rfl (by kernel_rfl) (by kernel_rfl) (by kernel_rfl) (fun _ _ _ h => h) (Or.inl ⟨by kernel_rfl, fun W hW => ?_⟩) (by assumption) ?_
      rotate_left
      · obtain ⟨_, _, hW⟩ := hW
        obtain ⟨c0, c1, c2, c3, c4, c5, c6, c7, c8, c9, c10, c11, c12, c13, c14, c15, c16, c17, c18, c19, c20⟩ := hW.at_
        go_simp
        try with_reducible rfl
      (try simp only [List.getElem_toArray, List.getElem_cons_zero, List.getElem_cons_succ, Act.put, List.setIfInBounds_toArray, List.set_cons_zero, List.set_cons_succ])
      refine wpAnyH_take (i := 5) (v := ?_) rfl (by kernel_rfl) (by kernel_rfl) (by kernel_rfl) (fun _ _ _ h => h) (Or.inl ⟨by kernel_rfl, fun W hW => ?_⟩) (by assumption) ?_
      rotate_left
      · obtain ⟨_, _, hW⟩ := hW
        obtain ⟨c0, c1, c2, c3, c4, c5, c6, c7, c8, c9, c10, c11, c12, c13, c14, c15, c16, c17, c18, c19, c20⟩ := hW.at_
        go_simp
        try with_reducible rfl
      (try simp only [List.getElem_toArray, List.getElem_cons_zero, List.getElem_cons_succ, Act.put, List.setIfInBounds_toArray, List.set_cons_zero, List.set_cons_succ])
      refine wpAnyH_ready (rs := [3]) (by kernel_rfl) (by simp) ?_
      refine AllReadyH.cons rfl (fun K hK => ?_) AllReadyH.nil
      go_simp
      refine (Door_c u _ (HU.out.below hT0.be) (HG.out.below hT0.be)).mono ?_
      rintro e U4 ⟨rfl, hb'⟩
      have hT1 := hT0.below hb'
      refine hK.out _ _ ⟨_, _, hT1⟩ (fun hS => ?_)
      clear hK K hS hb'
      (try simp only [List.getElem_toArray, List.getElem_cons_zero, List.getElem_cons_succ, Act.put, List.setIfInBounds_toArray, List.set_cons_zero, List.set_cons_succ])
      refine wpAnyH_ready (rs := [6]) (by kernel_rfl) (by simp) ?_
      refine AllReadyH.cons rfl (fun K hK => ?_) AllReadyH.nil
      go_simp
      refine (pathShow_c u.xs hxl hxn u.a u.pn u.pc _ (HU.out.rd.below hT1.be)).mono ?_
      rintro e U5 ⟨rfl, hb'⟩
      have hT2 := hT1.below hb'
      refine hK.out _ _ ⟨_, _, hT2⟩ (fun hS => ?_)
      clear hK K hS hb'
      (try simp only [List.getElem_toArray, List.getElem_cons_zero, List.getElem_cons_succ, Act.put, List.setIfInBounds_toArray, List.set_cons_zero, List.set_cons_succ])
      refine wpAnyH_ready (rs := [7]) (by kernel_rfl) (by simp) ?_
      refine AllReadyH.cons rfl (fun K hK => ?_) AllReadyH.nil
      go_simp
      refine hK.out _ _ ⟨_, _, hT2.below (b_alloc (Below.refl _ _) _)⟩ (fun hS => ?_)
      clear hK K hS
      (try simp only [List.getElem_toArray, List.getElem_cons_zero, List.getElem_cons_succ, Act.put, List.setIfInBounds_toArray, List.set_cons_zero, List.set_cons_succ])
      refine wpAnyH_ready (rs := [8]) (by kernel_rfl) (by simp) ?_
      refine AllReadyH.cons rfl (fun K hK => ?_) AllReadyH.nil
      go_simp
      refine (when_2 hT2 (decide (0 < PM.web u.sc)) (PM.door u.pm) (PM.pathShow u.xs) hdl hpl (by decide) _ rfl).mono ?_
      rintro e U6 ⟨rfl, hT3⟩
      refine hK.out _ _ ⟨_, _, hT3⟩ (fun hS => ?_)
      clear hK K hS
      (try simp only [List.getElem_toArray, List.getElem_cons_zero, List.getElem_cons_succ, Act.put, List.setIfInBounds_toArray, List.set_cons_zero, List.set_cons_succ])
      refine wpAnyH_done (by kernel_rfl) ?_ _
      refine NoPanic.normal ?_
      replace HS := Lib.hid hT3
      clear hT0 hT1 hT2 hT3
      clear c0 c1 c2 c3 c4 c5 c6 c7 c8 c9 c10 c11 c12 c13 c14 c15 c16 c17 c18 c19 c20
      obtain ⟨c0, c1, c2, c3, c4, c5, c6, c7, c8, c9, c10, c11, c12, c13, c14, c15, c16, c17, c18, c19, c20⟩ := HS.out.at_
      go_wp2_with fail
      refine (when_2 HS.out u.hq [63] u.qu (by decide) lqu (by decide) _ rfl).mono ?_
      rintro e V22 ⟨rfl, hS⟩
      replace HS := Lib.hid hS
      clear hS c0 c1 c2 c3 c4 c5 c6 c7 c8 c9 c10 c11 c12 c13 c14 c15 c16 c17 c18 c19 c20
      obtain ⟨c0, c1, c2, c3, c4, c5, c6, c7, c8, c9, c10, c11, c12, c13, c14, c15, c16, c17, c18, c19, c20⟩ := HS.out.at_
      go_wp2_with fail
      refine (when_2 HS.out u.hf [35] u.fr (by decide) lfr (by decide) _ rfl).mono ?_
      rintro e V23 ⟨rfl, hS⟩
      replace HS := Lib.hid hS
      clear hS c0 c1 c2 c3 c4 c5 c6 c7 c8 c9 c10 c11 c12 c13 c14 c15 c16 c17 c18 c19 c20
      obtain ⟨c0, c1, c2, c3, c4, c5, c6, c7, c8, c9, c10, c11, c12, c13, c14, c15, c16, c17, c18, c19, c20⟩ := HS.out.at_
      have HS0 := HS.out
      obtain ⟨r, hBl⟩ := HS0.bl
      go_wp2_with fail
      refine (Builder_String_c _ r _ _ hBl (Nat.le_refl _)).mono ?_
      rintro e V ⟨rfl, hb'⟩
      go_wp2
      go_ret
      refine ⟨ret_str ?_, HS0.be.trans (hb'.mono (by have := HS0.hb; omega))⟩
      rw [HD.out, H1.out]
      show _ = PM.showUrl u.pm
      rw [PM.showUrl_may H1.out]
      rw [show (!u.pm.user.isEmpty || !u.pm.pass.isEmpty) = !u.pa.isEmpty by rw [show u.pm.user.isEmpty = true from hus]; rfl]
      rfl
end Go.Proofs.YtppbkblnjlbnfaaGreatDoor
