/-
PlaceOther: whatever comes in, the law's call returns true, and the arguments read behind the call as they did before; no condition on them. The row lists the two tables of unicode/utf8 (first, acceptRanges); the card ties them.
-/
import Derived.Test.YtppbkblnjlbnfaaGreatDoorTz
import Derived.Test.YtppbkblnjlbnfaaGreatDoorPq
import Derived.Test.YtppbkblnjlbnfaaGreatDoorPw
set_option linter.unusedVariables false
set_option linter.unusedSimpArgs false
/-! Lists of fields that grow. -/
namespace Go.Proofs.YtppbkblnjlbnfaaGreatDoor
open Go.RowKit
def flds (xs : List (List UInt8 × List UInt8)) : List Value := xs.flatMap fun f => [.string (mkS f.1), .string (mkS f.2)]
theorem flds_nil : flds [] = [] := rfl
theorem flds_cons (x : List UInt8 × List UInt8) (r : List (List UInt8 × List UInt8)) : flds (x :: r) = .string (mkS x.1) :: .string (mkS x.2) :: flds r := rfl
theorem flds_app (xs ys : List (List UInt8 × List UInt8)) : flds (xs ++ ys) = flds xs ++ flds ys := by simp [flds]
theorem flds_len (xs : List (List UInt8 × List UInt8)) : (flds xs).length = xs.length * 2 := by
  induction xs with
  | nil => rfl
  | cons x r ih => rw [flds_cons, List.length_cons, List.length_cons, List.length_cons, ih]; omega
theorem flds_one (xs : List (List UInt8 × List UInt8)) : ∀ u ∈ flds xs, u.oneCell' = true := by
  intro u hu
  obtain ⟨f, _, hf⟩ := List.mem_flatMap.1 hu
  simp at hf
  rcases hf with rfl | rfl <;> rfl
theorem flds_at (xs : List (List UInt8 × List UInt8)) : ∀ (j : Nat) (h : j < xs.length), (flds xs)[j * 2]? = some (.string (mkS (xs[j]'h).1)) ∧ (flds xs)[j * 2 + 1]? = some (.string (mkS (xs[j]'h).2)) := by
  induction xs with
  | nil => intro j h; simp at h
  | cons x r ih =>
    intro j h
    rw [flds_cons]
    cases j with
    | zero => exact ⟨rfl, rfl⟩
    | succ j =>
      have := ih j (by simpa using h)
      rw [show (j + 1) * 2 = j * 2 + 1 + 1 by omega, List.getElem?_cons_succ, List.getElem?_cons_succ, List.getElem?_cons_succ, List.getElem?_cons_succ]
      simpa using this
theorem infoField : (Tryz.prog.info? 50).map (fun i => (i.zero, i.size, i.bytes)) = some (some (.agg #[.string ⟨#[]⟩, .string ⟨#[]⟩]), 2, 32) := by kernel_rfl
theorem RdFW.news {w : World} {b o n : Nat} {xs : List (List UInt8 × List UInt8)} (h : ∀ j (hj : j < xs.length), w.cell? ⟨b, o + j * 2, none⟩ = some (.string (mkS (xs[j]'hj).1)) ∧ w.cell? ⟨b, o + (j * 2 + 1), none⟩ = some (.string (mkS (xs[j]'hj).2))) :
    ∀ j u, (flds xs)[j]? = some u → w.cell? ((⟨b, o, none⟩ : Addr).add j) = some u := by
  intro j u hj
  have hlt : j < xs.length * 2 := by rw [← flds_len]; exact (List.getElem?_eq_some_iff.1 hj).1
  have e : (⟨b, o, none⟩ : Addr).add j = ⟨b, o + j, none⟩ := by unfold Addr.add; split <;> simp_all
  rw [e]
  have hd : j / 2 < xs.length := by omega
  obtain ⟨h1, h2⟩ := flds_at xs (j / 2) hd
  obtain ⟨g1, g2⟩ := h (j / 2) hd
  rcases Nat.mod_two_eq_zero_or_one j with hm | hm
  · have ej : j = j / 2 * 2 := by omega
    rw [← ej] at h1 g1
    rw [hj] at h1
    cases h1
    exact g1
  · have ej : j = j / 2 * 2 + 1 := by omega
    rw [← ej] at h2 g2
    rw [hj] at h2
    cases h2
    exact g2
theorem own_rdF {W : World} {B : Nat} {v : Value} {n : Nat} {xs : List (List UInt8 × List UInt8)} (h : W.ownsRow B 50 2 v n (flds xs)) (hn : xs.length = n) : ∃ a c, v = .slice a n c ∧ RdFW W a n xs ∧ n ≤ c ∧ ∀ g o, a = some ⟨g, o, none⟩ → B ≤ g := by
  rcases h.2 with ⟨rfl, rfl⟩ | ⟨g, cap, cur, rfl, hg, hb, h1, h2, h3, h4⟩
  · exact ⟨none, 0, rfl, ⟨hn, .inl (List.eq_nil_of_length_eq_zero hn)⟩, Nat.le_refl _, fun g o e => by cases e⟩
  · refine ⟨some ⟨g, 0, none⟩, cap, rfl, ⟨hn, .inr ⟨g, 0, rfl, (Array.getElem?_eq_some_iff.1 hb).1, fun j hj => ?_⟩⟩, h1, fun g' o' e => by cases e; exact hg⟩
    obtain ⟨e1, e2⟩ := flds_at xs j hj
    have key : ∀ k u, (flds xs)[k]? = some u → W.cell? ⟨g, k, none⟩ = some u := fun k u hk => by
      rw [Lib.cell_of_heap hb]
      rw [← h4, List.getElem?_take] at hk
      split at hk
      · simpa using hk
      · cases hk
    rw [Nat.zero_add, Nat.zero_add]
    exact ⟨key _ _ e1, key _ _ e2⟩
/-- append(nil, l). -/
theorem appN (B : Nat) (a : Option Addr) (n c : Nat) (l : List (List UInt8 × List UInt8)) (W : World) (ty : TypeId) (h : RdFW W a n l) (hn : n ≤ 1000000) (hB : B ≤ W.heap.size) :
    ∃ v W', (Builtin.append_ #[28, 28] ty #[.slice none 0 0, .slice a n c]).run Tryz.prog W = .ok v W' ∧ W'.ownsRow B 50 2 v n (flds l) ∧ Below W.heap.size W W' ∧ (∀ k, v.ownBlock = some k → k = W.heap.size) := by
  obtain ⟨i0, hi, hz0, hz1, hz2⟩ := info_parts infoField
  have hlen := h.len
  subst hlen
  rcases h.at_ with rfl | ⟨b, o, rfl, hlt, hc⟩
  · refine ⟨.slice none 0 0, W, ?_, World.ownsRow_nil _ _ _ _, Below.refl _ _, fun k hk => by cases hk⟩
    cases a <;> simp [Builtin.append_, run_underlying Tryz.underlying28, sizeOf, typeInfo, hi, Builtin.lenOf, Builtin.firstCells, loadCells, loadCellsFrom]
  · obtain ⟨v', W', hr, ho, hg, _, hat⟩ := run_append_own_at (P := Tryz.prog) W B 28 ty 50 i0 _ 2 32 Tryz.underlying28 hi hz0 hz1 hz2 rfl (by decide) (.slice none 0 0) 0 [] (World.ownsRow_nil _ _ _ _) ⟨b, o, none⟩ l.length c (flds l) (flds_len l) (RdFW.news (n := l.length) hc) (flds_one l) (by unfold maxLen; omega) (by omega) hB
    rw [Nat.zero_add, List.nil_append] at ho
    refine ⟨v', W', hr, ho, (Below.refl _ _).grown hg (Nat.le_refl _) (fun k hk => by cases hk), fun k hk => ?_⟩
    rcases hat with e | e
    · rw [e] at hk; cases hk
    · rw [e] at hk; cases hk; rfl
/-- append(v, m), v the call's own. -/
theorem appO (B : Nat) (v : Value) (n : Nat) (xs : List (List UInt8 × List UInt8)) (b o m c : Nat) (ys : List (List UInt8 × List UInt8)) (W : World) (ty : TypeId) (hown : W.ownsRow B 50 2 v n (flds xs)) (hm : ys.length = m)
    (hc : ∀ j (hj : j < ys.length), W.cell? ⟨b, o + j * 2, none⟩ = some (.string (mkS (ys[j]'hj).1)) ∧ W.cell? ⟨b, o + (j * 2 + 1), none⟩ = some (.string (mkS (ys[j]'hj).2))) (hn : n + m ≤ 1000000) (hB : B ≤ W.heap.size) :
    ∃ v' W', (Builtin.append_ #[28, 28] ty #[v, .slice (some ⟨b, o, none⟩) m c]).run Tryz.prog W = .ok v' W' ∧ W'.ownsRow B 50 2 v' (n + m) (flds (xs ++ ys)) ∧ W.grownBy W' v.ownBlock ∧ (v'.ownBlock = v.ownBlock ∨ v'.ownBlock = some W.heap.size) := by
  obtain ⟨i0, hi, hz0, hz1, hz2⟩ := info_parts infoField
  subst hm
  obtain ⟨v', W', hr, ho, hg, _, hat⟩ := run_append_own_at (P := Tryz.prog) W B 28 ty 50 i0 _ 2 32 Tryz.underlying28 hi hz0 hz1 hz2 rfl (by decide) v n (flds xs) hown ⟨b, o, none⟩ ys.length c (flds ys) (flds_len ys) (RdFW.news (n := ys.length) hc) (flds_one ys) (by unfold maxLen; omega) (by omega) hB
  rw [← flds_app] at ho
  exact ⟨v', W', hr, ho, hg, hat⟩
/-- append(f, l), f one field, its room full. -/
theorem appF (g : Nat) (x y : List UInt8) (a : Option Addr) (n c : Nat) (l : List (List UInt8 × List UInt8)) (W : World) (ty : TypeId) (hg : W.heap[g]? = some (.cells #[.string (mkS x), .string (mkS y)] 50 (0, 0))) (h : RdFW W a n l) (hn : n ≤ 1000000) :
    ∃ a' c' W', (Builtin.append_ #[28, 28] ty #[.slice (some ⟨g, 0, none⟩) 1 1, .slice a n c]).run Tryz.prog W = .ok (.slice a' (1 + n) c') W' ∧ RdFW W' a' (1 + n) ((x, y) :: l) ∧ Below W.heap.size W W' := by
  obtain ⟨i0, hi, hz0, hz1, hz2⟩ := info_parts infoField
  have hlen := h.len
  subst hlen
  rcases h.at_ with rfl | ⟨b, o, rfl, hlt, hc⟩
  · refine ⟨some ⟨g, 0, none⟩, 1, W, ?_, RdFW.one hg, Below.refl _ _⟩
    cases a <;> simp [Builtin.append_, run_underlying Tryz.underlying28, sizeOf, typeInfo, hi, Builtin.lenOf, Builtin.firstCells, loadCells, loadCellsFrom, storeCells]
  · rcases Nat.eq_zero_or_pos l.length with h0 | h0
    · obtain rfl := List.eq_nil_of_length_eq_zero h0
      refine ⟨some ⟨g, 0, none⟩, 1, W, ?_, RdFW.one hg, Below.refl _ _⟩
      simp [Builtin.append_, run_underlying Tryz.underlying28, sizeOf, typeInfo, hi, Builtin.lenOf, Builtin.firstCells, loadCells, loadCellsFrom, storeCells]
    · have hold : ∀ j u, (flds [(x, y)])[j]? = some u → W.cell? ((⟨g, 0, none⟩ : Addr).add j) = some u := RdFW.news (n := 1) fun j hj => by
        obtain rfl : j = 0 := by simp at hj; omega
        exact ⟨by rw [Lib.cell_of_heap hg]; rfl, by rw [Lib.cell_of_heap hg]; rfl⟩
      have hr := run_append_grow (P := Tryz.prog) W 28 ty 50 i0 _ Tryz.underlying28 hi hz0 ⟨g, 0, none⟩ 1 1 (flds [(x, y)]) (by rw [hz1]; rfl) hold ⟨b, o, none⟩ l.length c (flds l) (by rw [hz1]; exact flds_len l) (RdFW.news (n := l.length) hc) (by omega) (by omega) (growslice_fits (by omega) (by rw [hz2]; omega))
      refine ⟨_, _, _, hr, ?_, b_alloc (b_drew (Below.refl _ _)) _⟩
      have e : flds [(x, y)] ++ flds l = flds ((x, y) :: l) := rfl
      refine ⟨by simp; omega, .inr ⟨W.heap.size, 0, rfl, by simp, fun j hj => ?_⟩⟩
      have hN := Go.heap_alloc_new W.drew (.cells ((flds [(x, y)]).toArray ++ (flds l).toArray ++ Builtin.zeroCells (Value.agg #[.string ⟨#[]⟩, .string ⟨#[]⟩]).cells (grownCap W (1 + l.length) 1 50 - (1 + l.length))) 50)
      rw [show W.drew.heap.size = W.heap.size from rfl] at hN
      obtain ⟨e1, e2⟩ := flds_at ((x, y) :: l) j hj
      have ea : (flds [(x, y)]).toArray ++ (flds l).toArray = (flds ((x, y) :: l)).toArray := by rw [← e]; simp
      have key : ∀ (k : Nat) (u : Value), (flds ((x, y) :: l))[k]? = some u → ((flds [(x, y)]).toArray ++ (flds l).toArray ++ Builtin.zeroCells (Value.agg #[.string ⟨#[]⟩, .string ⟨#[]⟩]).cells (grownCap W (1 + l.length) 1 50 - (1 + l.length)))[k]? = some u := fun k u hk => by
        rw [ea]
        have hlt := (List.getElem?_eq_some_iff.1 hk).1
        rw [Array.getElem?_append_left (by simpa using hlt)]
        simpa using hk
      rw [Nat.zero_add, Nat.zero_add]
      exact ⟨by rw [Lib.cell_of_heap hN]; exact key _ _ e1, by rw [Lib.cell_of_heap hN]; exact key _ _ e2⟩
theorem wp_app {o : Oper} {t : Act} {W : World} {K : Act → World → Prop} {Q : Exit → Act → World → Prop} (s x : Operand) (T : TypeId) (ho : o.op = .call { callee := .builtin .append, args := #[s, x], argTypes := #[T, T] }) {v xv v' : Value} {W' : World}
    (hs : t.eval s = v) (hx : t.eval x = xv) (hr : (Builtin.append_ #[T, T] o.type #[v, xv]).run Tryz.prog W = .ok v' W') (hk : K (t.put o.dst v') W') : o.wp Tryz.prog t W K Q := by
  unfold Oper.wp execOp
  simp only [ho, resolve, invoke, builtin, Sem.run_bind, Sem.run_pure, Result.andThen_ok, List.map_toArray, List.map_cons, List.map_nil, hs, hx, hr]
  exact hk
end Go.Proofs.YtppbkblnjlbnfaaGreatDoor
/-! The walk of PlaceOther. -/
namespace Go.Proofs.YtppbkblnjlbnfaaGreatDoor
open Go.RowKit
theorem one_small {a : PM.L} (h : a.length ≤ 1000) : ∀ f ∈ ([(PM.LOC, a)] : PM.Fs), f.1.length ≤ 1000 ∧ f.2.length ≤ 1000 := by
  intro f hf
  simp at hf
  subst hf
  exact ⟨show PM.LOC.length ≤ 1000 by decide, h⟩
theorem res_path_few {b u : PM.Url} {s : List UInt8} (h : PM.resolve b s = some u) (hs : s.length ≤ 220) (hb : b.path.length ≤ 60) : u.path.length ≤ 900 := by
  rw [PM.resolve_eq] at h
  have hcl := clean_len s
  split at h
  · cases h
  · split at h
    · have := (parse_short h).pn
      omega
    · split at h
      · cases h
      · rename_i h0
        split at h
        · have h1 := (parse_short h).pn
          have h2 : b.scheme.length ≤ 5 := by rcases PM.web_cases h0 with e | e <;> rw [e] <;> decide
          simp at h1
          omega
        · simp at h
          subst h
          have ht := (tail_len3 (PM.clean s)).1
          show (PM.wayP b.path (PM.tail (PM.clean s)).1).length ≤ 900
          have hsp := pathSplit_len (PM.tail (PM.clean s)).1
          unfold PM.wayP
          split
          · omega
          · split
            · have hc := normGo_cnt (PM.pathSplit (PM.tail (PM.clean s)).1) []
              have : (PM.pathParse (PM.tail (PM.clean s)).1).length ≤ 0 + (PM.pathSplit (PM.tail (PM.clean s)).1).length := hc
              omega
            · have hc := normGo_cnt (b.path.dropLast ++ PM.pathSplit (PM.tail (PM.clean s)).1) []
              have : (PM.mergeP b.path (PM.tail (PM.clean s)).1).length ≤ 0 + (b.path.dropLast ++ PM.pathSplit (PM.tail (PM.clean s)).1).length := hc
              simp at this
              omega
theorem place_path {a : PM.L} {cur p : PM.Url} (h : PM.placeP [(PM.LOC, a)] cur = (p, 1)) (ha : a.length ≤ 100) (hc : cur.path.length ≤ 60) : p.path.length ≤ 900 := by
  obtain ⟨h1, v, hv, hx⟩ := PM.placeOf_some h
  rw [PM.raw_one (by decide)] at hv
  have hw := wide_len a
  have := res_path_few hv (show (PM.wide a).length ≤ 220 by omega) hc
  rw [hx]
  unfold PM.inherit
  split
  · exact this
  · exact this
theorem fld1 {W : World} {b : Nat} {x y : List UInt8} (h : W.heap[b]? = some (.cells #[.string (mkS x), .string (mkS y)] 50 (0, 0))) : ∀ j (hj : j < ([(x, y)] : List (List UInt8 × List UInt8)).length), W.cell? ⟨b, 0 + j * 2, none⟩ = some (.string (mkS ([(x, y)][j]'hj).1)) ∧ W.cell? ⟨b, 0 + (j * 2 + 1), none⟩ = some (.string (mkS ([(x, y)][j]'hj).2)) := by
  intro j hj
  obtain rfl : j = 0 := by simp at hj; omega
  exact ⟨by rw [Lib.cell_of_heap h]; rfl, by rw [Lib.cell_of_heap h]; rfl⟩
set_option maxRecDepth 100000 in
set_option maxHeartbeats 16000000 in
theorem PlaceOtherL_c (a0 : Option Addr) (n0 k0 : Nat) (f0 : PM.Fs) (name value : List UInt8) (cur : UV) (w : World) (hrf : RdFW w a0 n0 f0) (hk0 : n0 ≤ k0) (hrcur : RdW w cur.a cur.pn cur.xs) (hg : Gl w) (hT : Lib.Utf8Tabs 2 3 w) : Calls Tryz.prog 11 #[.slice a0 n0 k0, .string (mkS name), .string (mkS value), .agg cur.cells] w fun e w' => e = .returned (.bool true) ∧ Below w.heap.size w w' := by
  have HG := Lib.hid hg
  have HTB := Lib.hid hT
  have Rcur := Lib.hid hrcur
  have Rf := Lib.hid hrf
  clear hg hT hrcur hrf
  have HB : Hid (Below w.heap.size w (w.alloc (.cells cur.cells 27))) := Lib.hid (b_alloc (Below.refl _ _) _)
  have Hcur : Hid ((w.alloc (.cells cur.cells 27)).heap[w.heap.size]? = some (.cells cur.cells 27 (0, 0))) := Lib.hid ((by have h := Go.heap_alloc_new w (.cells cur.cells 27); simpa using h))
  go_enter Tryz.func11, Tryz.ntmps11
  go_upto_region 1 with fail
  generalize w.alloc (.cells cur.cells 27) = V0 at HB Hcur ⊢
  go_wp2_with fail
  refine (awake18_c _ (HG.out.below HB.out) (tabs_below HTB.out HB.out)).mono ?_
  rintro e V1 ⟨rfl, hb⟩
  replace HB := Lib.hid (b_then HB.out hb)
  replace Hcur := Lib.hid (obj_b hb Hcur.out)
  clear hb
  go_wp2_with fail
  refine (Few13_c a0 n0 k0 f0 _ (Rf.out.below HB.out)).mono ?_
  rintro e V30 ⟨rfl, rfl⟩
  go_wp2_with (first | go_skip | (refine wpList_load_g 27 _ rfl (by kernel_rfl) w.heap.size rfl Hcur.out Tryz.underlying27 rfl (by kernel_rfl) ?_))
  refine (Few_c cur _ (Rcur.out.below HB.out)).mono ?_
  rintro e V2 ⟨rfl, hb⟩
  replace HB := Lib.hid (b_then HB.out hb)
  replace Hcur := Lib.hid (obj_b hb Hcur.out)
  clear hb
  cases hf13 : PM.few13 f0
  · go_wp2
    go_ret
    exact ⟨rfl, HB.out⟩
  have FF := Lib.hid (few13_ok hf13 Rf.out)
  clear hf13
  cases hfc : PM.few cur.pm
  · go_wp2
    go_ret
    exact ⟨rfl, HB.out⟩
  have Ocur := Lib.hid (few_ok (Rcur.out.below HB.out) hfc)
  have Fcur := Lib.hid hfc
  have Ncur : Hid (cur.xs.length ≤ 900) := Lib.hid (few_path hfc).1
  clear hfc
  by_cases hlname : 300 < name.length
  · have hlname2 : (300 : Int) < name.length := by omega
    go_wp2
    go_ret
    exact ⟨rfl, HB.out⟩
  have hlname2 : decide ((300 : Int) < (name.length : Int)) = false := decide_eq_false (by omega)
  have HLname : Hid (name.length ≤ 300) := Lib.hid (by omega)
  clear hlname
  by_cases hlvalue : 300 < value.length
  · have hlvalue2 : (300 : Int) < value.length := by omega
    go_wp2
    go_ret
    exact ⟨rfl, HB.out⟩
  have hlvalue2 : decide ((300 : Int) < (value.length : Int)) = false := decide_eq_false (by omega)
  have HLvalue : Hid (value.length ≤ 300) := Lib.hid (by omega)
  clear hlvalue
  go_upto_region 7 with fail
  clear hlname2 hlvalue2
  have hb : Below V2.heap.size V2 (V2.alloc (.cells #[.string (mkS name), .string (mkS value)] 50)) := b_alloc (Below.refl _ _) _
  have hN : (V2.alloc (.cells #[.string (mkS name), .string (mkS value)] 50)).heap[V2.heap.size]? = some (.cells #[.string (mkS name), .string (mkS value)] 50 (0, 0)) := Go.heap_alloc_new _ _
  have HF := Lib.hid hN
  clear hN
  have HWL : Hid (w.heap.size < V2.heap.size) := Lib.hid (h_lt Hcur.out)
  replace HB := Lib.hid (b_then HB.out hb)
  replace Hcur := Lib.hid (obj_b hb Hcur.out)
  replace Ocur := Lib.hid (Ocur.out.below hb)
  clear hb
  generalize V2.alloc (.cells #[.string (mkS name), .string (mkS value)] 50) = V3 at HB Hcur Ocur HF ⊢
  generalize V2.heap.size = bl at HF HWL ⊢
  obtain ⟨⟨p, k⟩, hpk⟩ : ∃ x, PM.placeP f0 cur.pm = x := ⟨_, rfl⟩
  have HPK := Lib.hid hpk
  clear hpk
  go_wp2_with (first | go_skip | (refine wpList_load_g 27 _ rfl (by kernel_rfl) w.heap.size rfl Hcur.out Tryz.underlying27 rfl (by kernel_rfl) ?_) | (refine wpList_load_g 27 _ rfl (by kernel_rfl) w.heap.size rfl (obj_b (b_alloc (Below.refl _ _) _) Hcur.out) Tryz.underlying27 rfl (by kernel_rfl) ?_))
  refine (Place_sm_c a0 n0 k0 f0 cur _ (Rf.out.below HB.out) (Nat.le_trans FF.out.1 (by decide)) FF.out.2 Ocur.out Ncur.out (HG.out.below HB.out) (tabs_below HTB.out HB.out)).mono ?_
  rw [HPK.out]
  rintro e V4 ⟨⟨u, rfl, hxp, hxo⟩, hb⟩
  have Pu := Lib.hid hxp
  have Ou := Lib.hid hxo
  clear hxp hxo
  replace HB := Lib.hid (b_then HB.out hb)
  replace Hcur := Lib.hid (obj_b hb Hcur.out)
  replace HF := Lib.hid (obj_b hb HF.out)
  replace Ocur := Lib.hid (Ocur.out.below hb)
  clear hb
  have HN := Lib.hid (Go.heap_alloc_new V4 (.cells zurl 27))
  unfold zurl at HN 
  go_upto_region 8 with (first | (refine wpList_store_row rfl 27 _ _ rfl V4.heap.size u.cells rfl rfl 27 _ HN.out (by kernel_rfl) rfl (agg_one u) ?_))
  obtain ⟨V5, hV⟩ : ∃ V5, V5 = (V4.alloc (.cells #[.string ⟨#[]⟩, .string ⟨#[]⟩, .string ⟨#[]⟩, .int .i64 0, .string ⟨#[]⟩, .int .i64 0, .int .i64 0, .int .i64 0, .int .i64 0, .int .i64 0, .int .i64 0, .int .i64 0, .int .i64 0, .int .i64 0, .int .i64 0, .slice none 0 0, .string ⟨#[]⟩, .string ⟨#[]⟩, .string ⟨#[]⟩, .bool false, .bool false] 27)).setRow V4.heap.size u.cells := ⟨_, rfl⟩
  have hN : V5.heap[V4.heap.size]? = some (.cells u.cells 27 (0, 0)) := by rw [hV]; exact heap_setRow HN.out _
  have hb : Below V4.heap.size V4 V5 := by rw [hV]; exact below_setRow (b_alloc (Below.refl _ _) _) (Nat.le_refl _) _
  rw [← hV]
  clear hV HN 
  have Hu := Lib.hid hN
  clear hN
  have hlt_ku_Hcur : w.heap.size < V4.heap.size := h_lt Hcur.out
  have hlt_ku_HF : bl < V4.heap.size := h_lt HF.out
  have hlw_ku : w.heap.size ≤ V4.heap.size := HB.out.size
  replace HB := Lib.hid (b_then HB.out hb)
  replace Hcur := Lib.hid (obj_b hb Hcur.out)
  replace HF := Lib.hid (obj_b hb HF.out)
  replace Ocur := Lib.hid (Ocur.out.below hb)
  replace Ou := Lib.hid (Ou.out.below hb)
  clear hb
  generalize V4.heap.size = ku at Hu hlt_ku_Hcur hlt_ku_HF hlw_ku ⊢
  (try simp only [Act.put])
  obtain ⟨⟨q, j⟩, hq⟩ : ∃ x, PM.placeP (f0 ++ [(name, value)]) cur.pm = x := ⟨_, rfl⟩
  have HQ := Lib.hid hq
  clear hq
  obtain ⟨⟨r, i⟩, hr⟩ : ∃ x, PM.placeP ((name, value) :: f0) cur.pm = x := ⟨_, rfl⟩
  have HRR := Lib.hid hr
  clear hr
  have hla : ∀ f ∈ f0 ++ [(name, value)], f.1.length ≤ 1000 ∧ f.2.length ≤ 1000 := fun f hf => by
    rcases List.mem_append.1 hf with h | h
    · exact FF.out.2 f h
    · simp at h
      subst h
      exact ⟨Nat.le_trans HLname.out (by decide), Nat.le_trans HLvalue.out (by decide)⟩
  have HLA := Lib.hid hla
  clear hla
  go_wp2_with fail
  go_cut [15, 16] (fun pt vt wr => ∃ (ky : Nat) (y : UV) (W9 : World), W9 = wr ∧ pt = .pointer (some ⟨ky, 0, none⟩) ∧ vt = .int .i64 j ∧ Hid (y.pm = q) ∧ Hid (y.Ok wr) ∧ Hid (wr.heap[ky]? = some (.cells y.cells 27 (0, 0))) ∧ Hid (Bx [(w.heap.size, cur), (ku, u)] w wr) ∧ Hid (wr.heap[bl]? = some (.cells #[.string (mkS name), .string (mkS value)] 50 (0, 0))))
  case first =>
    have hbx : Bx [(w.heap.size, cur), (ku, u)] w V5 := (Bx.cons (Bx.cons (Bx.nil _ _ HB.out) Hu.out Ou.out) Hcur.out Ocur.out)
    have far : ∀ k, V5.heap.size ≤ k → (∀ p ∈ ([(w.heap.size, cur), (ku, u)] : List (Nat × UV)), p.1 ≠ k ∧ Nb k p.2) ∧ w.heap.size ≤ k := fun k hk => hbx.far hk
    have FAR := Lib.hid far
    have HBX := Lib.hid hbx
    clear far
    refine wp_region_noPanic ?_
    refine wp_region_held_drew (S := fun W' => Bx [(w.heap.size, cur), (ku, u)] w W') (by kernel_rfl) (Bx.below hbx (b_drew (Below.refl _ _))) (fun hS0 => ?_)
    have hS : Bx [(w.heap.size, cur), (ku, u)] w V5.drew := hS0
    clear hS0 hbx
    have SZ : Hid (V5.heap.size ≤ V5.drew.heap.size) := Lib.hid (Nat.le_refl _)
    have HV : Hid (Below V5.heap.size V5 V5.drew) := Lib.hid (b_drew (Below.refl _ _))
    refine wpAnyH_take (i := 0) (v := ?_) rfl (by kernel_rfl) (by kernel_rfl) (by kernel_rfl) (fun _ _ _ h => h) (Or.inl ⟨by kernel_rfl, fun W hW => ?_⟩) (by assumption) ?_
    rotate_left
    · go_simp
      try with_reducible rfl
    (try simp only [List.getElem_toArray, List.getElem_cons_zero, List.getElem_cons_succ, Act.put, List.setIfInBounds_toArray, List.set_cons_zero, List.set_cons_succ])
    refine wpAnyH_take (i := 2) (v := ?_) rfl (by kernel_rfl) (by kernel_rfl) (by kernel_rfl) (fun _ _ _ h => h) (Or.inl ⟨by kernel_rfl, fun W hW => ?_⟩) (by assumption) ?_
    rotate_left
    · go_simp
      try with_reducible rfl
    (try simp only [List.getElem_toArray, List.getElem_cons_zero, List.getElem_cons_succ, Act.put, List.setIfInBounds_toArray, List.set_cons_zero, List.set_cons_succ])
    refine wpAnyH_take (i := 4) (v := ?_) rfl (by kernel_rfl) (by kernel_rfl) (by kernel_rfl) (fun _ _ _ h => h) (Or.inl ⟨by kernel_rfl, fun W hW => ?_⟩) (by assumption) ?_
    rotate_left
    · refine yield_row 27 (.tmp 7) ?_ w.heap.size ?_ (hW.hp (.head _)) Tryz.underlying27 rfl (by kernel_rfl)
      · rfl
      · rfl
    (try simp only [List.getElem_toArray, List.getElem_cons_zero, List.getElem_cons_succ, Act.put, List.setIfInBounds_toArray, List.set_cons_zero, List.set_cons_succ])
    refine wpAnyH_ready (rs := [1, 9]) (by kernel_rfl) (by simp) ?_
    refine AllReadyH.cons rfl (fun K hK => ?_) (AllReadyH.cons rfl (fun K hK => ?_) AllReadyH.nil)
    · skip
      have SZ0 := SZ.out
      obtain ⟨v1, U1, hr, ho, hb, hk1⟩ := appN V5.heap.size a0 n0 k0 f0 (V5.drew) 28 (Rf.out.below hS.be) (Nat.le_trans FF.out.1 (by decide)) SZ0
      try rw [if_pos (by rfl)]
      refine wp_app _ _ _ rfl rfl rfl hr ?_
      clear hr
      replace hS := hS.below hb
      replace SZ : Hid (V5.heap.size ≤ U1.heap.size) := Lib.hid (Nat.le_trans SZ.out hb.size)
      replace HV : Hid (Below V5.heap.size V5 U1) := Lib.hid (HV.out.trans (hb.mono SZ0))
      have HO := Lib.hid ho
      clear hb ho hk1 SZ0
      refine hK.out _ _ hS (fun _ => ?_)
      clear hK K
      (try simp only [List.getElem_toArray, List.getElem_cons_zero, List.getElem_cons_succ, Act.put, List.setIfInBounds_toArray, List.set_cons_zero, List.set_cons_succ])
      refine wpAnyH_ready (rs := [3, 9]) (by kernel_rfl) (by simp) ?_
      refine AllReadyH.cons rfl (fun K hK => ?_) (AllReadyH.cons rfl (fun K hK => ?_) AllReadyH.nil)
      · skip
        have SZ0 := SZ.out
        have hfl := obj_b HV.out HF.out
        obtain ⟨v2, U2, hr, ho, hg, hat⟩ := appO V5.heap.size v1 n0 f0 bl 0 1 1 [(name, value)] U1 28 HO.out rfl (fld1 hfl) (by have := FF.out.1; omega) SZ0
        try rw [if_pos (by rfl)]
        refine wp_app _ _ _ rfl rfl rfl hr ?_
        clear hr hfl
        have hv : Below V5.heap.size V5 U2 := HV.out.grown hg SZ0 (fun k hk => (HO.out.lt k hk).1)
        replace hS := HBX.out.below hv
        replace SZ : Hid (V5.heap.size ≤ U2.heap.size) := Lib.hid hv.size
        replace HV := Lib.hid hv
        obtain ⟨a2, c2, rfl, hr2, -, -⟩ := own_rdF ho (by rw [List.length_append, Rf.out.len]; rfl)
        have HR2 := Lib.hid hr2
        clear hr2 ho hg hat hv HO SZ0
        refine hK.out _ _ hS (fun _ => ?_)
        clear hK K
        (try simp only [List.getElem_toArray, List.getElem_cons_zero, List.getElem_cons_succ, Act.put, List.setIfInBounds_toArray, List.set_cons_zero, List.set_cons_succ])
        refine wpAnyH_ready (rs := [5, 9]) (by kernel_rfl) (by simp) ?_
        refine AllReadyH.cons rfl (fun K hK => ?_) (AllReadyH.cons rfl (fun K hK => ?_) AllReadyH.nil)
        · go_simp
          have SZ0 := SZ.out
          refine (PlaceF_sm_c a2 (n0 + 1) c2 (f0 ++ [(name, value)]) cur _ HR2.out (by have := FF.out.1; omega) (HLA.out) (hS.ok (.head _)) Ncur.out (HG.out.below hS.be) (tabs_below HTB.out hS.be)).mono ?_
          rw [HQ.out]
          rintro e U3 ⟨⟨v, rfl, hyp, hyo, hyf⟩, hb⟩
          clear HR2
          replace hS := hS.below hb
          replace SZ : Hid (V5.heap.size ≤ U3.heap.size) := Lib.hid (Nat.le_trans SZ.out hb.size)
          replace HV : Hid (Below V5.heap.size V5 U3) := Lib.hid (HV.out.trans (hb.mono SZ0))
          have Pv := Lib.hid hyp
          have Ov := Lib.hid hyo
          clear hb hyp hyf hyo SZ0
          refine hK.out _ _ hS (fun _ => ?_)
          clear hK K
          (try simp only [List.getElem_toArray, List.getElem_cons_zero, List.getElem_cons_succ, Act.put, List.setIfInBounds_toArray, List.set_cons_zero, List.set_cons_succ])
          refine wpAnyH_take (i := 6) (v := ?_) rfl (by kernel_rfl) (by kernel_rfl) (by kernel_rfl) (fun _ _ _ h => h) (Or.inl ⟨by kernel_rfl, fun W hW => ?_⟩) (by assumption) ?_
          rotate_left
          · go_simp
            try with_reducible rfl
          (try simp only [List.getElem_toArray, List.getElem_cons_zero, List.getElem_cons_succ, Act.put, List.setIfInBounds_toArray, List.set_cons_zero, List.set_cons_succ])
          refine wpAnyH_take (i := 7) (v := ?_) rfl (by kernel_rfl) (by kernel_rfl) (by kernel_rfl) (fun _ _ _ h => h) (Or.inl ⟨by kernel_rfl, fun W hW => ?_⟩) (by assumption) ?_
          rotate_left
          · go_simp
            try with_reducible rfl
          (try simp only [List.getElem_toArray, List.getElem_cons_zero, List.getElem_cons_succ, Act.put, List.setIfInBounds_toArray, List.set_cons_zero, List.set_cons_succ])
          refine wpAnyH_take (i := 8) (v := ?_) rfl (by kernel_rfl) (by kernel_rfl) (by kernel_rfl) (fun _ _ _ h => h) (Or.inl ⟨by kernel_rfl, fun W hW => ?_⟩) (by assumption) ?_
          rotate_left
          · go_simp
            try with_reducible rfl
          (try simp only [List.getElem_toArray, List.getElem_cons_zero, List.getElem_cons_succ, Act.put, List.setIfInBounds_toArray, List.set_cons_zero, List.set_cons_succ])
          refine wpAnyH_ready (rs := [9]) (by kernel_rfl) (by simp) ?_
          refine AllReadyH.cons rfl (fun K hK => ?_) AllReadyH.nil
          go_simp
          have SZ0 := SZ.out
          have hN : (U3.alloc (.cells #[.string ⟨#[]⟩, .string ⟨#[]⟩, .string ⟨#[]⟩, .int .i64 0, .string ⟨#[]⟩, .int .i64 0, .int .i64 0, .int .i64 0, .int .i64 0, .int .i64 0, .int .i64 0, .int .i64 0, .int .i64 0, .int .i64 0, .int .i64 0, .slice none 0 0, .string ⟨#[]⟩, .string ⟨#[]⟩, .string ⟨#[]⟩, .bool false, .bool false] 27)).heap[U3.heap.size]? = some (.cells #[.string ⟨#[]⟩, .string ⟨#[]⟩, .string ⟨#[]⟩, .int .i64 0, .string ⟨#[]⟩, .int .i64 0, .int .i64 0, .int .i64 0, .int .i64 0, .int .i64 0, .int .i64 0, .int .i64 0, .int .i64 0, .int .i64 0, .int .i64 0, .slice none 0 0, .string ⟨#[]⟩, .string ⟨#[]⟩, .string ⟨#[]⟩, .bool false, .bool false] 27 (0, 0)) := Go.heap_alloc_new U3 _
          have hb : Below U3.heap.size U3 (U3.alloc (.cells #[.string ⟨#[]⟩, .string ⟨#[]⟩, .string ⟨#[]⟩, .int .i64 0, .string ⟨#[]⟩, .int .i64 0, .int .i64 0, .int .i64 0, .int .i64 0, .int .i64 0, .int .i64 0, .int .i64 0, .int .i64 0, .int .i64 0, .int .i64 0, .slice none 0 0, .string ⟨#[]⟩, .string ⟨#[]⟩, .string ⟨#[]⟩, .bool false, .bool false] 27)) := b_alloc (Below.refl _ _) _
          have hny : Nb (U3.heap.size) v := Ok_nb Ov.out (Nat.le_refl _)
          have NY := Lib.hid hny
          clear hny
          have HLB : Hid (V5.heap.size ≤ U3.heap.size) := Lib.hid SZ.out
          replace hS := hS.below hb
          replace SZ : Hid (V5.heap.size ≤ (U3.alloc (.cells #[.string ⟨#[]⟩, .string ⟨#[]⟩, .string ⟨#[]⟩, .int .i64 0, .string ⟨#[]⟩, .int .i64 0, .int .i64 0, .int .i64 0, .int .i64 0, .int .i64 0, .int .i64 0, .int .i64 0, .int .i64 0, .int .i64 0, .int .i64 0, .slice none 0 0, .string ⟨#[]⟩, .string ⟨#[]⟩, .string ⟨#[]⟩, .bool false, .bool false] 27)).heap.size) := Lib.hid (Nat.le_trans SZ.out hb.size)
          replace Ov := Lib.hid (Ov.out.below hb)
          replace HV : Hid (Below V5.heap.size V5 (U3.alloc (.cells #[.string ⟨#[]⟩, .string ⟨#[]⟩, .string ⟨#[]⟩, .int .i64 0, .string ⟨#[]⟩, .int .i64 0, .int .i64 0, .int .i64 0, .int .i64 0, .int .i64 0, .int .i64 0, .int .i64 0, .int .i64 0, .int .i64 0, .int .i64 0, .slice none 0 0, .string ⟨#[]⟩, .string ⟨#[]⟩, .string ⟨#[]⟩, .bool false, .bool false] 27))) := Lib.hid (HV.out.trans (hb.mono SZ0))
          have HN := Lib.hid hN
          clear hb hN
          refine hK.out _ _ hS (fun _ => ?_)
          clear hK K
          (try simp only [List.getElem_toArray, List.getElem_cons_zero, List.getElem_cons_succ, Act.put, List.setIfInBounds_toArray, List.set_cons_zero, List.set_cons_succ])
          generalize (U3.alloc (.cells #[.string ⟨#[]⟩, .string ⟨#[]⟩, .string ⟨#[]⟩, .int .i64 0, .string ⟨#[]⟩, .int .i64 0, .int .i64 0, .int .i64 0, .int .i64 0, .int .i64 0, .int .i64 0, .int .i64 0, .int .i64 0, .int .i64 0, .int .i64 0, .slice none 0 0, .string ⟨#[]⟩, .string ⟨#[]⟩, .string ⟨#[]⟩, .bool false, .bool false] 27)) = U4 at hS SZ HV Ov HN ⊢
          clear SZ0
          refine wpAnyH_ready (rs := [10]) (by kernel_rfl) (by simp) ?_
          refine AllReadyH.cons rfl (fun K hK => ?_) AllReadyH.nil
          try rw [if_pos (by rfl)]
          refine wp_store_row 27 _ _ rfl (U3.heap.size) v.cells rfl rfl 27 _ HN.out (by kernel_rfl) rfl (agg_one v) ?_
          have hS8 : Bx [(w.heap.size, cur), (ku, u)] w (U4.setRow (U3.heap.size) v.cells) := hS.row v.cells (FAR.out _ HLB.out)
          refine hK.out _ _ hS8 (fun _ => ?_)
          clear hK K
          (try simp only [List.getElem_toArray, List.getElem_cons_zero, List.getElem_cons_succ, Act.put, List.setIfInBounds_toArray, List.set_cons_zero, List.set_cons_succ])
          refine wpAnyH_take (i := 11) (v := ?_) rfl (by kernel_rfl) (by kernel_rfl) (by kernel_rfl) (fun _ _ _ h => h) (Or.inl ⟨by kernel_rfl, fun W hW => ?_⟩) (by assumption) ?_
          rotate_left
          · go_simp
            try with_reducible rfl
          (try simp only [List.getElem_toArray, List.getElem_cons_zero, List.getElem_cons_succ, Act.put, List.setIfInBounds_toArray, List.set_cons_zero, List.set_cons_succ])
          refine wpAnyH_done (by kernel_rfl) ?_ _
          refine NoPanic.normal ?_
          have hlf := h_lt HF.out
          have hlb := HLB.out
          go_wp2
          go_meet
          exact ⟨_, v, _, rfl, rfl, rfl, Pv, Lib.hid (Ok_rowN Ov.out NY.out _), Lib.hid (heap_setRow HN.out _), Lib.hid hS8, Lib.hid ((heap_setRow_other (by omega) _).trans (obj_b HV.out HF.out))⟩
        · go_simp
          have SZ0 := SZ.out
          have hN : (U2.alloc (.cells #[.string ⟨#[]⟩, .string ⟨#[]⟩, .string ⟨#[]⟩, .int .i64 0, .string ⟨#[]⟩, .int .i64 0, .int .i64 0, .int .i64 0, .int .i64 0, .int .i64 0, .int .i64 0, .int .i64 0, .int .i64 0, .int .i64 0, .int .i64 0, .slice none 0 0, .string ⟨#[]⟩, .string ⟨#[]⟩, .string ⟨#[]⟩, .bool false, .bool false] 27)).heap[U2.heap.size]? = some (.cells #[.string ⟨#[]⟩, .string ⟨#[]⟩, .string ⟨#[]⟩, .int .i64 0, .string ⟨#[]⟩, .int .i64 0, .int .i64 0, .int .i64 0, .int .i64 0, .int .i64 0, .int .i64 0, .int .i64 0, .int .i64 0, .int .i64 0, .int .i64 0, .slice none 0 0, .string ⟨#[]⟩, .string ⟨#[]⟩, .string ⟨#[]⟩, .bool false, .bool false] 27 (0, 0)) := Go.heap_alloc_new U2 _
          have hb : Below U2.heap.size U2 (U2.alloc (.cells #[.string ⟨#[]⟩, .string ⟨#[]⟩, .string ⟨#[]⟩, .int .i64 0, .string ⟨#[]⟩, .int .i64 0, .int .i64 0, .int .i64 0, .int .i64 0, .int .i64 0, .int .i64 0, .int .i64 0, .int .i64 0, .int .i64 0, .int .i64 0, .slice none 0 0, .string ⟨#[]⟩, .string ⟨#[]⟩, .string ⟨#[]⟩, .bool false, .bool false] 27)) := b_alloc (Below.refl _ _) _
          have HLB : Hid (V5.heap.size ≤ U2.heap.size) := Lib.hid SZ.out
          replace hS := hS.below hb
          replace SZ : Hid (V5.heap.size ≤ (U2.alloc (.cells #[.string ⟨#[]⟩, .string ⟨#[]⟩, .string ⟨#[]⟩, .int .i64 0, .string ⟨#[]⟩, .int .i64 0, .int .i64 0, .int .i64 0, .int .i64 0, .int .i64 0, .int .i64 0, .int .i64 0, .int .i64 0, .int .i64 0, .int .i64 0, .slice none 0 0, .string ⟨#[]⟩, .string ⟨#[]⟩, .string ⟨#[]⟩, .bool false, .bool false] 27)).heap.size) := Lib.hid (Nat.le_trans SZ.out hb.size)
          replace HV : Hid (Below V5.heap.size V5 (U2.alloc (.cells #[.string ⟨#[]⟩, .string ⟨#[]⟩, .string ⟨#[]⟩, .int .i64 0, .string ⟨#[]⟩, .int .i64 0, .int .i64 0, .int .i64 0, .int .i64 0, .int .i64 0, .int .i64 0, .int .i64 0, .int .i64 0, .int .i64 0, .int .i64 0, .slice none 0 0, .string ⟨#[]⟩, .string ⟨#[]⟩, .string ⟨#[]⟩, .bool false, .bool false] 27))) := Lib.hid (HV.out.trans (hb.mono SZ0))
          replace HR2 := Lib.hid (HR2.out.below hb)
          have HN := Lib.hid hN
          clear hb hN
          refine hK.out _ _ hS (fun _ => ?_)
          clear hK K
          (try simp only [List.getElem_toArray, List.getElem_cons_zero, List.getElem_cons_succ, Act.put, List.setIfInBounds_toArray, List.set_cons_zero, List.set_cons_succ])
          generalize (U2.alloc (.cells #[.string ⟨#[]⟩, .string ⟨#[]⟩, .string ⟨#[]⟩, .int .i64 0, .string ⟨#[]⟩, .int .i64 0, .int .i64 0, .int .i64 0, .int .i64 0, .int .i64 0, .int .i64 0, .int .i64 0, .int .i64 0, .int .i64 0, .int .i64 0, .slice none 0 0, .string ⟨#[]⟩, .string ⟨#[]⟩, .string ⟨#[]⟩, .bool false, .bool false] 27)) = U5 at hS SZ HV HR2 HN ⊢
          clear SZ0
          refine wpAnyH_ready (rs := [5]) (by kernel_rfl) (by simp) ?_
          refine AllReadyH.cons rfl (fun K hK => ?_) AllReadyH.nil
          go_simp
          have hlt8 := h_lt HN.out
          have SZ0 := SZ.out
          refine (PlaceF_sm_c a2 (n0 + 1) c2 (f0 ++ [(name, value)]) cur _ HR2.out (by have := FF.out.1; omega) (HLA.out) (hS.ok (.head _)) Ncur.out (HG.out.below hS.be) (tabs_below HTB.out hS.be)).mono ?_
          rw [HQ.out]
          rintro e U6 ⟨⟨v, rfl, hyp, hyo, hyf⟩, hb⟩
          clear HR2
          have hny : Nb (U2.heap.size) v := fun g o e hx => by have := hyf g o e hx; omega
          have NY := Lib.hid hny
          clear hny hlt8
          replace hS := hS.below hb
          replace SZ : Hid (V5.heap.size ≤ U6.heap.size) := Lib.hid (Nat.le_trans SZ.out hb.size)
          replace HN := Lib.hid (obj_b hb HN.out)
          replace HV : Hid (Below V5.heap.size V5 U6) := Lib.hid (HV.out.trans (hb.mono SZ0))
          have Pv := Lib.hid hyp
          have Ov := Lib.hid hyo
          clear hb hyp hyf hyo SZ0
          refine hK.out _ _ hS (fun _ => ?_)
          clear hK K
          (try simp only [List.getElem_toArray, List.getElem_cons_zero, List.getElem_cons_succ, Act.put, List.setIfInBounds_toArray, List.set_cons_zero, List.set_cons_succ])
          refine wpAnyH_take (i := 6) (v := ?_) rfl (by kernel_rfl) (by kernel_rfl) (by kernel_rfl) (fun _ _ _ h => h) (Or.inl ⟨by kernel_rfl, fun W hW => ?_⟩) (by assumption) ?_
          rotate_left
          · go_simp
            try with_reducible rfl
          (try simp only [List.getElem_toArray, List.getElem_cons_zero, List.getElem_cons_succ, Act.put, List.setIfInBounds_toArray, List.set_cons_zero, List.set_cons_succ])
          refine wpAnyH_take (i := 7) (v := ?_) rfl (by kernel_rfl) (by kernel_rfl) (by kernel_rfl) (fun _ _ _ h => h) (Or.inl ⟨by kernel_rfl, fun W hW => ?_⟩) (by assumption) ?_
          rotate_left
          · go_simp
            try with_reducible rfl
          (try simp only [List.getElem_toArray, List.getElem_cons_zero, List.getElem_cons_succ, Act.put, List.setIfInBounds_toArray, List.set_cons_zero, List.set_cons_succ])
          refine wpAnyH_take (i := 8) (v := ?_) rfl (by kernel_rfl) (by kernel_rfl) (by kernel_rfl) (fun _ _ _ h => h) (Or.inl ⟨by kernel_rfl, fun W hW => ?_⟩) (by assumption) ?_
          rotate_left
          · go_simp
            try with_reducible rfl
          (try simp only [List.getElem_toArray, List.getElem_cons_zero, List.getElem_cons_succ, Act.put, List.setIfInBounds_toArray, List.set_cons_zero, List.set_cons_succ])
          refine wpAnyH_ready (rs := [10]) (by kernel_rfl) (by simp) ?_
          refine AllReadyH.cons rfl (fun K hK => ?_) AllReadyH.nil
          try rw [if_pos (by rfl)]
          refine wp_store_row 27 _ _ rfl (U2.heap.size) v.cells rfl rfl 27 _ HN.out (by kernel_rfl) rfl (agg_one v) ?_
          have hS8 : Bx [(w.heap.size, cur), (ku, u)] w (U6.setRow (U2.heap.size) v.cells) := hS.row v.cells (FAR.out _ HLB.out)
          refine hK.out _ _ hS8 (fun _ => ?_)
          clear hK K
          (try simp only [List.getElem_toArray, List.getElem_cons_zero, List.getElem_cons_succ, Act.put, List.setIfInBounds_toArray, List.set_cons_zero, List.set_cons_succ])
          refine wpAnyH_take (i := 11) (v := ?_) rfl (by kernel_rfl) (by kernel_rfl) (by kernel_rfl) (fun _ _ _ h => h) (Or.inl ⟨by kernel_rfl, fun W hW => ?_⟩) (by assumption) ?_
          rotate_left
          · go_simp
            try with_reducible rfl
          (try simp only [List.getElem_toArray, List.getElem_cons_zero, List.getElem_cons_succ, Act.put, List.setIfInBounds_toArray, List.set_cons_zero, List.set_cons_succ])
          refine wpAnyH_done (by kernel_rfl) ?_ _
          refine NoPanic.normal ?_
          have hlf := h_lt HF.out
          have hlb := HLB.out
          go_wp2
          go_meet
          exact ⟨_, v, _, rfl, rfl, rfl, Pv, Lib.hid (Ok_rowN Ov.out NY.out _), Lib.hid (heap_setRow HN.out _), Lib.hid hS8, Lib.hid ((heap_setRow_other (by omega) _).trans (obj_b HV.out HF.out))⟩
      · go_simp
        have hne : ∀ k, v1.ownBlock = some k → k ≠ U1.heap.size := fun k hk => by have := (HO.out.lt k hk).2; omega
        have HNE := Lib.hid hne
        clear hne
        have SZ0 := SZ.out
        have hN : (U1.alloc (.cells #[.string ⟨#[]⟩, .string ⟨#[]⟩, .string ⟨#[]⟩, .int .i64 0, .string ⟨#[]⟩, .int .i64 0, .int .i64 0, .int .i64 0, .int .i64 0, .int .i64 0, .int .i64 0, .int .i64 0, .int .i64 0, .int .i64 0, .int .i64 0, .slice none 0 0, .string ⟨#[]⟩, .string ⟨#[]⟩, .string ⟨#[]⟩, .bool false, .bool false] 27)).heap[U1.heap.size]? = some (.cells #[.string ⟨#[]⟩, .string ⟨#[]⟩, .string ⟨#[]⟩, .int .i64 0, .string ⟨#[]⟩, .int .i64 0, .int .i64 0, .int .i64 0, .int .i64 0, .int .i64 0, .int .i64 0, .int .i64 0, .int .i64 0, .int .i64 0, .int .i64 0, .slice none 0 0, .string ⟨#[]⟩, .string ⟨#[]⟩, .string ⟨#[]⟩, .bool false, .bool false] 27 (0, 0)) := Go.heap_alloc_new U1 _
        have hb : Below U1.heap.size U1 (U1.alloc (.cells #[.string ⟨#[]⟩, .string ⟨#[]⟩, .string ⟨#[]⟩, .int .i64 0, .string ⟨#[]⟩, .int .i64 0, .int .i64 0, .int .i64 0, .int .i64 0, .int .i64 0, .int .i64 0, .int .i64 0, .int .i64 0, .int .i64 0, .int .i64 0, .slice none 0 0, .string ⟨#[]⟩, .string ⟨#[]⟩, .string ⟨#[]⟩, .bool false, .bool false] 27)) := b_alloc (Below.refl _ _) _
        have HLB : Hid (V5.heap.size ≤ U1.heap.size) := Lib.hid SZ.out
        replace hS := hS.below hb
        replace SZ : Hid (V5.heap.size ≤ (U1.alloc (.cells #[.string ⟨#[]⟩, .string ⟨#[]⟩, .string ⟨#[]⟩, .int .i64 0, .string ⟨#[]⟩, .int .i64 0, .int .i64 0, .int .i64 0, .int .i64 0, .int .i64 0, .int .i64 0, .int .i64 0, .int .i64 0, .int .i64 0, .int .i64 0, .slice none 0 0, .string ⟨#[]⟩, .string ⟨#[]⟩, .string ⟨#[]⟩, .bool false, .bool false] 27)).heap.size) := Lib.hid (Nat.le_trans SZ.out hb.size)
        replace HV : Hid (Below V5.heap.size V5 (U1.alloc (.cells #[.string ⟨#[]⟩, .string ⟨#[]⟩, .string ⟨#[]⟩, .int .i64 0, .string ⟨#[]⟩, .int .i64 0, .int .i64 0, .int .i64 0, .int .i64 0, .int .i64 0, .int .i64 0, .int .i64 0, .int .i64 0, .int .i64 0, .int .i64 0, .slice none 0 0, .string ⟨#[]⟩, .string ⟨#[]⟩, .string ⟨#[]⟩, .bool false, .bool false] 27))) := Lib.hid (HV.out.trans (hb.mono SZ0))
        replace HO := Lib.hid (own_below HO.out hb)
        have HN := Lib.hid hN
        clear hb hN
        refine hK.out _ _ hS (fun _ => ?_)
        clear hK K
        (try simp only [List.getElem_toArray, List.getElem_cons_zero, List.getElem_cons_succ, Act.put, List.setIfInBounds_toArray, List.set_cons_zero, List.set_cons_succ])
        generalize (U1.alloc (.cells #[.string ⟨#[]⟩, .string ⟨#[]⟩, .string ⟨#[]⟩, .int .i64 0, .string ⟨#[]⟩, .int .i64 0, .int .i64 0, .int .i64 0, .int .i64 0, .int .i64 0, .int .i64 0, .int .i64 0, .int .i64 0, .int .i64 0, .int .i64 0, .slice none 0 0, .string ⟨#[]⟩, .string ⟨#[]⟩, .string ⟨#[]⟩, .bool false, .bool false] 27)) = U7 at hS SZ HV HN HO ⊢
        clear SZ0
        refine wpAnyH_ready (rs := [3]) (by kernel_rfl) (by simp) ?_
        refine AllReadyH.cons rfl (fun K hK => ?_) AllReadyH.nil
        have SZ0 := SZ.out
        have hfl := obj_b HV.out HF.out
        obtain ⟨v2, U8, hr, ho, hg, hat⟩ := appO V5.heap.size v1 n0 f0 bl 0 1 1 [(name, value)] U7 28 HO.out rfl (fld1 hfl) (by have := FF.out.1; omega) SZ0
        try rw [if_pos (by rfl)]
        refine wp_app _ _ _ rfl rfl rfl hr ?_
        clear hr hfl
        have hv : Below V5.heap.size V5 U8 := HV.out.grown hg SZ0 (fun k hk => (HO.out.lt k hk).1)
        replace hS := HBX.out.below hv
        replace SZ : Hid (V5.heap.size ≤ U8.heap.size) := Lib.hid hv.size
        replace HV := Lib.hid hv
        replace HN := Lib.hid ((hg.block _ (h_lt HN.out) (fun e => HNE.out _ e.symm rfl)).trans HN.out)
        clear HNE
        obtain ⟨a2, c2, rfl, hr2, -, -⟩ := own_rdF ho (by rw [List.length_append, Rf.out.len]; rfl)
        have HR2 := Lib.hid hr2
        clear hr2 ho hg hat hv HO SZ0
        refine hK.out _ _ hS (fun _ => ?_)
        clear hK K
        (try simp only [List.getElem_toArray, List.getElem_cons_zero, List.getElem_cons_succ, Act.put, List.setIfInBounds_toArray, List.set_cons_zero, List.set_cons_succ])
        refine wpAnyH_ready (rs := [5]) (by kernel_rfl) (by simp) ?_
        refine AllReadyH.cons rfl (fun K hK => ?_) AllReadyH.nil
        go_simp
        have hlt8 := h_lt HN.out
        have SZ0 := SZ.out
        refine (PlaceF_sm_c a2 (n0 + 1) c2 (f0 ++ [(name, value)]) cur _ HR2.out (by have := FF.out.1; omega) (HLA.out) (hS.ok (.head _)) Ncur.out (HG.out.below hS.be) (tabs_below HTB.out hS.be)).mono ?_
        rw [HQ.out]
        rintro e U9 ⟨⟨v, rfl, hyp, hyo, hyf⟩, hb⟩
        clear HR2
        have hny : Nb (U1.heap.size) v := fun g o e hx => by have := hyf g o e hx; omega
        have NY := Lib.hid hny
        clear hny hlt8
        replace hS := hS.below hb
        replace SZ : Hid (V5.heap.size ≤ U9.heap.size) := Lib.hid (Nat.le_trans SZ.out hb.size)
        replace HN := Lib.hid (obj_b hb HN.out)
        replace HV : Hid (Below V5.heap.size V5 U9) := Lib.hid (HV.out.trans (hb.mono SZ0))
        have Pv := Lib.hid hyp
        have Ov := Lib.hid hyo
        clear hb hyp hyf hyo SZ0
        refine hK.out _ _ hS (fun _ => ?_)
        clear hK K
        (try simp only [List.getElem_toArray, List.getElem_cons_zero, List.getElem_cons_succ, Act.put, List.setIfInBounds_toArray, List.set_cons_zero, List.set_cons_succ])
        refine wpAnyH_take (i := 6) (v := ?_) rfl (by kernel_rfl) (by kernel_rfl) (by kernel_rfl) (fun _ _ _ h => h) (Or.inl ⟨by kernel_rfl, fun W hW => ?_⟩) (by assumption) ?_
        rotate_left
        · go_simp
          try with_reducible rfl
        (try simp only [List.getElem_toArray, List.getElem_cons_zero, List.getElem_cons_succ, Act.put, List.setIfInBounds_toArray, List.set_cons_zero, List.set_cons_succ])
        refine wpAnyH_take (i := 7) (v := ?_) rfl (by kernel_rfl) (by kernel_rfl) (by kernel_rfl) (fun _ _ _ h => h) (Or.inl ⟨by kernel_rfl, fun W hW => ?_⟩) (by assumption) ?_
        rotate_left
        · go_simp
          try with_reducible rfl
        (try simp only [List.getElem_toArray, List.getElem_cons_zero, List.getElem_cons_succ, Act.put, List.setIfInBounds_toArray, List.set_cons_zero, List.set_cons_succ])
        refine wpAnyH_take (i := 8) (v := ?_) rfl (by kernel_rfl) (by kernel_rfl) (by kernel_rfl) (fun _ _ _ h => h) (Or.inl ⟨by kernel_rfl, fun W hW => ?_⟩) (by assumption) ?_
        rotate_left
        · go_simp
          try with_reducible rfl
        (try simp only [List.getElem_toArray, List.getElem_cons_zero, List.getElem_cons_succ, Act.put, List.setIfInBounds_toArray, List.set_cons_zero, List.set_cons_succ])
        refine wpAnyH_ready (rs := [10]) (by kernel_rfl) (by simp) ?_
        refine AllReadyH.cons rfl (fun K hK => ?_) AllReadyH.nil
        try rw [if_pos (by rfl)]
        refine wp_store_row 27 _ _ rfl (U1.heap.size) v.cells rfl rfl 27 _ HN.out (by kernel_rfl) rfl (agg_one v) ?_
        have hS8 : Bx [(w.heap.size, cur), (ku, u)] w (U9.setRow (U1.heap.size) v.cells) := hS.row v.cells (FAR.out _ HLB.out)
        refine hK.out _ _ hS8 (fun _ => ?_)
        clear hK K
        (try simp only [List.getElem_toArray, List.getElem_cons_zero, List.getElem_cons_succ, Act.put, List.setIfInBounds_toArray, List.set_cons_zero, List.set_cons_succ])
        refine wpAnyH_take (i := 11) (v := ?_) rfl (by kernel_rfl) (by kernel_rfl) (by kernel_rfl) (fun _ _ _ h => h) (Or.inl ⟨by kernel_rfl, fun W hW => ?_⟩) (by assumption) ?_
        rotate_left
        · go_simp
          try with_reducible rfl
        (try simp only [List.getElem_toArray, List.getElem_cons_zero, List.getElem_cons_succ, Act.put, List.setIfInBounds_toArray, List.set_cons_zero, List.set_cons_succ])
        refine wpAnyH_done (by kernel_rfl) ?_ _
        refine NoPanic.normal ?_
        have hlf := h_lt HF.out
        have hlb := HLB.out
        go_wp2
        go_meet
        exact ⟨_, v, _, rfl, rfl, rfl, Pv, Lib.hid (Ok_rowN Ov.out NY.out _), Lib.hid (heap_setRow HN.out _), Lib.hid hS8, Lib.hid ((heap_setRow_other (by omega) _).trans (obj_b HV.out HF.out))⟩
    · go_simp
      have SZ0 := SZ.out
      have hN : (V5.alloc (.cells #[.string ⟨#[]⟩, .string ⟨#[]⟩, .string ⟨#[]⟩, .int .i64 0, .string ⟨#[]⟩, .int .i64 0, .int .i64 0, .int .i64 0, .int .i64 0, .int .i64 0, .int .i64 0, .int .i64 0, .int .i64 0, .int .i64 0, .int .i64 0, .slice none 0 0, .string ⟨#[]⟩, .string ⟨#[]⟩, .string ⟨#[]⟩, .bool false, .bool false] 27)).drew.heap[V5.heap.size]? = some (.cells #[.string ⟨#[]⟩, .string ⟨#[]⟩, .string ⟨#[]⟩, .int .i64 0, .string ⟨#[]⟩, .int .i64 0, .int .i64 0, .int .i64 0, .int .i64 0, .int .i64 0, .int .i64 0, .int .i64 0, .int .i64 0, .int .i64 0, .int .i64 0, .slice none 0 0, .string ⟨#[]⟩, .string ⟨#[]⟩, .string ⟨#[]⟩, .bool false, .bool false] 27 (0, 0)) := Go.heap_alloc_new V5 _
      have hb : Below V5.drew.heap.size (V5.drew) (V5.alloc (.cells #[.string ⟨#[]⟩, .string ⟨#[]⟩, .string ⟨#[]⟩, .int .i64 0, .string ⟨#[]⟩, .int .i64 0, .int .i64 0, .int .i64 0, .int .i64 0, .int .i64 0, .int .i64 0, .int .i64 0, .int .i64 0, .int .i64 0, .int .i64 0, .slice none 0 0, .string ⟨#[]⟩, .string ⟨#[]⟩, .string ⟨#[]⟩, .bool false, .bool false] 27)).drew := b_alloc (Below.refl (V5.drew).heap.size (V5.drew)) _
      have HLB : Hid (V5.heap.size ≤ V5.heap.size) := Lib.hid SZ.out
      replace hS := hS.below hb
      replace SZ : Hid (V5.heap.size ≤ (V5.alloc (.cells #[.string ⟨#[]⟩, .string ⟨#[]⟩, .string ⟨#[]⟩, .int .i64 0, .string ⟨#[]⟩, .int .i64 0, .int .i64 0, .int .i64 0, .int .i64 0, .int .i64 0, .int .i64 0, .int .i64 0, .int .i64 0, .int .i64 0, .int .i64 0, .slice none 0 0, .string ⟨#[]⟩, .string ⟨#[]⟩, .string ⟨#[]⟩, .bool false, .bool false] 27)).drew.heap.size) := Lib.hid (Nat.le_trans SZ.out hb.size)
      replace HV : Hid (Below V5.heap.size V5 (V5.alloc (.cells #[.string ⟨#[]⟩, .string ⟨#[]⟩, .string ⟨#[]⟩, .int .i64 0, .string ⟨#[]⟩, .int .i64 0, .int .i64 0, .int .i64 0, .int .i64 0, .int .i64 0, .int .i64 0, .int .i64 0, .int .i64 0, .int .i64 0, .int .i64 0, .slice none 0 0, .string ⟨#[]⟩, .string ⟨#[]⟩, .string ⟨#[]⟩, .bool false, .bool false] 27)).drew) := Lib.hid (HV.out.trans (hb.mono SZ0))
      have HN := Lib.hid hN
      clear hb hN
      refine hK.out _ _ hS (fun _ => ?_)
      clear hK K
      (try simp only [List.getElem_toArray, List.getElem_cons_zero, List.getElem_cons_succ, Act.put, List.setIfInBounds_toArray, List.set_cons_zero, List.set_cons_succ])
      generalize (V5.alloc (.cells #[.string ⟨#[]⟩, .string ⟨#[]⟩, .string ⟨#[]⟩, .int .i64 0, .string ⟨#[]⟩, .int .i64 0, .int .i64 0, .int .i64 0, .int .i64 0, .int .i64 0, .int .i64 0, .int .i64 0, .int .i64 0, .int .i64 0, .int .i64 0, .slice none 0 0, .string ⟨#[]⟩, .string ⟨#[]⟩, .string ⟨#[]⟩, .bool false, .bool false] 27)).drew = U10 at hS SZ HV HN ⊢
      clear SZ0
      refine wpAnyH_ready (rs := [1]) (by kernel_rfl) (by simp) ?_
      refine AllReadyH.cons rfl (fun K hK => ?_) AllReadyH.nil
      have hlt8 := h_lt HN.out
      have SZ0 := SZ.out
      obtain ⟨v1, U11, hr, ho, hb, hk1⟩ := appN V5.heap.size a0 n0 k0 f0 (U10) 28 (Rf.out.below hS.be) (Nat.le_trans FF.out.1 (by decide)) SZ0
      try rw [if_pos (by rfl)]
      refine wp_app _ _ _ rfl rfl rfl hr ?_
      clear hr
      have hne : ∀ k, v1.ownBlock = some k → k ≠ V5.heap.size := fun k hk => by have := hk1 k hk; have e : (U10).heap.size = U10.heap.size := rfl; omega
      have HNE := Lib.hid hne
      clear hne hlt8
      replace hS := hS.below hb
      replace SZ : Hid (V5.heap.size ≤ U11.heap.size) := Lib.hid (Nat.le_trans SZ.out hb.size)
      replace HN := Lib.hid (obj_b hb HN.out)
      replace HV : Hid (Below V5.heap.size V5 U11) := Lib.hid (HV.out.trans (hb.mono SZ0))
      have HO := Lib.hid ho
      clear hb ho hk1 SZ0
      refine hK.out _ _ hS (fun _ => ?_)
      clear hK K
      (try simp only [List.getElem_toArray, List.getElem_cons_zero, List.getElem_cons_succ, Act.put, List.setIfInBounds_toArray, List.set_cons_zero, List.set_cons_succ])
      refine wpAnyH_ready (rs := [3]) (by kernel_rfl) (by simp) ?_
      refine AllReadyH.cons rfl (fun K hK => ?_) AllReadyH.nil
      have SZ0 := SZ.out
      have hfl := obj_b HV.out HF.out
      obtain ⟨v2, U12, hr, ho, hg, hat⟩ := appO V5.heap.size v1 n0 f0 bl 0 1 1 [(name, value)] U11 28 HO.out rfl (fld1 hfl) (by have := FF.out.1; omega) SZ0
      try rw [if_pos (by rfl)]
      refine wp_app _ _ _ rfl rfl rfl hr ?_
      clear hr hfl
      have hv : Below V5.heap.size V5 U12 := HV.out.grown hg SZ0 (fun k hk => (HO.out.lt k hk).1)
      replace hS := HBX.out.below hv
      replace SZ : Hid (V5.heap.size ≤ U12.heap.size) := Lib.hid hv.size
      replace HV := Lib.hid hv
      replace HN := Lib.hid ((hg.block _ (h_lt HN.out) (fun e => HNE.out _ e.symm rfl)).trans HN.out)
      clear HNE
      obtain ⟨a2, c2, rfl, hr2, -, -⟩ := own_rdF ho (by rw [List.length_append, Rf.out.len]; rfl)
      have HR2 := Lib.hid hr2
      clear hr2 ho hg hat hv HO SZ0
      refine hK.out _ _ hS (fun _ => ?_)
      clear hK K
      (try simp only [List.getElem_toArray, List.getElem_cons_zero, List.getElem_cons_succ, Act.put, List.setIfInBounds_toArray, List.set_cons_zero, List.set_cons_succ])
      refine wpAnyH_ready (rs := [5]) (by kernel_rfl) (by simp) ?_
      refine AllReadyH.cons rfl (fun K hK => ?_) AllReadyH.nil
      go_simp
      have hlt8 := h_lt HN.out
      have SZ0 := SZ.out
      refine (PlaceF_sm_c a2 (n0 + 1) c2 (f0 ++ [(name, value)]) cur _ HR2.out (by have := FF.out.1; omega) (HLA.out) (hS.ok (.head _)) Ncur.out (HG.out.below hS.be) (tabs_below HTB.out hS.be)).mono ?_
      rw [HQ.out]
      rintro e U13 ⟨⟨v, rfl, hyp, hyo, hyf⟩, hb⟩
      clear HR2
      have hny : Nb (V5.heap.size) v := fun g o e hx => by have := hyf g o e hx; omega
      have NY := Lib.hid hny
      clear hny hlt8
      replace hS := hS.below hb
      replace SZ : Hid (V5.heap.size ≤ U13.heap.size) := Lib.hid (Nat.le_trans SZ.out hb.size)
      replace HN := Lib.hid (obj_b hb HN.out)
      replace HV : Hid (Below V5.heap.size V5 U13) := Lib.hid (HV.out.trans (hb.mono SZ0))
      have Pv := Lib.hid hyp
      have Ov := Lib.hid hyo
      clear hb hyp hyf hyo SZ0
      refine hK.out _ _ hS (fun _ => ?_)
      clear hK K
      (try simp only [List.getElem_toArray, List.getElem_cons_zero, List.getElem_cons_succ, Act.put, List.setIfInBounds_toArray, List.set_cons_zero, List.set_cons_succ])
      refine wpAnyH_take (i := 6) (v := ?_) rfl (by kernel_rfl) (by kernel_rfl) (by kernel_rfl) (fun _ _ _ h => h) (Or.inl ⟨by kernel_rfl, fun W hW => ?_⟩) (by assumption) ?_
      rotate_left
      · go_simp
        try with_reducible rfl
      (try simp only [List.getElem_toArray, List.getElem_cons_zero, List.getElem_cons_succ, Act.put, List.setIfInBounds_toArray, List.set_cons_zero, List.set_cons_succ])
      refine wpAnyH_take (i := 7) (v := ?_) rfl (by kernel_rfl) (by kernel_rfl) (by kernel_rfl) (fun _ _ _ h => h) (Or.inl ⟨by kernel_rfl, fun W hW => ?_⟩) (by assumption) ?_
      rotate_left
      · go_simp
        try with_reducible rfl
      (try simp only [List.getElem_toArray, List.getElem_cons_zero, List.getElem_cons_succ, Act.put, List.setIfInBounds_toArray, List.set_cons_zero, List.set_cons_succ])
      refine wpAnyH_take (i := 8) (v := ?_) rfl (by kernel_rfl) (by kernel_rfl) (by kernel_rfl) (fun _ _ _ h => h) (Or.inl ⟨by kernel_rfl, fun W hW => ?_⟩) (by assumption) ?_
      rotate_left
      · go_simp
        try with_reducible rfl
      (try simp only [List.getElem_toArray, List.getElem_cons_zero, List.getElem_cons_succ, Act.put, List.setIfInBounds_toArray, List.set_cons_zero, List.set_cons_succ])
      refine wpAnyH_ready (rs := [10]) (by kernel_rfl) (by simp) ?_
      refine AllReadyH.cons rfl (fun K hK => ?_) AllReadyH.nil
      try rw [if_pos (by rfl)]
      refine wp_store_row 27 _ _ rfl (V5.heap.size) v.cells rfl rfl 27 _ HN.out (by kernel_rfl) rfl (agg_one v) ?_
      have hS8 : Bx [(w.heap.size, cur), (ku, u)] w (U13.setRow (V5.heap.size) v.cells) := hS.row v.cells (FAR.out _ HLB.out)
      refine hK.out _ _ hS8 (fun _ => ?_)
      clear hK K
      (try simp only [List.getElem_toArray, List.getElem_cons_zero, List.getElem_cons_succ, Act.put, List.setIfInBounds_toArray, List.set_cons_zero, List.set_cons_succ])
      refine wpAnyH_take (i := 11) (v := ?_) rfl (by kernel_rfl) (by kernel_rfl) (by kernel_rfl) (fun _ _ _ h => h) (Or.inl ⟨by kernel_rfl, fun W hW => ?_⟩) (by assumption) ?_
      rotate_left
      · go_simp
        try with_reducible rfl
      (try simp only [List.getElem_toArray, List.getElem_cons_zero, List.getElem_cons_succ, Act.put, List.setIfInBounds_toArray, List.set_cons_zero, List.set_cons_succ])
      refine wpAnyH_done (by kernel_rfl) ?_ _
      refine NoPanic.normal ?_
      have hlf := h_lt HF.out
      have hlb := HLB.out
      go_wp2
      go_meet
      exact ⟨_, v, _, rfl, rfl, rfl, Pv, Lib.hid (Ok_rowN Ov.out NY.out _), Lib.hid (heap_setRow HN.out _), Lib.hid hS8, Lib.hid ((heap_setRow_other (by omega) _).trans (obj_b HV.out HF.out))⟩
  case rest =>
    obtain ⟨kv, v, W9, rfl, rfl, rfl, Pv, Ov, Hv, hEA, hfl⟩ := hcut
    clear HB HF Hcur Ocur Hu Ou
    have HF := hfl
    clear hfl
    have Hcur := Lib.hid (hEA.out.hp (.head _))
    have Hu := Lib.hid (hEA.out.hp (.tail _ (.head _)))
    have Ocur := Lib.hid (hEA.out.ok (.head _))
    have Ou := Lib.hid (hEA.out.ok (.tail _ (.head _)))
    have HB := Lib.hid hEA.out.be
    clear hEA
    go_wp2_with fail
    go_cut [17, 18] (fun pt vt wr => ∃ (ky : Nat) (y : UV) (W9 : World), W9 = wr ∧ pt = .pointer (some ⟨ky, 0, none⟩) ∧ vt = .int .i64 i ∧ Hid (y.pm = r) ∧ Hid (y.Ok wr) ∧ Hid (wr.heap[ky]? = some (.cells y.cells 27 (0, 0))) ∧ Hid (Bx [(w.heap.size, cur), (ku, u), (kv, v)] w wr) ∧ Hid (wr.heap[bl]? = some (.cells #[.string (mkS name), .string (mkS value)] 50 (0, 0))))
    case first =>
      have hbx : Bx [(w.heap.size, cur), (ku, u), (kv, v)] w W9 := (Bx.cons (Bx.cons (Bx.cons (Bx.nil _ _ HB.out) Hv.out Ov.out) Hu.out Ou.out) Hcur.out Ocur.out)
      have far : ∀ k, W9.heap.size ≤ k → (∀ p ∈ ([(w.heap.size, cur), (ku, u), (kv, v)] : List (Nat × UV)), p.1 ≠ k ∧ Nb k p.2) ∧ w.heap.size ≤ k := fun k hk => hbx.far hk
      have FAR := Lib.hid far
      have HBX := Lib.hid hbx
      clear far
      refine wp_region_noPanic ?_
      refine wp_region_held_drew (S := fun W' => Bx [(w.heap.size, cur), (ku, u), (kv, v)] w W') (by kernel_rfl) (Bx.below hbx (b_drew (Below.refl _ _))) (fun hS0 => ?_)
      have hS : Bx [(w.heap.size, cur), (ku, u), (kv, v)] w W9.drew := hS0
      clear hS0 hbx
      have SZ : Hid (W9.heap.size ≤ W9.drew.heap.size) := Lib.hid (Nat.le_refl _)
      have HV : Hid (Below W9.heap.size W9 W9.drew) := Lib.hid (b_drew (Below.refl _ _))
      refine wpAnyH_take (i := 0) (v := ?_) rfl (by kernel_rfl) (by kernel_rfl) (by kernel_rfl) (fun _ _ _ h => h) (Or.inl ⟨by kernel_rfl, fun W hW => ?_⟩) (by assumption) ?_
      rotate_left
      · go_simp
        try with_reducible rfl
      (try simp only [List.getElem_toArray, List.getElem_cons_zero, List.getElem_cons_succ, Act.put, List.setIfInBounds_toArray, List.set_cons_zero, List.set_cons_succ])
      refine wpAnyH_take (i := 1) (v := ?_) rfl (by kernel_rfl) (by kernel_rfl) (by kernel_rfl) (fun _ _ _ h => h) (Or.inl ⟨by kernel_rfl, fun W hW => ?_⟩) (by assumption) ?_
      rotate_left
      · go_simp
        try with_reducible rfl
      (try simp only [List.getElem_toArray, List.getElem_cons_zero, List.getElem_cons_succ, Act.put, List.setIfInBounds_toArray, List.set_cons_zero, List.set_cons_succ])
      refine wpAnyH_take (i := 3) (v := ?_) rfl (by kernel_rfl) (by kernel_rfl) (by kernel_rfl) (fun _ _ _ h => h) (Or.inl ⟨by kernel_rfl, fun W hW => ?_⟩) (by assumption) ?_
      rotate_left
      · refine yield_row 27 (.tmp 7) ?_ w.heap.size ?_ (hW.hp (.head _)) Tryz.underlying27 rfl (by kernel_rfl)
        · rfl
        · rfl
      (try simp only [List.getElem_toArray, List.getElem_cons_zero, List.getElem_cons_succ, Act.put, List.setIfInBounds_toArray, List.set_cons_zero, List.set_cons_succ])
      refine wpAnyH_ready (rs := [2, 8]) (by kernel_rfl) (by simp) ?_
      refine AllReadyH.cons rfl (fun K hK => ?_) (AllReadyH.cons rfl (fun K hK => ?_) AllReadyH.nil)
      · skip
        have SZ0 := SZ.out
        obtain ⟨a2, c2, U1, hr, hr2, hb⟩ := appF bl name value a0 n0 k0 f0 (W9.drew) 28 (obj_b HV.out HF.out) (Rf.out.below hS.be) (Nat.le_trans FF.out.1 (by decide))
        try rw [if_pos (by rfl)]
        refine wp_app _ _ _ rfl rfl rfl hr ?_
        clear hr
        replace hS := hS.below hb
        replace SZ : Hid (W9.heap.size ≤ U1.heap.size) := Lib.hid (Nat.le_trans SZ.out hb.size)
        replace HV : Hid (Below W9.heap.size W9 U1) := Lib.hid (HV.out.trans (hb.mono SZ0))
        have HR2 := Lib.hid hr2
        clear hb hr2 SZ0
        refine hK.out _ _ hS (fun _ => ?_)
        clear hK K
        (try simp only [List.getElem_toArray, List.getElem_cons_zero, List.getElem_cons_succ, Act.put, List.setIfInBounds_toArray, List.set_cons_zero, List.set_cons_succ])
        refine wpAnyH_ready (rs := [4, 8]) (by kernel_rfl) (by simp) ?_
        refine AllReadyH.cons rfl (fun K hK => ?_) (AllReadyH.cons rfl (fun K hK => ?_) AllReadyH.nil)
        · go_simp
          have SZ0 := SZ.out
          refine (PlaceF_sm_c a2 (1 + n0) c2 ((name, value) :: f0) cur _ HR2.out (by have := FF.out.1; omega) (fun f hf => by rcases List.mem_cons.1 hf with rfl | h; exact ⟨Nat.le_trans HLname.out (by decide), Nat.le_trans HLvalue.out (by decide)⟩; exact FF.out.2 f h) (hS.ok (.head _)) Ncur.out (HG.out.below hS.be) (tabs_below HTB.out hS.be)).mono ?_
          rw [HRR.out]
          rintro e U2 ⟨⟨x, rfl, hyp, hyo, hyf⟩, hb⟩
          clear HR2
          replace hS := hS.below hb
          replace SZ : Hid (W9.heap.size ≤ U2.heap.size) := Lib.hid (Nat.le_trans SZ.out hb.size)
          replace HV : Hid (Below W9.heap.size W9 U2) := Lib.hid (HV.out.trans (hb.mono SZ0))
          have Px := Lib.hid hyp
          have Ox := Lib.hid hyo
          clear hb hyp hyf hyo SZ0
          refine hK.out _ _ hS (fun _ => ?_)
          clear hK K
          (try simp only [List.getElem_toArray, List.getElem_cons_zero, List.getElem_cons_succ, Act.put, List.setIfInBounds_toArray, List.set_cons_zero, List.set_cons_succ])
          refine wpAnyH_take (i := 5) (v := ?_) rfl (by kernel_rfl) (by kernel_rfl) (by kernel_rfl) (fun _ _ _ h => h) (Or.inl ⟨by kernel_rfl, fun W hW => ?_⟩) (by assumption) ?_
          rotate_left
          · go_simp
            try with_reducible rfl
          (try simp only [List.getElem_toArray, List.getElem_cons_zero, List.getElem_cons_succ, Act.put, List.setIfInBounds_toArray, List.set_cons_zero, List.set_cons_succ])
          refine wpAnyH_take (i := 6) (v := ?_) rfl (by kernel_rfl) (by kernel_rfl) (by kernel_rfl) (fun _ _ _ h => h) (Or.inl ⟨by kernel_rfl, fun W hW => ?_⟩) (by assumption) ?_
          rotate_left
          · go_simp
            try with_reducible rfl
          (try simp only [List.getElem_toArray, List.getElem_cons_zero, List.getElem_cons_succ, Act.put, List.setIfInBounds_toArray, List.set_cons_zero, List.set_cons_succ])
          refine wpAnyH_take (i := 7) (v := ?_) rfl (by kernel_rfl) (by kernel_rfl) (by kernel_rfl) (fun _ _ _ h => h) (Or.inl ⟨by kernel_rfl, fun W hW => ?_⟩) (by assumption) ?_
          rotate_left
          · go_simp
            try with_reducible rfl
          (try simp only [List.getElem_toArray, List.getElem_cons_zero, List.getElem_cons_succ, Act.put, List.setIfInBounds_toArray, List.set_cons_zero, List.set_cons_succ])
          refine wpAnyH_ready (rs := [8]) (by kernel_rfl) (by simp) ?_
          refine AllReadyH.cons rfl (fun K hK => ?_) AllReadyH.nil
          go_simp
          have SZ0 := SZ.out
          have hN : (U2.alloc (.cells #[.string ⟨#[]⟩, .string ⟨#[]⟩, .string ⟨#[]⟩, .int .i64 0, .string ⟨#[]⟩, .int .i64 0, .int .i64 0, .int .i64 0, .int .i64 0, .int .i64 0, .int .i64 0, .int .i64 0, .int .i64 0, .int .i64 0, .int .i64 0, .slice none 0 0, .string ⟨#[]⟩, .string ⟨#[]⟩, .string ⟨#[]⟩, .bool false, .bool false] 27)).heap[U2.heap.size]? = some (.cells #[.string ⟨#[]⟩, .string ⟨#[]⟩, .string ⟨#[]⟩, .int .i64 0, .string ⟨#[]⟩, .int .i64 0, .int .i64 0, .int .i64 0, .int .i64 0, .int .i64 0, .int .i64 0, .int .i64 0, .int .i64 0, .int .i64 0, .int .i64 0, .slice none 0 0, .string ⟨#[]⟩, .string ⟨#[]⟩, .string ⟨#[]⟩, .bool false, .bool false] 27 (0, 0)) := Go.heap_alloc_new U2 _
          have hb : Below U2.heap.size U2 (U2.alloc (.cells #[.string ⟨#[]⟩, .string ⟨#[]⟩, .string ⟨#[]⟩, .int .i64 0, .string ⟨#[]⟩, .int .i64 0, .int .i64 0, .int .i64 0, .int .i64 0, .int .i64 0, .int .i64 0, .int .i64 0, .int .i64 0, .int .i64 0, .int .i64 0, .slice none 0 0, .string ⟨#[]⟩, .string ⟨#[]⟩, .string ⟨#[]⟩, .bool false, .bool false] 27)) := b_alloc (Below.refl _ _) _
          have hny : Nb (U2.heap.size) x := Ok_nb Ox.out (Nat.le_refl _)
          have NY := Lib.hid hny
          clear hny
          have HLB : Hid (W9.heap.size ≤ U2.heap.size) := Lib.hid SZ.out
          replace hS := hS.below hb
          replace SZ : Hid (W9.heap.size ≤ (U2.alloc (.cells #[.string ⟨#[]⟩, .string ⟨#[]⟩, .string ⟨#[]⟩, .int .i64 0, .string ⟨#[]⟩, .int .i64 0, .int .i64 0, .int .i64 0, .int .i64 0, .int .i64 0, .int .i64 0, .int .i64 0, .int .i64 0, .int .i64 0, .int .i64 0, .slice none 0 0, .string ⟨#[]⟩, .string ⟨#[]⟩, .string ⟨#[]⟩, .bool false, .bool false] 27)).heap.size) := Lib.hid (Nat.le_trans SZ.out hb.size)
          replace Ox := Lib.hid (Ox.out.below hb)
          replace HV : Hid (Below W9.heap.size W9 (U2.alloc (.cells #[.string ⟨#[]⟩, .string ⟨#[]⟩, .string ⟨#[]⟩, .int .i64 0, .string ⟨#[]⟩, .int .i64 0, .int .i64 0, .int .i64 0, .int .i64 0, .int .i64 0, .int .i64 0, .int .i64 0, .int .i64 0, .int .i64 0, .int .i64 0, .slice none 0 0, .string ⟨#[]⟩, .string ⟨#[]⟩, .string ⟨#[]⟩, .bool false, .bool false] 27))) := Lib.hid (HV.out.trans (hb.mono SZ0))
          have HN := Lib.hid hN
          clear hb hN
          refine hK.out _ _ hS (fun _ => ?_)
          clear hK K
          (try simp only [List.getElem_toArray, List.getElem_cons_zero, List.getElem_cons_succ, Act.put, List.setIfInBounds_toArray, List.set_cons_zero, List.set_cons_succ])
          generalize (U2.alloc (.cells #[.string ⟨#[]⟩, .string ⟨#[]⟩, .string ⟨#[]⟩, .int .i64 0, .string ⟨#[]⟩, .int .i64 0, .int .i64 0, .int .i64 0, .int .i64 0, .int .i64 0, .int .i64 0, .int .i64 0, .int .i64 0, .int .i64 0, .int .i64 0, .slice none 0 0, .string ⟨#[]⟩, .string ⟨#[]⟩, .string ⟨#[]⟩, .bool false, .bool false] 27)) = U3 at hS SZ HV Ox HN ⊢
          clear SZ0
          refine wpAnyH_ready (rs := [9]) (by kernel_rfl) (by simp) ?_
          refine AllReadyH.cons rfl (fun K hK => ?_) AllReadyH.nil
          try rw [if_pos (by rfl)]
          refine wp_store_row 27 _ _ rfl (U2.heap.size) x.cells rfl rfl 27 _ HN.out (by kernel_rfl) rfl (agg_one x) ?_
          have hS8 : Bx [(w.heap.size, cur), (ku, u), (kv, v)] w (U3.setRow (U2.heap.size) x.cells) := hS.row x.cells (FAR.out _ HLB.out)
          refine hK.out _ _ hS8 (fun _ => ?_)
          clear hK K
          (try simp only [List.getElem_toArray, List.getElem_cons_zero, List.getElem_cons_succ, Act.put, List.setIfInBounds_toArray, List.set_cons_zero, List.set_cons_succ])
          refine wpAnyH_take (i := 10) (v := ?_) rfl (by kernel_rfl) (by kernel_rfl) (by kernel_rfl) (fun _ _ _ h => h) (Or.inl ⟨by kernel_rfl, fun W hW => ?_⟩) (by assumption) ?_
          rotate_left
          · go_simp
            try with_reducible rfl
          (try simp only [List.getElem_toArray, List.getElem_cons_zero, List.getElem_cons_succ, Act.put, List.setIfInBounds_toArray, List.set_cons_zero, List.set_cons_succ])
          refine wpAnyH_done (by kernel_rfl) ?_ _
          refine NoPanic.normal ?_
          have hlf := h_lt HF.out
          have hlb := HLB.out
          go_wp2
          go_meet
          exact ⟨_, x, _, rfl, rfl, rfl, Px, Lib.hid (Ok_rowN Ox.out NY.out _), Lib.hid (heap_setRow HN.out _), Lib.hid hS8, Lib.hid ((heap_setRow_other (by omega) _).trans (obj_b HV.out HF.out))⟩
        · go_simp
          have SZ0 := SZ.out
          have hN : (U1.alloc (.cells #[.string ⟨#[]⟩, .string ⟨#[]⟩, .string ⟨#[]⟩, .int .i64 0, .string ⟨#[]⟩, .int .i64 0, .int .i64 0, .int .i64 0, .int .i64 0, .int .i64 0, .int .i64 0, .int .i64 0, .int .i64 0, .int .i64 0, .int .i64 0, .slice none 0 0, .string ⟨#[]⟩, .string ⟨#[]⟩, .string ⟨#[]⟩, .bool false, .bool false] 27)).heap[U1.heap.size]? = some (.cells #[.string ⟨#[]⟩, .string ⟨#[]⟩, .string ⟨#[]⟩, .int .i64 0, .string ⟨#[]⟩, .int .i64 0, .int .i64 0, .int .i64 0, .int .i64 0, .int .i64 0, .int .i64 0, .int .i64 0, .int .i64 0, .int .i64 0, .int .i64 0, .slice none 0 0, .string ⟨#[]⟩, .string ⟨#[]⟩, .string ⟨#[]⟩, .bool false, .bool false] 27 (0, 0)) := Go.heap_alloc_new U1 _
          have hb : Below U1.heap.size U1 (U1.alloc (.cells #[.string ⟨#[]⟩, .string ⟨#[]⟩, .string ⟨#[]⟩, .int .i64 0, .string ⟨#[]⟩, .int .i64 0, .int .i64 0, .int .i64 0, .int .i64 0, .int .i64 0, .int .i64 0, .int .i64 0, .int .i64 0, .int .i64 0, .int .i64 0, .slice none 0 0, .string ⟨#[]⟩, .string ⟨#[]⟩, .string ⟨#[]⟩, .bool false, .bool false] 27)) := b_alloc (Below.refl _ _) _
          have HLB : Hid (W9.heap.size ≤ U1.heap.size) := Lib.hid SZ.out
          replace hS := hS.below hb
          replace SZ : Hid (W9.heap.size ≤ (U1.alloc (.cells #[.string ⟨#[]⟩, .string ⟨#[]⟩, .string ⟨#[]⟩, .int .i64 0, .string ⟨#[]⟩, .int .i64 0, .int .i64 0, .int .i64 0, .int .i64 0, .int .i64 0, .int .i64 0, .int .i64 0, .int .i64 0, .int .i64 0, .int .i64 0, .slice none 0 0, .string ⟨#[]⟩, .string ⟨#[]⟩, .string ⟨#[]⟩, .bool false, .bool false] 27)).heap.size) := Lib.hid (Nat.le_trans SZ.out hb.size)
          replace HV : Hid (Below W9.heap.size W9 (U1.alloc (.cells #[.string ⟨#[]⟩, .string ⟨#[]⟩, .string ⟨#[]⟩, .int .i64 0, .string ⟨#[]⟩, .int .i64 0, .int .i64 0, .int .i64 0, .int .i64 0, .int .i64 0, .int .i64 0, .int .i64 0, .int .i64 0, .int .i64 0, .int .i64 0, .slice none 0 0, .string ⟨#[]⟩, .string ⟨#[]⟩, .string ⟨#[]⟩, .bool false, .bool false] 27))) := Lib.hid (HV.out.trans (hb.mono SZ0))
          replace HR2 := Lib.hid (HR2.out.below hb)
          have HN := Lib.hid hN
          clear hb hN
          refine hK.out _ _ hS (fun _ => ?_)
          clear hK K
          (try simp only [List.getElem_toArray, List.getElem_cons_zero, List.getElem_cons_succ, Act.put, List.setIfInBounds_toArray, List.set_cons_zero, List.set_cons_succ])
          generalize (U1.alloc (.cells #[.string ⟨#[]⟩, .string ⟨#[]⟩, .string ⟨#[]⟩, .int .i64 0, .string ⟨#[]⟩, .int .i64 0, .int .i64 0, .int .i64 0, .int .i64 0, .int .i64 0, .int .i64 0, .int .i64 0, .int .i64 0, .int .i64 0, .int .i64 0, .slice none 0 0, .string ⟨#[]⟩, .string ⟨#[]⟩, .string ⟨#[]⟩, .bool false, .bool false] 27)) = U4 at hS SZ HV HR2 HN ⊢
          clear SZ0
          refine wpAnyH_ready (rs := [4]) (by kernel_rfl) (by simp) ?_
          refine AllReadyH.cons rfl (fun K hK => ?_) AllReadyH.nil
          go_simp
          have hlt8 := h_lt HN.out
          have SZ0 := SZ.out
          refine (PlaceF_sm_c a2 (1 + n0) c2 ((name, value) :: f0) cur _ HR2.out (by have := FF.out.1; omega) (fun f hf => by rcases List.mem_cons.1 hf with rfl | h; exact ⟨Nat.le_trans HLname.out (by decide), Nat.le_trans HLvalue.out (by decide)⟩; exact FF.out.2 f h) (hS.ok (.head _)) Ncur.out (HG.out.below hS.be) (tabs_below HTB.out hS.be)).mono ?_
          rw [HRR.out]
          rintro e U5 ⟨⟨x, rfl, hyp, hyo, hyf⟩, hb⟩
          clear HR2
          have hny : Nb (U1.heap.size) x := fun g o e hx => by have := hyf g o e hx; omega
          have NY := Lib.hid hny
          clear hny hlt8
          replace hS := hS.below hb
          replace SZ : Hid (W9.heap.size ≤ U5.heap.size) := Lib.hid (Nat.le_trans SZ.out hb.size)
          replace HN := Lib.hid (obj_b hb HN.out)
          replace HV : Hid (Below W9.heap.size W9 U5) := Lib.hid (HV.out.trans (hb.mono SZ0))
          have Px := Lib.hid hyp
          have Ox := Lib.hid hyo
          clear hb hyp hyf hyo SZ0
          refine hK.out _ _ hS (fun _ => ?_)
          clear hK K
          (try simp only [List.getElem_toArray, List.getElem_cons_zero, List.getElem_cons_succ, Act.put, List.setIfInBounds_toArray, List.set_cons_zero, List.set_cons_succ])
          refine wpAnyH_take (i := 5) (v := ?_) rfl (by kernel_rfl) (by kernel_rfl) (by kernel_rfl) (fun _ _ _ h => h) (Or.inl ⟨by kernel_rfl, fun W hW => ?_⟩) (by assumption) ?_
          rotate_left
          · go_simp
            try with_reducible rfl
          (try simp only [List.getElem_toArray, List.getElem_cons_zero, List.getElem_cons_succ, Act.put, List.setIfInBounds_toArray, List.set_cons_zero, List.set_cons_succ])
          refine wpAnyH_take (i := 6) (v := ?_) rfl (by kernel_rfl) (by kernel_rfl) (by kernel_rfl) (fun _ _ _ h => h) (Or.inl ⟨by kernel_rfl, fun W hW => ?_⟩) (by assumption) ?_
          rotate_left
          · go_simp
            try with_reducible rfl
          (try simp only [List.getElem_toArray, List.getElem_cons_zero, List.getElem_cons_succ, Act.put, List.setIfInBounds_toArray, List.set_cons_zero, List.set_cons_succ])
          refine wpAnyH_take (i := 7) (v := ?_) rfl (by kernel_rfl) (by kernel_rfl) (by kernel_rfl) (fun _ _ _ h => h) (Or.inl ⟨by kernel_rfl, fun W hW => ?_⟩) (by assumption) ?_
          rotate_left
          · go_simp
            try with_reducible rfl
          (try simp only [List.getElem_toArray, List.getElem_cons_zero, List.getElem_cons_succ, Act.put, List.setIfInBounds_toArray, List.set_cons_zero, List.set_cons_succ])
          refine wpAnyH_ready (rs := [9]) (by kernel_rfl) (by simp) ?_
          refine AllReadyH.cons rfl (fun K hK => ?_) AllReadyH.nil
          try rw [if_pos (by rfl)]
          refine wp_store_row 27 _ _ rfl (U1.heap.size) x.cells rfl rfl 27 _ HN.out (by kernel_rfl) rfl (agg_one x) ?_
          have hS8 : Bx [(w.heap.size, cur), (ku, u), (kv, v)] w (U5.setRow (U1.heap.size) x.cells) := hS.row x.cells (FAR.out _ HLB.out)
          refine hK.out _ _ hS8 (fun _ => ?_)
          clear hK K
          (try simp only [List.getElem_toArray, List.getElem_cons_zero, List.getElem_cons_succ, Act.put, List.setIfInBounds_toArray, List.set_cons_zero, List.set_cons_succ])
          refine wpAnyH_take (i := 10) (v := ?_) rfl (by kernel_rfl) (by kernel_rfl) (by kernel_rfl) (fun _ _ _ h => h) (Or.inl ⟨by kernel_rfl, fun W hW => ?_⟩) (by assumption) ?_
          rotate_left
          · go_simp
            try with_reducible rfl
          (try simp only [List.getElem_toArray, List.getElem_cons_zero, List.getElem_cons_succ, Act.put, List.setIfInBounds_toArray, List.set_cons_zero, List.set_cons_succ])
          refine wpAnyH_done (by kernel_rfl) ?_ _
          refine NoPanic.normal ?_
          have hlf := h_lt HF.out
          have hlb := HLB.out
          go_wp2
          go_meet
          exact ⟨_, x, _, rfl, rfl, rfl, Px, Lib.hid (Ok_rowN Ox.out NY.out _), Lib.hid (heap_setRow HN.out _), Lib.hid hS8, Lib.hid ((heap_setRow_other (by omega) _).trans (obj_b HV.out HF.out))⟩
      · go_simp
        have SZ0 := SZ.out
        have hN : (W9.alloc (.cells #[.string ⟨#[]⟩, .string ⟨#[]⟩, .string ⟨#[]⟩, .int .i64 0, .string ⟨#[]⟩, .int .i64 0, .int .i64 0, .int .i64 0, .int .i64 0, .int .i64 0, .int .i64 0, .int .i64 0, .int .i64 0, .int .i64 0, .int .i64 0, .slice none 0 0, .string ⟨#[]⟩, .string ⟨#[]⟩, .string ⟨#[]⟩, .bool false, .bool false] 27)).drew.heap[W9.heap.size]? = some (.cells #[.string ⟨#[]⟩, .string ⟨#[]⟩, .string ⟨#[]⟩, .int .i64 0, .string ⟨#[]⟩, .int .i64 0, .int .i64 0, .int .i64 0, .int .i64 0, .int .i64 0, .int .i64 0, .int .i64 0, .int .i64 0, .int .i64 0, .int .i64 0, .slice none 0 0, .string ⟨#[]⟩, .string ⟨#[]⟩, .string ⟨#[]⟩, .bool false, .bool false] 27 (0, 0)) := Go.heap_alloc_new W9 _
        have hb : Below W9.drew.heap.size (W9.drew) (W9.alloc (.cells #[.string ⟨#[]⟩, .string ⟨#[]⟩, .string ⟨#[]⟩, .int .i64 0, .string ⟨#[]⟩, .int .i64 0, .int .i64 0, .int .i64 0, .int .i64 0, .int .i64 0, .int .i64 0, .int .i64 0, .int .i64 0, .int .i64 0, .int .i64 0, .slice none 0 0, .string ⟨#[]⟩, .string ⟨#[]⟩, .string ⟨#[]⟩, .bool false, .bool false] 27)).drew := b_alloc (Below.refl (W9.drew).heap.size (W9.drew)) _
        have HLB : Hid (W9.heap.size ≤ W9.heap.size) := Lib.hid SZ.out
        replace hS := hS.below hb
        replace SZ : Hid (W9.heap.size ≤ (W9.alloc (.cells #[.string ⟨#[]⟩, .string ⟨#[]⟩, .string ⟨#[]⟩, .int .i64 0, .string ⟨#[]⟩, .int .i64 0, .int .i64 0, .int .i64 0, .int .i64 0, .int .i64 0, .int .i64 0, .int .i64 0, .int .i64 0, .int .i64 0, .int .i64 0, .slice none 0 0, .string ⟨#[]⟩, .string ⟨#[]⟩, .string ⟨#[]⟩, .bool false, .bool false] 27)).drew.heap.size) := Lib.hid (Nat.le_trans SZ.out hb.size)
        replace HV : Hid (Below W9.heap.size W9 (W9.alloc (.cells #[.string ⟨#[]⟩, .string ⟨#[]⟩, .string ⟨#[]⟩, .int .i64 0, .string ⟨#[]⟩, .int .i64 0, .int .i64 0, .int .i64 0, .int .i64 0, .int .i64 0, .int .i64 0, .int .i64 0, .int .i64 0, .int .i64 0, .int .i64 0, .slice none 0 0, .string ⟨#[]⟩, .string ⟨#[]⟩, .string ⟨#[]⟩, .bool false, .bool false] 27)).drew) := Lib.hid (HV.out.trans (hb.mono SZ0))
        have HN := Lib.hid hN
        clear hb hN
        refine hK.out _ _ hS (fun _ => ?_)
        clear hK K
        (try simp only [List.getElem_toArray, List.getElem_cons_zero, List.getElem_cons_succ, Act.put, List.setIfInBounds_toArray, List.set_cons_zero, List.set_cons_succ])
        generalize (W9.alloc (.cells #[.string ⟨#[]⟩, .string ⟨#[]⟩, .string ⟨#[]⟩, .int .i64 0, .string ⟨#[]⟩, .int .i64 0, .int .i64 0, .int .i64 0, .int .i64 0, .int .i64 0, .int .i64 0, .int .i64 0, .int .i64 0, .int .i64 0, .int .i64 0, .slice none 0 0, .string ⟨#[]⟩, .string ⟨#[]⟩, .string ⟨#[]⟩, .bool false, .bool false] 27)).drew = U6 at hS SZ HV HN ⊢
        clear SZ0
        refine wpAnyH_ready (rs := [2]) (by kernel_rfl) (by simp) ?_
        refine AllReadyH.cons rfl (fun K hK => ?_) AllReadyH.nil
        have SZ0 := SZ.out
        obtain ⟨a2, c2, U7, hr, hr2, hb⟩ := appF bl name value a0 n0 k0 f0 (U6) 28 (obj_b HV.out HF.out) (Rf.out.below hS.be) (Nat.le_trans FF.out.1 (by decide))
        try rw [if_pos (by rfl)]
        refine wp_app _ _ _ rfl rfl rfl hr ?_
        clear hr
        replace hS := hS.below hb
        replace SZ : Hid (W9.heap.size ≤ U7.heap.size) := Lib.hid (Nat.le_trans SZ.out hb.size)
        replace HN := Lib.hid (obj_b hb HN.out)
        replace HV : Hid (Below W9.heap.size W9 U7) := Lib.hid (HV.out.trans (hb.mono SZ0))
        have HR2 := Lib.hid hr2
        clear hb hr2 SZ0
        refine hK.out _ _ hS (fun _ => ?_)
        clear hK K
        (try simp only [List.getElem_toArray, List.getElem_cons_zero, List.getElem_cons_succ, Act.put, List.setIfInBounds_toArray, List.set_cons_zero, List.set_cons_succ])
        refine wpAnyH_ready (rs := [4]) (by kernel_rfl) (by simp) ?_
        refine AllReadyH.cons rfl (fun K hK => ?_) AllReadyH.nil
        go_simp
        have hlt8 := h_lt HN.out
        have SZ0 := SZ.out
        refine (PlaceF_sm_c a2 (1 + n0) c2 ((name, value) :: f0) cur _ HR2.out (by have := FF.out.1; omega) (fun f hf => by rcases List.mem_cons.1 hf with rfl | h; exact ⟨Nat.le_trans HLname.out (by decide), Nat.le_trans HLvalue.out (by decide)⟩; exact FF.out.2 f h) (hS.ok (.head _)) Ncur.out (HG.out.below hS.be) (tabs_below HTB.out hS.be)).mono ?_
        rw [HRR.out]
        rintro e U8 ⟨⟨x, rfl, hyp, hyo, hyf⟩, hb⟩
        clear HR2
        have hny : Nb (W9.heap.size) x := fun g o e hx => by have := hyf g o e hx; omega
        have NY := Lib.hid hny
        clear hny hlt8
        replace hS := hS.below hb
        replace SZ : Hid (W9.heap.size ≤ U8.heap.size) := Lib.hid (Nat.le_trans SZ.out hb.size)
        replace HN := Lib.hid (obj_b hb HN.out)
        replace HV : Hid (Below W9.heap.size W9 U8) := Lib.hid (HV.out.trans (hb.mono SZ0))
        have Px := Lib.hid hyp
        have Ox := Lib.hid hyo
        clear hb hyp hyf hyo SZ0
        refine hK.out _ _ hS (fun _ => ?_)
        clear hK K
        (try simp only [List.getElem_toArray, List.getElem_cons_zero, List.getElem_cons_succ, Act.put, List.setIfInBounds_toArray, List.set_cons_zero, List.set_cons_succ])
        refine wpAnyH_take (i := 5) (v := ?_) rfl (by kernel_rfl) (by kernel_rfl) (by kernel_rfl) (fun _ _ _ h => h) (Or.inl ⟨by kernel_rfl, fun W hW => ?_⟩) (by assumption) ?_
        rotate_left
        · go_simp
          try with_reducible rfl
        (try simp only [List.getElem_toArray, List.getElem_cons_zero, List.getElem_cons_succ, Act.put, List.setIfInBounds_toArray, List.set_cons_zero, List.set_cons_succ])
        refine wpAnyH_take (i := 6) (v := ?_) rfl (by kernel_rfl) (by kernel_rfl) (by kernel_rfl) (fun _ _ _ h => h) (Or.inl ⟨by kernel_rfl, fun W hW => ?_⟩) (by assumption) ?_
        rotate_left
        · go_simp
          try with_reducible rfl
        (try simp only [List.getElem_toArray, List.getElem_cons_zero, List.getElem_cons_succ, Act.put, List.setIfInBounds_toArray, List.set_cons_zero, List.set_cons_succ])
        refine wpAnyH_take (i := 7) (v := ?_) rfl (by kernel_rfl) (by kernel_rfl) (by kernel_rfl) (fun _ _ _ h => h) (Or.inl ⟨by kernel_rfl, fun W hW => ?_⟩) (by assumption) ?_
        rotate_left
        · go_simp
          try with_reducible rfl
        (try simp only [List.getElem_toArray, List.getElem_cons_zero, List.getElem_cons_succ, Act.put, List.setIfInBounds_toArray, List.set_cons_zero, List.set_cons_succ])
        refine wpAnyH_ready (rs := [9]) (by kernel_rfl) (by simp) ?_
        refine AllReadyH.cons rfl (fun K hK => ?_) AllReadyH.nil
        try rw [if_pos (by rfl)]
        refine wp_store_row 27 _ _ rfl (W9.heap.size) x.cells rfl rfl 27 _ HN.out (by kernel_rfl) rfl (agg_one x) ?_
        have hS8 : Bx [(w.heap.size, cur), (ku, u), (kv, v)] w (U8.setRow (W9.heap.size) x.cells) := hS.row x.cells (FAR.out _ HLB.out)
        refine hK.out _ _ hS8 (fun _ => ?_)
        clear hK K
        (try simp only [List.getElem_toArray, List.getElem_cons_zero, List.getElem_cons_succ, Act.put, List.setIfInBounds_toArray, List.set_cons_zero, List.set_cons_succ])
        refine wpAnyH_take (i := 10) (v := ?_) rfl (by kernel_rfl) (by kernel_rfl) (by kernel_rfl) (fun _ _ _ h => h) (Or.inl ⟨by kernel_rfl, fun W hW => ?_⟩) (by assumption) ?_
        rotate_left
        · go_simp
          try with_reducible rfl
        (try simp only [List.getElem_toArray, List.getElem_cons_zero, List.getElem_cons_succ, Act.put, List.setIfInBounds_toArray, List.set_cons_zero, List.set_cons_succ])
        refine wpAnyH_done (by kernel_rfl) ?_ _
        refine NoPanic.normal ?_
        have hlf := h_lt HF.out
        have hlb := HLB.out
        go_wp2
        go_meet
        exact ⟨_, x, _, rfl, rfl, rfl, Px, Lib.hid (Ok_rowN Ox.out NY.out _), Lib.hid (heap_setRow HN.out _), Lib.hid hS8, Lib.hid ((heap_setRow_other (by omega) _).trans (obj_b HV.out HF.out))⟩
    case rest =>
      obtain ⟨kx, x, W9, rfl, rfl, rfl, Px, Ox, Hx, hEA, hfl⟩ := hcut
      clear HB HF Hcur Ocur Hu Ou Hv Ov
      have HF := hfl
      clear hfl
      have Hcur := Lib.hid (hEA.out.hp (.head _))
      have Hu := Lib.hid (hEA.out.hp (.tail _ (.head _)))
      have Hv := Lib.hid (hEA.out.hp (.tail _ (.tail _ (.head _))))
      have Ocur := Lib.hid (hEA.out.ok (.head _))
      have Ou := Lib.hid (hEA.out.ok (.tail _ (.head _)))
      have Ov := Lib.hid (hEA.out.ok (.tail _ (.tail _ (.head _))))
      have HB := Lib.hid hEA.out.be
      clear hEA
      obtain ⟨b1, hb1⟩ : ∃ b, PM.urlSame u.pm v.pm = b := ⟨_, rfl⟩
      obtain ⟨b2, hb2⟩ : ∃ b, (k == j) = b := ⟨_, rfl⟩
      obtain ⟨b3, hb3⟩ : ∃ b, PM.urlSame u.pm x.pm = b := ⟨_, rfl⟩
      obtain ⟨b4, hb4⟩ : ∃ b, (k == i) = b := ⟨_, rfl⟩
      have HB1 := Lib.hid hb1
      have HB2 := Lib.hid hb2
      have HB3 := Lib.hid hb3
      have HB4 := Lib.hid hb4
      clear hb1 hb2 hb3 hb4
      go_upto_region 10 with fail
      go_cut [19] (fun b wr => b = .bool (b1 && (b2 && (b3 && b4))) ∧ Hid (Below w.heap.size w wr))
      case first =>
        go_wp2_with (first | go_skip | (refine wpList_load_g 27 _ rfl (by kernel_rfl) ku rfl Hu.out Tryz.underlying27 rfl (by kernel_rfl) ?_) | (refine wpList_load_g 27 _ rfl (by kernel_rfl) kv rfl Hv.out Tryz.underlying27 rfl (by kernel_rfl) ?_) | (refine wpList_load_g 27 _ rfl (by kernel_rfl) kx rfl Hx.out Tryz.underlying27 rfl (by kernel_rfl) ?_))
        refine (UrlSame_c u v _ Ou.out Ov.out).mono ?_
        rw [HB1.out]
        rintro e V61 ⟨rfl, hb⟩
        replace HB := Lib.hid (b_then HB.out hb)
        replace Hcur := Lib.hid (obj_b hb Hcur.out)
        replace Hu := Lib.hid (obj_b hb Hu.out)
        replace Hv := Lib.hid (obj_b hb Hv.out)
        replace Hx := Lib.hid (obj_b hb Hx.out)
        replace Ocur := Lib.hid (Ocur.out.below hb)
        replace Ou := Lib.hid (Ou.out.below hb)
        replace Ov := Lib.hid (Ov.out.below hb)
        replace Ox := Lib.hid (Ox.out.below hb)
        clear hb
        cases b1
        · skip
          go_wp2
          go_meet
          exact ⟨rfl, HB⟩
        have hb2 := HB2.out
        cases b2
        · skip
          go_wp2
          go_meet
          exact ⟨rfl, HB⟩
        go_wp2_with (first | go_skip | (refine wpList_load_g 27 _ rfl (by kernel_rfl) ku rfl Hu.out Tryz.underlying27 rfl (by kernel_rfl) ?_) | (refine wpList_load_g 27 _ rfl (by kernel_rfl) kv rfl Hv.out Tryz.underlying27 rfl (by kernel_rfl) ?_) | (refine wpList_load_g 27 _ rfl (by kernel_rfl) kx rfl Hx.out Tryz.underlying27 rfl (by kernel_rfl) ?_))
        refine (UrlSame_c u x _ Ou.out Ox.out).mono ?_
        rw [HB3.out]
        rintro e V62 ⟨rfl, hb⟩
        replace HB := Lib.hid (b_then HB.out hb)
        replace Hcur := Lib.hid (obj_b hb Hcur.out)
        replace Hu := Lib.hid (obj_b hb Hu.out)
        replace Hv := Lib.hid (obj_b hb Hv.out)
        replace Hx := Lib.hid (obj_b hb Hx.out)
        replace Ocur := Lib.hid (Ocur.out.below hb)
        replace Ou := Lib.hid (Ou.out.below hb)
        replace Ov := Lib.hid (Ov.out.below hb)
        replace Ox := Lib.hid (Ox.out.below hb)
        clear hb
        cases b3
        · skip
          go_wp2
          go_meet
          exact ⟨rfl, HB⟩
        have hb4 := HB4.out
        go_wp2
        go_meet
        exact ⟨rfl, HB⟩
      case rest =>
        obtain ⟨rfl, HB⟩ := hcut
        clear Hcur Ocur Hu Ou Hv Ov Hx Ox HF
        obtain ⟨B, hB⟩ : ∃ B, (b1 && (b2 && (b3 && b4))) = B := ⟨_, rfl⟩
        have HBB := Lib.hid hB
        rw [HBB.out]
        clear hB
        have hal := PM.allOf_len f0 PM.LOC
        rw [Rf.out.len] at hal
        obtain ⟨A, hA⟩ : ∃ A, PM.allOf f0 PM.LOC = A := ⟨_, rfl⟩
        rw [hA] at hal
        have HA := Lib.hid hA
        have HAL := Lib.hid hal
        clear hA hal
        go_wp2_with fail
        refine (show Calls Tryz.prog 36 #[.slice a0 n0 k0, .string (mkS PM.LOC)] _ _ from All_c a0 n0 k0 f0 PM.LOC _ (Rf.out.below HB.out) (Nat.le_trans FF.out.1 (by decide)) (by decide) (fun f hf => Nat.le_trans (FF.out.2 f hf).1 (by decide))).mono ?_
        rw [HA.out]
        rintro e V71 ⟨va, rfl, hown, hb⟩
        obtain ⟨a1, c1, rfl, hrs, -, hcap⟩ := own_cap hown rfl (by have := HAL.out; have := FF.out.1; omega)
        have HRS := Lib.hid hrs
        replace HB := Lib.hid (b_then HB.out hb)
        clear hown hb hrs hcap
        obtain ⟨t, ht⟩ : ∃ t, PM.same name PM.LOC = t := ⟨_, rfl⟩
        have HT := Lib.hid ht
        clear ht
        go_wp2_with fail
        refine (show Calls Tryz.prog 37 #[.string (mkS name), .string (mkS [76, 79, 67, 65, 84, 73, 79, 78])] _ _ from Same_c name [76, 79, 67, 65, 84, 73, 79, 78] (Nat.le_trans HLname.out (by decide)) (by decide) _).mono ?_
        rw [PM.same_LOC, HT.out]
        rintro e V72 ⟨rfl, hb⟩
        replace HB := Lib.hid (b_then HB.out hb)
        replace HRS := Lib.hid (HRS.out.below hb)
        clear hb
        cases t
        · have h1 := PM.place_none (l := f0) (value := value) HT.out cur.pm
          rw [HQ.out, HRR.out, HPK.out] at h1
          obtain ⟨h1, h2⟩ := h1
          injection h1 with h1 h3
          injection h2 with h2 h4
          have hbt : B = true := by rw [← HBB.out, ← HB1.out, ← HB2.out, ← HB3.out, ← HB4.out, Pu.out, Pv.out, Px.out, h1, h2, h3, h4, same_self, beq_self_eq_true]; rfl
          subst hbt
          go_wp2
          go_ret
          exact ⟨rfl, HB.out⟩
        by_cases h0 : A = []
        · have h00 : ((A.length : Int) == 0) = true := by rw [h0]; rfl
          have h1 := PM.place_first (l := f0) (value := value) HT.out (by rw [HA.out, h0]) cur.pm
          rw [HQ.out, HRR.out] at h1
          obtain ⟨h1, h2⟩ := h1
          injection h1 with h1 h3
          subst h3
          have h5 : (j != 0) = true := bne_iff_ne.2 h2
          have H5 := Lib.hid h5
          clear h1 h2 h0 h5
          go_wp2
          go_ret
          exact ⟨ret_bool H5.out, HB.out⟩
        have hA0 : 0 < A.length := List.length_pos_iff.2 h0
        have hne : ((A.length : Int) == 0) = false := by
          rw [beq_eq_false_iff_ne]
          omega
        have hA1 : (0 : Int) < A.length := by omega
        obtain ⟨b, o, rfl, hlt, hc⟩ := HRS.out.at_.resolve_left h0
        have c0 : V72.cell? ⟨b, o, none⟩ = some (.string (mkS (A[0]'hA0))) := hc 0 hA0
        obtain ⟨y, rr, hAy⟩ : ∃ y rr, A = y :: rr := by
          cases A with
          | nil => exact absurd rfl h0
          | cons y rr => exact ⟨y, rr, rfl⟩
        have hy : A[0]'hA0 = y := by subst hAy; rfl
        rw [hy] at c0
        have HAy : Hid (PM.allOf f0 PM.LOC = y :: rr) := Lib.hid (by rw [HA.out, hAy])
        clear hy hAy hc hlt h0 HRS
        by_cases he : value = y
        · subst he
          have h1 := PM.place_again HT.out HAy.out cur.pm
          rw [HQ.out, HRR.out, HPK.out] at h1
          obtain ⟨h1, h2⟩ := h1
          injection h1 with h1 h3
          injection h2 with h2 h4
          have hbt : B = true := by rw [← HBB.out, ← HB1.out, ← HB2.out, ← HB3.out, ← HB4.out, Pu.out, Pv.out, Px.out, h1, h2, h3, h4, same_self, beq_self_eq_true]; rfl
          subst hbt
          clear h1 h2 h3 h4
          go_wp2
          go_ret
          exact ⟨rfl, HB.out⟩
        have h1 := PM.place_two HT.out HAy.out he cur.pm
        rw [HQ.out, HRR.out] at h1
        obtain ⟨h1, h2⟩ := h1
        dsimp only at h1 h2
        subst h1
        subst h2
        have hvy : (value == y) = false := beq_eq_false_iff_ne.2 he
        clear he
        go_wp2
        go_ret
        exact ⟨rfl, HB.out⟩
end Go.Proofs.YtppbkblnjlbnfaaGreatDoor
/-! The row of PlaceOther. -/
namespace Go.Proofs.YtppbkblnjlbnfaaGreatDoor
open Go.ChangeShapes Go.WideShapes Go.ChangeAt Go.RowKit
open Go.WideMaps Go.WideElems
open Go.ChangeMaps (open_string shut_string)
theorem placeOther_reads (os : Os) {H : Type} (enc : TypeId × Value → H) : ∃ x, DataW.whole enc Tryz.prog ((laidWorld os).forCall (fun _ _ => 0) ⟨#[], #[.slice none 0 0, .string ⟨#[]⟩, .string ⟨#[]⟩, .agg #[.string ⟨#[]⟩, .string ⟨#[]⟩, .string ⟨#[]⟩, .int .i64 0, .string ⟨#[]⟩, .int .i64 0, .int .i64 0, .int .i64 0, .int .i64 0, .int .i64 0, .int .i64 0, .int .i64 0, .int .i64 0, .int .i64 0, .int .i64 0, .slice none 0 0, .string ⟨#[]⟩, .string ⟨#[]⟩, .string ⟨#[]⟩, .bool false, .bool false]], []⟩).memory Tryz.f11.params.toList Rows.placeOtherSpec.vars false (#[.slice none 0 0, .string ⟨#[]⟩, .string ⟨#[]⟩, .agg #[.string ⟨#[]⟩, .string ⟨#[]⟩, .string ⟨#[]⟩, .int .i64 0, .string ⟨#[]⟩, .int .i64 0, .int .i64 0, .int .i64 0, .int .i64 0, .int .i64 0, .int .i64 0, .int .i64 0, .int .i64 0, .int .i64 0, .int .i64 0, .slice none 0 0, .string ⟨#[]⟩, .string ⟨#[]⟩, .string ⟨#[]⟩, .bool false, .bool false]] : Array Value).toList 8 = some x :=
  Option.isSome_iff_exists.1 (by kernel_rfl)
set_option maxRecDepth 100000 in
theorem placeOther_lifted (os : Os) (started : os.Started) (H : Type) (enc : TypeId × Value → H) (F : Stop.Interp) :
    ReturnsInHanded {} Tryz.checked os 11 .any ((OpenSpec.ofChange Rows.placeOtherSpec).preRow enc Tryz.prog Tryz.f11 Rows.placeOtherRow.domain false Rows.placeOtherRow.laid) (((OpenSpec.ofChange Rows.placeOtherSpec).at F).post enc Tryz.prog Tryz.f11 false true false false) := by
  obtain ⟨x, hx⟩ := placeOther_reads os enc
  refine returnsInHanded_of_row (C := Tryz.checked) (s := OpenSpec.ofChange Rows.placeOtherSpec) own started (by kernel_rfl) Tryz.func11
    (witness_row_atRef (enc := enc) (C := Tryz.checked) false (laidWorld os) #[.slice none 0 0, .string ⟨#[]⟩, .string ⟨#[]⟩, .agg #[.string ⟨#[]⟩, .string ⟨#[]⟩, .string ⟨#[]⟩, .int .i64 0, .string ⟨#[]⟩, .int .i64 0, .int .i64 0, .int .i64 0, .int .i64 0, .int .i64 0, .int .i64 0, .int .i64 0, .int .i64 0, .int .i64 0, .int .i64 0, .slice none 0 0, .string ⟨#[]⟩, .string ⟨#[]⟩, .string ⟨#[]⟩, .bool false, .bool false]] rfl (by kernel_rfl) (by kernel_rfl) (by kernel_rfl)
      (OpenSpec.preRow_of_cond 8 hx rfl (fun k hk => by cases hk) (by kernel_rfl) (laid_met os _))) ?_
  intro W base args ds gs before hval0 hW _ _ _ hL hsh _
  have hval : ∀ (j : Nat) t v, Tryz.f11.params[j]? = some t → args[j]? = some v → Value.okWide Tryz.prog W .any base t v := hval0
  have hW' := hW
  obtain ⟨p, q, hA0, hV, rfl, hfz, hnd⟩ := hW
  have hA : DataW.TrodAll enc Tryz.prog W 0 (fun _ => true) true Tryz.f11.params.toList args.toList ds p := hA0
  rw [Tryz.params11] at hA hval
  obtain ⟨v0, v1, v2, v3, d0, d1, d2, d3, p0, p1, p2, p3, rfl, rfl, rfl, h0, h1, h2, h3⟩ := trodAll_four hA
  obtain ⟨rfl, rfl⟩ := trodVars_none hV
  simp only [List.append_nil] at hfz hnd hW'
  have hlt : ∀ x ∈ p0 ++ p1 ++ p2 ++ p3, x.block < W.heap.size := fun x hx => hW'.lt x hx
  have h0k := h0
  obtain ⟨a0, n0, k0, f0, rfl, hr0, hk0⟩ := open_fields (hval 0 28 v0 rfl rfl) h0
  have h1k := h1
  obtain ⟨s1, e1, _, _, w1⟩ := open_string Tryz.underlying9 (hval 1 9 v1 rfl rfl) h1
  obtain ⟨l1, rfl⟩ := mkS_surj s1
  subst e1
  have h2k := h2
  obtain ⟨s2, e2, _, _, w2⟩ := open_string Tryz.underlying9 (hval 2 9 v2 rfl rfl) h2
  obtain ⟨l2, rfl⟩ := mkS_surj s2
  subst e2
  have h3k := h3
  obtain ⟨u3, rfl, hr3⟩ := open_url (hval 3 27 v3 rfl rfl) h3
  refine (PlaceOtherL_c a0 n0 k0 f0 l1 l2 u3 W hr0 hk0 hr3 (gl_of hsh) (tabs_laid hL)).mono fun e W' ⟨he, hb⟩ => ?_
  subst he
  refine ⟨_, rfl, _, _, _, [], p0 ++ p1 ++ p2 ++ p3, [], hW', ?_, ?_, ?_, hb.frame _, fun h => by cases h⟩
  · exact trodAll_mk1 (shut_bool Tryz.underlying4 _)
  · have h3 := trodAll_mk4 (Below.trod laidOut (by kernel_rfl) (of_decide_eq_true (by kernel_rfl)) h0k hb (fun x hx => hlt x (by simp [hx]))) (Below.trod laidOut (by kernel_rfl) (of_decide_eq_true (by kernel_rfl)) h1k hb (fun x hx => hlt x (by simp [hx]))) (Below.trod laidOut (by kernel_rfl) (of_decide_eq_true (by kernel_rfl)) h2k hb (fun x hx => hlt x (by simp [hx]))) (Below.trod laidOut (by kernel_rfl) (of_decide_eq_true (by kernel_rfl)) h3k hb (fun x hx => hlt x (by simp [hx])))
    rw [← List.append_assoc, ← List.append_assoc] at h3
    exact h3
  · rfl
theorem placeOther_k0 : Rows.placeOtherRow.wf (OpenSpec.ofChange (OpenSpec.ofChange Rows.placeOtherSpec).bare) = true := by kernel_rfl
theorem placeOther_k3 : Tryz.f11.params.all (PP.readableRec ·) = true := by kernel_rfl
theorem placeOther_k4 : namedTie PP Rows.placeOtherRow.named (OpenSpec.ofChange Rows.placeOtherSpec).bare.vars = true := by kernel_rfl
theorem placeOther_k5 : (Rows.placeOtherRow.stops == []) = true := by kernel_rfl
theorem placeOther_k7 : (Rows.placeOtherRow.knobs == []) = true := by kernel_rfl
theorem placeOther_k9 : (Rows.placeOtherRow.inPlace == PP.inPlace 11) = true := by kernel_rfl
theorem placeOther_k10 : (Rows.placeOtherRow.unfollowed == PP.unfollowed 11) = true := by kernel_rfl
theorem placeOther_k11 : (Rows.placeOtherRow.recurses == PP.recurses 11) = true := by kernel_rfl
theorem placeOther_k12 : (Rows.placeOtherRow.named == PP.varsNamed 11) = true := by kernel_rfl
theorem placeOther_k13 : (Rows.placeOtherRow.maps == (Tryz.f11.params.toList ++ (OpenSpec.ofChange Rows.placeOtherSpec).bare.plain.varTypes PP).any (PP.mapsRec ·)) = true := by kernel_rfl
theorem placeOther_k14 : (Rows.placeOtherRow.ifaces == (Tryz.f11.params.toList ++ (OpenSpec.ofChange Rows.placeOtherSpec).bare.plain.varTypes PP).any (PP.ifacesRec ·)) = true := by kernel_rfl
theorem placeOther_k15 : (Rows.placeOtherRow.mapsOut == PP.mapsAmong Tryz.f11.resultTypes.toList) = true := by kernel_rfl
theorem placeOther_k16 : (Rows.placeOtherRow.loops == (Tryz.f11.params.toList ++ (OpenSpec.ofChange Rows.placeOtherSpec).bare.plain.varTypes PP).any (PP.loopsFrom ·)) = true := by kernel_rfl
theorem placeOther_k17 : (Rows.placeOtherRow.wideKeys == (Tryz.f11.params.toList ++ (OpenSpec.ofChange Rows.placeOtherSpec).bare.plain.varTypes PP ++ Tryz.f11.resultTypes.toList).any (PP.wideKeysFrom ·)) = true := by kernel_rfl
theorem placeOther_k18 : (OpenSpec.ofChange Rows.placeOtherSpec).bare.vars.all (PP.varReadable ·) = true := by kernel_rfl
theorem placeOther_k19 : Tryz.f11.resultTypes.all (fun t => PP.readableRec t && decide (t < PP.types.size)) = true := by kernel_rfl
theorem placeOther_k20 : (Rows.placeOtherRow.ifacesOut == Tryz.f11.resultTypes.toList.any (PP.ifacesRec ·)) = true := by kernel_rfl
theorem placeOther_k21 : (Rows.placeOtherRow.loopsOut == Tryz.f11.resultTypes.toList.any (PP.loopsFrom ·)) = true := by kernel_rfl
theorem placeOther_k23 : Rows.placeOtherRow.shortTexts.isNone = true := by kernel_rfl
theorem placeOther_k28 : (Rows.placeOtherRow.kinds == (if Rows.placeOtherRow.domain.isEmpty then [] else Tryz.f11.params.toList.map fun t => match PP.underlying t with | some (.int k) => some k | _ => none)) = true := by kernel_rfl
theorem placeOther_k29 : (Rows.placeOtherRow.pinned == Rows.placeOtherRow.pinnedBy) = true := by kernel_rfl
theorem placeOther_k30 : (Rows.placeOtherRow.veiled == (Tryz.f11.params.toList ++ (OpenSpec.ofChange Rows.placeOtherSpec).bare.plain.varTypes PP ++ Tryz.f11.resultTypes.toList).any (PP.veiledRec ·)) = true := by kernel_rfl
theorem placeOther_k31 : Rows.placeOtherRow.veiledFits PP Tryz.f11.params.toList (Tryz.f11.params.toList ++ (OpenSpec.ofChange Rows.placeOtherSpec).bare.plain.varTypes PP ++ Tryz.f11.resultTypes.toList) = true := by kernel_rfl
set_option maxRecDepth 100000 in
theorem placeOther_closed : joinedFacts PP 11 Tryz.f11 (OpenSpec.ofChange Rows.placeOtherSpec).bare Rows.placeOtherRow = true := and2 (and2 (and2 (and2 (and2 (and2 (and2 (and2 (and2 (and2 (and2 (and2 (and2 (and2 (and2 (and2 (and2 (and2 (and2 (and2 (and2 (and2 (and2 (and2 (and2 (and2 (and2 (and2 (and2 (and2 (and2 (placeOther_k0) j_laidOut) j_rowed) placeOther_k3) placeOther_k4) placeOther_k5) j_stops) placeOther_k7) j_knobs) placeOther_k9) placeOther_k10) placeOther_k11) placeOther_k12) placeOther_k13) placeOther_k14) placeOther_k15) placeOther_k16) placeOther_k17) placeOther_k18) placeOther_k19) placeOther_k20) placeOther_k21) j_plain) placeOther_k23) j_heard) j_enter) j_lift) j_make) placeOther_k28) placeOther_k29) placeOther_k30) placeOther_k31
theorem placeOther_named : Tryz.pinned.checked.prog.funcNamed Rows.placeOtherRow.func = some 11 := by kernel_rfl
theorem placeOther_text : Rows.placeOtherRow.wfByText (OpenSpec.ofChange Rows.placeOtherSpec) = true := by kernel_rfl
theorem placeOther_goes : false = Rows.placeOtherRow.goesBy Tryz.pinned.checked.prog := by kernel_rfl
theorem placeOther_said : Rows.PlaceOtherSaid :=
  OpenClaim.holds_of_cond 11 Tryz.f11 rfl rfl rfl rfl rfl rfl rfl ⟨rfl, rfl, rfl, rfl, rfl⟩ rfl rfl rfl rfl rfl placeOther_named Tryz.func11 placeOther_closed
    (of_decide_eq_true (by kernel_rfl)) (by unfold Func.isWrapper; first | (rw [if_pos (by decide +kernel)]; kernel_rfl) | (rw [if_neg (by decide +kernel)]; exact ⟨rfl, rfl⟩))
    (fun os started H enc _ F => by rw [OpenClaim.pre_eq_preRow]; exact placeOther_lifted os started H enc F)
theorem placeOther_plain (f : FuncId) (fn : Func) (hf : Tryz.pinned.checked.prog.funcNamed "postmark/postmarklaw18.PlaceOther" = some f) (hfn : Tryz.pinned.checked.prog.funcs[f]? = some fn) :
    true = Tryz.pinned.checked.prog.looks [] ∧ ∀ (j : Nat) t, fn.params[j]? = some t → Tryz.pinned.checked.prog.wantsStandIn t = false := by
  obtain rfl : f = 11 := Option.some.inj ((show Tryz.prog.funcNamed "postmark/postmarklaw18.PlaceOther" = some 11 by kernel_rfl).symm.trans hf) |>.symm
  obtain rfl : fn = Tryz.f11 := (Option.some.inj (Tryz.func11.symm.trans hfn)).symm
  refine ⟨by kernel_rfl, fun j t ht => ?_⟩
  rw [Tryz.params11] at ht
  have hm := Array.mem_of_getElem? ht
  simp only [Array.mem_def, List.mem_cons, List.not_mem_nil, or_false] at hm
  rcases hm with rfl | rfl | rfl | rfl
  · exact (show Tryz.prog.wantsStandIn 28 = false by kernel_rfl)
  · exact (show Tryz.prog.wantsStandIn 9 = false by kernel_rfl)
  · exact (show Tryz.prog.wantsStandIn 9 = false by kernel_rfl)
  · exact (show Tryz.prog.wantsStandIn 27 = false by kernel_rfl)
theorem placeOther_holds : Rows.PlaceOtherCardSaid :=
  Claim7.holds_tied_plain_at .later [] _ _ _ _ placeOther_said (fun _ h => by cases h) placeOther_text (fun _ h => by cases h) placeOther_row_tie rfl ⟨rfl, rfl⟩ j_main rfl placeOther_plain placeOther_goes
#print axioms placeOther_holds
end Go.Proofs.YtppbkblnjlbnfaaGreatDoor
