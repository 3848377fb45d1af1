import Derived.Test.YtppbkblnjlbnfaaGreatDoorOq
import Derived.Test.YtppbkblnjlbnfaaGreatDoorKn
import Derived.Test.YtppbkblnjlbnfaaGreatDoorC22
import Derived.Shelf.Spec.SlicesGrow
import Derived.Laws.Cover4
import Derived.Deep.MidRow
import Derived.Maps.Own
import Derived.Lib.SliceRun
set_option linter.unusedVariables false
set_option linter.unusedSimpArgs false
/-! Some contracts of the fields. -/
namespace PM
def allOf (l : Fs) (name : L) : List L := (l.filter fun f => same f.1 name).map (·.2)
def zeroUrl : Url := ⟨[], [], [], ⟨0, [], 0, noSix⟩, 0, [], [], [], [], false, false⟩
/-- PlaceOther. -/
theorem all_app (l m : Fs) (name : L) : allOf (l ++ m) name = allOf l name ++ allOf m name := by simp [allOf]
end PM

namespace PM
/-- postmarklaw13.Few. -/
def few13 (l : Fs) : Bool := ((l.take 61).all fun f => small f.1 && small f.2) && decide (l.length ≤ 60)
theorem few13_all {l : Fs} (h : few13 l = true) : l.length ≤ 60 ∧ ∀ f ∈ l, f.1.length ≤ 300 ∧ f.2.length ≤ 300 := by
  unfold few13 small at h
  simp only [Bool.and_eq_true, decide_eq_true_eq, List.all_eq_true] at h
  refine ⟨h.2, fun f hf => h.1 f ?_⟩
  rw [List.take_of_length_le (by omega)]
  exact hf
theorem allOf_take (l : Fs) (name : L) (k : Nat) (h : k < l.length) : allOf (l.take (k + 1)) name = allOf (l.take k) name ++ (if same (l[k]'h).1 name then [(l[k]'h).2] else []) := by
  rw [List.take_succ_eq_append_getElem h, all_app]
  congr 1
  unfold allOf
  cases hs : same (l[k]'h).1 name <;> simp [hs]
theorem allOf_len (l : Fs) (name : L) : (allOf l name).length ≤ l.length := by
  unfold allOf
  rw [List.length_map]
  exact List.length_filter_le _ _
end PM
namespace Go.Proofs.YtppbkblnjlbnfaaGreatDoor
open Go.RowKit
/-- Where a field lies. -/
theorem RdFW.fld {w : World} {a : Option Addr} {n : Nat} {l : List (List UInt8 × List UInt8)} (h : RdFW w a n l) (k : Nat) (hk : k < l.length) : ∃ b o, a = some ⟨b, o, none⟩ ∧ b < w.heap.size ∧ w.cell? ⟨b, o + k * 2, none⟩ = some (.string (mkS (l[k]'hk).1)) ∧ w.cell? ⟨b, o + k * 2 + 1, none⟩ = some (.string (mkS (l[k]'hk).2)) := by
  rcases h.at_ with rfl | ⟨b, o, rfl, hlt, hc⟩
  · simp at hk
  · exact ⟨b, o, rfl, hlt, (hc k hk).1, (hc k hk).2⟩
theorem two_range {w : World} {b o : Nat} {x y : Value} (h1 : w.cell? ⟨b, o, none⟩ = some x) (h2 : w.cell? ⟨b, o + 1, none⟩ = some y) : w.rangeAt b o (#[x, y] : Array Value).toList := by
  intro j v hj
  match j with
  | 0 => simpa using (by simpa using hj : x = v) ▸ h1
  | 1 => simpa using (by simpa using hj : y = v) ▸ h2
  | n + 2 => simp at hj
set_option maxRecDepth 100000 in
set_option maxHeartbeats 2000000 in
theorem Few13_c (a : Option Addr) (n c : Nat) (l : List (List UInt8 × List UInt8)) (w : World) (h : RdFW w a n l) :
    Calls Tryz.prog 35 #[.slice a n c] w fun e w' => e = .returned (.bool (PM.few13 l)) ∧ w' = w := by
  have hlen := h.len
  subst hlen
  have HC := Lib.hid (RdFW.fld h)
  clear h
  go_enter Tryz.func35, Tryz.ntmps35
  go_wp2
  go_loop [3] (fun i => ∃ k : Nat, i = .int .i64 k ∧ k ≤ l.length ∧ k ≤ 61 ∧ ((l.take k).all fun f => PM.small f.1 && PM.small f.2) = true) (fun i => 100 - (intOf i).toNat)
  case atStart => exact ⟨0, rfl, by omega, by omega, rfl⟩
  case round =>
    obtain ⟨k, rfl, hk, hk2, hp⟩ := hrel
    have HP := Lib.hid hp
    clear hp
    by_cases hlt : k < l.length
    · have hlt' : (k : Int) < (l.length : Int) := by omega
      by_cases h60 : k ≤ 60
      · have h60' : (k : Int) ≤ 60 := by omega
        obtain ⟨b, o, rfl, hbl, hc1, hc2⟩ := HC.out k hlt
        have hst : ((l.take (k + 1)).all fun f => PM.small f.1 && PM.small f.2) = (PM.small (l[k]'hlt).1 && PM.small (l[k]'hlt).2) := by
          rw [List.take_succ_eq_append_getElem hlt, List.all_append, HP.out]
          simp
        have HS := Lib.hid hst
        clear hst
        have hfin : (PM.small (l[k]'hlt).1 && PM.small (l[k]'hlt).2) = false → PM.few13 l = false := by
          intro hx
          unfold PM.few13
          have : ((l.take 61).all fun f => PM.small f.1 && PM.small f.2) = false := by
            rw [List.all_eq_false]
            refine ⟨l[k]'hlt, ?_, by simpa using hx⟩
            rw [List.mem_take_iff_getElem]
            exact ⟨k, by omega, rfl⟩
          rw [this]
          rfl
        have HF := Lib.hid hfin
        clear hfin hbl
        generalize l[k]'hlt = x at hc1 hc2 HS HF
        obtain ⟨x1, x2⟩ := x
        by_cases hx : x1.length ≤ 300
        · have hx' : ¬ (300 : Int) < (x1.length : Int) := by omega
          by_cases hy : x2.length ≤ 300
          · have hy' : ¬ (300 : Int) < (x2.length : Int) := by omega
            go_wp2
            refine ⟨⟨k + 1, congrArg (Value.int .i64) (by omega), by omega, by omega, ?_⟩, ?_⟩
            · rw [HS.out]
              unfold PM.small
              simp [hx, hy]
            · simp only [intOf]; omega
          · have hy' : (300 : Int) < (x2.length : Int) := by omega
            go_wp2
            go_ret
            exact ⟨ret_bool (HF.out (by unfold PM.small; simp [hy])).symm, rfl⟩
        · have hx' : (300 : Int) < (x1.length : Int) := by omega
          go_wp2
          go_ret
          exact ⟨ret_bool (HF.out (by unfold PM.small; simp [hx])).symm, rfl⟩
      · have h60' : ¬ (k : Int) ≤ 60 := by omega
        have hfin : PM.few13 l = false := by
          unfold PM.few13
          rw [decide_eq_false (by omega), Bool.and_false]
        have h0 : ¬ (l.length : Int) ≤ 60 := by omega
        go_wp2
        go_ret
        exact ⟨rfl, rfl⟩
    · have hlt' : ¬ (k : Int) < (l.length : Int) := by omega
      have hk' : k = l.length := by omega
      subst hk'
      have hfin : PM.few13 l = decide ((l.length : Int) ≤ 60) := by
        have hp := HP.out
        unfold PM.few13
        rw [List.take_of_length_le (by omega)]
        rw [List.take_of_length_le (by omega)] at hp
        rw [hp, Bool.true_and, Bool.eq_iff_iff]
        simp
        omega
      go_wp2
      go_ret
      exact ⟨rfl, rfl⟩
set_option maxRecDepth 100000 in
set_option maxHeartbeats 2000000 in
theorem All_c (a : Option Addr) (n c : Nat) (l : List (List UInt8 × List UInt8)) (name : List UInt8) (w : World) (h : RdFW w a n l) (hn : n ≤ 1000000) (hname : name.length ≤ 1000000) (hl : ∀ f ∈ l, f.1.length ≤ 1000000) :
    Calls Tryz.prog 36 #[.slice a n c, .string (mkS name)] w fun e w' => ∃ v, e = .returned v ∧ w'.ownsRow w.heap.size 9 1 v (PM.allOf l name).length (strs (PM.allOf l name)) ∧ Below w.heap.size w w' := by
  have hlen := h.len
  subst hlen
  have HC := Lib.hid (RdFW.fld h)
  have HL := Lib.hid hl
  clear h hl
  obtain ⟨i0, hi, hz0, hz1, hz2⟩ := info_parts infoText
  go_enter Tryz.func36, Tryz.ntmps36
  go_wp2
  go_loopw [5, 10] (fun v i wr => ∃ k : Nat, i = .int .i64 k ∧ k ≤ l.length ∧ Hid (wr.ownsRow w.heap.size 9 1 v (PM.allOf (l.take k) name).length (strs (PM.allOf (l.take k) name))) ∧ Hid (Below w.heap.size w wr)) (fun _ i _ => l.length - (intOf i).toNat)
  case atStart => exact ⟨0, rfl, by omega, Lib.hid (World.ownsRow_nil _ _ _ _), Lib.hid (Below.refl _ _)⟩
  case round =>
    obtain ⟨k, rfl, hk, HO, HB⟩ := hrel
    by_cases hlt : k < l.length
    · have hlt' : (k : Int) < (l.length : Int) := by omega
      obtain ⟨b, o, rfl, hbl, hc1, hc2⟩ := HC.out k hlt
      have hat := PM.allOf_take l name k hlt
      have hlx := HL.out _ (List.getElem_mem hlt)
      have hln := PM.allOf_len (l.take k) name
      rw [List.length_take] at hln
      generalize l[k]'hlt = x at hc1 hc2 hat hlx
      obtain ⟨x1, x2⟩ := x
      have HR := Lib.hid (two_range (cell_b HB.out hc1) (cell_b HB.out hc2))
      have HAT := Lib.hid hat
      have HLX := Lib.hid hlx
      have HLN := Lib.hid hln
      clear hat hlx hln hc1 hc2
      go_wp2_with (first | go_skip | (refine wpList_load_mg 50 _ rfl (by kernel_rfl) b (o + k * 2) rfl #[.string (mkS x1), .string (mkS x2)] HR.out Tryz.underlying50 rfl (by kernel_rfl) ?_))
      refine (Same_c x1 name (Nat.le_trans HLX.out (by decide)) (Nat.le_trans hname (by decide)) _).mono ?_
      rintro e w1 ⟨rfl, hb1⟩
      have hbx : w1.heap[wr.heap.size]? = some (.cells #[.string (mkS x1), .string (mkS x2)] 50 (0, 0)) := heap_b hb1 (Go.heap_alloc_new _ _)
      have c1 : w1.cell? ⟨wr.heap.size, 1, none⟩ = some (.string (mkS x2)) := by rw [Lib.cell_of_heap hbx]; rfl
      have HB1 := Lib.hid (b_then (b_alloc HB.out _) hb1)
      have HO1 := Lib.hid (own_below (own_alloc HO.out _) hb1)
      clear hb1 hbx
      cases hs : PM.same x1 name
      · have he := HAT.out
        rw [hs] at he
        simp only [Bool.false_eq_true, if_false, List.append_nil] at he
        have HE := Lib.hid he
        clear he hs
        go_wp2
        refine ⟨⟨k + 1, congrArg (Value.int .i64) (by omega), by omega, by rw [HE.out]; exact HO1, HB1⟩, ?_⟩
        simp only [intOf]; omega
      · have he := HAT.out
        rw [hs] at he
        simp only [if_true] at he
        have HE := Lib.hid he
        clear he hs
        have hsz := HB1.out.size
        go_wp2_with (at_builtin; refine wpList_append_own_at _ rfl _ _ 25 rfl w.heap.size 9 i0 (.string ⟨#[]⟩) 1 16 Tryz.underlying25 hi hz0 hz1 hz2 rfl (by decide) _ _ _ rfl (own_alloc HO1.out _) ⟨w1.heap.size, 0, none⟩ 1 1 [.string (mkS x2)] rfl rfl (cell_one_new _ _ _) ?c2 ?c3 ?c4 ?c5 ?_)
        case c2 => intro u hu; simp at hu; subst hu; rfl
        case c3 => unfold maxLen; have := HLN.out; omega
        case c4 => have := HLN.out; omega
        case c5 => simp; omega
        intro v' w3 hown' hgrow _ hat
        have hb3 : Below w.heap.size w w3 := (b_alloc HB1.out _).grown hgrow (by simp; omega) (fun k hk => (HO1.out.lt k hk).1)
        rw [strs_snoc] at hown'
        have HO3 := Lib.hid hown'
        have HB3 := Lib.hid hb3
        clear hown' hgrow hat hb3
        go_wp2
        refine ⟨⟨k + 1, congrArg (Value.int .i64) (by omega), by omega, by rw [HE.out, List.length_append]; exact HO3, HB3⟩, ?_⟩
        simp only [intOf]; omega
    · have hlt' : ¬ (k : Int) < (l.length : Int) := by omega
      have hk' : k = l.length := by omega
      subst hk'
      go_wp2
      go_ret
      have h3 := HO.out
      rw [List.take_of_length_le (Nat.le_refl _)] at h3
      exact ⟨_, rfl, h3, HB.out⟩
end Go.Proofs.YtppbkblnjlbnfaaGreatDoor

namespace PM
end PM
namespace Go.Proofs.YtppbkblnjlbnfaaGreatDoor
open Go.RowKit
theorem hasN_all (l : PM.Fs) (name : PM.L) : PM.hasN l name = decide (0 < (PM.allOf l name).length) := by
  unfold PM.hasN PM.allOf
  rw [List.length_map, Bool.eq_iff_iff, List.any_eq_true, decide_eq_true_eq]
  constructor
  · rintro ⟨f, hf, hs⟩
    have := List.length_pos_of_mem ((List.mem_filter (p := fun f => PM.same f.1 name)).2 ⟨hf, hs⟩)
    omega
  · intro h
    obtain ⟨f, hf⟩ := List.exists_mem_of_length_pos (show 0 < (l.filter fun f => PM.same f.1 name).length by omega)
    exact ⟨f, (List.mem_filter.1 hf).1, (List.mem_filter.1 hf).2⟩
theorem all_mem {l : PM.Fs} {name : PM.L} {n : Nat} (hl : ∀ f ∈ l, f.2.length ≤ n) : ∀ s ∈ PM.allOf l name, s.length ≤ n := fun s hs => by
  unfold PM.allOf at hs
  obtain ⟨f, hf, rfl⟩ := List.mem_map.1 hs
  exact hl f (List.mem_filter.1 hf).1
theorem RdFW.below2 {w W : World} {a : Option Addr} {n : Nat} {xs : List (List UInt8 × List UInt8)} (h : RdFW w a n xs) (hb : Below w.heap.size w W) : RdFW W a n xs := h.below hb
/-- One field in a block of its own. -/
theorem RdFW.one {w : World} {b : Nat} {x y : List UInt8} (h : w.heap[b]? = some (.cells #[.string (mkS x), .string (mkS y)] 50 (0, 0))) : RdFW w (some ⟨b, 0, none⟩) 1 [(x, y)] :=
  ⟨rfl, .inr ⟨b, 0, rfl, h_lt h, fun j hj => by
    obtain rfl : j = 0 := by simp at hj; omega
    exact ⟨by rw [Lib.cell_of_heap h]; rfl, by rw [Lib.cell_of_heap h]; rfl⟩⟩⟩
set_option maxHeartbeats 2000000 in
theorem Get_c (a : Option Addr) (n c : Nat) (l : PM.Fs) (name : List UInt8) (w : World) (h : RdFW w a n l) (hn : n ≤ 10000) (hname : name.length ≤ 1000000) (hl : ∀ f ∈ l, f.1.length ≤ 1000000 ∧ f.2.length ≤ 1000000) :
    Calls Tryz.prog 23 #[.slice a n c, .string (mkS name)] w fun e w' => (∃ j, e = .returned (.tuple #[.string (mkS j), .bool (PM.hasN l name)])) ∧ Below w.heap.size w w' := by
  have HR := Lib.hid h
  have HL := Lib.hid hl
  have hal := PM.allOf_len l name
  rw [h.len] at hal
  have HAL := Lib.hid hal
  have HAT := Lib.hid (all_mem (name := name) fun f hf => (hl f hf).2)
  have HN := Lib.hid (hasN_all l name)
  clear h hl hal
  obtain ⟨A, hA⟩ : ∃ A, PM.allOf l name = A := ⟨_, rfl⟩
  rw [hA] at HAL HAT HN
  have HA := Lib.hid hA
  clear hA
  go_enter Tryz.func23, Tryz.ntmps23
  go_wp2_with fail
  refine (All_c a n c l name _ HR.out (by omega) hname (fun f hf => (HL.out f hf).1)).mono ?_
  rw [HA.out]
  rintro e V1 ⟨v, rfl, hown, hb⟩
  obtain ⟨a1, c1, rfl⟩ := own_form hown
  have HO := Lib.hid hown
  have HB := Lib.hid hb
  clear hown hb
  go_wp2_with fail
  refine (show Calls Tryz.prog 51 #[.slice a1 A.length c1, .string (mkS [44, 32])] _ _ from own_join A A.length rfl [44, 32] _ _ _ HO.out (by have := HAL.out; omega) (fun x hx => Nat.le_trans (HAT.out x hx) (by decide)) (by decide)).mono ?_
  rintro e V2 ⟨rfl, hb⟩
  have HB2 := Lib.hid (b_then HB.out hb)
  clear hb
  go_wp2
  go_ret2
  exact ⟨⟨_, by rw [HN.out]; rfl⟩, HB2.out⟩
theorem zero_pm : uz.pm = PM.zeroUrl := rfl
theorem zero_ok (W : World) : uz.Ok W := ⟨by decide, by decide, by decide, by decide, by decide, by decide, by decide, by decide, by simp [uz], zrd _⟩
theorem few13_ok {l : PM.Fs} {w : World} {a : Option Addr} {n : Nat} (h : PM.few13 l = true) (hr : RdFW w a n l) : n ≤ 60 ∧ ∀ f ∈ l, f.1.length ≤ 1000 ∧ f.2.length ≤ 1000 := by
  obtain ⟨h1, h2⟩ := PM.few13_all h
  exact ⟨by rw [← hr.len]; exact h1, fun f hf => ⟨Nat.le_trans (h2 f hf).1 (by decide), Nat.le_trans (h2 f hf).2 (by decide)⟩⟩
end Go.Proofs.YtppbkblnjlbnfaaGreatDoor
/-! Contracts: package taint. -/
namespace Go.Proofs.YtppbkblnjlbnfaaGreatDoor
open Go.RowKit
theorem q_url {W : World} {b : Nat} {q : QV} (h : W.heap[b]? = some (.cells q.cells 32 (0, 0))) : W.rangeAt b 0 q.u.cells.toList := by
  intro j v hj
  rw [Lib.cell_of_heap h, Nat.zero_add]
  have e : q.cells.toList = q.u.cells.toList ++ ([.string (mkS q.me), .slice q.ha q.hn q.hc, .bool q.bo] ++ (q.o.cells.toList ++ [.int .i64 q.mo, .int .i64 q.re, .int .i64 q.po, .string (mkS q.rf), .bool q.ta, .bool q.cr, .int .i64 q.co])) := rfl
  rw [← Array.getElem?_toList, e, List.getElem?_append_left (List.getElem?_eq_some_iff.1 hj).1]
  exact hj
theorem q_org {W : World} {b : Nat} {q : QV} (h : W.heap[b]? = some (.cells q.cells 32 (0, 0))) : W.rangeAt b 24 q.o.cells.toList := by
  intro j v hj
  rw [Lib.cell_of_heap h]
  have e : q.cells.toList = (q.u.cells.toList ++ [.string (mkS q.me), .slice q.ha q.hn q.hc, .bool q.bo]) ++ (q.o.cells.toList ++ [.int .i64 q.mo, .int .i64 q.re, .int .i64 q.po, .string (mkS q.rf), .bool q.ta, .bool q.cr, .int .i64 q.co]) := rfl
  have hl : (q.u.cells.toList ++ ([.string (mkS q.me), .slice q.ha q.hn q.hc, .bool q.bo] : List Value)).length = 24 := rfl
  rw [← Array.getElem?_toList, e, List.getElem?_append_right (by rw [hl]; omega), hl, Nat.add_sub_cancel_left, List.getElem?_append_left (List.getElem?_eq_some_iff.1 hj).1]
  exact hj
/-- Where a function stands that has a request in a box. -/
structure QAt (b : Nat) (q : QV) (w W : World) : Prop where
  hq : W.heap[b]? = some (.cells q.cells 32 (0, 0))
  be : Below w.heap.size w W
theorem QAt.below {b : Nat} {q : QV} {w W W' : World} (h : QAt b q w W) (hb : Below W.heap.size W W') : QAt b q w W' := ⟨heap_b hb h.hq, b_then h.be hb⟩
theorem home_pm (q : QV) : PM.home q.pm = PM.originSame q.o.pm (ofOV q.u).pm := by rw [ofOV_pm]; rfl
/-- Where taint.Taint stands. -/
structure TaS (o : OV) (u v : UV) (bu bv : Nat) (w W : World) : Prop where
  ho : W.heap[w.heap.size]? = some (.cells o.cells 30 (0, 0))
  hu : W.heap[bu]? = some (.cells u.cells 27 (0, 0))
  hv : W.heap[bv]? = some (.cells v.cells 27 (0, 0))
  be : Below w.heap.size w W
theorem TaS.below {o : OV} {u v : UV} {bu bv : Nat} {w W W' : World} (h : TaS o u v bu bv w W) (hb : Below W.heap.size W W') : TaS o u v bu bv w W' := ⟨heap_b hb h.ho, heap_b hb h.hu, heap_b hb h.hv, b_then h.be hb⟩
set_option maxRecDepth 100000 in
set_option maxHeartbeats 4000000 in
theorem Crossed_c (q : QV) (w : World) (hq : q.Ok w) (hg : Gl w) : Calls Tryz.prog 28 #[.agg q.cells] w fun e w' => e = .returned (.bool (PM.crossed q.pm)) ∧ Below w.heap.size w w' := by
  have hc : PM.crossed q.pm = (q.cr || (decide (q.mo = 1) && !PM.originSame q.o.pm (ofOV q.u).pm)) := by show (q.cr || (decide (q.mo = 1) && !PM.home q.pm)) = _; rw [home_pm]
  have HC := Lib.hid hc
  clear hc
  have HG := Lib.hid hg
  have HQ : Hid (QAt w.heap.size q w (w.alloc (.cells q.cells 32))) := Lib.hid ⟨Go.heap_alloc_new _ _, b_alloc (Below.refl _ _) _⟩
  have OQ := Lib.hid hq
  clear hg hq
  go_enter Tryz.func28, Tryz.ntmps28
  go_upto_region 1 with fail
  generalize w.alloc (.cells q.cells 32) = V0 at HQ ⊢
  obtain ⟨S, hS⟩ : ∃ S, PM.originSame q.o.pm (ofOV q.u).pm = S := ⟨_, rfl⟩
  rw [hS] at HC
  have HS := Lib.hid hS
  clear hS
  have hou := ofOV_ok OQ.out.u
  have HOU := Lib.hid hou
  clear hou
  obtain ⟨t, ht⟩ : ∃ t, q.cr = t := ⟨_, rfl⟩
  rw [ht] at HC
  have HT := Lib.hid ht
  clear ht
  cases t
  rotate_left
  · skip
    go_wp2_with fail
    refine wp_region_noPanic ?_
    refine wp_region_held_drew (S := fun W' => QAt w.heap.size q w W') (by kernel_rfl) (HQ.out.below (b_drew (Below.refl _ _))) (fun hS0 => ?_)
    refine wpAnyH_take (i := 0) (v := ?_) rfl (by kernel_rfl) (by kernel_rfl) (by kernel_rfl) (fun _ _ _ h => h) (Or.inl ⟨by kernel_rfl, fun W hW => ?_⟩) (by assumption) ?_
    rotate_left
    · go_simp
      try with_reducible rfl
    (try simp only [List.getElem_toArray, List.getElem_cons_zero, List.getElem_cons_succ, Act.put, List.setIfInBounds_toArray, List.set_cons_zero, List.set_cons_succ])
    refine wpAnyH_take (i := 1) (v := ?_) rfl (by kernel_rfl) (by kernel_rfl) (by kernel_rfl) (fun _ _ _ h => h) (Or.inl ⟨by kernel_rfl, fun W hW => ?_⟩) (by assumption) ?_
    rotate_left
    · have c38 : W.cell? ⟨w.heap.size, 38, none⟩ = some (.int .i64 q.mo) := by rw [Lib.cell_of_heap hW.hq]; rfl
      have c43 : W.cell? ⟨w.heap.size, 43, none⟩ = some (.bool true) := by rw [Lib.cell_of_heap hW.hq, ← HT.out]; rfl
      go_simp
      try with_reducible rfl
    (try simp only [List.getElem_toArray, List.getElem_cons_zero, List.getElem_cons_succ, Act.put, List.setIfInBounds_toArray, List.set_cons_zero, List.set_cons_succ])
    refine wpAnyH_take (i := 2) (v := ?_) rfl (by kernel_rfl) (by kernel_rfl) (by kernel_rfl) (fun _ _ _ h => h) (Or.inl ⟨by kernel_rfl, fun W hW => ?_⟩) (by assumption) ?_
    rotate_left
    · go_simp
      try with_reducible rfl
    (try simp only [List.getElem_toArray, List.getElem_cons_zero, List.getElem_cons_succ, Act.put, List.setIfInBounds_toArray, List.set_cons_zero, List.set_cons_succ])
    refine wpAnyH_take (i := 3) (v := undef) rfl (by kernel_rfl) (by kernel_rfl) (by kernel_rfl) (fun _ _ _ h => h) (Or.inr ⟨by kernel_rfl, rfl⟩) (by assumption) ?_
    (try simp only [List.getElem_toArray, List.getElem_cons_zero, List.getElem_cons_succ, Act.put, List.setIfInBounds_toArray, List.set_cons_zero, List.set_cons_succ])
    refine wpAnyH_take (i := 4) (v := undef) rfl (by kernel_rfl) (by kernel_rfl) (by kernel_rfl) (fun _ _ _ h => h) (Or.inr ⟨by kernel_rfl, rfl⟩) (by assumption) ?_
    (try simp only [List.getElem_toArray, List.getElem_cons_zero, List.getElem_cons_succ, Act.put, List.setIfInBounds_toArray, List.set_cons_zero, List.set_cons_succ])
    refine wpAnyH_take (i := 5) (v := undef) rfl (by kernel_rfl) (by kernel_rfl) (by kernel_rfl) (fun _ _ _ h => h) (Or.inr ⟨by kernel_rfl, rfl⟩) (by assumption) ?_
    (try simp only [List.getElem_toArray, List.getElem_cons_zero, List.getElem_cons_succ, Act.put, List.setIfInBounds_toArray, List.set_cons_zero, List.set_cons_succ])
    refine wpAnyH_take (i := 6) (v := undef) rfl (by kernel_rfl) (by kernel_rfl) (by kernel_rfl) (fun _ _ _ h => h) (Or.inr ⟨by kernel_rfl, rfl⟩) (by assumption) ?_
    (try simp only [List.getElem_toArray, List.getElem_cons_zero, List.getElem_cons_succ, Act.put, List.setIfInBounds_toArray, List.set_cons_zero, List.set_cons_succ])
    refine wpAnyH_take (i := 7) (v := undef) rfl (by kernel_rfl) (by kernel_rfl) (by kernel_rfl) (fun _ _ _ h => h) (Or.inr ⟨by kernel_rfl, rfl⟩) (by assumption) ?_
    (try simp only [List.getElem_toArray, List.getElem_cons_zero, List.getElem_cons_succ, Act.put, List.setIfInBounds_toArray, List.set_cons_zero, List.set_cons_succ])
    refine wpAnyH_take (i := 8) (v := undef) rfl (by kernel_rfl) (by kernel_rfl) (by kernel_rfl) (fun _ _ _ h => h) (Or.inr ⟨by kernel_rfl, rfl⟩) (by assumption) ?_
    (try simp only [List.getElem_toArray, List.getElem_cons_zero, List.getElem_cons_succ, Act.put, List.setIfInBounds_toArray, List.set_cons_zero, List.set_cons_succ])
    refine wpAnyH_take (i := 9) (v := undef) rfl (by kernel_rfl) (by kernel_rfl) (by kernel_rfl) (fun _ _ _ h => h) (Or.inr ⟨by kernel_rfl, rfl⟩) (by assumption) ?_
    (try simp only [List.getElem_toArray, List.getElem_cons_zero, List.getElem_cons_succ, Act.put, List.setIfInBounds_toArray, List.set_cons_zero, List.set_cons_succ])
    refine wpAnyH_take (i := 10) (v := undef) rfl (by kernel_rfl) (by kernel_rfl) (by kernel_rfl) (fun _ _ _ h => h) (Or.inr ⟨by kernel_rfl, rfl⟩) (by assumption) ?_
    (try simp only [List.getElem_toArray, List.getElem_cons_zero, List.getElem_cons_succ, Act.put, List.setIfInBounds_toArray, List.set_cons_zero, List.set_cons_succ])
    refine wpAnyH_take (i := 11) (v := undef) rfl (by kernel_rfl) (by kernel_rfl) (by kernel_rfl) (fun _ _ _ h => h) (Or.inr ⟨by kernel_rfl, rfl⟩) (by assumption) ?_
    (try simp only [List.getElem_toArray, List.getElem_cons_zero, List.getElem_cons_succ, Act.put, List.setIfInBounds_toArray, List.set_cons_zero, List.set_cons_succ])
    refine wpAnyH_take (i := 12) (v := undef) rfl (by kernel_rfl) (by kernel_rfl) (by kernel_rfl) (fun _ _ _ h => h) (Or.inr ⟨by kernel_rfl, rfl⟩) (by assumption) ?_
    (try simp only [List.getElem_toArray, List.getElem_cons_zero, List.getElem_cons_succ, Act.put, List.setIfInBounds_toArray, List.set_cons_zero, List.set_cons_succ])
    refine wpAnyH_take (i := 13) (v := undef) rfl (by kernel_rfl) (by kernel_rfl) (by kernel_rfl) (fun _ _ _ h => h) (Or.inr ⟨by kernel_rfl, rfl⟩) (by assumption) ?_
    (try simp only [List.getElem_toArray, List.getElem_cons_zero, List.getElem_cons_succ, Act.put, List.setIfInBounds_toArray, List.set_cons_zero, List.set_cons_succ])
    refine wpAnyH_take (i := 14) (v := undef) rfl (by kernel_rfl) (by kernel_rfl) (by kernel_rfl) (fun _ _ _ h => h) (Or.inr ⟨by kernel_rfl, rfl⟩) (by assumption) ?_
    (try simp only [List.getElem_toArray, List.getElem_cons_zero, List.getElem_cons_succ, Act.put, List.setIfInBounds_toArray, List.set_cons_zero, List.set_cons_succ])
    refine wpAnyH_take (i := 15) (v := ?_) rfl (by kernel_rfl) (by kernel_rfl) (by kernel_rfl) (fun _ _ _ h => h) (Or.inl ⟨by kernel_rfl, fun W hW => ?_⟩) (by assumption) ?_
    rotate_left
    · go_simp
      try with_reducible rfl
    (try simp only [List.getElem_toArray, List.getElem_cons_zero, List.getElem_cons_succ, Act.put, List.setIfInBounds_toArray, List.set_cons_zero, List.set_cons_succ])
    refine wpAnyH_take (i := 16) (v := ?_) rfl (by kernel_rfl) (by kernel_rfl) (by kernel_rfl) (fun _ _ _ h => h) (Or.inl ⟨by kernel_rfl, fun W hW => ?_⟩) (by assumption) ?_
    rotate_left
    · go_simp
      try with_reducible rfl
    (try simp only [List.getElem_toArray, List.getElem_cons_zero, List.getElem_cons_succ, Act.put, List.setIfInBounds_toArray, List.set_cons_zero, List.set_cons_succ])
    refine wpAnyH_done (by kernel_rfl) ?_ _
    refine NoPanic.normal ?_
    go_wp2
    go_ret
    exact ⟨ret_bool (by rw [HC.out]; rfl), hS0.be⟩
  by_cases hm : q.mo = 1
  · have hm' : (q.mo == 1) = true := by simpa using hm
    rw [decide_eq_true hm] at HC
    clear hm
    cases S
    · skip
      go_wp2_with fail
      refine wp_region_noPanic ?_
      refine wp_region_held_drew (S := fun W' => QAt w.heap.size q w W') (by kernel_rfl) (HQ.out.below (b_drew (Below.refl _ _))) (fun hS0 => ?_)
      refine wpAnyH_take (i := 0) (v := ?_) rfl (by kernel_rfl) (by kernel_rfl) (by kernel_rfl) (fun _ _ _ h => h) (Or.inl ⟨by kernel_rfl, fun W hW => ?_⟩) (by assumption) ?_
      rotate_left
      · go_simp
        try with_reducible rfl
      (try simp only [List.getElem_toArray, List.getElem_cons_zero, List.getElem_cons_succ, Act.put, List.setIfInBounds_toArray, List.set_cons_zero, List.set_cons_succ])
      refine wpAnyH_take (i := 1) (v := ?_) rfl (by kernel_rfl) (by kernel_rfl) (by kernel_rfl) (fun _ _ _ h => h) (Or.inl ⟨by kernel_rfl, fun W hW => ?_⟩) (by assumption) ?_
      rotate_left
      · have c38 : W.cell? ⟨w.heap.size, 38, none⟩ = some (.int .i64 q.mo) := by rw [Lib.cell_of_heap hW.hq]; rfl
        have c43 : W.cell? ⟨w.heap.size, 43, none⟩ = some (.bool false) := by rw [Lib.cell_of_heap hW.hq, ← HT.out]; rfl
        go_simp
        try with_reducible rfl
      (try simp only [List.getElem_toArray, List.getElem_cons_zero, List.getElem_cons_succ, Act.put, List.setIfInBounds_toArray, List.set_cons_zero, List.set_cons_succ])
      refine wpAnyH_take (i := 2) (v := ?_) rfl (by kernel_rfl) (by kernel_rfl) (by kernel_rfl) (fun _ _ _ h => h) (Or.inl ⟨by kernel_rfl, fun W hW => ?_⟩) (by assumption) ?_
      rotate_left
      · go_simp
        try with_reducible rfl
      (try simp only [List.getElem_toArray, List.getElem_cons_zero, List.getElem_cons_succ, Act.put, List.setIfInBounds_toArray, List.set_cons_zero, List.set_cons_succ])
      refine wpAnyH_take (i := 3) (v := ?_) rfl (by kernel_rfl) (by kernel_rfl) (by kernel_rfl) (fun _ _ _ h => h) (Or.inl ⟨by kernel_rfl, fun W hW => ?_⟩) (by assumption) ?_
      rotate_left
      · go_simp
        try with_reducible rfl
      (try simp only [List.getElem_toArray, List.getElem_cons_zero, List.getElem_cons_succ, Act.put, List.setIfInBounds_toArray, List.set_cons_zero, List.set_cons_succ])
      refine wpAnyH_take (i := 4) (v := ?_) rfl (by kernel_rfl) (by kernel_rfl) (by kernel_rfl) (fun _ _ _ h => h) (Or.inl ⟨by kernel_rfl, fun W hW => ?_⟩) (by assumption) ?_
      rotate_left
      · have c38 : W.cell? ⟨w.heap.size, 38, none⟩ = some (.int .i64 q.mo) := by rw [Lib.cell_of_heap hW.hq]; rfl
        have c43 : W.cell? ⟨w.heap.size, 43, none⟩ = some (.bool false) := by rw [Lib.cell_of_heap hW.hq, ← HT.out]; rfl
        go_simp
        try with_reducible rfl
      (try simp only [List.getElem_toArray, List.getElem_cons_zero, List.getElem_cons_succ, Act.put, List.setIfInBounds_toArray, List.set_cons_zero, List.set_cons_succ])
      refine wpAnyH_take (i := 5) (v := ?_) rfl (by kernel_rfl) (by kernel_rfl) (by kernel_rfl) (fun _ _ _ h => h) (Or.inl ⟨by kernel_rfl, fun W hW => ?_⟩) (by assumption) ?_
      rotate_left
      · go_simp
        try with_reducible rfl
      (try simp only [List.getElem_toArray, List.getElem_cons_zero, List.getElem_cons_succ, Act.put, List.setIfInBounds_toArray, List.set_cons_zero, List.set_cons_succ])
      refine wpAnyH_take (i := 6) (v := ?_) rfl (by kernel_rfl) (by kernel_rfl) (by kernel_rfl) (fun _ _ _ h => h) (Or.inl ⟨by kernel_rfl, fun W hW => ?_⟩) (by assumption) ?_
      rotate_left
      · go_simp
        try with_reducible rfl
      (try simp only [List.getElem_toArray, List.getElem_cons_zero, List.getElem_cons_succ, Act.put, List.setIfInBounds_toArray, List.set_cons_zero, List.set_cons_succ])
      refine wpAnyH_take (i := 7) (v := ?_) rfl (by kernel_rfl) (by kernel_rfl) (by kernel_rfl) (fun _ _ _ h => h) (Or.inl ⟨by kernel_rfl, fun W hW => ?_⟩) (by assumption) ?_
      rotate_left
      · go_simp
        try with_reducible rfl
      (try simp only [List.getElem_toArray, List.getElem_cons_zero, List.getElem_cons_succ, Act.put, List.setIfInBounds_toArray, List.set_cons_zero, List.set_cons_succ])
      refine wpAnyH_take (i := 8) (v := ?_) rfl (by kernel_rfl) (by kernel_rfl) (by kernel_rfl) (fun _ _ _ h => h) (Or.inl ⟨by kernel_rfl, fun W hW => ?_⟩) (by assumption) ?_
      rotate_left
      · refine yield_mid 30 (.tmp 10) ?_ w.heap.size 24 ?_ q.o.cells (q_org hW.hq) Tryz.underlying30 rfl (by kernel_rfl)
        · rfl
        · rfl
      (try simp only [List.getElem_toArray, List.getElem_cons_zero, List.getElem_cons_succ, Act.put, List.setIfInBounds_toArray, List.set_cons_zero, List.set_cons_succ])
      refine wpAnyH_take (i := 9) (v := ?_) rfl (by kernel_rfl) (by kernel_rfl) (by kernel_rfl) (fun _ _ _ h => h) (Or.inl ⟨by kernel_rfl, fun W hW => ?_⟩) (by assumption) ?_
      rotate_left
      · go_simp
        try with_reducible rfl
      (try simp only [List.getElem_toArray, List.getElem_cons_zero, List.getElem_cons_succ, Act.put, List.setIfInBounds_toArray, List.set_cons_zero, List.set_cons_succ])
      refine wpAnyH_take (i := 10) (v := ?_) rfl (by kernel_rfl) (by kernel_rfl) (by kernel_rfl) (fun _ _ _ h => h) (Or.inl ⟨by kernel_rfl, fun W hW => ?_⟩) (by assumption) ?_
      rotate_left
      · refine yield_mid 27 (.tmp 12) ?_ w.heap.size 0 ?_ q.u.cells (q_url hW.hq) Tryz.underlying27 rfl (by kernel_rfl)
        · rfl
        · rfl
      (try simp only [List.getElem_toArray, List.getElem_cons_zero, List.getElem_cons_succ, Act.put, List.setIfInBounds_toArray, List.set_cons_zero, List.set_cons_succ])
      refine wpAnyH_ready (rs := [11]) (by kernel_rfl) (by simp) ?_
      refine AllReadyH.cons rfl (fun K hK => ?_) AllReadyH.nil
      go_simp
      refine (Of_c q.u _ (OQ.out.u.below hS0.be) (HG.out.below hS0.be)).mono ?_
      rintro e U1 ⟨rfl, hb⟩
      have hSn := hS0.below hb
      clear hb hS0
      refine hK.out _ _ hSn (fun _ => ?_)
      clear hK K
      (try simp only [List.getElem_toArray, List.getElem_cons_zero, List.getElem_cons_succ, Act.put, List.setIfInBounds_toArray, List.set_cons_zero, List.set_cons_succ])
      refine wpAnyH_ready (rs := [12]) (by kernel_rfl) (by simp) ?_
      refine AllReadyH.cons rfl (fun K hK => ?_) AllReadyH.nil
      go_simp
      refine (Same_o_c q.o (ofOV q.u) _ OQ.out.o (HG.out.below hSn.be)).mono ?_
      rw [HS.out]
      rintro e U2 ⟨rfl, hb⟩
      replace hSn := hSn.below hb
      clear hb
      refine hK.out _ _ hSn (fun _ => ?_)
      clear hK K
      (try simp only [List.getElem_toArray, List.getElem_cons_zero, List.getElem_cons_succ, Act.put, List.setIfInBounds_toArray, List.set_cons_zero, List.set_cons_succ])
      refine wpAnyH_take (i := 13) (v := ?_) rfl (by kernel_rfl) (by kernel_rfl) (by kernel_rfl) (fun _ _ _ h => h) (Or.inl ⟨by kernel_rfl, fun W hW => ?_⟩) (by assumption) ?_
      rotate_left
      · go_simp
        try with_reducible rfl
      (try simp only [List.getElem_toArray, List.getElem_cons_zero, List.getElem_cons_succ, Act.put, List.setIfInBounds_toArray, List.set_cons_zero, List.set_cons_succ])
      refine wpAnyH_take (i := 14) (v := ?_) rfl (by kernel_rfl) (by kernel_rfl) (by kernel_rfl) (fun _ _ _ h => h) (Or.inl ⟨by kernel_rfl, fun W hW => ?_⟩) (by assumption) ?_
      rotate_left
      · go_simp
        try with_reducible rfl
      (try simp only [List.getElem_toArray, List.getElem_cons_zero, List.getElem_cons_succ, Act.put, List.setIfInBounds_toArray, List.set_cons_zero, List.set_cons_succ])
      refine wpAnyH_take (i := 15) (v := ?_) rfl (by kernel_rfl) (by kernel_rfl) (by kernel_rfl) (fun _ _ _ h => h) (Or.inl ⟨by kernel_rfl, fun W hW => ?_⟩) (by assumption) ?_
      rotate_left
      · go_simp
        try with_reducible rfl
      (try simp only [List.getElem_toArray, List.getElem_cons_zero, List.getElem_cons_succ, Act.put, List.setIfInBounds_toArray, List.set_cons_zero, List.set_cons_succ])
      refine wpAnyH_take (i := 16) (v := ?_) rfl (by kernel_rfl) (by kernel_rfl) (by kernel_rfl) (fun _ _ _ h => h) (Or.inl ⟨by kernel_rfl, fun W hW => ?_⟩) (by assumption) ?_
      rotate_left
      · go_simp
        try with_reducible rfl
      (try simp only [List.getElem_toArray, List.getElem_cons_zero, List.getElem_cons_succ, Act.put, List.setIfInBounds_toArray, List.set_cons_zero, List.set_cons_succ])
      refine wpAnyH_done (by kernel_rfl) ?_ _
      refine NoPanic.normal ?_
      go_wp2
      go_ret
      exact ⟨ret_bool (by rw [HC.out]; rfl), hSn.be⟩
    · skip
      go_wp2_with fail
      refine wp_region_noPanic ?_
      refine wp_region_held_drew (S := fun W' => QAt w.heap.size q w W') (by kernel_rfl) (HQ.out.below (b_drew (Below.refl _ _))) (fun hS0 => ?_)
      refine wpAnyH_take (i := 0) (v := ?_) rfl (by kernel_rfl) (by kernel_rfl) (by kernel_rfl) (fun _ _ _ h => h) (Or.inl ⟨by kernel_rfl, fun W hW => ?_⟩) (by assumption) ?_
      rotate_left
      · go_simp
        try with_reducible rfl
      (try simp only [List.getElem_toArray, List.getElem_cons_zero, List.getElem_cons_succ, Act.put, List.setIfInBounds_toArray, List.set_cons_zero, List.set_cons_succ])
      refine wpAnyH_take (i := 1) (v := ?_) rfl (by kernel_rfl) (by kernel_rfl) (by kernel_rfl) (fun _ _ _ h => h) (Or.inl ⟨by kernel_rfl, fun W hW => ?_⟩) (by assumption) ?_
      rotate_left
      · have c38 : W.cell? ⟨w.heap.size, 38, none⟩ = some (.int .i64 q.mo) := by rw [Lib.cell_of_heap hW.hq]; rfl
        have c43 : W.cell? ⟨w.heap.size, 43, none⟩ = some (.bool false) := by rw [Lib.cell_of_heap hW.hq, ← HT.out]; rfl
        go_simp
        try with_reducible rfl
      (try simp only [List.getElem_toArray, List.getElem_cons_zero, List.getElem_cons_succ, Act.put, List.setIfInBounds_toArray, List.set_cons_zero, List.set_cons_succ])
      refine wpAnyH_take (i := 2) (v := ?_) rfl (by kernel_rfl) (by kernel_rfl) (by kernel_rfl) (fun _ _ _ h => h) (Or.inl ⟨by kernel_rfl, fun W hW => ?_⟩) (by assumption) ?_
      rotate_left
      · go_simp
        try with_reducible rfl
      (try simp only [List.getElem_toArray, List.getElem_cons_zero, List.getElem_cons_succ, Act.put, List.setIfInBounds_toArray, List.set_cons_zero, List.set_cons_succ])
      refine wpAnyH_take (i := 3) (v := ?_) rfl (by kernel_rfl) (by kernel_rfl) (by kernel_rfl) (fun _ _ _ h => h) (Or.inl ⟨by kernel_rfl, fun W hW => ?_⟩) (by assumption) ?_
      rotate_left
      · go_simp
        try with_reducible rfl
      (try simp only [List.getElem_toArray, List.getElem_cons_zero, List.getElem_cons_succ, Act.put, List.setIfInBounds_toArray, List.set_cons_zero, List.set_cons_succ])
      refine wpAnyH_take (i := 4) (v := ?_) rfl (by kernel_rfl) (by kernel_rfl) (by kernel_rfl) (fun _ _ _ h => h) (Or.inl ⟨by kernel_rfl, fun W hW => ?_⟩) (by assumption) ?_
      rotate_left
      · have c38 : W.cell? ⟨w.heap.size, 38, none⟩ = some (.int .i64 q.mo) := by rw [Lib.cell_of_heap hW.hq]; rfl
        have c43 : W.cell? ⟨w.heap.size, 43, none⟩ = some (.bool false) := by rw [Lib.cell_of_heap hW.hq, ← HT.out]; rfl
        go_simp
        try with_reducible rfl
      (try simp only [List.getElem_toArray, List.getElem_cons_zero, List.getElem_cons_succ, Act.put, List.setIfInBounds_toArray, List.set_cons_zero, List.set_cons_succ])
      refine wpAnyH_take (i := 5) (v := ?_) rfl (by kernel_rfl) (by kernel_rfl) (by kernel_rfl) (fun _ _ _ h => h) (Or.inl ⟨by kernel_rfl, fun W hW => ?_⟩) (by assumption) ?_
      rotate_left
      · go_simp
        try with_reducible rfl
      (try simp only [List.getElem_toArray, List.getElem_cons_zero, List.getElem_cons_succ, Act.put, List.setIfInBounds_toArray, List.set_cons_zero, List.set_cons_succ])
      refine wpAnyH_take (i := 6) (v := ?_) rfl (by kernel_rfl) (by kernel_rfl) (by kernel_rfl) (fun _ _ _ h => h) (Or.inl ⟨by kernel_rfl, fun W hW => ?_⟩) (by assumption) ?_
      rotate_left
      · go_simp
        try with_reducible rfl
      (try simp only [List.getElem_toArray, List.getElem_cons_zero, List.getElem_cons_succ, Act.put, List.setIfInBounds_toArray, List.set_cons_zero, List.set_cons_succ])
      refine wpAnyH_take (i := 7) (v := ?_) rfl (by kernel_rfl) (by kernel_rfl) (by kernel_rfl) (fun _ _ _ h => h) (Or.inl ⟨by kernel_rfl, fun W hW => ?_⟩) (by assumption) ?_
      rotate_left
      · go_simp
        try with_reducible rfl
      (try simp only [List.getElem_toArray, List.getElem_cons_zero, List.getElem_cons_succ, Act.put, List.setIfInBounds_toArray, List.set_cons_zero, List.set_cons_succ])
      refine wpAnyH_take (i := 8) (v := ?_) rfl (by kernel_rfl) (by kernel_rfl) (by kernel_rfl) (fun _ _ _ h => h) (Or.inl ⟨by kernel_rfl, fun W hW => ?_⟩) (by assumption) ?_
      rotate_left
      · refine yield_mid 30 (.tmp 10) ?_ w.heap.size 24 ?_ q.o.cells (q_org hW.hq) Tryz.underlying30 rfl (by kernel_rfl)
        · rfl
        · rfl
      (try simp only [List.getElem_toArray, List.getElem_cons_zero, List.getElem_cons_succ, Act.put, List.setIfInBounds_toArray, List.set_cons_zero, List.set_cons_succ])
      refine wpAnyH_take (i := 9) (v := ?_) rfl (by kernel_rfl) (by kernel_rfl) (by kernel_rfl) (fun _ _ _ h => h) (Or.inl ⟨by kernel_rfl, fun W hW => ?_⟩) (by assumption) ?_
      rotate_left
      · go_simp
        try with_reducible rfl
      (try simp only [List.getElem_toArray, List.getElem_cons_zero, List.getElem_cons_succ, Act.put, List.setIfInBounds_toArray, List.set_cons_zero, List.set_cons_succ])
      refine wpAnyH_take (i := 10) (v := ?_) rfl (by kernel_rfl) (by kernel_rfl) (by kernel_rfl) (fun _ _ _ h => h) (Or.inl ⟨by kernel_rfl, fun W hW => ?_⟩) (by assumption) ?_
      rotate_left
      · refine yield_mid 27 (.tmp 12) ?_ w.heap.size 0 ?_ q.u.cells (q_url hW.hq) Tryz.underlying27 rfl (by kernel_rfl)
        · rfl
        · rfl
      (try simp only [List.getElem_toArray, List.getElem_cons_zero, List.getElem_cons_succ, Act.put, List.setIfInBounds_toArray, List.set_cons_zero, List.set_cons_succ])
      refine wpAnyH_ready (rs := [11]) (by kernel_rfl) (by simp) ?_
      refine AllReadyH.cons rfl (fun K hK => ?_) AllReadyH.nil
      go_simp
      refine (Of_c q.u _ (OQ.out.u.below hS0.be) (HG.out.below hS0.be)).mono ?_
      rintro e U3 ⟨rfl, hb⟩
      have hSn := hS0.below hb
      clear hb hS0
      refine hK.out _ _ hSn (fun _ => ?_)
      clear hK K
      (try simp only [List.getElem_toArray, List.getElem_cons_zero, List.getElem_cons_succ, Act.put, List.setIfInBounds_toArray, List.set_cons_zero, List.set_cons_succ])
      refine wpAnyH_ready (rs := [12]) (by kernel_rfl) (by simp) ?_
      refine AllReadyH.cons rfl (fun K hK => ?_) AllReadyH.nil
      go_simp
      refine (Same_o_c q.o (ofOV q.u) _ OQ.out.o (HG.out.below hSn.be)).mono ?_
      rw [HS.out]
      rintro e U4 ⟨rfl, hb⟩
      replace hSn := hSn.below hb
      clear hb
      refine hK.out _ _ hSn (fun _ => ?_)
      clear hK K
      (try simp only [List.getElem_toArray, List.getElem_cons_zero, List.getElem_cons_succ, Act.put, List.setIfInBounds_toArray, List.set_cons_zero, List.set_cons_succ])
      refine wpAnyH_take (i := 13) (v := ?_) rfl (by kernel_rfl) (by kernel_rfl) (by kernel_rfl) (fun _ _ _ h => h) (Or.inl ⟨by kernel_rfl, fun W hW => ?_⟩) (by assumption) ?_
      rotate_left
      · go_simp
        try with_reducible rfl
      (try simp only [List.getElem_toArray, List.getElem_cons_zero, List.getElem_cons_succ, Act.put, List.setIfInBounds_toArray, List.set_cons_zero, List.set_cons_succ])
      refine wpAnyH_take (i := 14) (v := ?_) rfl (by kernel_rfl) (by kernel_rfl) (by kernel_rfl) (fun _ _ _ h => h) (Or.inl ⟨by kernel_rfl, fun W hW => ?_⟩) (by assumption) ?_
      rotate_left
      · go_simp
        try with_reducible rfl
      (try simp only [List.getElem_toArray, List.getElem_cons_zero, List.getElem_cons_succ, Act.put, List.setIfInBounds_toArray, List.set_cons_zero, List.set_cons_succ])
      refine wpAnyH_take (i := 15) (v := ?_) rfl (by kernel_rfl) (by kernel_rfl) (by kernel_rfl) (fun _ _ _ h => h) (Or.inl ⟨by kernel_rfl, fun W hW => ?_⟩) (by assumption) ?_
      rotate_left
      · go_simp
        try with_reducible rfl
      (try simp only [List.getElem_toArray, List.getElem_cons_zero, List.getElem_cons_succ, Act.put, List.setIfInBounds_toArray, List.set_cons_zero, List.set_cons_succ])
      refine wpAnyH_take (i := 16) (v := ?_) rfl (by kernel_rfl) (by kernel_rfl) (by kernel_rfl) (fun _ _ _ h => h) (Or.inl ⟨by kernel_rfl, fun W hW => ?_⟩) (by assumption) ?_
      rotate_left
      · go_simp
        try with_reducible rfl
      (try simp only [List.getElem_toArray, List.getElem_cons_zero, List.getElem_cons_succ, Act.put, List.setIfInBounds_toArray, List.set_cons_zero, List.set_cons_succ])
      refine wpAnyH_done (by kernel_rfl) ?_ _
      refine NoPanic.normal ?_
      go_wp2
      go_ret
      exact ⟨ret_bool (by rw [HC.out]; rfl), hSn.be⟩
  · have hm' : (q.mo == 1) = false := by simpa using hm
    rw [decide_eq_false hm] at HC
    clear hm
    go_wp2_with fail
    refine wp_region_noPanic ?_
    refine wp_region_held_drew (S := fun W' => QAt w.heap.size q w W') (by kernel_rfl) (HQ.out.below (b_drew (Below.refl _ _))) (fun hS0 => ?_)
    refine wpAnyH_take (i := 0) (v := ?_) rfl (by kernel_rfl) (by kernel_rfl) (by kernel_rfl) (fun _ _ _ h => h) (Or.inl ⟨by kernel_rfl, fun W hW => ?_⟩) (by assumption) ?_
    rotate_left
    · go_simp
      try with_reducible rfl
    (try simp only [List.getElem_toArray, List.getElem_cons_zero, List.getElem_cons_succ, Act.put, List.setIfInBounds_toArray, List.set_cons_zero, List.set_cons_succ])
    refine wpAnyH_take (i := 1) (v := ?_) rfl (by kernel_rfl) (by kernel_rfl) (by kernel_rfl) (fun _ _ _ h => h) (Or.inl ⟨by kernel_rfl, fun W hW => ?_⟩) (by assumption) ?_
    rotate_left
    · have c38 : W.cell? ⟨w.heap.size, 38, none⟩ = some (.int .i64 q.mo) := by rw [Lib.cell_of_heap hW.hq]; rfl
      have c43 : W.cell? ⟨w.heap.size, 43, none⟩ = some (.bool false) := by rw [Lib.cell_of_heap hW.hq, ← HT.out]; rfl
      go_simp
      try with_reducible rfl
    (try simp only [List.getElem_toArray, List.getElem_cons_zero, List.getElem_cons_succ, Act.put, List.setIfInBounds_toArray, List.set_cons_zero, List.set_cons_succ])
    refine wpAnyH_take (i := 2) (v := ?_) rfl (by kernel_rfl) (by kernel_rfl) (by kernel_rfl) (fun _ _ _ h => h) (Or.inl ⟨by kernel_rfl, fun W hW => ?_⟩) (by assumption) ?_
    rotate_left
    · go_simp
      try with_reducible rfl
    (try simp only [List.getElem_toArray, List.getElem_cons_zero, List.getElem_cons_succ, Act.put, List.setIfInBounds_toArray, List.set_cons_zero, List.set_cons_succ])
    refine wpAnyH_take (i := 3) (v := ?_) rfl (by kernel_rfl) (by kernel_rfl) (by kernel_rfl) (fun _ _ _ h => h) (Or.inl ⟨by kernel_rfl, fun W hW => ?_⟩) (by assumption) ?_
    rotate_left
    · go_simp
      try with_reducible rfl
    (try simp only [List.getElem_toArray, List.getElem_cons_zero, List.getElem_cons_succ, Act.put, List.setIfInBounds_toArray, List.set_cons_zero, List.set_cons_succ])
    refine wpAnyH_take (i := 4) (v := ?_) rfl (by kernel_rfl) (by kernel_rfl) (by kernel_rfl) (fun _ _ _ h => h) (Or.inl ⟨by kernel_rfl, fun W hW => ?_⟩) (by assumption) ?_
    rotate_left
    · have c38 : W.cell? ⟨w.heap.size, 38, none⟩ = some (.int .i64 q.mo) := by rw [Lib.cell_of_heap hW.hq]; rfl
      have c43 : W.cell? ⟨w.heap.size, 43, none⟩ = some (.bool false) := by rw [Lib.cell_of_heap hW.hq, ← HT.out]; rfl
      go_simp
      try with_reducible rfl
    (try simp only [List.getElem_toArray, List.getElem_cons_zero, List.getElem_cons_succ, Act.put, List.setIfInBounds_toArray, List.set_cons_zero, List.set_cons_succ])
    refine wpAnyH_take (i := 5) (v := ?_) rfl (by kernel_rfl) (by kernel_rfl) (by kernel_rfl) (fun _ _ _ h => h) (Or.inl ⟨by kernel_rfl, fun W hW => ?_⟩) (by assumption) ?_
    rotate_left
    · go_simp
      try with_reducible rfl
    (try simp only [List.getElem_toArray, List.getElem_cons_zero, List.getElem_cons_succ, Act.put, List.setIfInBounds_toArray, List.set_cons_zero, List.set_cons_succ])
    refine wpAnyH_take (i := 6) (v := ?_) rfl (by kernel_rfl) (by kernel_rfl) (by kernel_rfl) (fun _ _ _ h => h) (Or.inl ⟨by kernel_rfl, fun W hW => ?_⟩) (by assumption) ?_
    rotate_left
    · go_simp
      try with_reducible rfl
    (try simp only [List.getElem_toArray, List.getElem_cons_zero, List.getElem_cons_succ, Act.put, List.setIfInBounds_toArray, List.set_cons_zero, List.set_cons_succ])
    refine wpAnyH_take (i := 7) (v := undef) rfl (by kernel_rfl) (by kernel_rfl) (by kernel_rfl) (fun _ _ _ h => h) (Or.inr ⟨by kernel_rfl, rfl⟩) (by assumption) ?_
    (try simp only [List.getElem_toArray, List.getElem_cons_zero, List.getElem_cons_succ, Act.put, List.setIfInBounds_toArray, List.set_cons_zero, List.set_cons_succ])
    refine wpAnyH_take (i := 8) (v := undef) rfl (by kernel_rfl) (by kernel_rfl) (by kernel_rfl) (fun _ _ _ h => h) (Or.inr ⟨by kernel_rfl, rfl⟩) (by assumption) ?_
    (try simp only [List.getElem_toArray, List.getElem_cons_zero, List.getElem_cons_succ, Act.put, List.setIfInBounds_toArray, List.set_cons_zero, List.set_cons_succ])
    refine wpAnyH_take (i := 9) (v := undef) rfl (by kernel_rfl) (by kernel_rfl) (by kernel_rfl) (fun _ _ _ h => h) (Or.inr ⟨by kernel_rfl, rfl⟩) (by assumption) ?_
    (try simp only [List.getElem_toArray, List.getElem_cons_zero, List.getElem_cons_succ, Act.put, List.setIfInBounds_toArray, List.set_cons_zero, List.set_cons_succ])
    refine wpAnyH_take (i := 10) (v := undef) rfl (by kernel_rfl) (by kernel_rfl) (by kernel_rfl) (fun _ _ _ h => h) (Or.inr ⟨by kernel_rfl, rfl⟩) (by assumption) ?_
    (try simp only [List.getElem_toArray, List.getElem_cons_zero, List.getElem_cons_succ, Act.put, List.setIfInBounds_toArray, List.set_cons_zero, List.set_cons_succ])
    refine wpAnyH_take (i := 11) (v := undef) rfl (by kernel_rfl) (by kernel_rfl) (by kernel_rfl) (fun _ _ _ h => h) (Or.inr ⟨by kernel_rfl, rfl⟩) (by assumption) ?_
    (try simp only [List.getElem_toArray, List.getElem_cons_zero, List.getElem_cons_succ, Act.put, List.setIfInBounds_toArray, List.set_cons_zero, List.set_cons_succ])
    refine wpAnyH_take (i := 12) (v := undef) rfl (by kernel_rfl) (by kernel_rfl) (by kernel_rfl) (fun _ _ _ h => h) (Or.inr ⟨by kernel_rfl, rfl⟩) (by assumption) ?_
    (try simp only [List.getElem_toArray, List.getElem_cons_zero, List.getElem_cons_succ, Act.put, List.setIfInBounds_toArray, List.set_cons_zero, List.set_cons_succ])
    refine wpAnyH_take (i := 13) (v := undef) rfl (by kernel_rfl) (by kernel_rfl) (by kernel_rfl) (fun _ _ _ h => h) (Or.inr ⟨by kernel_rfl, rfl⟩) (by assumption) ?_
    (try simp only [List.getElem_toArray, List.getElem_cons_zero, List.getElem_cons_succ, Act.put, List.setIfInBounds_toArray, List.set_cons_zero, List.set_cons_succ])
    refine wpAnyH_take (i := 14) (v := ?_) rfl (by kernel_rfl) (by kernel_rfl) (by kernel_rfl) (fun _ _ _ h => h) (Or.inl ⟨by kernel_rfl, fun W hW => ?_⟩) (by assumption) ?_
    rotate_left
    · go_simp
      try with_reducible rfl
    (try simp only [List.getElem_toArray, List.getElem_cons_zero, List.getElem_cons_succ, Act.put, List.setIfInBounds_toArray, List.set_cons_zero, List.set_cons_succ])
    refine wpAnyH_take (i := 15) (v := ?_) rfl (by kernel_rfl) (by kernel_rfl) (by kernel_rfl) (fun _ _ _ h => h) (Or.inl ⟨by kernel_rfl, fun W hW => ?_⟩) (by assumption) ?_
    rotate_left
    · go_simp
      try with_reducible rfl
    (try simp only [List.getElem_toArray, List.getElem_cons_zero, List.getElem_cons_succ, Act.put, List.setIfInBounds_toArray, List.set_cons_zero, List.set_cons_succ])
    refine wpAnyH_take (i := 16) (v := ?_) rfl (by kernel_rfl) (by kernel_rfl) (by kernel_rfl) (fun _ _ _ h => h) (Or.inl ⟨by kernel_rfl, fun W hW => ?_⟩) (by assumption) ?_
    rotate_left
    · go_simp
      try with_reducible rfl
    (try simp only [List.getElem_toArray, List.getElem_cons_zero, List.getElem_cons_succ, Act.put, List.setIfInBounds_toArray, List.set_cons_zero, List.set_cons_succ])
    refine wpAnyH_done (by kernel_rfl) ?_ _
    refine NoPanic.normal ?_
    go_wp2
    go_ret
    exact ⟨ret_bool (by rw [HC.out]; rfl), hS0.be⟩
set_option maxRecDepth 100000 in
set_option maxHeartbeats 4000000 in
theorem Taint_c (b : Bool) (o : OV) (u v : UV) (w : World) (ho : o.Ok) (hu : u.Ok w) (hv : v.Ok w) (hg : Gl w) : Calls Tryz.prog 49 #[.bool b, .agg o.cells, .agg u.cells, .agg v.cells] w fun e w' => e = .returned (.bool (PM.taintOf b o.pm u.pm v.pm)) ∧ Below w.heap.size w w' := by
  have HG := Lib.hid hg
  have OO := Lib.hid ho
  have Ru := Lib.hid hu
  have Rv := Lib.hid hv
  clear hg ho hu hv
  have HB : Hid (Below w.heap.size w (((w.alloc (.cells o.cells 30)).alloc (.cells u.cells 27)).alloc (.cells v.cells 27))) := Lib.hid (b_alloc (b_alloc (b_alloc (Below.refl _ _) _) _) _)
  have Ho : Hid ((((w.alloc (.cells o.cells 30)).alloc (.cells u.cells 27)).alloc (.cells v.cells 27)).heap[w.heap.size]? = some (.cells o.cells 30 (0, 0))) := Lib.hid (heap_b (b_alloc (b_alloc (Below.refl _ _) _) _) (by have h := Go.heap_alloc_new w (.cells o.cells 30); simpa using h))
  have Hu : Hid ((((w.alloc (.cells o.cells 30)).alloc (.cells u.cells 27)).alloc (.cells v.cells 27)).heap[w.heap.size + 1]? = some (.cells u.cells 27 (0, 0))) := Lib.hid (heap_b (b_alloc (Below.refl _ _) _) (by have h := Go.heap_alloc_new (w.alloc (.cells o.cells 30)) (.cells u.cells 27); simpa using h))
  have Hv : Hid ((((w.alloc (.cells o.cells 30)).alloc (.cells u.cells 27)).alloc (.cells v.cells 27)).heap[w.heap.size + 1 + 1]? = some (.cells v.cells 27 (0, 0))) := Lib.hid ((by have h := Go.heap_alloc_new ((w.alloc (.cells o.cells 30)).alloc (.cells u.cells 27)) (.cells v.cells 27); simpa using h))
  go_enter Tryz.func49, Tryz.ntmps49
  go_upto_region 1 with fail
  generalize ((w.alloc (.cells o.cells 30)).alloc (.cells u.cells 27)).alloc (.cells v.cells 27) = V0 at HB Ho Hu Hv ⊢
  generalize hbv : w.heap.size + 1 + 1 = bv at Hv ⊢
  have hlw_bv : w.heap.size ≤ bv := by omega
  generalize hbu : w.heap.size + 1 = bu at Hu ⊢
  have hlw_bu : w.heap.size ≤ bu := by omega
  have hne_u_o : w.heap.size < bu := by omega
  have hne_v_o : w.heap.size < bv := by omega
  have hne_v_u : bu < bv := by omega
  clear hbv hbu
  have ht : PM.taintOf b o.pm u.pm v.pm = (b || (!PM.both u.pm v.pm && !PM.originSame o.pm (ofOV u).pm)) := by rw [ofOV_pm]; rfl
  have HT := Lib.hid ht
  clear ht
  obtain ⟨D, hD⟩ : ∃ D, PM.both u.pm v.pm = D := ⟨_, rfl⟩
  obtain ⟨S, hS⟩ : ∃ S, PM.originSame o.pm (ofOV u).pm = S := ⟨_, rfl⟩
  rw [hD, hS] at HT
  have HD := Lib.hid hD
  have HS := Lib.hid hS
  clear hD hS
  cases b
  · cases D
    · cases S
      · skip
        go_wp2_with fail
        refine wp_region_noPanic ?_
        refine wp_region_held_drew (S := fun W' => TaS o u v bu bv w W') (by kernel_rfl) (TaS.below ⟨Ho.out, Hu.out, Hv.out, HB.out⟩ (b_drew (Below.refl _ _))) (fun hS0 => ?_)
        refine wpAnyH_take (i := 0) (v := ?_) rfl (by kernel_rfl) (by kernel_rfl) (by kernel_rfl) (fun _ _ _ h => h) (Or.inl ⟨by kernel_rfl, fun W hW => ?_⟩) (by assumption) ?_
        rotate_left
        · go_simp
          try with_reducible rfl
        (try simp only [List.getElem_toArray, List.getElem_cons_zero, List.getElem_cons_succ, Act.put, List.setIfInBounds_toArray, List.set_cons_zero, List.set_cons_succ])
        refine wpAnyH_take (i := 1) (v := ?_) rfl (by kernel_rfl) (by kernel_rfl) (by kernel_rfl) (fun _ _ _ h => h) (Or.inl ⟨by kernel_rfl, fun W hW => ?_⟩) (by assumption) ?_
        rotate_left
        · go_simp
          try with_reducible rfl
        (try simp only [List.getElem_toArray, List.getElem_cons_zero, List.getElem_cons_succ, Act.put, List.setIfInBounds_toArray, List.set_cons_zero, List.set_cons_succ])
        refine wpAnyH_take (i := 2) (v := ?_) rfl (by kernel_rfl) (by kernel_rfl) (by kernel_rfl) (fun _ _ _ h => h) (Or.inl ⟨by kernel_rfl, fun W hW => ?_⟩) (by assumption) ?_
        rotate_left
        · refine yield_row 27 (.tmp 6) ?_ bu ?_ hW.hu Tryz.underlying27 rfl (by kernel_rfl)
          · rfl
          · rfl
        (try simp only [List.getElem_toArray, List.getElem_cons_zero, List.getElem_cons_succ, Act.put, List.setIfInBounds_toArray, List.set_cons_zero, List.set_cons_succ])
        refine wpAnyH_take (i := 3) (v := ?_) rfl (by kernel_rfl) (by kernel_rfl) (by kernel_rfl) (fun _ _ _ h => h) (Or.inl ⟨by kernel_rfl, fun W hW => ?_⟩) (by assumption) ?_
        rotate_left
        · refine yield_row 27 (.tmp 7) ?_ bv ?_ hW.hv Tryz.underlying27 rfl (by kernel_rfl)
          · rfl
          · rfl
        (try simp only [List.getElem_toArray, List.getElem_cons_zero, List.getElem_cons_succ, Act.put, List.setIfInBounds_toArray, List.set_cons_zero, List.set_cons_succ])
        refine wpAnyH_ready (rs := [4]) (by kernel_rfl) (by simp) ?_
        refine AllReadyH.cons rfl (fun K hK => ?_) AllReadyH.nil
        go_simp
        refine (Both_c u v _ (Ru.out.below hS0.be) (Rv.out.below hS0.be) (HG.out.below hS0.be)).mono ?_
        rw [HD.out]
        rintro e U5 ⟨rfl, hb⟩
        have hSn := hS0.below hb
        clear hb hS0
        refine hK.out _ _ hSn (fun _ => ?_)
        clear hK K
        (try simp only [List.getElem_toArray, List.getElem_cons_zero, List.getElem_cons_succ, Act.put, List.setIfInBounds_toArray, List.set_cons_zero, List.set_cons_succ])
        refine wpAnyH_take (i := 5) (v := ?_) rfl (by kernel_rfl) (by kernel_rfl) (by kernel_rfl) (fun _ _ _ h => h) (Or.inl ⟨by kernel_rfl, fun W hW => ?_⟩) (by assumption) ?_
        rotate_left
        · go_simp
          try with_reducible rfl
        (try simp only [List.getElem_toArray, List.getElem_cons_zero, List.getElem_cons_succ, Act.put, List.setIfInBounds_toArray, List.set_cons_zero, List.set_cons_succ])
        refine wpAnyH_take (i := 6) (v := ?_) rfl (by kernel_rfl) (by kernel_rfl) (by kernel_rfl) (fun _ _ _ h => h) (Or.inl ⟨by kernel_rfl, fun W hW => ?_⟩) (by assumption) ?_
        rotate_left
        · go_simp
          try with_reducible rfl
        (try simp only [List.getElem_toArray, List.getElem_cons_zero, List.getElem_cons_succ, Act.put, List.setIfInBounds_toArray, List.set_cons_zero, List.set_cons_succ])
        refine wpAnyH_take (i := 7) (v := ?_) rfl (by kernel_rfl) (by kernel_rfl) (by kernel_rfl) (fun _ _ _ h => h) (Or.inl ⟨by kernel_rfl, fun W hW => ?_⟩) (by assumption) ?_
        rotate_left
        · refine yield_row 30 (.tmp 5) ?_ w.heap.size ?_ hW.ho Tryz.underlying30 rfl (by kernel_rfl)
          · rfl
          · rfl
        (try simp only [List.getElem_toArray, List.getElem_cons_zero, List.getElem_cons_succ, Act.put, List.setIfInBounds_toArray, List.set_cons_zero, List.set_cons_succ])
        refine wpAnyH_take (i := 8) (v := ?_) rfl (by kernel_rfl) (by kernel_rfl) (by kernel_rfl) (fun _ _ _ h => h) (Or.inl ⟨by kernel_rfl, fun W hW => ?_⟩) (by assumption) ?_
        rotate_left
        · refine yield_row 27 (.tmp 6) ?_ bu ?_ hW.hu Tryz.underlying27 rfl (by kernel_rfl)
          · rfl
          · rfl
        (try simp only [List.getElem_toArray, List.getElem_cons_zero, List.getElem_cons_succ, Act.put, List.setIfInBounds_toArray, List.set_cons_zero, List.set_cons_succ])
        refine wpAnyH_ready (rs := [9]) (by kernel_rfl) (by simp) ?_
        refine AllReadyH.cons rfl (fun K hK => ?_) AllReadyH.nil
        go_simp
        refine (Of_c u _ (Ru.out.below hSn.be) (HG.out.below hSn.be)).mono ?_
        rintro e U6 ⟨rfl, hb⟩
        replace hSn := hSn.below hb
        clear hb
        refine hK.out _ _ hSn (fun _ => ?_)
        clear hK K
        (try simp only [List.getElem_toArray, List.getElem_cons_zero, List.getElem_cons_succ, Act.put, List.setIfInBounds_toArray, List.set_cons_zero, List.set_cons_succ])
        refine wpAnyH_ready (rs := [10]) (by kernel_rfl) (by simp) ?_
        refine AllReadyH.cons rfl (fun K hK => ?_) AllReadyH.nil
        go_simp
        refine (Same_o_c o (ofOV u) _ OO.out (HG.out.below hSn.be)).mono ?_
        rw [HS.out]
        rintro e U7 ⟨rfl, hb⟩
        replace hSn := hSn.below hb
        clear hb
        refine hK.out _ _ hSn (fun _ => ?_)
        clear hK K
        (try simp only [List.getElem_toArray, List.getElem_cons_zero, List.getElem_cons_succ, Act.put, List.setIfInBounds_toArray, List.set_cons_zero, List.set_cons_succ])
        refine wpAnyH_take (i := 11) (v := ?_) rfl (by kernel_rfl) (by kernel_rfl) (by kernel_rfl) (fun _ _ _ h => h) (Or.inl ⟨by kernel_rfl, fun W hW => ?_⟩) (by assumption) ?_
        rotate_left
        · go_simp
          try with_reducible rfl
        (try simp only [List.getElem_toArray, List.getElem_cons_zero, List.getElem_cons_succ, Act.put, List.setIfInBounds_toArray, List.set_cons_zero, List.set_cons_succ])
        refine wpAnyH_take (i := 12) (v := ?_) rfl (by kernel_rfl) (by kernel_rfl) (by kernel_rfl) (fun _ _ _ h => h) (Or.inl ⟨by kernel_rfl, fun W hW => ?_⟩) (by assumption) ?_
        rotate_left
        · go_simp
          try with_reducible rfl
        (try simp only [List.getElem_toArray, List.getElem_cons_zero, List.getElem_cons_succ, Act.put, List.setIfInBounds_toArray, List.set_cons_zero, List.set_cons_succ])
        refine wpAnyH_take (i := 13) (v := ?_) rfl (by kernel_rfl) (by kernel_rfl) (by kernel_rfl) (fun _ _ _ h => h) (Or.inl ⟨by kernel_rfl, fun W hW => ?_⟩) (by assumption) ?_
        rotate_left
        · go_simp
          try with_reducible rfl
        (try simp only [List.getElem_toArray, List.getElem_cons_zero, List.getElem_cons_succ, Act.put, List.setIfInBounds_toArray, List.set_cons_zero, List.set_cons_succ])
        refine wpAnyH_take (i := 14) (v := ?_) rfl (by kernel_rfl) (by kernel_rfl) (by kernel_rfl) (fun _ _ _ h => h) (Or.inl ⟨by kernel_rfl, fun W hW => ?_⟩) (by assumption) ?_
        rotate_left
        · go_simp
          try with_reducible rfl
        (try simp only [List.getElem_toArray, List.getElem_cons_zero, List.getElem_cons_succ, Act.put, List.setIfInBounds_toArray, List.set_cons_zero, List.set_cons_succ])
        refine wpAnyH_done (by kernel_rfl) ?_ _
        refine NoPanic.normal ?_
        go_wp2
        go_ret
        exact ⟨ret_bool (by rw [HT.out]; rfl), hSn.be⟩
      · skip
        go_wp2_with fail
        refine wp_region_noPanic ?_
        refine wp_region_held_drew (S := fun W' => TaS o u v bu bv w W') (by kernel_rfl) (TaS.below ⟨Ho.out, Hu.out, Hv.out, HB.out⟩ (b_drew (Below.refl _ _))) (fun hS0 => ?_)
        refine wpAnyH_take (i := 0) (v := ?_) rfl (by kernel_rfl) (by kernel_rfl) (by kernel_rfl) (fun _ _ _ h => h) (Or.inl ⟨by kernel_rfl, fun W hW => ?_⟩) (by assumption) ?_
        rotate_left
        · go_simp
          try with_reducible rfl
        (try simp only [List.getElem_toArray, List.getElem_cons_zero, List.getElem_cons_succ, Act.put, List.setIfInBounds_toArray, List.set_cons_zero, List.set_cons_succ])
        refine wpAnyH_take (i := 1) (v := ?_) rfl (by kernel_rfl) (by kernel_rfl) (by kernel_rfl) (fun _ _ _ h => h) (Or.inl ⟨by kernel_rfl, fun W hW => ?_⟩) (by assumption) ?_
        rotate_left
        · go_simp
          try with_reducible rfl
        (try simp only [List.getElem_toArray, List.getElem_cons_zero, List.getElem_cons_succ, Act.put, List.setIfInBounds_toArray, List.set_cons_zero, List.set_cons_succ])
        refine wpAnyH_take (i := 2) (v := ?_) rfl (by kernel_rfl) (by kernel_rfl) (by kernel_rfl) (fun _ _ _ h => h) (Or.inl ⟨by kernel_rfl, fun W hW => ?_⟩) (by assumption) ?_
        rotate_left
        · refine yield_row 27 (.tmp 6) ?_ bu ?_ hW.hu Tryz.underlying27 rfl (by kernel_rfl)
          · rfl
          · rfl
        (try simp only [List.getElem_toArray, List.getElem_cons_zero, List.getElem_cons_succ, Act.put, List.setIfInBounds_toArray, List.set_cons_zero, List.set_cons_succ])
        refine wpAnyH_take (i := 3) (v := ?_) rfl (by kernel_rfl) (by kernel_rfl) (by kernel_rfl) (fun _ _ _ h => h) (Or.inl ⟨by kernel_rfl, fun W hW => ?_⟩) (by assumption) ?_
        rotate_left
        · refine yield_row 27 (.tmp 7) ?_ bv ?_ hW.hv Tryz.underlying27 rfl (by kernel_rfl)
          · rfl
          · rfl
        (try simp only [List.getElem_toArray, List.getElem_cons_zero, List.getElem_cons_succ, Act.put, List.setIfInBounds_toArray, List.set_cons_zero, List.set_cons_succ])
        refine wpAnyH_ready (rs := [4]) (by kernel_rfl) (by simp) ?_
        refine AllReadyH.cons rfl (fun K hK => ?_) AllReadyH.nil
        go_simp
        refine (Both_c u v _ (Ru.out.below hS0.be) (Rv.out.below hS0.be) (HG.out.below hS0.be)).mono ?_
        rw [HD.out]
        rintro e U8 ⟨rfl, hb⟩
        have hSn := hS0.below hb
        clear hb hS0
        refine hK.out _ _ hSn (fun _ => ?_)
        clear hK K
        (try simp only [List.getElem_toArray, List.getElem_cons_zero, List.getElem_cons_succ, Act.put, List.setIfInBounds_toArray, List.set_cons_zero, List.set_cons_succ])
        refine wpAnyH_take (i := 5) (v := ?_) rfl (by kernel_rfl) (by kernel_rfl) (by kernel_rfl) (fun _ _ _ h => h) (Or.inl ⟨by kernel_rfl, fun W hW => ?_⟩) (by assumption) ?_
        rotate_left
        · go_simp
          try with_reducible rfl
        (try simp only [List.getElem_toArray, List.getElem_cons_zero, List.getElem_cons_succ, Act.put, List.setIfInBounds_toArray, List.set_cons_zero, List.set_cons_succ])
        refine wpAnyH_take (i := 6) (v := ?_) rfl (by kernel_rfl) (by kernel_rfl) (by kernel_rfl) (fun _ _ _ h => h) (Or.inl ⟨by kernel_rfl, fun W hW => ?_⟩) (by assumption) ?_
        rotate_left
        · go_simp
          try with_reducible rfl
        (try simp only [List.getElem_toArray, List.getElem_cons_zero, List.getElem_cons_succ, Act.put, List.setIfInBounds_toArray, List.set_cons_zero, List.set_cons_succ])
        refine wpAnyH_take (i := 7) (v := ?_) rfl (by kernel_rfl) (by kernel_rfl) (by kernel_rfl) (fun _ _ _ h => h) (Or.inl ⟨by kernel_rfl, fun W hW => ?_⟩) (by assumption) ?_
        rotate_left
        · refine yield_row 30 (.tmp 5) ?_ w.heap.size ?_ hW.ho Tryz.underlying30 rfl (by kernel_rfl)
          · rfl
          · rfl
        (try simp only [List.getElem_toArray, List.getElem_cons_zero, List.getElem_cons_succ, Act.put, List.setIfInBounds_toArray, List.set_cons_zero, List.set_cons_succ])
        refine wpAnyH_take (i := 8) (v := ?_) rfl (by kernel_rfl) (by kernel_rfl) (by kernel_rfl) (fun _ _ _ h => h) (Or.inl ⟨by kernel_rfl, fun W hW => ?_⟩) (by assumption) ?_
        rotate_left
        · refine yield_row 27 (.tmp 6) ?_ bu ?_ hW.hu Tryz.underlying27 rfl (by kernel_rfl)
          · rfl
          · rfl
        (try simp only [List.getElem_toArray, List.getElem_cons_zero, List.getElem_cons_succ, Act.put, List.setIfInBounds_toArray, List.set_cons_zero, List.set_cons_succ])
        refine wpAnyH_ready (rs := [9]) (by kernel_rfl) (by simp) ?_
        refine AllReadyH.cons rfl (fun K hK => ?_) AllReadyH.nil
        go_simp
        refine (Of_c u _ (Ru.out.below hSn.be) (HG.out.below hSn.be)).mono ?_
        rintro e U9 ⟨rfl, hb⟩
        replace hSn := hSn.below hb
        clear hb
        refine hK.out _ _ hSn (fun _ => ?_)
        clear hK K
        (try simp only [List.getElem_toArray, List.getElem_cons_zero, List.getElem_cons_succ, Act.put, List.setIfInBounds_toArray, List.set_cons_zero, List.set_cons_succ])
        refine wpAnyH_ready (rs := [10]) (by kernel_rfl) (by simp) ?_
        refine AllReadyH.cons rfl (fun K hK => ?_) AllReadyH.nil
        go_simp
        refine (Same_o_c o (ofOV u) _ OO.out (HG.out.below hSn.be)).mono ?_
        rw [HS.out]
        rintro e U10 ⟨rfl, hb⟩
        replace hSn := hSn.below hb
        clear hb
        refine hK.out _ _ hSn (fun _ => ?_)
        clear hK K
        (try simp only [List.getElem_toArray, List.getElem_cons_zero, List.getElem_cons_succ, Act.put, List.setIfInBounds_toArray, List.set_cons_zero, List.set_cons_succ])
        refine wpAnyH_take (i := 11) (v := ?_) rfl (by kernel_rfl) (by kernel_rfl) (by kernel_rfl) (fun _ _ _ h => h) (Or.inl ⟨by kernel_rfl, fun W hW => ?_⟩) (by assumption) ?_
        rotate_left
        · go_simp
          try with_reducible rfl
        (try simp only [List.getElem_toArray, List.getElem_cons_zero, List.getElem_cons_succ, Act.put, List.setIfInBounds_toArray, List.set_cons_zero, List.set_cons_succ])
        refine wpAnyH_take (i := 12) (v := ?_) rfl (by kernel_rfl) (by kernel_rfl) (by kernel_rfl) (fun _ _ _ h => h) (Or.inl ⟨by kernel_rfl, fun W hW => ?_⟩) (by assumption) ?_
        rotate_left
        · go_simp
          try with_reducible rfl
        (try simp only [List.getElem_toArray, List.getElem_cons_zero, List.getElem_cons_succ, Act.put, List.setIfInBounds_toArray, List.set_cons_zero, List.set_cons_succ])
        refine wpAnyH_take (i := 13) (v := ?_) rfl (by kernel_rfl) (by kernel_rfl) (by kernel_rfl) (fun _ _ _ h => h) (Or.inl ⟨by kernel_rfl, fun W hW => ?_⟩) (by assumption) ?_
        rotate_left
        · go_simp
          try with_reducible rfl
        (try simp only [List.getElem_toArray, List.getElem_cons_zero, List.getElem_cons_succ, Act.put, List.setIfInBounds_toArray, List.set_cons_zero, List.set_cons_succ])
        refine wpAnyH_take (i := 14) (v := ?_) rfl (by kernel_rfl) (by kernel_rfl) (by kernel_rfl) (fun _ _ _ h => h) (Or.inl ⟨by kernel_rfl, fun W hW => ?_⟩) (by assumption) ?_
        rotate_left
        · go_simp
          try with_reducible rfl
        (try simp only [List.getElem_toArray, List.getElem_cons_zero, List.getElem_cons_succ, Act.put, List.setIfInBounds_toArray, List.set_cons_zero, List.set_cons_succ])
        refine wpAnyH_done (by kernel_rfl) ?_ _
        refine NoPanic.normal ?_
        go_wp2
        go_ret
        exact ⟨ret_bool (by rw [HT.out]; rfl), hSn.be⟩
    · skip
      go_wp2_with fail
      refine wp_region_noPanic ?_
      refine wp_region_held_drew (S := fun W' => TaS o u v bu bv w W') (by kernel_rfl) (TaS.below ⟨Ho.out, Hu.out, Hv.out, HB.out⟩ (b_drew (Below.refl _ _))) (fun hS0 => ?_)
      refine wpAnyH_take (i := 0) (v := ?_) rfl (by kernel_rfl) (by kernel_rfl) (by kernel_rfl) (fun _ _ _ h => h) (Or.inl ⟨by kernel_rfl, fun W hW => ?_⟩) (by assumption) ?_
      rotate_left
      · go_simp
        try with_reducible rfl
      (try simp only [List.getElem_toArray, List.getElem_cons_zero, List.getElem_cons_succ, Act.put, List.setIfInBounds_toArray, List.set_cons_zero, List.set_cons_succ])
      refine wpAnyH_take (i := 1) (v := ?_) rfl (by kernel_rfl) (by kernel_rfl) (by kernel_rfl) (fun _ _ _ h => h) (Or.inl ⟨by kernel_rfl, fun W hW => ?_⟩) (by assumption) ?_
      rotate_left
      · go_simp
        try with_reducible rfl
      (try simp only [List.getElem_toArray, List.getElem_cons_zero, List.getElem_cons_succ, Act.put, List.setIfInBounds_toArray, List.set_cons_zero, List.set_cons_succ])
      refine wpAnyH_take (i := 2) (v := ?_) rfl (by kernel_rfl) (by kernel_rfl) (by kernel_rfl) (fun _ _ _ h => h) (Or.inl ⟨by kernel_rfl, fun W hW => ?_⟩) (by assumption) ?_
      rotate_left
      · refine yield_row 27 (.tmp 6) ?_ bu ?_ hW.hu Tryz.underlying27 rfl (by kernel_rfl)
        · rfl
        · rfl
      (try simp only [List.getElem_toArray, List.getElem_cons_zero, List.getElem_cons_succ, Act.put, List.setIfInBounds_toArray, List.set_cons_zero, List.set_cons_succ])
      refine wpAnyH_take (i := 3) (v := ?_) rfl (by kernel_rfl) (by kernel_rfl) (by kernel_rfl) (fun _ _ _ h => h) (Or.inl ⟨by kernel_rfl, fun W hW => ?_⟩) (by assumption) ?_
      rotate_left
      · refine yield_row 27 (.tmp 7) ?_ bv ?_ hW.hv Tryz.underlying27 rfl (by kernel_rfl)
        · rfl
        · rfl
      (try simp only [List.getElem_toArray, List.getElem_cons_zero, List.getElem_cons_succ, Act.put, List.setIfInBounds_toArray, List.set_cons_zero, List.set_cons_succ])
      refine wpAnyH_ready (rs := [4]) (by kernel_rfl) (by simp) ?_
      refine AllReadyH.cons rfl (fun K hK => ?_) AllReadyH.nil
      go_simp
      refine (Both_c u v _ (Ru.out.below hS0.be) (Rv.out.below hS0.be) (HG.out.below hS0.be)).mono ?_
      rw [HD.out]
      rintro e U11 ⟨rfl, hb⟩
      have hSn := hS0.below hb
      clear hb hS0
      refine hK.out _ _ hSn (fun _ => ?_)
      clear hK K
      (try simp only [List.getElem_toArray, List.getElem_cons_zero, List.getElem_cons_succ, Act.put, List.setIfInBounds_toArray, List.set_cons_zero, List.set_cons_succ])
      refine wpAnyH_take (i := 5) (v := ?_) rfl (by kernel_rfl) (by kernel_rfl) (by kernel_rfl) (fun _ _ _ h => h) (Or.inl ⟨by kernel_rfl, fun W hW => ?_⟩) (by assumption) ?_
      rotate_left
      · go_simp
        try with_reducible rfl
      (try simp only [List.getElem_toArray, List.getElem_cons_zero, List.getElem_cons_succ, Act.put, List.setIfInBounds_toArray, List.set_cons_zero, List.set_cons_succ])
      refine wpAnyH_take (i := 6) (v := ?_) rfl (by kernel_rfl) (by kernel_rfl) (by kernel_rfl) (fun _ _ _ h => h) (Or.inl ⟨by kernel_rfl, fun W hW => ?_⟩) (by assumption) ?_
      rotate_left
      · go_simp
        try with_reducible rfl
      (try simp only [List.getElem_toArray, List.getElem_cons_zero, List.getElem_cons_succ, Act.put, List.setIfInBounds_toArray, List.set_cons_zero, List.set_cons_succ])
      refine wpAnyH_take (i := 7) (v := undef) rfl (by kernel_rfl) (by kernel_rfl) (by kernel_rfl) (fun _ _ _ h => h) (Or.inr ⟨by kernel_rfl, rfl⟩) (by assumption) ?_
      (try simp only [List.getElem_toArray, List.getElem_cons_zero, List.getElem_cons_succ, Act.put, List.setIfInBounds_toArray, List.set_cons_zero, List.set_cons_succ])
      refine wpAnyH_take (i := 8) (v := undef) rfl (by kernel_rfl) (by kernel_rfl) (by kernel_rfl) (fun _ _ _ h => h) (Or.inr ⟨by kernel_rfl, rfl⟩) (by assumption) ?_
      (try simp only [List.getElem_toArray, List.getElem_cons_zero, List.getElem_cons_succ, Act.put, List.setIfInBounds_toArray, List.set_cons_zero, List.set_cons_succ])
      refine wpAnyH_take (i := 9) (v := undef) rfl (by kernel_rfl) (by kernel_rfl) (by kernel_rfl) (fun _ _ _ h => h) (Or.inr ⟨by kernel_rfl, rfl⟩) (by assumption) ?_
      (try simp only [List.getElem_toArray, List.getElem_cons_zero, List.getElem_cons_succ, Act.put, List.setIfInBounds_toArray, List.set_cons_zero, List.set_cons_succ])
      refine wpAnyH_take (i := 10) (v := undef) rfl (by kernel_rfl) (by kernel_rfl) (by kernel_rfl) (fun _ _ _ h => h) (Or.inr ⟨by kernel_rfl, rfl⟩) (by assumption) ?_
      (try simp only [List.getElem_toArray, List.getElem_cons_zero, List.getElem_cons_succ, Act.put, List.setIfInBounds_toArray, List.set_cons_zero, List.set_cons_succ])
      refine wpAnyH_take (i := 11) (v := undef) rfl (by kernel_rfl) (by kernel_rfl) (by kernel_rfl) (fun _ _ _ h => h) (Or.inr ⟨by kernel_rfl, rfl⟩) (by assumption) ?_
      (try simp only [List.getElem_toArray, List.getElem_cons_zero, List.getElem_cons_succ, Act.put, List.setIfInBounds_toArray, List.set_cons_zero, List.set_cons_succ])
      refine wpAnyH_take (i := 12) (v := ?_) rfl (by kernel_rfl) (by kernel_rfl) (by kernel_rfl) (fun _ _ _ h => h) (Or.inl ⟨by kernel_rfl, fun W hW => ?_⟩) (by assumption) ?_
      rotate_left
      · go_simp
        try with_reducible rfl
      (try simp only [List.getElem_toArray, List.getElem_cons_zero, List.getElem_cons_succ, Act.put, List.setIfInBounds_toArray, List.set_cons_zero, List.set_cons_succ])
      refine wpAnyH_take (i := 13) (v := ?_) rfl (by kernel_rfl) (by kernel_rfl) (by kernel_rfl) (fun _ _ _ h => h) (Or.inl ⟨by kernel_rfl, fun W hW => ?_⟩) (by assumption) ?_
      rotate_left
      · go_simp
        try with_reducible rfl
      (try simp only [List.getElem_toArray, List.getElem_cons_zero, List.getElem_cons_succ, Act.put, List.setIfInBounds_toArray, List.set_cons_zero, List.set_cons_succ])
      refine wpAnyH_take (i := 14) (v := ?_) rfl (by kernel_rfl) (by kernel_rfl) (by kernel_rfl) (fun _ _ _ h => h) (Or.inl ⟨by kernel_rfl, fun W hW => ?_⟩) (by assumption) ?_
      rotate_left
      · go_simp
        try with_reducible rfl
      (try simp only [List.getElem_toArray, List.getElem_cons_zero, List.getElem_cons_succ, Act.put, List.setIfInBounds_toArray, List.set_cons_zero, List.set_cons_succ])
      refine wpAnyH_done (by kernel_rfl) ?_ _
      refine NoPanic.normal ?_
      go_wp2
      go_ret
      exact ⟨ret_bool (by rw [HT.out]; rfl), hSn.be⟩
  · skip
    go_wp2_with fail
    refine wp_region_noPanic ?_
    refine wp_region_held_drew (S := fun W' => TaS o u v bu bv w W') (by kernel_rfl) (TaS.below ⟨Ho.out, Hu.out, Hv.out, HB.out⟩ (b_drew (Below.refl _ _))) (fun hS0 => ?_)
    refine wpAnyH_take (i := 0) (v := ?_) rfl (by kernel_rfl) (by kernel_rfl) (by kernel_rfl) (fun _ _ _ h => h) (Or.inl ⟨by kernel_rfl, fun W hW => ?_⟩) (by assumption) ?_
    rotate_left
    · go_simp
      try with_reducible rfl
    (try simp only [List.getElem_toArray, List.getElem_cons_zero, List.getElem_cons_succ, Act.put, List.setIfInBounds_toArray, List.set_cons_zero, List.set_cons_succ])
    refine wpAnyH_take (i := 1) (v := ?_) rfl (by kernel_rfl) (by kernel_rfl) (by kernel_rfl) (fun _ _ _ h => h) (Or.inl ⟨by kernel_rfl, fun W hW => ?_⟩) (by assumption) ?_
    rotate_left
    · go_simp
      try with_reducible rfl
    (try simp only [List.getElem_toArray, List.getElem_cons_zero, List.getElem_cons_succ, Act.put, List.setIfInBounds_toArray, List.set_cons_zero, List.set_cons_succ])
    refine wpAnyH_take (i := 2) (v := undef) rfl (by kernel_rfl) (by kernel_rfl) (by kernel_rfl) (fun _ _ _ h => h) (Or.inr ⟨by kernel_rfl, rfl⟩) (by assumption) ?_
    (try simp only [List.getElem_toArray, List.getElem_cons_zero, List.getElem_cons_succ, Act.put, List.setIfInBounds_toArray, List.set_cons_zero, List.set_cons_succ])
    refine wpAnyH_take (i := 3) (v := undef) rfl (by kernel_rfl) (by kernel_rfl) (by kernel_rfl) (fun _ _ _ h => h) (Or.inr ⟨by kernel_rfl, rfl⟩) (by assumption) ?_
    (try simp only [List.getElem_toArray, List.getElem_cons_zero, List.getElem_cons_succ, Act.put, List.setIfInBounds_toArray, List.set_cons_zero, List.set_cons_succ])
    refine wpAnyH_take (i := 4) (v := undef) rfl (by kernel_rfl) (by kernel_rfl) (by kernel_rfl) (fun _ _ _ h => h) (Or.inr ⟨by kernel_rfl, rfl⟩) (by assumption) ?_
    (try simp only [List.getElem_toArray, List.getElem_cons_zero, List.getElem_cons_succ, Act.put, List.setIfInBounds_toArray, List.set_cons_zero, List.set_cons_succ])
    refine wpAnyH_take (i := 5) (v := undef) rfl (by kernel_rfl) (by kernel_rfl) (by kernel_rfl) (fun _ _ _ h => h) (Or.inr ⟨by kernel_rfl, rfl⟩) (by assumption) ?_
    (try simp only [List.getElem_toArray, List.getElem_cons_zero, List.getElem_cons_succ, Act.put, List.setIfInBounds_toArray, List.set_cons_zero, List.set_cons_succ])
    refine wpAnyH_take (i := 6) (v := undef) rfl (by kernel_rfl) (by kernel_rfl) (by kernel_rfl) (fun _ _ _ h => h) (Or.inr ⟨by kernel_rfl, rfl⟩) (by assumption) ?_
    (try simp only [List.getElem_toArray, List.getElem_cons_zero, List.getElem_cons_succ, Act.put, List.setIfInBounds_toArray, List.set_cons_zero, List.set_cons_succ])
    refine wpAnyH_take (i := 7) (v := undef) rfl (by kernel_rfl) (by kernel_rfl) (by kernel_rfl) (fun _ _ _ h => h) (Or.inr ⟨by kernel_rfl, rfl⟩) (by assumption) ?_
    (try simp only [List.getElem_toArray, List.getElem_cons_zero, List.getElem_cons_succ, Act.put, List.setIfInBounds_toArray, List.set_cons_zero, List.set_cons_succ])
    refine wpAnyH_take (i := 8) (v := undef) rfl (by kernel_rfl) (by kernel_rfl) (by kernel_rfl) (fun _ _ _ h => h) (Or.inr ⟨by kernel_rfl, rfl⟩) (by assumption) ?_
    (try simp only [List.getElem_toArray, List.getElem_cons_zero, List.getElem_cons_succ, Act.put, List.setIfInBounds_toArray, List.set_cons_zero, List.set_cons_succ])
    refine wpAnyH_take (i := 9) (v := undef) rfl (by kernel_rfl) (by kernel_rfl) (by kernel_rfl) (fun _ _ _ h => h) (Or.inr ⟨by kernel_rfl, rfl⟩) (by assumption) ?_
    (try simp only [List.getElem_toArray, List.getElem_cons_zero, List.getElem_cons_succ, Act.put, List.setIfInBounds_toArray, List.set_cons_zero, List.set_cons_succ])
    refine wpAnyH_take (i := 10) (v := undef) rfl (by kernel_rfl) (by kernel_rfl) (by kernel_rfl) (fun _ _ _ h => h) (Or.inr ⟨by kernel_rfl, rfl⟩) (by assumption) ?_
    (try simp only [List.getElem_toArray, List.getElem_cons_zero, List.getElem_cons_succ, Act.put, List.setIfInBounds_toArray, List.set_cons_zero, List.set_cons_succ])
    refine wpAnyH_take (i := 11) (v := undef) rfl (by kernel_rfl) (by kernel_rfl) (by kernel_rfl) (fun _ _ _ h => h) (Or.inr ⟨by kernel_rfl, rfl⟩) (by assumption) ?_
    (try simp only [List.getElem_toArray, List.getElem_cons_zero, List.getElem_cons_succ, Act.put, List.setIfInBounds_toArray, List.set_cons_zero, List.set_cons_succ])
    refine wpAnyH_take (i := 12) (v := undef) rfl (by kernel_rfl) (by kernel_rfl) (by kernel_rfl) (fun _ _ _ h => h) (Or.inr ⟨by kernel_rfl, rfl⟩) (by assumption) ?_
    (try simp only [List.getElem_toArray, List.getElem_cons_zero, List.getElem_cons_succ, Act.put, List.setIfInBounds_toArray, List.set_cons_zero, List.set_cons_succ])
    refine wpAnyH_take (i := 13) (v := ?_) rfl (by kernel_rfl) (by kernel_rfl) (by kernel_rfl) (fun _ _ _ h => h) (Or.inl ⟨by kernel_rfl, fun W hW => ?_⟩) (by assumption) ?_
    rotate_left
    · go_simp
      try with_reducible rfl
    (try simp only [List.getElem_toArray, List.getElem_cons_zero, List.getElem_cons_succ, Act.put, List.setIfInBounds_toArray, List.set_cons_zero, List.set_cons_succ])
    refine wpAnyH_take (i := 14) (v := ?_) rfl (by kernel_rfl) (by kernel_rfl) (by kernel_rfl) (fun _ _ _ h => h) (Or.inl ⟨by kernel_rfl, fun W hW => ?_⟩) (by assumption) ?_
    rotate_left
    · go_simp
      try with_reducible rfl
    (try simp only [List.getElem_toArray, List.getElem_cons_zero, List.getElem_cons_succ, Act.put, List.setIfInBounds_toArray, List.set_cons_zero, List.set_cons_succ])
    refine wpAnyH_done (by kernel_rfl) ?_ _
    refine NoPanic.normal ?_
    go_wp2
    go_ret
    exact ⟨ret_bool (by rw [HT.out]; rfl), hS0.be⟩
end Go.Proofs.YtppbkblnjlbnfaaGreatDoor
/-! Contracts: taint.Creds, FewReq. -/
namespace Go.Proofs.YtppbkblnjlbnfaaGreatDoor
open Go.RowKit
theorem Creds_c (u : UV) (w : World) (h1 : u.us.length ≤ 1000000) (h2 : u.pa.length ≤ 1000000) : Calls Tryz.prog 29 #[.agg u.cells] w fun e w' => e = .returned (.bool (PM.creds u.pm)) ∧ Below w.heap.size w w' := by
  have Hu : Hid ((w.alloc (.cells u.cells 27)).heap[w.heap.size]? = some (.cells u.cells 27 (0, 0))) := Lib.hid (Go.heap_alloc_new _ _)
  have HB : Hid (Below w.heap.size w (w.alloc (.cells u.cells 27))) := Lib.hid (b_alloc (Below.refl _ _) _)
  have hc : PM.creds u.pm = !(u.us ++ u.pa).isEmpty := rfl
  have HC := Lib.hid hc
  have hl : ¬ 9223372036854775807 < u.us.length + u.pa.length := by omega
  clear hc h1 h2
  go_enter Tryz.func29, Tryz.ntmps29
  go_upto_region 1 with fail
  generalize w.alloc (.cells u.cells 27) = V0 at Hu HB ⊢
  obtain ⟨c0, c1, c2, c3, c4, c5, c6, c7, c8, c9, c10, c11, c12, c13, c14, c15, c16, c17, c18, c19, c20⟩ := UrlAt.of_heap Hu.out
  have hne : ((u.us ++ u.pa) != []) = !(u.us ++ u.pa).isEmpty := by cases (u.us ++ u.pa) <;> rfl
  go_wp2
  go_ret
  refine ⟨ret_bool ?_, HB.out⟩
  rw [HC.out]
def qfew (q : QV) : Bool := PM.few q.u.pm && (decide (q.me.length ≤ 300) && (decide (q.o.sc.length ≤ 300) && (decide (q.o.n.length ≤ 300) && decide (q.rf.length ≤ 5000))))
theorem qfew_ok {q : QV} {w : World} (hr : RdW w q.u.a q.u.pn q.u.xs) (h : qfew q = true) : q.Ok w ∧ q.rf.length ≤ 5000 := by
  unfold qfew at h
  simp only [Bool.and_eq_true, decide_eq_true_eq] at h
  obtain ⟨h1, h2, h3, h4, h5⟩ := h
  exact ⟨⟨few_ok hr h1, ⟨by omega, by omega⟩, by omega⟩, h5⟩
set_option maxRecDepth 100000 in
set_option maxHeartbeats 4000000 in
theorem FewReq_c (q : QV) (w : World) (hr : RdW w q.u.a q.u.pn q.u.xs) : Calls Tryz.prog 46 #[.agg q.cells] w fun e w' => e = .returned (.bool (qfew q)) ∧ Below w.heap.size w w' := by
  have Hq : Hid ((w.alloc (.cells q.cells 32)).heap[w.heap.size]? = some (.cells q.cells 32 (0, 0))) := Lib.hid (Go.heap_alloc_new _ _)
  have HB : Hid (Below w.heap.size w (w.alloc (.cells q.cells 32))) := Lib.hid (b_alloc (Below.refl _ _) _)
  have hf : qfew q = (PM.few q.u.pm && (decide (q.me.length ≤ 300) && (decide (q.o.sc.length ≤ 300) && (decide (q.o.n.length ≤ 300) && decide (q.rf.length ≤ 5000))))) := rfl
  have HF := Lib.hid hf
  have R := Lib.hid hr
  clear hf hr
  go_enter Tryz.func46, Tryz.ntmps46
  go_upto_region 1 with fail
  generalize w.alloc (.cells q.cells 32) = V0 at Hq HB ⊢
  go_wp2_with (first | go_skip | (refine wpList_load_mg 27 _ rfl (by kernel_rfl) w.heap.size 0 rfl q.u.cells (q_url Hq.out) Tryz.underlying27 rfl (by kernel_rfl) ?_))
  refine (Few_c q.u _ (R.out.below HB.out)).mono ?_
  rintro e V1 ⟨rfl, hb⟩
  replace HB := Lib.hid (b_then HB.out hb)
  replace Hq := Lib.hid (obj_b hb Hq.out)
  clear hb
  have c21 : V1.cell? ⟨w.heap.size, 21, none⟩ = some (.string (mkS q.me)) := by rw [Lib.cell_of_heap Hq.out]; rfl
  have c25 : V1.cell? ⟨w.heap.size, 25, none⟩ = some (.string (mkS q.o.sc)) := by rw [Lib.cell_of_heap Hq.out]; rfl
  have c27 : V1.cell? ⟨w.heap.size, 27, none⟩ = some (.string (mkS q.o.n)) := by rw [Lib.cell_of_heap Hq.out]; rfl
  have c41 : V1.cell? ⟨w.heap.size, 41, none⟩ = some (.string (mkS q.rf)) := by rw [Lib.cell_of_heap Hq.out]; rfl
  cases hfw : PM.few q.u.pm
  · have HW := Lib.hid hfw
    clear hfw
    go_wp2
    go_ret
    exact ⟨ret_bool (by rw [HF.out, HW.out]; rfl), HB.out⟩
  have HW := Lib.hid hfw
  clear hfw
  by_cases h0 : q.me.length ≤ 300
  rotate_left
  · have K0 := Lib.hid (show decide (q.me.length ≤ 300) = false from decide_eq_false h0)
    have l0 : ¬ (q.me.length : Int) ≤ 300 := by omega
    have L3 := Lib.hid (show decide ((q.me.length : Int) ≤ 300) = false from decide_eq_false l0)
    clear h0
    go_wp2
    go_ret
    exact ⟨ret_bool (by rw [HF.out, HW.out, K0.out]; first | rfl | (rw [L3.out]; rfl)), HB.out⟩
  have K0 := Lib.hid (show decide (q.me.length ≤ 300) = true from decide_eq_true h0)
  have l0 : (q.me.length : Int) ≤ 300 := by omega
  have L3 := Lib.hid (show decide ((q.me.length : Int) ≤ 300) = true from decide_eq_true l0)
  clear h0
  by_cases h1 : q.o.sc.length ≤ 300
  rotate_left
  · have K1 := Lib.hid (show decide (q.o.sc.length ≤ 300) = false from decide_eq_false h1)
    have l1 : ¬ (q.o.sc.length : Int) ≤ 300 := by omega
    have L3 := Lib.hid (show decide ((q.o.sc.length : Int) ≤ 300) = false from decide_eq_false l1)
    clear h1
    go_wp2
    go_ret
    exact ⟨ret_bool (by rw [HF.out, HW.out, K0.out, K1.out]; first | rfl | (rw [L3.out]; rfl)), HB.out⟩
  have K1 := Lib.hid (show decide (q.o.sc.length ≤ 300) = true from decide_eq_true h1)
  have l1 : (q.o.sc.length : Int) ≤ 300 := by omega
  have L3 := Lib.hid (show decide ((q.o.sc.length : Int) ≤ 300) = true from decide_eq_true l1)
  clear h1
  by_cases h2 : q.o.n.length ≤ 300
  rotate_left
  · have K2 := Lib.hid (show decide (q.o.n.length ≤ 300) = false from decide_eq_false h2)
    have l2 : ¬ (q.o.n.length : Int) ≤ 300 := by omega
    have L3 := Lib.hid (show decide ((q.o.n.length : Int) ≤ 300) = false from decide_eq_false l2)
    clear h2
    go_wp2
    go_ret
    exact ⟨ret_bool (by rw [HF.out, HW.out, K0.out, K1.out, K2.out]; first | rfl | (rw [L3.out]; rfl)), HB.out⟩
  have K2 := Lib.hid (show decide (q.o.n.length ≤ 300) = true from decide_eq_true h2)
  have l2 : (q.o.n.length : Int) ≤ 300 := by omega
  have L3 := Lib.hid (show decide ((q.o.n.length : Int) ≤ 300) = true from decide_eq_true l2)
  clear h2
  by_cases h3 : q.rf.length ≤ 5000
  rotate_left
  · have K3 := Lib.hid (show decide (q.rf.length ≤ 5000) = false from decide_eq_false h3)
    have l3 : ¬ (q.rf.length : Int) ≤ 5000 := by omega
    have L3 := Lib.hid (show decide ((q.rf.length : Int) ≤ 5000) = false from decide_eq_false l3)
    clear h3
    go_wp2
    go_ret
    exact ⟨ret_bool (by rw [HF.out, HW.out, K0.out, K1.out, K2.out, K3.out]; first | rfl | (rw [L3.out]; rfl)), HB.out⟩
  have K3 := Lib.hid (show decide (q.rf.length ≤ 5000) = true from decide_eq_true h3)
  have l3 : (q.rf.length : Int) ≤ 5000 := by omega
  have L3 := Lib.hid (show decide ((q.rf.length : Int) ≤ 5000) = true from decide_eq_true l3)
  clear h3
  go_wp2
  go_ret
  exact ⟨ret_bool (by rw [HF.out, HW.out, K0.out, K1.out, K2.out, K3.out]; first | rfl | (rw [L3.out]; rfl)), HB.out⟩
def zreq : Array Value := #[.string ⟨#[]⟩, .string ⟨#[]⟩, .string ⟨#[]⟩, .int .i64 0, .string ⟨#[]⟩, .int .i64 0, .int .i64 0, .int .i64 0, .int .i64 0, .int .i64 0, .int .i64 0, .int .i64 0, .int .i64 0, .int .i64 0, .int .i64 0, .slice none 0 0, .string ⟨#[]⟩, .string ⟨#[]⟩, .string ⟨#[]⟩, .bool false, .bool false, .string ⟨#[]⟩, .slice none 0 0, .bool false, .bool false, .string ⟨#[]⟩, .int .i64 0, .string ⟨#[]⟩, .int .i64 0, .int .i64 0, .int .i64 0, .int .i64 0, .int .i64 0, .int .i64 0, .int .i64 0, .int .i64 0, .int .i64 0, .int .i64 0, .int .i64 0, .int .i64 0, .int .i64 0, .string ⟨#[]⟩, .bool false, .bool false, .int .i64 0]
end Go.Proofs.YtppbkblnjlbnfaaGreatDoor
/-! Lists of fields that grow. -/
namespace Go.Proofs.YtppbkblnjlbnfaaGreatDoor
open Go.RowKit
def flds (xs : List (List UInt8 × List UInt8)) : List Value := xs.flatMap fun f => [.string (mkS f.1), .string (mkS f.2)]
theorem flds_nil : flds [] = [] := rfl
theorem flds_cons (x : List UInt8 × List UInt8) (r : List (List UInt8 × List UInt8)) : flds (x :: r) = .string (mkS x.1) :: .string (mkS x.2) :: flds r := rfl
theorem flds_app (xs ys : List (List UInt8 × List UInt8)) : flds (xs ++ ys) = flds xs ++ flds ys := by simp [flds]
theorem flds_len (xs : List (List UInt8 × List UInt8)) : (flds xs).length = xs.length * 2 := by
  induction xs with
  | nil => rfl
  | cons x r ih => rw [flds_cons, List.length_cons, List.length_cons, List.length_cons, ih]; omega
theorem flds_one (xs : List (List UInt8 × List UInt8)) : ∀ u ∈ flds xs, u.oneCell' = true := by
  intro u hu
  obtain ⟨f, _, hf⟩ := List.mem_flatMap.1 hu
  simp at hf
  rcases hf with rfl | rfl <;> rfl
theorem flds_at (xs : List (List UInt8 × List UInt8)) : ∀ (j : Nat) (h : j < xs.length), (flds xs)[j * 2]? = some (.string (mkS (xs[j]'h).1)) ∧ (flds xs)[j * 2 + 1]? = some (.string (mkS (xs[j]'h).2)) := by
  induction xs with
  | nil => intro j h; simp at h
  | cons x r ih =>
    intro j h
    rw [flds_cons]
    cases j with
    | zero => exact ⟨rfl, rfl⟩
    | succ j =>
      have := ih j (by simpa using h)
      rw [show (j + 1) * 2 = j * 2 + 1 + 1 by omega, List.getElem?_cons_succ, List.getElem?_cons_succ, List.getElem?_cons_succ, List.getElem?_cons_succ]
      simpa using this
theorem infoField : (Tryz.prog.info? 50).map (fun i => (i.zero, i.size, i.bytes)) = some (some (.agg #[.string ⟨#[]⟩, .string ⟨#[]⟩]), 2, 32) := by kernel_rfl
theorem RdFW.news {w : World} {b o n : Nat} {xs : List (List UInt8 × List UInt8)} (h : ∀ j (hj : j < xs.length), w.cell? ⟨b, o + j * 2, none⟩ = some (.string (mkS (xs[j]'hj).1)) ∧ w.cell? ⟨b, o + (j * 2 + 1), none⟩ = some (.string (mkS (xs[j]'hj).2))) :
    ∀ j u, (flds xs)[j]? = some u → w.cell? ((⟨b, o, none⟩ : Addr).add j) = some u := by
  intro j u hj
  have hlt : j < xs.length * 2 := by rw [← flds_len]; exact (List.getElem?_eq_some_iff.1 hj).1
  have e : (⟨b, o, none⟩ : Addr).add j = ⟨b, o + j, none⟩ := by unfold Addr.add; split <;> simp_all
  rw [e]
  have hd : j / 2 < xs.length := by omega
  obtain ⟨h1, h2⟩ := flds_at xs (j / 2) hd
  obtain ⟨g1, g2⟩ := h (j / 2) hd
  rcases Nat.mod_two_eq_zero_or_one j with hm | hm
  · have ej : j = j / 2 * 2 := by omega
    rw [← ej] at h1 g1
    rw [hj] at h1
    cases h1
    exact g1
  · have ej : j = j / 2 * 2 + 1 := by omega
    rw [← ej] at h2 g2
    rw [hj] at h2
    cases h2
    exact g2
theorem own_rdF {W : World} {B : Nat} {v : Value} {n : Nat} {xs : List (List UInt8 × List UInt8)} (h : W.ownsRow B 50 2 v n (flds xs)) (hn : xs.length = n) : ∃ a c, v = .slice a n c ∧ RdFW W a n xs ∧ n ≤ c ∧ ∀ g o, a = some ⟨g, o, none⟩ → B ≤ g := by
  rcases h.2 with ⟨rfl, rfl⟩ | ⟨g, cap, cur, rfl, hg, hb, h1, h2, h3, h4⟩
  · exact ⟨none, 0, rfl, ⟨hn, .inl (List.eq_nil_of_length_eq_zero hn)⟩, Nat.le_refl _, fun g o e => by cases e⟩
  · refine ⟨some ⟨g, 0, none⟩, cap, rfl, ⟨hn, .inr ⟨g, 0, rfl, (Array.getElem?_eq_some_iff.1 hb).1, fun j hj => ?_⟩⟩, h1, fun g' o' e => by cases e; exact hg⟩
    obtain ⟨e1, e2⟩ := flds_at xs j hj
    have key : ∀ k u, (flds xs)[k]? = some u → W.cell? ⟨g, k, none⟩ = some u := fun k u hk => by
      rw [Lib.cell_of_heap hb]
      rw [← h4, List.getElem?_take] at hk
      split at hk
      · simpa using hk
      · cases hk
    rw [Nat.zero_add, Nat.zero_add]
    exact ⟨key _ _ e1, key _ _ e2⟩
/-- append(nil, l). -/
theorem appN (B : Nat) (a : Option Addr) (n c : Nat) (l : List (List UInt8 × List UInt8)) (W : World) (ty : TypeId) (h : RdFW W a n l) (hn : n ≤ 1000000) (hB : B ≤ W.heap.size) :
    ∃ v W', (Builtin.append_ #[28, 28] ty #[.slice none 0 0, .slice a n c]).run Tryz.prog W = .ok v W' ∧ W'.ownsRow B 50 2 v n (flds l) ∧ Below W.heap.size W W' ∧ (∀ k, v.ownBlock = some k → k = W.heap.size) := by
  obtain ⟨i0, hi, hz0, hz1, hz2⟩ := info_parts infoField
  have hlen := h.len
  subst hlen
  rcases h.at_ with rfl | ⟨b, o, rfl, hlt, hc⟩
  · refine ⟨.slice none 0 0, W, ?_, World.ownsRow_nil _ _ _ _, Below.refl _ _, fun k hk => by cases hk⟩
    cases a <;> simp [Builtin.append_, run_underlying Tryz.underlying28, sizeOf, typeInfo, hi, Builtin.lenOf, Builtin.firstCells, loadCells, loadCellsFrom]
  · obtain ⟨v', W', hr, ho, hg, _, hat⟩ := run_append_own_at (P := Tryz.prog) W B 28 ty 50 i0 _ 2 32 Tryz.underlying28 hi hz0 hz1 hz2 rfl (by decide) (.slice none 0 0) 0 [] (World.ownsRow_nil _ _ _ _) ⟨b, o, none⟩ l.length c (flds l) (flds_len l) (RdFW.news (n := l.length) hc) (flds_one l) (by unfold maxLen; omega) (by omega) hB
    rw [Nat.zero_add, List.nil_append] at ho
    refine ⟨v', W', hr, ho, (Below.refl _ _).grown hg (Nat.le_refl _) (fun k hk => by cases hk), fun k hk => ?_⟩
    rcases hat with e | e
    · rw [e] at hk; cases hk
    · rw [e] at hk; cases hk; rfl
/-- append(v, m), v the call's own. -/
theorem appO (B : Nat) (v : Value) (n : Nat) (xs : List (List UInt8 × List UInt8)) (b o m c : Nat) (ys : List (List UInt8 × List UInt8)) (W : World) (ty : TypeId) (hown : W.ownsRow B 50 2 v n (flds xs)) (hm : ys.length = m)
    (hc : ∀ j (hj : j < ys.length), W.cell? ⟨b, o + j * 2, none⟩ = some (.string (mkS (ys[j]'hj).1)) ∧ W.cell? ⟨b, o + (j * 2 + 1), none⟩ = some (.string (mkS (ys[j]'hj).2))) (hn : n + m ≤ 1000000) (hB : B ≤ W.heap.size) :
    ∃ v' W', (Builtin.append_ #[28, 28] ty #[v, .slice (some ⟨b, o, none⟩) m c]).run Tryz.prog W = .ok v' W' ∧ W'.ownsRow B 50 2 v' (n + m) (flds (xs ++ ys)) ∧ W.grownBy W' v.ownBlock ∧ (v'.ownBlock = v.ownBlock ∨ v'.ownBlock = some W.heap.size) := by
  obtain ⟨i0, hi, hz0, hz1, hz2⟩ := info_parts infoField
  subst hm
  obtain ⟨v', W', hr, ho, hg, _, hat⟩ := run_append_own_at (P := Tryz.prog) W B 28 ty 50 i0 _ 2 32 Tryz.underlying28 hi hz0 hz1 hz2 rfl (by decide) v n (flds xs) hown ⟨b, o, none⟩ ys.length c (flds ys) (flds_len ys) (RdFW.news (n := ys.length) hc) (flds_one ys) (by unfold maxLen; omega) (by omega) hB
  rw [← flds_app] at ho
  exact ⟨v', W', hr, ho, hg, hat⟩
/-- append(f, l), f one field, its room full. -/
theorem appF (g : Nat) (x y : List UInt8) (a : Option Addr) (n c : Nat) (l : List (List UInt8 × List UInt8)) (W : World) (ty : TypeId) (hg : W.heap[g]? = some (.cells #[.string (mkS x), .string (mkS y)] 50 (0, 0))) (h : RdFW W a n l) (hn : n ≤ 1000000) :
    ∃ a' c' W', (Builtin.append_ #[28, 28] ty #[.slice (some ⟨g, 0, none⟩) 1 1, .slice a n c]).run Tryz.prog W = .ok (.slice a' (1 + n) c') W' ∧ RdFW W' a' (1 + n) ((x, y) :: l) ∧ Below W.heap.size W W' := by
  obtain ⟨i0, hi, hz0, hz1, hz2⟩ := info_parts infoField
  have hlen := h.len
  subst hlen
  rcases h.at_ with rfl | ⟨b, o, rfl, hlt, hc⟩
  · refine ⟨some ⟨g, 0, none⟩, 1, W, ?_, RdFW.one hg, Below.refl _ _⟩
    cases a <;> simp [Builtin.append_, run_underlying Tryz.underlying28, sizeOf, typeInfo, hi, Builtin.lenOf, Builtin.firstCells, loadCells, loadCellsFrom, storeCells]
  · rcases Nat.eq_zero_or_pos l.length with h0 | h0
    · obtain rfl := List.eq_nil_of_length_eq_zero h0
      refine ⟨some ⟨g, 0, none⟩, 1, W, ?_, RdFW.one hg, Below.refl _ _⟩
      simp [Builtin.append_, run_underlying Tryz.underlying28, sizeOf, typeInfo, hi, Builtin.lenOf, Builtin.firstCells, loadCells, loadCellsFrom, storeCells]
    · have hold : ∀ j u, (flds [(x, y)])[j]? = some u → W.cell? ((⟨g, 0, none⟩ : Addr).add j) = some u := RdFW.news (n := 1) fun j hj => by
        obtain rfl : j = 0 := by simp at hj; omega
        exact ⟨by rw [Lib.cell_of_heap hg]; rfl, by rw [Lib.cell_of_heap hg]; rfl⟩
      have hr := run_append_grow (P := Tryz.prog) W 28 ty 50 i0 _ Tryz.underlying28 hi hz0 ⟨g, 0, none⟩ 1 1 (flds [(x, y)]) (by rw [hz1]; rfl) hold ⟨b, o, none⟩ l.length c (flds l) (by rw [hz1]; exact flds_len l) (RdFW.news (n := l.length) hc) (by omega) (by omega) (growslice_fits (by omega) (by rw [hz2]; omega))
      refine ⟨_, _, _, hr, ?_, b_alloc (b_drew (Below.refl _ _)) _⟩
      have e : flds [(x, y)] ++ flds l = flds ((x, y) :: l) := rfl
      refine ⟨by simp; omega, .inr ⟨W.heap.size, 0, rfl, by simp, fun j hj => ?_⟩⟩
      have hN := Go.heap_alloc_new W.drew (.cells ((flds [(x, y)]).toArray ++ (flds l).toArray ++ Builtin.zeroCells (Value.agg #[.string ⟨#[]⟩, .string ⟨#[]⟩]).cells (grownCap W (1 + l.length) 1 50 - (1 + l.length))) 50)
      rw [show W.drew.heap.size = W.heap.size from rfl] at hN
      obtain ⟨e1, e2⟩ := flds_at ((x, y) :: l) j hj
      have ea : (flds [(x, y)]).toArray ++ (flds l).toArray = (flds ((x, y) :: l)).toArray := by rw [← e]; simp
      have key : ∀ (k : Nat) (u : Value), (flds ((x, y) :: l))[k]? = some u → ((flds [(x, y)]).toArray ++ (flds l).toArray ++ Builtin.zeroCells (Value.agg #[.string ⟨#[]⟩, .string ⟨#[]⟩]).cells (grownCap W (1 + l.length) 1 50 - (1 + l.length)))[k]? = some u := fun k u hk => by
        rw [ea]
        have hlt := (List.getElem?_eq_some_iff.1 hk).1
        rw [Array.getElem?_append_left (by simpa using hlt)]
        simpa using hk
      rw [Nat.zero_add, Nat.zero_add]
      exact ⟨by rw [Lib.cell_of_heap hN]; exact key _ _ e1, by rw [Lib.cell_of_heap hN]; exact key _ _ e2⟩
theorem wp_app {o : Oper} {t : Act} {W : World} {K : Act → World → Prop} {Q : Exit → Act → World → Prop} (s x : Operand) (T : TypeId) (ho : o.op = .call { callee := .builtin .append, args := #[s, x], argTypes := #[T, T] }) {v xv v' : Value} {W' : World}
    (hs : t.eval s = v) (hx : t.eval x = xv) (hr : (Builtin.append_ #[T, T] o.type #[v, xv]).run Tryz.prog W = .ok v' W') (hk : K (t.put o.dst v') W') : o.wp Tryz.prog t W K Q := by
  unfold Oper.wp execOp
  simp only [ho, resolve, invoke, builtin, Sem.run_bind, Sem.run_pure, Result.andThen_ok, List.map_toArray, List.map_cons, List.map_nil, hs, hx, hr]
  exact hk
end Go.Proofs.YtppbkblnjlbnfaaGreatDoor
/-! Contracts: head.Drop, head.Same. -/
namespace PM
/-- Whether a field is dropped. -/
def goneB (names : List L) (f : L × L) : Bool := names.any fun s => same s f.1
def sameR (x s : L) : Bool := same s x
theorem dropN_eq (l : Fs) (names : List L) : dropN l names = l.filter fun f => !goneB names f := rfl
def idxF (p : L × L → Bool) (l : Fs) : Int := if l.any p then (l.findIdx p : Int) else -1
theorem idxF_hit (p : L × L → Bool) (xs : Fs) (k : Nat) (hk : k < xs.length) (h : p xs[k] = true) (hn : (xs.take k).any p = false) : idxF p xs = k := by
  unfold idxF
  rw [if_pos (List.any_eq_true.2 ⟨xs[k], List.getElem_mem _, h⟩)]
  have : xs.findIdx p = k := by
    rw [List.findIdx_eq hk]
    refine ⟨h, fun j hj => ?_⟩
    have hjt : j < (xs.take k).length := by simp; omega
    have := List.any_eq_false.1 hn (xs.take k)[j] (List.getElem_mem hjt)
    simpa using this
  rw [this]
theorem idxF_some {p : L × L → Bool} {l : Fs} (h : l.any p = true) : ∃ k, ∃ hk : k < l.length, idxF p l = (k : Int) ∧ p (l[k]'hk) = true ∧ (l.take k).any p = false := by
  have hex : ∃ x ∈ l, p x = true := List.any_eq_true.1 h
  have hlt := List.findIdx_lt_length_of_exists hex
  refine ⟨l.findIdx p, hlt, by unfold idxF; rw [if_pos h], List.findIdx_getElem, ?_⟩
  rw [List.any_eq_false]
  intro x hx
  obtain ⟨j, hj, rfl⟩ := List.mem_take_iff_getElem.1 hx
  have := List.not_of_lt_findIdx (p := p) (xs := l) (i := j) (by omega)
  simpa using this
theorem idxF_none (p : L × L → Bool) (xs : Fs) (h : xs.any p = false) : idxF p xs = -1 := by simp [idxF, h]
end PM
namespace Go.Proofs.YtppbkblnjlbnfaaGreatDoor
open Go.RowKit
theorem Drop11_c (B : Nat) (x y s : List UInt8) (hs : s.length ≤ 1000000) (hx : x.length ≤ 1000000) (w : World) (hB : w.heap[B]? = some (.cells #[.string (mkS x), .string (mkS y)] 50 (0, 0))) :
    Calls Tryz.prog 55 #[.string (mkS s), .pointer (some ⟨B, 0, none⟩)] w fun e w' => e = .returned (.bool (PM.sameR x s)) ∧ Below w.heap.size w w' := by
  have c0 : w.cell? ⟨B, 0, none⟩ = some (.string (mkS x)) := by rw [Lib.cell_of_heap hB]; rfl
  clear hB
  go_enter Tryz.func55, Tryz.ntmps55
  go_wp2_with fail
  refine (Same_c s x (Nat.le_trans hs (by decide)) (Nat.le_trans hx (by decide)) _).mono ?_
  rintro e w1 ⟨rfl, hb⟩
  go_wp2
  go_ret
  exact ⟨rfl, hb⟩
set_option maxHeartbeats 1000000 in
theorem IndexFuncN_c (B : Nat) (x y : List UInt8) (hx : x.length ≤ 1000000) (xs : List (List UInt8)) (hxs : ∀ s ∈ xs, s.length ≤ 1000000) (a : Option Addr) (n c : Nat) (w : World) (h : RdS w a n xs) (hB : w.heap[B]? = some (.cells #[.string (mkS x), .string (mkS y)] 50 (0, 0))) :
    Calls Tryz.prog 83 #[.slice a n c, .func (.func 55) #[] #[.pointer (some ⟨B, 0, none⟩)]] w fun e w' => e = .returned (.int .i64 (PM.anyIdx (PM.sameR x) xs)) ∧ Below w.heap.size w w' := by
  have hlen := h.len
  have hsm := h.small
  subst hlen
  rcases h.at_ with rfl | ⟨b, o, rfl, hlt0, hc⟩
  · go_enter Tryz.func83, Tryz.ntmps83
    go_wp2
    go_loop [5, 8] (fun _ i => i = .int .i64 0) (fun _ _ => 0)
    case atStart => rfl
    case round =>
      subst hrel
      go_wp2
      go_ret
      exact ⟨rfl, Below.refl _ _⟩
  · have Hc := Lib.hid hc
    have HB0 := Lib.hid hB
    have HXS := Lib.hid hxs
    clear hc h hB hxs
    go_enter Tryz.func83, Tryz.ntmps83
    go_wp2
    go_loopw [5, 8] (fun _ i wr => ∃ k : Nat, k ≤ xs.length ∧ i = .int .i64 k ∧ (xs.take k).any (PM.sameR x) = false ∧ Below w.heap.size w wr) (fun _ i _ => xs.length - (intOf i).toNat)
    case atStart => exact ⟨0, by omega, rfl, rfl, Below.refl _ _⟩
    case round =>
      obtain ⟨k, hk, rfl, hn, hb⟩ := hrel
      have HN := Lib.hid hn
      have HBB := Lib.hid hb
      clear hn hb
      by_cases hlt : k < xs.length
      · have hck := cell_b HBB.out (Hc.out k hlt)
        have HBX := Lib.hid (heap_b HBB.out HB0.out)
        cases hp : PM.sameR x xs[k]
        · go_wp2_with fail
          refine (Drop11_c B x y xs[k] (HXS.out _ (List.getElem_mem _)) hx _ HBX.out).mono ?_
          rw [hp]
          rintro e w1 ⟨rfl, h1⟩
          go_wp2
          go_roundw
          case rel => exact ⟨k + 1, by omega, by go_num, by rw [List.take_succ_eq_append_getElem hlt, List.any_append, HN.out, List.any_cons, List.any_nil, hp]; rfl, b_then HBB.out h1⟩
          case measure => simp [intOf]; omega
        · go_wp2_with fail
          refine (Drop11_c B x y xs[k] (HXS.out _ (List.getElem_mem _)) hx _ HBX.out).mono ?_
          rw [hp]
          rintro e w1 ⟨rfl, h1⟩
          go_wp2
          go_ret
          exact ⟨ret_int (PM.anyIdx_hit _ _ k hlt hp HN.out).symm, b_then HBB.out h1⟩
      · go_wp2
        go_ret
        have hn := HN.out
        rw [List.take_of_length_le (by omega)] at hn
        exact ⟨ret_int (PM.anyIdx_none _ _ hn).symm, HBB.out⟩
theorem ContainsFuncN_c (B : Nat) (x y : List UInt8) (hx : x.length ≤ 1000000) (xs : List (List UInt8)) (hxs : ∀ s ∈ xs, s.length ≤ 1000000) (a : Option Addr) (n c : Nat) (w : World) (h : RdS w a n xs) (hB : w.heap[B]? = some (.cells #[.string (mkS x), .string (mkS y)] 50 (0, 0))) :
    Calls Tryz.prog 54 #[.slice a n c, .func (.func 55) #[] #[.pointer (some ⟨B, 0, none⟩)]] w fun e w' => e = .returned (.bool (PM.goneB xs (x, y))) ∧ Below w.heap.size w w' := by
  have H := IndexFuncN_c B x y hx xs hxs a n c w h hB
  clear h hB hxs
  go_enter Tryz.func54, Tryz.ntmps54
  go_wp2_with fail
  refine H.mono ?_
  rintro e w1 ⟨rfl, h1⟩
  go_wp2
  go_ret
  exact ⟨ret_bool (PM.anyIdx_any _ _), h1⟩
/-- Where the names lie: a box with a slice of texts. -/
structure NmAt (NB : Nat) (an : Option Addr) (nn cn : Nat) (names : List (List UInt8)) (W : World) : Prop where
  box : W.heap[NB]? = some (.cells #[.slice an nn cn] 25 (0, 0))
  rd : RdS W an nn names
  sm : ∀ s ∈ names, s.length ≤ 1000000
theorem NmAt.below {NB : Nat} {an : Option Addr} {nn cn : Nat} {names : List (List UInt8)} {W W' : World} (h : NmAt NB an nn cn names W) (hb : Below W.heap.size W W') : NmAt NB an nn cn names W' := ⟨heap_b hb h.box, h.rd.below hb, h.sm⟩
theorem Drop1_c (NB : Nat) (an : Option Addr) (nn cn : Nat) (names : List (List UInt8)) (x y : List UInt8) (hx : x.length ≤ 1000000) (w : World) (h : NmAt NB an nn cn names w) :
    Calls Tryz.prog 53 #[.agg #[.string (mkS x), .string (mkS y)], .pointer (some ⟨NB, 0, none⟩)] w fun e w' => e = .returned (.bool (PM.goneB names (x, y))) ∧ Below w.heap.size w w' := by
  have HB : Hid (Below w.heap.size w (w.alloc (.cells #[.string (mkS x), .string (mkS y)] 50))) := Lib.hid (b_alloc (Below.refl _ _) _)
  have HF : Hid ((w.alloc (.cells #[.string (mkS x), .string (mkS y)] 50)).heap[w.heap.size]? = some (.cells #[.string (mkS x), .string (mkS y)] 50 (0, 0))) := Lib.hid (Go.heap_alloc_new _ _)
  have HN := Lib.hid (h.below HB.out)
  clear h
  have c0 : (w.alloc (.cells #[.string (mkS x), .string (mkS y)] 50)).cell? ⟨NB, 0, none⟩ = some (.slice an nn cn) := by rw [Lib.cell_of_heap HN.out.box]; rfl
  go_enter Tryz.func53, Tryz.ntmps53
  go_upto_region 1 with fail
  generalize w.alloc (.cells #[.string (mkS x), .string (mkS y)] 50) = V0 at HB HF HN c0 ⊢
  go_wp2_with fail
  refine (ContainsFuncN_c w.heap.size x y hx names HN.out.sm an nn cn _ HN.out.rd HF.out).mono ?_
  rintro e w1 ⟨rfl, hb⟩
  go_wp2
  go_ret
  exact ⟨rfl, b_then HB.out hb⟩
set_option maxRecDepth 100000 in
set_option maxHeartbeats 1000000 in
theorem IndexFuncF_c (NB : Nat) (an : Option Addr) (nn cn : Nat) (names : List (List UInt8)) (b o c : Nat) (l : List (List UInt8 × List UInt8)) (hl : ∀ f ∈ l, f.1.length ≤ 1000000) (hn : l.length ≤ 1000000) (w : World) (hm : NmAt NB an nn cn names w)
    (hc : ∀ j (hj : j < l.length), w.cell? ⟨b, o + j * 2, none⟩ = some (.string (mkS (l[j]'hj).1)) ∧ w.cell? ⟨b, o + (j * 2 + 1), none⟩ = some (.string (mkS (l[j]'hj).2))) :
    Calls Tryz.prog 84 #[.slice (some ⟨b, o, none⟩) l.length c, .func (.func 53) #[] #[.pointer (some ⟨NB, 0, none⟩)]] w fun e w' => e = .returned (.int .i64 (PM.idxF (PM.goneB names) l)) ∧ Below w.heap.size w w' := by
  have Hc := Lib.hid hc
  have HM := Lib.hid hm
  have HL := Lib.hid hl
  clear hc hm hl
  go_enter Tryz.func84, Tryz.ntmps84
  go_wp2
  go_loopw [5, 8] (fun _ i wr => ∃ k : Nat, k ≤ l.length ∧ i = .int .i64 k ∧ (l.take k).any (PM.goneB names) = false ∧ Below w.heap.size w wr) (fun _ i _ => l.length - (intOf i).toNat)
  case atStart => exact ⟨0, by omega, rfl, rfl, Below.refl _ _⟩
  case round =>
    obtain ⟨k, hk, rfl, hn0, hb⟩ := hrel
    have HN := Lib.hid hn0
    have HBB := Lib.hid hb
    clear hn0 hb
    by_cases hlt : k < l.length
    · obtain ⟨⟨x, y⟩, hxy⟩ : ∃ f, l[k]'hlt = f := ⟨_, rfl⟩
      have hck := Hc.out k hlt
      rw [hxy] at hck
      have HR := Lib.hid (two_range (x := .string (mkS x)) (y := .string (mkS y)) (cell_b HBB.out hck.1) (cell_b HBB.out hck.2))
      have hlx := HL.out _ (List.getElem_mem hlt)
      rw [hxy] at hlx
      have HXY := Lib.hid hxy
      clear hck hxy
      cases hp : PM.goneB names (x, y)
      · go_wp2_with (first | go_skip | (refine wpList_load_mg 50 _ rfl (by kernel_rfl) b (o + k * 2) rfl #[.string (mkS x), .string (mkS y)] HR.out Tryz.underlying50 rfl (by kernel_rfl) ?_))
        refine (Drop1_c NB an nn cn names x y hlx _ (HM.out.below HBB.out)).mono ?_
        rw [hp]
        rintro e w1 ⟨rfl, h1⟩
        go_wp2
        go_roundw
        case rel => exact ⟨k + 1, by omega, by go_num, by rw [List.take_succ_eq_append_getElem hlt, List.any_append, HN.out, List.any_cons, List.any_nil, HXY.out, hp]; rfl, b_then HBB.out h1⟩
        case measure => simp [intOf]; omega
      · go_wp2_with (first | go_skip | (refine wpList_load_mg 50 _ rfl (by kernel_rfl) b (o + k * 2) rfl #[.string (mkS x), .string (mkS y)] HR.out Tryz.underlying50 rfl (by kernel_rfl) ?_))
        refine (Drop1_c NB an nn cn names x y hlx _ (HM.out.below HBB.out)).mono ?_
        rw [hp]
        rintro e w1 ⟨rfl, h1⟩
        go_wp2
        go_ret
        exact ⟨ret_int (PM.idxF_hit _ _ k hlt (by rw [HXY.out]; exact hp) HN.out).symm, b_then HBB.out h1⟩
    · go_wp2
      go_ret
      have hn := HN.out
      rw [List.take_of_length_le (by omega)] at hn
      exact ⟨ret_int (PM.idxF_none _ _ hn).symm, HBB.out⟩
/-- All blocks but g are as they were. -/
def Ko (g : Nat) (W W' : World) : Prop := W.heap.size ≤ W'.heap.size ∧ ∀ k o, k ≠ g → W.heap[k]? = some o → W'.heap[k]? = some o
theorem Ko.refl (g : Nat) (W : World) : Ko g W W := ⟨Nat.le_refl _, fun _ _ _ h => h⟩
theorem Ko.trans {g : Nat} {W1 W2 W3 : World} (h : Ko g W1 W2) (k : Ko g W2 W3) : Ko g W1 W3 := ⟨Nat.le_trans h.1 k.1, fun i o hi ho => k.2 i o hi (h.2 i o hi ho)⟩
theorem Ko.below {g : Nat} {W W' : World} (h : Below W.heap.size W W') : Ko g W W' := ⟨h.size, fun k o _ ho => obj_b h ho⟩
theorem flds_take (D : List (List UInt8 × List UInt8)) (i : Nat) (h : i ≤ D.length) (tail : List Value) : (flds D ++ tail).take (i * 2) = flds (D.take i) := by
  have e : flds D = flds (D.take i) ++ flds (D.drop i) := by rw [← flds_app, List.take_append_drop]
  have hl : (flds (D.take i)).length = i * 2 := by rw [flds_len, List.length_take]; omega
  rw [e, List.append_assoc, ← hl, List.take_left]
theorem flds_drop (D : List (List UInt8 × List UInt8)) (i : Nat) (h : i ≤ D.length) (tail : List Value) : (flds D ++ tail).drop (i * 2) = flds (D.drop i) ++ tail := by
  have e : flds D = flds (D.take i) ++ flds (D.drop i) := by rw [← flds_app, List.take_append_drop]
  have hl : (flds (D.take i)).length = i * 2 := by rw [flds_len, List.length_take]; omega
  rw [e, List.append_assoc, ← hl, List.drop_left]
theorem flds_set (D : List (List UInt8 × List UInt8)) (i : Nat) (h : i < D.length) (f : List UInt8 × List UInt8) (tail : List Value) : (flds D ++ tail).take (i * 2) ++ [.string (mkS f.1), .string (mkS f.2)] ++ (flds D ++ tail).drop (i * 2 + 2) = flds (D.set i f) ++ tail := by
  rw [flds_take D i (by omega), show i * 2 + 2 = (i + 1) * 2 by omega, flds_drop D (i + 1) (by omega), List.set_eq_take_append_cons_drop, if_pos h, flds_app, flds_cons]
  simp
theorem setCells_heap {g : Nat} {T : TypeId} : ∀ (vs : List Value) (o : Nat) (W : World) (cs : List Value), W.heap[g]? = some (.cells cs.toArray T (0, 0)) → o + vs.length ≤ cs.length → (W.setCells g o vs).heap[g]? = some (.cells (cs.take o ++ vs ++ cs.drop (o + vs.length)).toArray T (0, 0))
  | [], o, W, cs, h, _ => by
    show W.heap[g]? = _
    rw [h]
    simp
  | v :: r, o, W, cs, h, hl => by
    have h1 := setCell_heap h o v
    rw [List.setIfInBounds_toArray] at h1
    have h2 := setCells_heap r (o + 1) _ (cs.set o v) h1 (by simp at hl ⊢; omega)
    show ((W.setCell ⟨g, o, none⟩ v).setCells g (o + 1) r).heap[g]? = _
    rw [h2]
    congr 3
    have ho : o < cs.length := by simp at hl; omega
    rw [List.set_eq_take_append_cons_drop, if_pos ho]
    have hto : (cs.take o).length = o := by simp; omega
    have e1 : (cs.take o ++ v :: cs.drop (o + 1)).take (o + 1) = cs.take o ++ [v] := by
      rw [List.take_append, hto, List.take_of_length_le (by omega)]
      simp
    have e2 : (cs.take o ++ v :: cs.drop (o + 1)).drop (o + 1 + r.length) = cs.drop (o + 1 + r.length) := by
      rw [List.drop_append, hto, List.drop_of_length_le (by omega), show o + 1 + r.length - o = r.length + 1 by omega, List.drop_succ_cons, List.drop_drop]
      rfl
    rw [e1, e2, List.length_cons, show o + (r.length + 1) = o + 1 + r.length by omega]
    simp
theorem setCells_other {g : Nat} : ∀ (vs : List Value) (o : Nat) (W : World) (k : Nat), k ≠ g → (W.setCells g o vs).heap[k]? = W.heap[k]?
  | [], _, _, _, _ => rfl
  | v :: r, o, W, k, hk => by
    show ((W.setCell ⟨g, o, none⟩ v).setCells g (o + 1) r).heap[k]? = _
    rw [setCells_other r (o + 1) _ k hk]
    exact heap_set_other rfl _ _ _ hk.symm
theorem setCells_size {g : Nat} : ∀ (vs : List Value) (o : Nat) (W : World), (W.setCells g o vs).heap.size = W.heap.size
  | [], _, _ => rfl
  | v :: r, o, W => by
    show ((W.setCell ⟨g, o, none⟩ v).setCells g (o + 1) r).heap.size = _
    rw [setCells_size r]
    simp [World.setCell]
theorem setCells_below {g B : Nat} {W0 : World} (hg : B ≤ g) : ∀ (vs : List Value) (o : Nat) (W : World), Below B W0 W → Below B W0 (W.setCells g o vs)
  | [], _, _, h => h
  | v :: r, o, W, h => setCells_below hg r (o + 1) _ (h.setCell (p := ⟨g, o, none⟩) hg v)
theorem Ko.setCells (g : Nat) (vs : List Value) (o : Nat) (W : World) : Ko g W (W.setCells g o vs) := ⟨by rw [setCells_size]; exact Nat.le_refl _, fun k b hk h => by rw [setCells_other vs o W k hk]; exact h⟩
theorem row_at {W : World} {g : Nat} {D : List (List UInt8 × List UInt8)} {tail : List Value} (h : W.heap[g]? = some (.cells (flds D ++ tail).toArray 50 (0, 0))) (j : Nat) (hj : j < D.length) : W.cell? ⟨g, 0 + j * 2, none⟩ = some (.string (mkS (D[j]'hj).1)) ∧ W.cell? ⟨g, 0 + (j * 2 + 1), none⟩ = some (.string (mkS (D[j]'hj).2)) := by
  obtain ⟨e1, e2⟩ := flds_at D j hj
  have key : ∀ (k : Nat) (u : Value), (flds D)[k]? = some u → W.cell? ⟨g, k, none⟩ = some u := fun k u hk => by
    rw [Lib.cell_of_heap h]
    have hlt := (List.getElem?_eq_some_iff.1 hk).1
    simp [List.getElem?_append_left hlt, hk]
  rw [Nat.zero_add, Nat.zero_add]
  exact ⟨key _ _ e1, key _ _ e2⟩
theorem row_rd {W : World} {g : Nat} {D : List (List UInt8 × List UInt8)} {tail : List Value} (h : W.heap[g]? = some (.cells (flds D ++ tail).toArray 50 (0, 0))) : RdFW W (some ⟨g, 0, none⟩) D.length D := ⟨rfl, .inr ⟨g, 0, rfl, h_lt h, fun j hj => row_at h j hj⟩⟩
theorem NmAt.ko {g NB : Nat} {an : Option Addr} {nn cn : Nat} {names : List (List UInt8)} {W W' : World} (h : NmAt NB an nn cn names W) (hk : Ko g W W') (h1 : NB ≠ g) (h2 : ∀ b o, an = some ⟨b, o, none⟩ → names ≠ [] → b ≠ g) : NmAt NB an nn cn names W' :=
  ⟨hk.2 _ _ h1 h.box, h.rd.frame hk.1 fun b o e hx => by
    obtain ⟨b', o', e', hl, _⟩ := h.rd.at_.resolve_left hx
    rw [e] at e'
    cases e'
    rw [hk.2 b _ (h2 b o e hx) (Array.getElem?_eq_getElem hl)]
    exact (Array.getElem?_eq_getElem hl).symm, h.sm⟩
theorem run_clear_F (W : World) (ty : TypeId) (g o n c : Nat) (hn : 0 < n) (hc : ∀ j, j < n * 2 → (W.cell? ⟨g, o + j, none⟩).isSome = true) (hf : ∀ j, W.frozen? ⟨g, o + j, none⟩ = false) :
    ∃ zs : List Value, zs.length = n * 2 ∧ (Builtin.clear_ #[28] ty #[.slice (some ⟨g, o, none⟩) n c]).run Tryz.prog W = .ok (.tuple #[]) (W.setCells g o zs) := by
  have hzl : (Builtin.zeroCells (Value.agg #[.string ⟨#[]⟩, .string ⟨#[]⟩]).cells n).toList.length = n * 2 := by simp [Builtin.zeroCells, Value.cells]
  have hz1 : ∀ v ∈ (Builtin.zeroCells (Value.agg #[.string ⟨#[]⟩, .string ⟨#[]⟩]).cells n).toList, v.oneCell' = true := by
    intro v hv
    simp [Builtin.zeroCells, Value.cells] at hv
    obtain ⟨a, _, rfl⟩ := hv
    have h2 : a % 2 = 0 ∨ a % 2 = 1 := by omega
    rcases h2 with h | h <;> simp [h, Value.oneCell']
  have hv : ∀ w, (zeroValue 50).run Tryz.prog w = .ok (.agg #[.string ⟨#[]⟩, .string ⟨#[]⟩]) w := fun w => by kernel_rfl
  have hst := run_storeCells_cells (P := Tryz.prog) g o (Builtin.zeroCells (Value.agg #[.string ⟨#[]⟩, .string ⟨#[]⟩]).cells n).toList 0 W (by rw [hzl]; simpa using hc) (fun j _ => by simp [hf j]) hz1
  simp only [Nat.add_zero] at hst
  refine ⟨_, hzl, ?_⟩
  obtain ⟨m, rfl⟩ : ∃ m, n = m + 1 := ⟨n - 1, by omega⟩
  simp [Builtin.clear_, run_underlying Tryz.underlying28, hv, hst]

set_option maxRecDepth 100000 in
set_option maxHeartbeats 4000000 in
theorem DeleteFuncF_c (NB : Nat) (an : Option Addr) (nn cn : Nat) (names : List (List UInt8)) (g c B : Nat) (l : List (List UInt8 × List UInt8)) (hl : ∀ f ∈ l, f.1.length ≤ 1000000) (hn : l.length ≤ 1000000) (hcap : l.length ≤ c) (w : World) (hm : NmAt NB an nn cn names w)
    (hNB : NB ≠ g) (hnm : ∀ b o, an = some ⟨b, o, none⟩ → names ≠ [] → b ≠ g) (tail : List Value) (hg : w.heap[g]? = some (.cells (flds l ++ tail).toArray 50 (0, 0))) (hBg : B ≤ g) (hBw : B ≤ w.heap.size) :
    Calls Tryz.prog 56 #[.slice (some ⟨g, 0, none⟩) l.length c, .func (.func 53) #[] #[.pointer (some ⟨NB, 0, none⟩)]] w fun e w' =>
      (∃ m, e = .returned (.slice (some ⟨g, 0, none⟩) m c) ∧ m ≤ l.length ∧ RdFW w' (some ⟨g, 0, none⟩) m (PM.dropN l names)) ∧ Ko g w w' ∧ Below B w w' := by
  have HM := Lib.hid hm
  have HG := Lib.hid hg
  have HL := Lib.hid hl
  have HI : Hid (∀ W, Below w.heap.size w W → Calls Tryz.prog 84 #[.slice (some ⟨g, 0, none⟩) l.length c, .func (.func 53) #[] #[.pointer (some ⟨NB, 0, none⟩)]] W fun e w' => e = .returned (.int .i64 (PM.idxF (PM.goneB names) l)) ∧ Below W.heap.size W w') :=
    Lib.hid fun W hb => IndexFuncF_c NB an nn cn names g 0 c l hl hn W (hm.below hb) (fun j hj => row_at (heap_b hb hg) j hj)
  clear hm hg hl
  have hdr := PM.dropN_eq l names
  have HDR := Lib.hid hdr
  clear hdr
  cases hany : l.any (PM.goneB names)
  · have hix := PM.idxF_none _ _ hany
    have hfil : l.filter (fun f => !PM.goneB names f) = l := List.filter_eq_self.2 fun f hf => by
      have := List.any_eq_false.1 hany f hf
      simpa using this
    rw [hfil] at HDR
    rw [hix] at HI
    clear hany hix hfil
    go_enter Tryz.func56, Tryz.ntmps56
    go_wp2_with fail
    refine (HI.out _ (Below.refl _ _)).mono ?_
    rintro e w1 ⟨rfl, hb⟩
    go_wp2
    go_ret
    exact ⟨⟨l.length, rfl, Nat.le_refl _, by rw [HDR.out]; exact row_rd (heap_b hb HG.out)⟩, Ko.below hb, hb.mono hBw⟩
  · obtain ⟨k, hk, hix, hpk, hnk⟩ := PM.idxF_some hany
    have hf0 : (l.take (k + 1)).filter (fun f => !PM.goneB names f) = l.take k := by
      rw [List.take_succ_eq_append_getElem hk, List.filter_append, List.filter_eq_self.2 fun f hf => by
        have := List.any_eq_false.1 hnk f hf
        simpa using this]
      simp [hpk]
    have HF0 := Lib.hid hf0
    rw [hix] at HI
    clear hany hix hpk hnk hf0
    have hk2 : ((k : Int) == -1) = false := by rw [beq_eq_false_iff_ne]; omega
    go_enter Tryz.func56, Tryz.ntmps56
    go_wp2_with fail
    refine (HI.out _ (Below.refl _ _)).mono ?_
    rintro e w1 ⟨rfl, hb⟩
    have HG1 := Lib.hid (heap_b hb HG.out)
    have HK1 := Lib.hid (Ko.below (g := g) hb)
    have HB1 : Hid (Below B w w1) := Lib.hid (hb.mono hBw)
    clear hb HI
    go_wp2
    clear hk2
    go_loopw [5, 6] (fun iv jv wr => ∃ (i j : Nat) (D : List (List UInt8 × List UInt8)), iv = .int .i64 i ∧ jv = .int .i64 j ∧ i < j ∧ j ≤ l.length ∧ Hid (D.length = l.length ∧ D.take i = (l.take j).filter (fun f => !PM.goneB names f) ∧ D.drop j = l.drop j) ∧ Hid (wr.heap[g]? = some (.cells (flds D ++ tail).toArray 50 (0, 0))) ∧ Hid (Ko g w wr) ∧ Hid (Below B w wr))
      (fun _ jv _ => l.length - (intOf jv).toNat)
    case atStart => exact ⟨k, k + 1, l, rfl, congrArg (Value.int .i64) (by omega), by omega, by omega, Lib.hid ⟨rfl, HF0.out.symm, rfl⟩, HG1, HK1, HB1⟩
    case round =>
      obtain ⟨i, j, D, rfl, rfl, hij, hj, HD, HH, HK, HB⟩ := hrel
      by_cases hlt : j < l.length
      · have hlt' : (j : Int) < (l.length : Int) := by omega
        have hDl := HD.out.1
        obtain ⟨⟨x, y⟩, hxy⟩ : ∃ f, l[j]'hlt = f := ⟨_, rfl⟩
        have hDj : D[j]'(by omega) = (x, y) := by
          have h := congrArg List.head? HD.out.2.2
          rw [List.head?_drop, List.head?_drop, List.getElem?_eq_getElem hlt, List.getElem?_eq_getElem (by omega)] at h
          rw [← hxy]
          exact Option.some.inj h
        have hrow := row_at HH.out j (by omega)
        rw [hDj, Nat.zero_add, Nat.zero_add] at hrow
        have HR := Lib.hid (two_range hrow.1 hrow.2)
        have hlx := HL.out _ (List.getElem_mem hlt)
        rw [hxy] at hlx
        have HXY := Lib.hid hxy
        have HLX := Lib.hid hlx
        have HDL := Lib.hid hDl
        clear hxy hDj hrow hlx hDl
        have HNb := Lib.hid (Go.heap_alloc_new wr (.cells #[.string ⟨#[]⟩, .string ⟨#[]⟩] 50))
        go_upto_region 8 with (first | (refine wpList_load_mg 50 _ rfl (by kernel_rfl) g (j * 2) rfl #[.string (mkS x), .string (mkS y)] HR.out Tryz.underlying50 rfl (by kernel_rfl) ?_) | (refine wpList_store_row rfl 50 _ _ rfl wr.heap.size #[.string (mkS x), .string (mkS y)] rfl rfl 50 _ HNb.out (by kernel_rfl) rfl (by simp [Value.oneCell']) ?_))
        obtain ⟨V2, hV⟩ : ∃ V2, V2 = (wr.alloc (.cells #[.string ⟨#[]⟩, .string ⟨#[]⟩] 50)).setRow wr.heap.size #[.string (mkS x), .string (mkS y)] := ⟨_, rfl⟩
        have hbx : V2.heap[wr.heap.size]? = some (.cells #[.string (mkS x), .string (mkS y)] 50 (0, 0)) := by rw [hV]; exact heap_setRow HNb.out _
        have hb : Below wr.heap.size wr V2 := by rw [hV]; exact below_setRow (b_alloc (Below.refl _ _) _) (Nat.le_refl _) _
        rw [← hV]
        clear hV HNb HR
        have HBX := Lib.hid hbx
        have HSZ : Hid (B ≤ wr.heap.size) := Lib.hid (Nat.le_trans hBw HB.out.size)
        replace HH := Lib.hid (heap_b hb HH.out)
        replace HK := Lib.hid (HK.out.trans (Ko.below hb))
        replace HB := Lib.hid (HB.out.trans (hb.mono HSZ.out))
        clear hbx hb
        (try simp only [Act.put])
        obtain ⟨t, ht⟩ : ∃ t, PM.goneB names (x, y) = t := ⟨_, rfl⟩
        have HT := Lib.hid ht
        clear ht
        go_wp2_with (first | go_skip | (refine wpList_load_g 50 _ rfl (by kernel_rfl) wr.heap.size rfl HBX.out Tryz.underlying50 rfl (by kernel_rfl) ?_))
        refine (Drop1_c NB an nn cn names x y HLX.out _ (HM.out.ko HK.out hNB hnm)).mono ?_
        rw [HT.out]
        rintro e V3 ⟨rfl, hb⟩
        replace HSZ : Hid (B ≤ V2.heap.size) := Lib.hid (Nat.le_trans hBw HB.out.size)
        replace HBX := Lib.hid (heap_b hb HBX.out)
        replace HH := Lib.hid (heap_b hb HH.out)
        replace HK := Lib.hid (HK.out.trans (Ko.below hb))
        replace HB := Lib.hid (HB.out.trans (hb.mono HSZ.out))
        clear hb HSZ
        have hDd : D.drop (j + 1) = l.drop (j + 1) := by
          have h := congrArg (List.drop 1) HD.out.2.2
          rw [List.drop_drop, List.drop_drop] at h
          rw [Nat.add_comm j 1]
          first | exact h | (rw [Nat.add_comm]; exact h)
        have hft : (l.take (j + 1)).filter (fun f => !PM.goneB names f) = D.take i ++ (if t then [] else [(x, y)]) := by
          rw [List.take_succ_eq_append_getElem hlt, List.filter_append, HXY.out, ← HD.out.2.1]
          congr 1
          cases t <;> simp [HT.out]
        have HDD := Lib.hid hDd
        have HFT := Lib.hid hft
        clear hDd hft
        cases t
        · have HDI : Hid (i < D.length) := Lib.hid (by rw [HDL.out]; omega)
          have hthere : V3.there g (i * 2) 2 := by
            intro q hq
            refine ⟨?_, Lib.frozen_of_heap HH.out _⟩
            rw [Lib.cell_of_heap HH.out]
            have hlen : i * 2 + q < (flds D ++ tail).length := by rw [List.length_append, flds_len]; have := HDI.out; omega
            simp [List.getElem?_eq_getElem hlen]
          have HTH := Lib.hid hthere
          clear hthere
          go_wp2_with (first | go_skip | (refine wpList_load_g 50 _ rfl (by kernel_rfl) wr.heap.size rfl HBX.out Tryz.underlying50 rfl (by kernel_rfl) ?_) | (refine wpList_store_mid rfl 50 _ _ rfl g (i * 2) #[.string (mkS x), .string (mkS y)] rfl rfl HTH.out (by kernel_rfl) (by simp [Value.oneCell']) ?_))
          have hh := setCells_heap [.string (mkS x), .string (mkS y)] (i * 2) V3 (flds D ++ tail) HH.out (by rw [List.length_append, flds_len]; have := HDI.out; simp; omega)
          have hset := flds_set D i HDI.out (x, y) tail
          rw [show i * 2 + [Value.string (mkS x), Value.string (mkS y)].length = i * 2 + 2 from rfl, hset] at hh
          refine ⟨⟨i + 1, j + 1, D.set i (x, y), congrArg (Value.int .i64) (by omega), congrArg (Value.int .i64) (by omega), by omega, by omega, Lib.hid ⟨by rw [List.length_set]; exact HDL.out, ?_, ?_⟩, Lib.hid hh, Lib.hid (HK.out.trans (Ko.setCells _ _ _ _)), Lib.hid (setCells_below hBg _ _ _ HB.out)⟩, ?_⟩
          · rw [HFT.out, List.set_eq_take_append_cons_drop, if_pos HDI.out]
            have hto : (D.take i).length = i := by have := HDI.out; simp; omega
            rw [List.take_append, hto, List.take_of_length_le (by omega), show i + 1 - i = 1 by omega]
            simp
          · rw [List.drop_set_of_lt (by omega)]
            exact HDD.out
          · simp only [intOf]; omega
        · go_wp2
          refine ⟨⟨i, j + 1, D, rfl, congrArg (Value.int .i64) (by omega), by omega, by omega, Lib.hid ⟨HDL.out, ?_, HDD.out⟩, HH, HK, HB⟩, ?_⟩
          · rw [HFT.out]
            simp
          · simp only [intOf]; omega
      · have hj' : j = l.length := by omega
        subst hj'
        have hi1 : (i : Int) ≤ l.length := by omega
        have hi0 : (0 : Int) ≤ i := by omega
        have hc1 : (l.length : Int) ≤ c := by omega
        have hDi : i ≤ D.length := by rw [HD.out.1]; omega
        have hwid : (flds D ++ tail).length = l.length * 2 + tail.length := by rw [List.length_append, flds_len, HD.out.1]
        obtain ⟨zs, hzl, hcl⟩ := run_clear_F wr 0 g (i * 2) (l.length - i) (c - i) (by omega) (fun q hq => by
          rw [Lib.cell_of_heap HH.out]
          have hlen : i * 2 + q < (flds D ++ tail).length := by rw [hwid]; omega
          simp [List.getElem?_eq_getElem hlen]) (fun q => Lib.frozen_of_heap HH.out _)
        have hh := setCells_heap zs (i * 2) wr (flds D ++ tail) HH.out (by rw [hwid, hzl]; omega)
        rw [flds_take D i hDi, List.append_assoc] at hh
        have hfin : D.take i = PM.dropN l names := by
          have h := HD.out.2.1
          rw [List.take_of_length_le (Nat.le_refl _)] at h
          rw [h, HDR.out]
        have hrd := row_rd hh
        rw [hfin] at hrd
        have hil : (PM.dropN l names).length = i := by rw [← hfin, List.length_take]; omega
        rw [hil] at hrd
        have HRD := Lib.hid hrd
        have HK2 := Lib.hid (HK.out.trans (Ko.setCells g zs (i * 2) wr))
        have HB2 := Lib.hid (setCells_below hBg zs (i * 2) wr HB.out)
        clear hh hfin hrd hil hwid hzl hDi
        go_wp2
        go_ret
        exact ⟨⟨i, rfl, by omega, HRD.out⟩, HK2.out, HB2.out⟩
end Go.Proofs.YtppbkblnjlbnfaaGreatDoor
/-! Contracts: slices.Clone, slices.Equal of fields; head.Drop, head.Same. -/
namespace Go.Proofs.YtppbkblnjlbnfaaGreatDoor
open Go.RowKit
set_option maxRecDepth 100000 in
set_option maxHeartbeats 1000000 in
theorem CloneF_c (a : Option Addr) (n c : Nat) (l : List (List UInt8 × List UInt8)) (w : World) (h : RdFW w a n l) (hn : n ≤ 1000000) :
    Calls Tryz.prog 57 #[.slice a n c] w fun e w' => ∃ v, e = .returned v ∧ w'.ownsRow w.heap.size 50 2 v n (flds l) ∧ Below w.heap.size w w' := by
  have hlen := h.len
  subst hlen
  cases a with
  | none =>
    have heq : ∀ W, (binOp .eql 28 (.slice none l.length c) (.slice none 0 0)).run Tryz.prog W = .ok (.bool true) W := fun W => Lib.run_eql_slice_nil (P := Tryz.prog) W 28 50 none l.length c 0 0 Tryz.underlying28
    rcases h.at_ with e0 | ⟨b, o, e, _⟩
    · have hl0 : flds l = [] := by rw [e0]; rfl
      have hn0 : l.length = 0 := by rw [e0]; rfl
      have HL0 := Lib.hid hl0
      have HN0 := Lib.hid hn0
      clear h e0 hl0 hn0
      go_enter Tryz.func57, Tryz.ntmps57
      go_wp2
      go_ret
      exact ⟨_, rfl, by rw [HL0.out, HN0.out]; exact World.ownsRow_nil _ _ _ _, Below.refl _ _⟩
    · cases e
  | some ad =>
    have heq : ∀ W, (binOp .eql 28 (.slice (some ad) l.length c) (.slice none 0 0)).run Tryz.prog W = .ok (.bool false) W := fun W => Lib.run_eql_slice_nil (P := Tryz.prog) W 28 50 (some ad) l.length c 0 0 Tryz.underlying28
    obtain ⟨i0, hi, hz0, hz1, hz2⟩ := info_parts infoField
    have hnews : ∀ j u, (flds l)[j]? = some u → (w.alloc (.cells #[] 50)).cell? (ad.add j) = some u := by
      have hb := b_alloc (Below.refl w.heap.size w) (.cells #[] 50)
      rcases h.at_ with rfl | ⟨b, o, e, _, hc⟩
      · intro j u hj
        simp [flds] at hj
      · cases e
        exact RdFW.news (n := l.length) fun j hj => ⟨cell_b hb (hc j hj).1, cell_b hb (hc j hj).2⟩
    have hown : (w.alloc (.cells #[] 50)).ownsRow w.heap.size 50 2 (.slice (some ⟨w.heap.size, 0, none⟩) 0 0) 0 [] := ⟨rfl, .inr ⟨w.heap.size, 0, #[], rfl, Nat.le_refl _, Go.heap_alloc_new _ _, Nat.le_refl _, Nat.zero_le _, rfl, rfl⟩⟩
    have HNW := Lib.hid hnews
    have HOW := Lib.hid hown
    clear h hnews hown
    go_enter Tryz.func57, Tryz.ntmps57
    go_wp2_with (at_builtin; refine wpList_append_own_at _ rfl _ _ 28 rfl w.heap.size 50 i0 (.agg #[.string ⟨#[]⟩, .string ⟨#[]⟩]) 2 32 Tryz.underlying28 hi hz0 hz1 hz2 rfl (by decide) _ 0 [] rfl HOW.out ad l.length c (flds l) rfl (flds_len l) HNW.out (flds_one l) ?c3 ?c4 ?c5 ?_)
    case c3 => unfold maxLen; omega
    case c4 => omega
    case c5 => simp
    intro v' w3 hown' hgrow _ hat
    have hb3 : Below w.heap.size w w3 := (b_alloc (Below.refl _ _) _).grown hgrow (by simp) (fun k hk => by cases hk; exact Nat.le_refl _)
    have HO3 := Lib.hid hown'
    have HB3 := Lib.hid hb3
    clear hown' hgrow hat hb3
    go_wp2
    go_ret
    exact ⟨_, rfl, HO3.out, HB3.out⟩
theorem neq_field (a b c d : List UInt8) (w : World) : (binOp .neq 50 (.agg #[.string (mkS a), .string (mkS b)]) (.agg #[.string (mkS c), .string (mkS d)])).run Tryz.prog w = .ok (.bool (!(decide ((a, b) = (c, d))))) w := by
  by_cases h1 : a = c
  · by_cases h2 : b = d
    · subst h1 h2
      go_simp
      try simp
    · go_simp
      try simp [h1, h2]
  · go_simp
    try simp [h1]
set_option maxRecDepth 100000 in
set_option maxHeartbeats 1000000 in
theorem EqualF_c (a b : Option Addr) (n c m d : Nat) (xs ys : List (List UInt8 × List UInt8)) (w : World) (hx : RdFW w a n xs) (hy : RdFW w b m ys) (hn : n ≤ 1000000) (hm : m ≤ 1000000) :
    Calls Tryz.prog 52 #[.slice a n c, .slice b m d] w fun e w' => e = .returned (.bool (decide (xs = ys))) ∧ Below w.heap.size w w' := by
  have hl1 := hx.len
  have hl2 := hy.len
  subst hl1 hl2
  by_cases hne : xs.length = ys.length
  · have HX := Lib.hid hx
    have HY := Lib.hid hy
    clear hx hy
    have h1 : ((xs.length : Int) != (ys.length : Int)) = false := by rw [hne]; simp
    have hle1 : xs.length ≤ ys.length := by omega
    have hle2 : ys.length ≤ xs.length := by omega
    clear hne
    go_enter Tryz.func52, Tryz.ntmps52
    go_wp2
    clear h1
--BEGIN
    go_loopw [13] (fun i wr => ∃ k : Nat, i = .int .i64 k ∧ k ≤ ys.length ∧ Hid (xs.take k = ys.take k) ∧ Hid (Below w.heap.size w wr)) (fun i _ => ys.length - (intOf i).toNat)
    case atStart => exact ⟨0, rfl, by omega, Lib.hid rfl, Lib.hid (Below.refl _ _)⟩
    case round =>
      obtain ⟨k, rfl, hk, HT, HB⟩ := hrel
      by_cases hlt : k < ys.length
      · have hltx : k < xs.length := by omega
        have hlt' : (k : Int) < (ys.length : Int) := by omega
        obtain ⟨b1, o1, rfl, -, p1, p2⟩ := HX.out.fld k hltx
        obtain ⟨b2, o2, rfl, -, p3, p4⟩ := HY.out.fld k hlt
        obtain ⟨⟨x1, y1⟩, hx1⟩ : ∃ f, xs[k]'hltx = f := ⟨_, rfl⟩
        obtain ⟨⟨x2, y2⟩, hx2⟩ : ∃ f, ys[k]'hlt = f := ⟨_, rfl⟩
        rw [hx1] at p1 p2
        rw [hx2] at p3 p4
        have P1 := Lib.hid p1
        have P2 := Lib.hid p2
        have P3 := Lib.hid p3
        have P4 := Lib.hid p4
        have hst : xs.take (k + 1) = ys.take (k + 1) ↔ (x1, y1) = (x2, y2) := by
          rw [List.take_succ_eq_append_getElem hltx, List.take_succ_eq_append_getElem hlt, HT.out, hx1, hx2]
          simp
        have HST := Lib.hid hst
        have hne2 : ¬ (x1, y1) = (x2, y2) → xs ≠ ys := fun h e => by
          subst e
          rw [hx1] at hx2
          exact h hx2
        have HNE := Lib.hid hne2
        clear hst hne2 hx1 hx2 p1 p2 p3 p4
        by_cases e1 : x1 = x2
        · have E1 := Lib.hid e1
          clear e1
          by_cases e2 : y1 = y2
          · have E2 := Lib.hid e2
            clear e2
            go_wp2_with fail
            refine wp_region_noPanic ?_
            refine wp_region_held_drew (S := fun W' => Below w.heap.size w W') (by kernel_rfl) (b_drew HB.out) (fun hS0 => ?_)
            refine wpAnyH_take (i := 0) (v := ?_) rfl (by kernel_rfl) (by kernel_rfl) (by kernel_rfl) (fun _ _ _ h => h) (Or.inl ⟨by kernel_rfl, fun W hW => ?_⟩) (by assumption) ?_
            rotate_left
            · go_simp
              try with_reducible rfl
            (try simp only [List.getElem_toArray, List.getElem_cons_zero, List.getElem_cons_succ, Act.put, List.setIfInBounds_toArray, List.set_cons_zero, List.set_cons_succ])
            refine wpAnyH_take (i := 1) (v := ?_) rfl (by kernel_rfl) (by kernel_rfl) (by kernel_rfl) (fun _ _ _ h => h) (Or.inl ⟨by kernel_rfl, fun W hW => ?_⟩) (by assumption) ?_
            rotate_left
            · go_simp
              try with_reducible rfl
            (try simp only [List.getElem_toArray, List.getElem_cons_zero, List.getElem_cons_succ, Act.put, List.setIfInBounds_toArray, List.set_cons_zero, List.set_cons_succ])
            refine wpAnyH_take (i := 2) (v := ?_) rfl (by kernel_rfl) (by kernel_rfl) (by kernel_rfl) (fun _ _ _ h => h) (Or.inl ⟨by kernel_rfl, fun W hW => ?_⟩) (by assumption) ?_
            rotate_left
            · go_simp
              try with_reducible rfl
            (try simp only [List.getElem_toArray, List.getElem_cons_zero, List.getElem_cons_succ, Act.put, List.setIfInBounds_toArray, List.set_cons_zero, List.set_cons_succ])
            refine wpAnyH_take (i := 3) (v := ?_) rfl (by kernel_rfl) (by kernel_rfl) (by kernel_rfl) (fun _ _ _ h => h) (Or.inl ⟨by kernel_rfl, fun W hW => ?_⟩) (by assumption) ?_
            rotate_left
            · refine yield_mid 50 (.tmp 18) ?_ b1 (o1 + k * 2) ?_ #[.string (mkS x1), .string (mkS y1)] (two_range (cell_b hW P1.out) (cell_b hW P2.out)) Tryz.underlying50 rfl (by kernel_rfl)
              · rfl
              · rfl
            (try simp only [List.getElem_toArray, List.getElem_cons_zero, List.getElem_cons_succ, Act.put, List.setIfInBounds_toArray, List.set_cons_zero, List.set_cons_succ])
            refine wpAnyH_take (i := 4) (v := ?_) rfl (by kernel_rfl) (by kernel_rfl) (by kernel_rfl) (fun _ _ _ h => h) (Or.inl ⟨by kernel_rfl, fun W hW => ?_⟩) (by assumption) ?_
            rotate_left
            · go_simp
              try with_reducible rfl
            (try simp only [List.getElem_toArray, List.getElem_cons_zero, List.getElem_cons_succ, Act.put, List.setIfInBounds_toArray, List.set_cons_zero, List.set_cons_succ])
            refine wpAnyH_take (i := 5) (v := ?_) rfl (by kernel_rfl) (by kernel_rfl) (by kernel_rfl) (fun _ _ _ h => h) (Or.inl ⟨by kernel_rfl, fun W hW => ?_⟩) (by assumption) ?_
            rotate_left
            · go_simp
              try with_reducible rfl
            (try simp only [List.getElem_toArray, List.getElem_cons_zero, List.getElem_cons_succ, Act.put, List.setIfInBounds_toArray, List.set_cons_zero, List.set_cons_succ])
            refine wpAnyH_take (i := 6) (v := ?_) rfl (by kernel_rfl) (by kernel_rfl) (by kernel_rfl) (fun _ _ _ h => h) (Or.inl ⟨by kernel_rfl, fun W hW => ?_⟩) (by assumption) ?_
            rotate_left
            · go_simp
              try with_reducible rfl
            (try simp only [List.getElem_toArray, List.getElem_cons_zero, List.getElem_cons_succ, Act.put, List.setIfInBounds_toArray, List.set_cons_zero, List.set_cons_succ])
            refine wpAnyH_take (i := 7) (v := ?_) rfl (by kernel_rfl) (by kernel_rfl) (by kernel_rfl) (fun _ _ _ h => h) (Or.inl ⟨by kernel_rfl, fun W hW => ?_⟩) (by assumption) ?_
            rotate_left
            · refine yield_mid 50 (.tmp 22) ?_ b2 (o2 + k * 2) ?_ #[.string (mkS x2), .string (mkS y2)] (two_range (cell_b hW P3.out) (cell_b hW P4.out)) Tryz.underlying50 rfl (by kernel_rfl)
              · rfl
              · rfl
            (try simp only [List.getElem_toArray, List.getElem_cons_zero, List.getElem_cons_succ, Act.put, List.setIfInBounds_toArray, List.set_cons_zero, List.set_cons_succ])
            refine wpAnyH_take (i := 8) (v := ?_) rfl (by kernel_rfl) (by kernel_rfl) (by kernel_rfl) (fun _ _ _ h => h) (Or.inl ⟨by kernel_rfl, fun W hW => ?_⟩) (by assumption) ?_
            rotate_left
            · go_simp
              rw [if_pos E1.out, if_pos E2.out]
              try with_reducible rfl
            (try simp only [List.getElem_toArray, List.getElem_cons_zero, List.getElem_cons_succ, Act.put, List.setIfInBounds_toArray, List.set_cons_zero, List.set_cons_succ])
            refine wpAnyH_done (by kernel_rfl) ?_ _
            refine NoPanic.normal ?_
            go_wp2
            go_roundw
            case rel => exact ⟨k + 1, congrArg (Value.int .i64) (by omega), by omega, Lib.hid (HST.out.2 (by rw [E1.out, E2.out])), Lib.hid hS0⟩
            case measure => simp only [intOf]; omega
          · have H2 := Lib.hid (HNE.out fun h => e2 (Prod.mk.inj h).2)
            have E2 := Lib.hid e2
            clear e2
            go_wp2_with fail
            refine wp_region_noPanic ?_
            refine wp_region_held_drew (S := fun W' => Below w.heap.size w W') (by kernel_rfl) (b_drew HB.out) (fun hS0 => ?_)
            refine wpAnyH_take (i := 0) (v := ?_) rfl (by kernel_rfl) (by kernel_rfl) (by kernel_rfl) (fun _ _ _ h => h) (Or.inl ⟨by kernel_rfl, fun W hW => ?_⟩) (by assumption) ?_
            rotate_left
            · go_simp
              try with_reducible rfl
            (try simp only [List.getElem_toArray, List.getElem_cons_zero, List.getElem_cons_succ, Act.put, List.setIfInBounds_toArray, List.set_cons_zero, List.set_cons_succ])
            refine wpAnyH_take (i := 1) (v := ?_) rfl (by kernel_rfl) (by kernel_rfl) (by kernel_rfl) (fun _ _ _ h => h) (Or.inl ⟨by kernel_rfl, fun W hW => ?_⟩) (by assumption) ?_
            rotate_left
            · go_simp
              try with_reducible rfl
            (try simp only [List.getElem_toArray, List.getElem_cons_zero, List.getElem_cons_succ, Act.put, List.setIfInBounds_toArray, List.set_cons_zero, List.set_cons_succ])
            refine wpAnyH_take (i := 2) (v := ?_) rfl (by kernel_rfl) (by kernel_rfl) (by kernel_rfl) (fun _ _ _ h => h) (Or.inl ⟨by kernel_rfl, fun W hW => ?_⟩) (by assumption) ?_
            rotate_left
            · go_simp
              try with_reducible rfl
            (try simp only [List.getElem_toArray, List.getElem_cons_zero, List.getElem_cons_succ, Act.put, List.setIfInBounds_toArray, List.set_cons_zero, List.set_cons_succ])
            refine wpAnyH_take (i := 3) (v := ?_) rfl (by kernel_rfl) (by kernel_rfl) (by kernel_rfl) (fun _ _ _ h => h) (Or.inl ⟨by kernel_rfl, fun W hW => ?_⟩) (by assumption) ?_
            rotate_left
            · refine yield_mid 50 (.tmp 18) ?_ b1 (o1 + k * 2) ?_ #[.string (mkS x1), .string (mkS y1)] (two_range (cell_b hW P1.out) (cell_b hW P2.out)) Tryz.underlying50 rfl (by kernel_rfl)
              · rfl
              · rfl
            (try simp only [List.getElem_toArray, List.getElem_cons_zero, List.getElem_cons_succ, Act.put, List.setIfInBounds_toArray, List.set_cons_zero, List.set_cons_succ])
            refine wpAnyH_take (i := 4) (v := ?_) rfl (by kernel_rfl) (by kernel_rfl) (by kernel_rfl) (fun _ _ _ h => h) (Or.inl ⟨by kernel_rfl, fun W hW => ?_⟩) (by assumption) ?_
            rotate_left
            · go_simp
              try with_reducible rfl
            (try simp only [List.getElem_toArray, List.getElem_cons_zero, List.getElem_cons_succ, Act.put, List.setIfInBounds_toArray, List.set_cons_zero, List.set_cons_succ])
            refine wpAnyH_take (i := 5) (v := ?_) rfl (by kernel_rfl) (by kernel_rfl) (by kernel_rfl) (fun _ _ _ h => h) (Or.inl ⟨by kernel_rfl, fun W hW => ?_⟩) (by assumption) ?_
            rotate_left
            · go_simp
              try with_reducible rfl
            (try simp only [List.getElem_toArray, List.getElem_cons_zero, List.getElem_cons_succ, Act.put, List.setIfInBounds_toArray, List.set_cons_zero, List.set_cons_succ])
            refine wpAnyH_take (i := 6) (v := ?_) rfl (by kernel_rfl) (by kernel_rfl) (by kernel_rfl) (fun _ _ _ h => h) (Or.inl ⟨by kernel_rfl, fun W hW => ?_⟩) (by assumption) ?_
            rotate_left
            · go_simp
              try with_reducible rfl
            (try simp only [List.getElem_toArray, List.getElem_cons_zero, List.getElem_cons_succ, Act.put, List.setIfInBounds_toArray, List.set_cons_zero, List.set_cons_succ])
            refine wpAnyH_take (i := 7) (v := ?_) rfl (by kernel_rfl) (by kernel_rfl) (by kernel_rfl) (fun _ _ _ h => h) (Or.inl ⟨by kernel_rfl, fun W hW => ?_⟩) (by assumption) ?_
            rotate_left
            · refine yield_mid 50 (.tmp 22) ?_ b2 (o2 + k * 2) ?_ #[.string (mkS x2), .string (mkS y2)] (two_range (cell_b hW P3.out) (cell_b hW P4.out)) Tryz.underlying50 rfl (by kernel_rfl)
              · rfl
              · rfl
            (try simp only [List.getElem_toArray, List.getElem_cons_zero, List.getElem_cons_succ, Act.put, List.setIfInBounds_toArray, List.set_cons_zero, List.set_cons_succ])
            refine wpAnyH_take (i := 8) (v := ?_) rfl (by kernel_rfl) (by kernel_rfl) (by kernel_rfl) (fun _ _ _ h => h) (Or.inl ⟨by kernel_rfl, fun W hW => ?_⟩) (by assumption) ?_
            rotate_left
            · go_simp
              rw [if_pos E1.out, if_neg E2.out]
              try with_reducible rfl
            (try simp only [List.getElem_toArray, List.getElem_cons_zero, List.getElem_cons_succ, Act.put, List.setIfInBounds_toArray, List.set_cons_zero, List.set_cons_succ])
            refine wpAnyH_done (by kernel_rfl) ?_ _
            refine NoPanic.normal ?_
            go_wp2
            go_ret
            exact ⟨ret_bool (decide_eq_false H2.out).symm, hS0⟩
        · have H2 := Lib.hid (HNE.out fun h => e1 (Prod.mk.inj h).1)
          have E1 := Lib.hid e1
          clear e1
          go_wp2_with fail
          refine wp_region_noPanic ?_
          refine wp_region_held_drew (S := fun W' => Below w.heap.size w W') (by kernel_rfl) (b_drew HB.out) (fun hS0 => ?_)
          refine wpAnyH_take (i := 0) (v := ?_) rfl (by kernel_rfl) (by kernel_rfl) (by kernel_rfl) (fun _ _ _ h => h) (Or.inl ⟨by kernel_rfl, fun W hW => ?_⟩) (by assumption) ?_
          rotate_left
          · go_simp
            try with_reducible rfl
          (try simp only [List.getElem_toArray, List.getElem_cons_zero, List.getElem_cons_succ, Act.put, List.setIfInBounds_toArray, List.set_cons_zero, List.set_cons_succ])
          refine wpAnyH_take (i := 1) (v := ?_) rfl (by kernel_rfl) (by kernel_rfl) (by kernel_rfl) (fun _ _ _ h => h) (Or.inl ⟨by kernel_rfl, fun W hW => ?_⟩) (by assumption) ?_
          rotate_left
          · go_simp
            try with_reducible rfl
          (try simp only [List.getElem_toArray, List.getElem_cons_zero, List.getElem_cons_succ, Act.put, List.setIfInBounds_toArray, List.set_cons_zero, List.set_cons_succ])
          refine wpAnyH_take (i := 2) (v := ?_) rfl (by kernel_rfl) (by kernel_rfl) (by kernel_rfl) (fun _ _ _ h => h) (Or.inl ⟨by kernel_rfl, fun W hW => ?_⟩) (by assumption) ?_
          rotate_left
          · go_simp
            try with_reducible rfl
          (try simp only [List.getElem_toArray, List.getElem_cons_zero, List.getElem_cons_succ, Act.put, List.setIfInBounds_toArray, List.set_cons_zero, List.set_cons_succ])
          refine wpAnyH_take (i := 3) (v := ?_) rfl (by kernel_rfl) (by kernel_rfl) (by kernel_rfl) (fun _ _ _ h => h) (Or.inl ⟨by kernel_rfl, fun W hW => ?_⟩) (by assumption) ?_
          rotate_left
          · refine yield_mid 50 (.tmp 18) ?_ b1 (o1 + k * 2) ?_ #[.string (mkS x1), .string (mkS y1)] (two_range (cell_b hW P1.out) (cell_b hW P2.out)) Tryz.underlying50 rfl (by kernel_rfl)
            · rfl
            · rfl
          (try simp only [List.getElem_toArray, List.getElem_cons_zero, List.getElem_cons_succ, Act.put, List.setIfInBounds_toArray, List.set_cons_zero, List.set_cons_succ])
          refine wpAnyH_take (i := 4) (v := ?_) rfl (by kernel_rfl) (by kernel_rfl) (by kernel_rfl) (fun _ _ _ h => h) (Or.inl ⟨by kernel_rfl, fun W hW => ?_⟩) (by assumption) ?_
          rotate_left
          · go_simp
            try with_reducible rfl
          (try simp only [List.getElem_toArray, List.getElem_cons_zero, List.getElem_cons_succ, Act.put, List.setIfInBounds_toArray, List.set_cons_zero, List.set_cons_succ])
          refine wpAnyH_take (i := 5) (v := ?_) rfl (by kernel_rfl) (by kernel_rfl) (by kernel_rfl) (fun _ _ _ h => h) (Or.inl ⟨by kernel_rfl, fun W hW => ?_⟩) (by assumption) ?_
          rotate_left
          · go_simp
            try with_reducible rfl
          (try simp only [List.getElem_toArray, List.getElem_cons_zero, List.getElem_cons_succ, Act.put, List.setIfInBounds_toArray, List.set_cons_zero, List.set_cons_succ])
          refine wpAnyH_take (i := 6) (v := ?_) rfl (by kernel_rfl) (by kernel_rfl) (by kernel_rfl) (fun _ _ _ h => h) (Or.inl ⟨by kernel_rfl, fun W hW => ?_⟩) (by assumption) ?_
          rotate_left
          · go_simp
            try with_reducible rfl
          (try simp only [List.getElem_toArray, List.getElem_cons_zero, List.getElem_cons_succ, Act.put, List.setIfInBounds_toArray, List.set_cons_zero, List.set_cons_succ])
          refine wpAnyH_take (i := 7) (v := ?_) rfl (by kernel_rfl) (by kernel_rfl) (by kernel_rfl) (fun _ _ _ h => h) (Or.inl ⟨by kernel_rfl, fun W hW => ?_⟩) (by assumption) ?_
          rotate_left
          · refine yield_mid 50 (.tmp 22) ?_ b2 (o2 + k * 2) ?_ #[.string (mkS x2), .string (mkS y2)] (two_range (cell_b hW P3.out) (cell_b hW P4.out)) Tryz.underlying50 rfl (by kernel_rfl)
            · rfl
            · rfl
          (try simp only [List.getElem_toArray, List.getElem_cons_zero, List.getElem_cons_succ, Act.put, List.setIfInBounds_toArray, List.set_cons_zero, List.set_cons_succ])
          refine wpAnyH_take (i := 8) (v := ?_) rfl (by kernel_rfl) (by kernel_rfl) (by kernel_rfl) (fun _ _ _ h => h) (Or.inl ⟨by kernel_rfl, fun W hW => ?_⟩) (by assumption) ?_
          rotate_left
          · go_simp
            rw [if_neg E1.out]
            try with_reducible rfl
          (try simp only [List.getElem_toArray, List.getElem_cons_zero, List.getElem_cons_succ, Act.put, List.setIfInBounds_toArray, List.set_cons_zero, List.set_cons_succ])
          refine wpAnyH_done (by kernel_rfl) ?_ _
          refine NoPanic.normal ?_
          go_wp2
          go_ret
          exact ⟨ret_bool (decide_eq_false H2.out).symm, hS0⟩
      · have hk' : k = ys.length := by omega
        subst hk'
        have hlt' : ¬ (ys.length : Int) < (ys.length : Int) := by omega
        go_wp2
        go_ret
        have h3 := HT.out
        rw [List.take_of_length_le (by omega), List.take_of_length_le (Nat.le_refl _)] at h3
        exact ⟨ret_bool (decide_eq_true h3).symm, HB.out⟩
--END
  · have h1 : ((xs.length : Int) == (ys.length : Int)) = false := by rw [beq_eq_false_iff_ne]; omega
    go_enter Tryz.func52, Tryz.ntmps52
    go_wp2
    go_ret
    exact ⟨ret_bool (by rw [eq_comm, decide_eq_false_iff_not]; exact fun e => hne (by rw [e])), Below.refl _ _⟩
theorem Same13_c (a b : Option Addr) (n c m d : Nat) (xs ys : List (List UInt8 × List UInt8)) (w : World) (hx : RdFW w a n xs) (hy : RdFW w b m ys) (hn : n ≤ 1000000) (hm : m ≤ 1000000) :
    Calls Tryz.prog 24 #[.slice a n c, .slice b m d] w fun e w' => e = .returned (.bool (decide (xs = ys))) ∧ Below w.heap.size w w' := by
  have H := EqualF_c a b n c m d xs ys w hx hy hn hm
  clear hx hy
  go_enter Tryz.func24, Tryz.ntmps24
  go_wp2_with fail
  refine H.mono ?_
  rintro e w1 ⟨rfl, hb⟩
  go_wp2
  go_ret
  exact ⟨rfl, hb⟩
theorem IndexNil_c (w : World) (v : Value) : Calls Tryz.prog 84 #[.slice none 0 0, v] w fun e w' => e = .returned (.int .i64 (-1)) ∧ w' = w := by
  go_enter Tryz.func84, Tryz.ntmps84
  go_wp2
  go_loop [5, 8] (fun _ i => i = .int .i64 0) (fun _ _ => 0)
  case atStart => rfl
  case round =>
    subst hrel
    go_wp2
    go_ret
    exact ⟨rfl, rfl⟩
theorem DeleteNil_c (w : World) (v : Value) : Calls Tryz.prog 56 #[.slice none 0 0, v] w fun e w' => e = .returned (.slice none 0 0) ∧ w' = w := by
  go_enter Tryz.func56, Tryz.ntmps56
  go_wp2_with fail
  refine (IndexNil_c _ _).mono ?_
  rintro e w1 ⟨rfl, rfl⟩
  go_wp2
  go_ret
  exact ⟨rfl, rfl⟩
set_option maxRecDepth 100000 in
set_option maxHeartbeats 1000000 in
theorem Drop_c (a : Option Addr) (n c : Nat) (l : List (List UInt8 × List UInt8)) (an : Option Addr) (nn cn : Nat) (names : List (List UInt8)) (w : World) (h : RdFW w a n l) (hn : n ≤ 1000000) (hl : ∀ f ∈ l, f.1.length ≤ 1000000) (hr : RdS w an nn names) (hs : ∀ s ∈ names, s.length ≤ 1000000) :
    Calls Tryz.prog 25 #[.slice a n c, .slice an nn cn] w fun e w' => (∃ a' m c', e = .returned (.slice a' m c') ∧ m ≤ n ∧ m ≤ c' ∧ RdFW w' a' m (PM.dropN l names) ∧ ∀ g o, a' = some ⟨g, o, none⟩ → w.heap.size ≤ g) ∧ Below w.heap.size w w' := by
  have hlen := h.len
  subst hlen
  have HB : Hid (Below w.heap.size w (w.alloc (.cells #[.slice an nn cn] 25))) := Lib.hid (b_alloc (Below.refl _ _) _)
  have HM : Hid (NmAt w.heap.size an nn cn names (w.alloc (.cells #[.slice an nn cn] 25))) := Lib.hid ⟨Go.heap_alloc_new _ _, hr.below HB.out, hs⟩
  have hnb : ∀ b o, an = some ⟨b, o, none⟩ → names ≠ [] → b < w.heap.size := fun b o e hx => by
    obtain ⟨b', o', e', hl, _⟩ := hr.at_.resolve_left hx
    rw [e] at e'
    cases e'
    exact hl
  have HNB := Lib.hid hnb
  have HR := Lib.hid (h.below HB.out)
  have HL := Lib.hid hl
  have hsz : (w.alloc (.cells #[.slice an nn cn] 25)).heap.size = w.heap.size + 1 := by simp
  have HSZ := Lib.hid hsz
  clear h hr hs hl hnb hsz
  go_enter Tryz.func25, Tryz.ntmps25
  go_upto_region 1 with fail
  generalize w.alloc (.cells #[.slice an nn cn] 25) = V0 at HB HM HR HSZ ⊢
  go_wp2_with fail
  refine (CloneF_c a l.length c l _ HR.out hn).mono ?_
  rintro e V1 ⟨v, rfl, hown, hb⟩
  rcases hown.2 with ⟨rfl, h0⟩ | ⟨g, cap, cur, rfl, hg, hh, h1, h2, h3, h4⟩
  · have hl0 : l = [] := List.eq_nil_of_length_eq_zero h0
    subst hl0
    go_wp2_with fail
    refine (DeleteNil_c _ _).mono ?_
    rintro e V2 ⟨rfl, rfl⟩
    go_wp2
    go_ret
    exact ⟨⟨none, 0, 0, rfl, Nat.le_refl _, Nat.le_refl _, ⟨rfl, .inl rfl⟩, fun g o e => by cases e⟩, b_then HB.out hb⟩
  · have hcur : cur = (flds l ++ cur.toList.drop (l.length * 2)).toArray := by
      rw [← h4, List.take_append_drop]
    have hh2 : V1.heap[g]? = some (.cells (flds l ++ cur.toList.drop (l.length * 2)).toArray 50 (0, 0)) := by rw [← hcur]; exact hh
    have HH := Lib.hid hh2
    have HB1 := Lib.hid hb
    have HG := Lib.hid hg
    have HC := Lib.hid h1
    clear hown hb hg hh h2 h3 h4 hcur hh2 h1
    go_wp2_with fail
    refine (DeleteFuncF_c w.heap.size an nn cn names g cap V0.heap.size l HL.out hn HC.out _ (HM.out.below HB1.out) (by have := HG.out; have := HSZ.out; omega) (fun b o e hx => by have := HNB.out b o e hx; have := HG.out; have := HSZ.out; omega) _ HH.out HG.out HB1.out.size).mono ?_
    rintro e V2 ⟨⟨m, rfl, hm, hrd⟩, -, hb2⟩
    have HRD := Lib.hid hrd
    have HB2 := Lib.hid (b_then HB.out (HB1.out.trans hb2))
    have HM2 := Lib.hid hm
    clear hrd hb2 hm
    go_wp2
    go_ret
    exact ⟨⟨some ⟨g, 0, none⟩, m, cap, rfl, HM2.out, by have := HM2.out; have := HC.out; omega, HRD.out, fun g' o e => by cases e; have := HG.out; have := HSZ.out; omega⟩, HB2.out⟩
end Go.Proofs.YtppbkblnjlbnfaaGreatDoor
