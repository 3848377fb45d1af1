import Derived.Test.YtppbkblnjlbnfaaGreatDoorP6
import Derived.Test.YtppbkblnjlbnfaaGreatDoorU1
import Derived.Test.YtppbkblnjlbnfaaGreatDoorMay
import Derived.Deep.MidRow
/-! Contracts: url.must, url.door. -/
set_option linter.unusedVariables false
set_option linter.unusedSimpArgs false
namespace Go.Proofs.YtppbkblnjlbnfaaGreatDoor
open Go.RowKit
abbrev wrongP : Ending := .panicked [{ v := .iface 108 (.agg #[]), recovered := false }]
theorem Must_t (w : World) : Calls Tryz.prog 109 #[.bool true] w fun e w' => e = .returned (.tuple #[]) ∧ w' = w := by
  go_enter Tryz.func109, Tryz.ntmps109
  go_wp2
  go_end0
  exact ⟨rfl, rfl⟩
theorem Must_f (w : World) : Calls Tryz.prog 109 #[.bool false] w fun e w' => e = .panicked [{ v := .iface 108 (.agg #[]), recovered := false }] ∧ w' = w := by
  go_enter Tryz.func109, Tryz.ntmps109
  go_wp2
  exact ⟨rfl, rfl, rfl⟩
theorem head_take (c : UInt8) (s : List UInt8) (h : 1 ≤ s.length) : (s.take 1 == [c]) = (s.head? == some c) := by
  cases s with
  | nil => simp at h
  | cons x r => simp [List.take]
theorem HasPre_c (c : UInt8) (s : List UInt8) (d : ByteArray) (hd : d = mkS [c]) (hs : s.length ≤ 1000000) (w : World) : Calls Tryz.prog 72 #[.string (mkS s), .string d] w fun e w' => e = .returned (.bool (s.head? == some c)) ∧ w' = w := by
  subst hd
  go_enter Tryz.func72, Tryz.ntmps72
  by_cases h1 : 1 ≤ s.length
  · have h1' : (1 : Int) ≤ s.length := by omega
    go_wp2
    go_ret
    exact ⟨ret_bool (head_take c s h1), rfl⟩
  · have h1' : ¬ (1 : Int) ≤ s.length := by omega
    go_wp2
    go_ret
    have : s = [] := List.eq_nil_of_length_eq_zero (by omega)
    subst this
    exact ⟨rfl, rfl⟩
def setAll (cs : Array Value) : Nat → List Value → Array Value
  | _, [] => cs
  | o, v :: r => setAll (cs.setIfInBounds o v) (o + 1) r
theorem heap_setCells {b : Nat} {T : TypeId} (vs : List Value) : ∀ (o : Nat) (w : World) (cs : Array Value), w.heap[b]? = some (.cells cs T (0, 0)) → (w.setCells b o vs).heap[b]? = some (.cells (setAll cs o vs) T (0, 0)) := by
  induction vs with
  | nil => intro o w cs h; exact h
  | cons v r ih => intro o w cs h; exact ih (o + 1) _ _ (setCell_heap h o v)
theorem below_setCells {B b : Nat} (hB : B ≤ b) {w0 : World} (vs : List Value) : ∀ (o : Nat) (w : World), Below B w0 w → Below B w0 (w.setCells b o vs) := by
  induction vs with
  | nil => intro o w h; exact h
  | cons v r ih => intro o w h; exact ih (o + 1) _ (h.setCell (p := ⟨b, o, none⟩) hB v)
/-- What a door leaves. -/
def UV.withDoor (u : UV) (h : PM.Host) (p : Int) : UV := { u with k := h.kind, n := h.name, m := h.num, s0 := h.six.getD 0 0, s1 := h.six.getD 1 0, s2 := h.six.getD 2 0, s3 := h.six.getD 3 0, s4 := h.six.getD 4 0, s5 := h.six.getD 5 0, s6 := h.six.getD 6 0, s7 := h.six.getD 7 0, port := p }
def DoorPost (u : UV) (b : Nat) (h : Option PM.Host) (p : Option Int) (e : Ending) (w' : World) : Prop := match h, p with
  | some h, some p => e = .returned (.tuple #[]) ∧ w'.heap[b]? = some (.cells (u.withDoor h p).cells 27 (0, 0))
  | _, _ => e = wrongP
theorem portOf_none {sch s : List UInt8} (h : s ≠ []) (hr : PM.read s 65535 = none) : PM.portOf sch s = none := by
  unfold PM.portOf
  rw [if_neg h, hr]
theorem portOf_some {sch s : List UInt8} {n : Nat} (h : s ≠ []) (hr : PM.read s 65535 = some n) : PM.portOf sch s = if (n : Int) = PM.web sch then some (-1) else some (n : Int) := by
  unfold PM.portOf
  rw [if_neg h, hr]
theorem door_port (u : UV) (h : PM.Host) (p n : Int) : (u.withDoor h p).cells.setIfInBounds 14 (.int .i64 n) = (u.withDoor h n).cells := by kernel_rfl
theorem door_cells (u : UV) (h : PM.Host) : setAll u.cells 3 (hcells h).toList = (u.withDoor h u.port).cells := by kernel_rfl
set_option maxRecDepth 100000 in
set_option maxHeartbeats 1000000 in
theorem UDoor_c (u : UV) (hp : u.port = -1) (b : Nat) (s : List UInt8) (hs : s.length ≤ 1000000) (w : World) (hg : Gl w) (hb : w.heap[b]? = some (.cells u.cells 27 (0, 0))) :
    Calls Tryz.prog 113 #[.pointer (some ⟨b, 0, none⟩), .string (mkS s)] w fun e w' => DoorPost u b (PM.hostParse (PM.doorName s)) (PM.portOf u.sc (PM.doorPort s)) e w' ∧ ∀ B, B ≤ b → Below B w w' := by
  have HPre := HasPre_c 91 s ⟨#[91]⟩ rfl hs
  have hx93 := fun W => IndexByte_c s 93 W
  have hx58 := fun W => IndexByte_c (s.drop (PM.doorAt s)) 58 W
  obtain ⟨d1, d2⟩ := doorAt_idx s
  have d3 := doorAt_le s
  obtain ⟨e1, e2⟩ := door_cut s
  have hnl : (PM.doorName s).length ≤ 1000000 := by
    cases hc : PM.has (s.drop (PM.doorAt s)) 58
    · rw [(e2 hc).2.1]; exact hs
    · obtain ⟨i, _, _, h, _⟩ := e1 hc
      rw [h, List.length_take]
      omega
  have hpl : (PM.doorPort s).length ≤ 1000000 := by
    cases hc : PM.has (s.drop (PM.doorAt s)) 58
    · rw [(e2 hc).2.2]; simp
    · obtain ⟨i, _, _, _, h⟩ := e1 hc
      rw [h, List.length_drop]
      omega
  have HB := Lib.hid hb
  have HG := Lib.hid hg
  have HP := Lib.hid hp
  clear hb hg hp
  go_enter Tryz.func113, Tryz.ntmps113
  have HPR := Lib.hid HPre
  have HX93 := Lib.hid hx93
  have HX58 := Lib.hid hx58
  have D1 := Lib.hid d1
  have D2 := Lib.hid d2
  have E1 := Lib.hid e1
  have E2 := Lib.hid e2
  clear HPre hx93 hx58 d1 d2 e1 e2
  have hfrom : (PM.doorAt s : Int) ≤ (s.length : Int) := by omega
  go_upto_if 13 with (first
    | (go_at_call 72; refine (HPR.out _).mono ?_; rintro e w1 ⟨rfl, rfl⟩))
  go_cut [4] (fun fm wr => fm = .int .i64 (PM.doorAt s) ∧ wr = w1)
  case first =>
    rcases Bool.eq_false_or_eq_true (s.head? == some 91) with hh | hh
    · rw [hh]
      have hm := D1.out (by simpa using hh)
      go_wp2_with (first
        | (go_at_call 111; refine (HX93.out _).mono ?_; rintro e w2 ⟨rfl, rfl⟩))
      go_meet
      exact ⟨rfl, rfl⟩
    · rw [hh]
      have hm := D2.out (by simpa using hh)
      go_wp2
      go_meet
      exact ⟨by rw [hm]; rfl, rfl⟩
  case rest =>
    obtain ⟨rfl, rfl⟩ := hcut
    go_upto_if 23 with (first
      | (go_at_call 111; refine (HX58.out _).mono ?_; rintro e w2 ⟨rfl, rfl⟩))
    go_cut [5, 6, 7] (fun nm pt ix wr => nm = .string (mkS (PM.doorName s)) ∧ pt = .string (mkS (PM.doorPort s)) ∧ Hid (wr.heap[b]? = some (.cells u.cells 27 (0, 0))) ∧ Hid (Below w2.heap.size w2 wr))
    case first =>
      rcases Bool.eq_false_or_eq_true (PM.has (s.drop (PM.doorAt s)) 58) with hh | hh
      · obtain ⟨i, h1, h2, h3, h4⟩ := E1.out hh
        rw [h1]
        have H3 := Lib.hid h3
        have H4 := Lib.hid h4
        have hb1 : (PM.doorAt s : Int) + (i : Int) ≤ (s.length : Int) := by omega
        have hb2 : (PM.doorAt s : Int) + (i : Int) + 1 ≤ (s.length : Int) := by omega
        clear h1 h3 h4
        go_wp2
        go_region
        go_wp2
        go_meet
        exact ⟨by rw [H3.out], by rw [H4.out], HB, Lib.hid (b_drew (Below.refl _ _))⟩
      · obtain ⟨h1, h3, h4⟩ := E2.out hh
        rw [h1]
        have H3 := Lib.hid h3
        have H4 := Lib.hid h4
        clear h1 h3 h4
        go_wp2
        go_meet
        exact ⟨by rw [H3.out], by rw [H4.out]; rfl, HB, Lib.hid (Below.refl _ _)⟩
    case rest =>
      obtain ⟨rfl, rfl, HB1, HBe⟩ := hcut
      replace HG := Lib.hid (HG.out.below HBe.out)
      have HHP := Lib.hid (fun W hg => HostParse_c (PM.doorName s) hnl W hg)
      obtain ⟨o, ho⟩ : ∃ o, PM.hostParse (PM.doorName s) = o := ⟨_, rfl⟩
      rw [ho] at HHP
      have HO := Lib.hid ho
      have hlt := h_lt HB.out
      clear ho
      cases o with
      | none =>
        replace HHP : Hid (∀ W, Gl W → Calls Tryz.prog 148 #[.string (mkS (PM.doorName s))] W fun e w' => e = .returned (.tuple #[.agg zhost, .bool false]) ∧ Below W.heap.size W w') := HHP
        go_wp2_with (first
          | (go_at_call 148; refine (HHP.out _ HG.out).mono ?_; rintro e w3 ⟨rfl, hb3⟩)
          | (refine wpList_store_row rfl 24 _ _ rfl w3.heap.size zhost rfl rfl 24 _ (Go.heap_alloc_new w3 _) (by kernel_rfl) rfl zhost_one ?_)
          | (go_at_call 109; refine (Must_f _).mono ?_; rintro e w4 ⟨rfl, rfl⟩))
        exact ⟨rfl, by rw [HO.out]; rfl, fun B hB => (b_then HBe.out (b_then hb3 (below_setRow (b_alloc (Below.refl _ _) _) (Nat.le_refl _) _))).mono (by omega)⟩
      | some h =>
        replace HHP : Hid (∀ W, Gl W → Calls Tryz.prog 148 #[.string (mkS (PM.doorName s))] W fun e w' => e = .returned (.tuple #[.agg (hcells h), .bool true]) ∧ Below W.heap.size W w') := HHP
        go_upto_region 9 with (first
          | (go_at_call 148; refine (HHP.out _ HG.out).mono ?_; rintro e w3 ⟨rfl, hb3⟩)
          | (refine wpList_store_row rfl 24 _ _ rfl w3.heap.size (hcells h) rfl rfl 24 _ (Go.heap_alloc_new w3 _) (by kernel_rfl) rfl (hcells_one h) ?_)
          | (go_at_call 109; refine (Must_t _).mono ?_; rintro e w4 ⟨rfl, hw4⟩; have hw4' := hw4.symm; subst hw4'; clear hw4))
        obtain ⟨V2, hV2⟩ : ∃ V2, V2 = (w3.alloc (.cells #[.int .i64 0, .string ⟨#[]⟩, .int .i64 0, .int .i64 0, .int .i64 0, .int .i64 0, .int .i64 0, .int .i64 0, .int .i64 0, .int .i64 0, .int .i64 0] 24)).setRow w3.heap.size (hcells h) := ⟨_, rfl⟩
        rw [← hV2]
        have hN : V2.heap[w3.heap.size]? = some (.cells (hcells h) 24 (0, 0)) := by rw [hV2]; exact heap_setRow (Go.heap_alloc_new _ _) _
        have hB2 : Below w3.heap.size w3 V2 := by rw [hV2]; exact below_setRow (b_alloc (Below.refl _ _) _) (Nat.le_refl _) _
        have hU2 : V2.heap[b]? = some (.cells u.cells 27 (0, 0)) := obj_b (b_then hb3 hB2) HB1.out
        have hT : V2.there b 3 (hcells h).size := fun j hj => ⟨by
          rw [Lib.cell_of_heap hU2]
          have : j < 11 := hj
          simp [UV.cells]
          omega, Lib.frozen_of_heap hU2 _⟩
        have HBV := Lib.hid (b_then HBe.out (b_then hb3 hB2))
        clear hV2 hB2 hb3
        go_upto_region 10 with (first
          | (refine wpList_load_row rfl 24 _ rfl w3.heap.size rfl 24 _ (0, 0) _ hN Tryz.underlying24 rfl (by kernel_rfl) ?_)
          | (refine wpList_store_mid rfl 24 _ _ rfl b 3 (hcells h) rfl rfl hT (by kernel_rfl) (hcells_one h) ?_))
        obtain ⟨V3, hV3⟩ : ∃ V3, V3 = V2.setCells b 3 (hcells h).toList := ⟨_, rfl⟩
        rw [← hV3]
        have hU3 : V3.heap[b]? = some (.cells (u.withDoor h u.port).cells 27 (0, 0)) := by
          rw [hV3, ← door_cells]
          exact heap_setCells _ 3 _ _ hU2
        have hb3 : ∀ B, B ≤ b → Below B w2 V3 := fun B hB => by
          rw [hV3]
          exact below_setCells hB _ 3 _ (HBV.out.mono (by omega))
        have HU3 := Lib.hid hU3
        have HB3 := Lib.hid hb3
        clear hV3 hU3 hb3 hU2 hT hN
        obtain ⟨pt, hpt⟩ : ∃ pt, PM.doorPort s = pt := ⟨_, rfl⟩
        rw [hpt]
        rw [hpt] at hpl
        have HPT := Lib.hid hpt
        have c0 : V3.cell? ⟨b, 0, none⟩ = some (.string (mkS u.sc)) := by rw [Lib.cell_of_heap HU3.out]; rfl
        have c14 : V3.cell? ⟨b, 14, none⟩ = some (.int .i64 u.port) := by rw [Lib.cell_of_heap HU3.out]; rfl
        have f14 := Lib.frozen_of_heap HU3.out 14
        clear hpt HHP HG HBe HB1 HPR HX93 HX58 D1 D2 E1 E2 HBV hnl hs d3 hfrom
        cases hpe : pt.isEmpty
        · have hpn : pt ≠ [] := by rintro rfl; simp at hpe
          have HR := fun W => Read_c pt 65535 hpl (by decide) (by decide) W
          have HPN := Lib.hid hpn
          clear hpn
          obtain ⟨o, ho⟩ : ∃ o, PM.read pt 65535 = o := ⟨_, rfl⟩
          unfold readV at HR
          rw [ho] at HR
          have HO2 := Lib.hid ho
          clear ho
          cases o with
          | none =>
            replace HR := Lib.hid HR
            go_wp2_with (first
              | (go_at_call 149; refine (HR.out _).mono ?_; rintro e w5 ⟨rfl, rfl⟩)
              | (go_at_call 109; refine (Must_f _).mono ?_; rintro e w6 ⟨rfl, rfl⟩))
            exact ⟨rfl, by rw [HO.out, HPT.out, portOf_none HPN.out HO2.out]; rfl, HB3.out⟩
          | some n =>
            replace HR := Lib.hid HR
            go_wp2_with (first
              | (go_at_call 149; refine (HR.out _).mono ?_; rintro e w5 ⟨rfl, rfl⟩)
              | (go_at_call 109; refine (Must_t _).mono ?_; rintro e w6 ⟨rfl, rfl⟩)
              | (go_at_call 61; refine (Web_c u.sc _).mono ?_; rintro e w7 ⟨rfl, rfl⟩))
            · rename_i hh
              have hne : (n : Int) ≠ PM.web u.sc := by simpa using hh
              go_end0
              exact ⟨by rw [HO.out, HPT.out, portOf_some HPN.out HO2.out, if_neg hne]; exact ⟨rfl, by rw [← door_port u h u.port]; exact setCell_heap HU3.out 14 _⟩, fun B hB => (HB3.out B hB).setCell (p := ⟨b, 14, none⟩) hB _⟩
            · rename_i hh
              have hne : (n : Int) = PM.web u.sc := by simpa using hh
              go_end0
              exact ⟨by rw [HO.out, HPT.out, portOf_some HPN.out HO2.out, if_pos hne]; exact ⟨rfl, by rw [← HP.out]; exact HU3.out⟩, HB3.out⟩
        · obtain rfl : pt = [] := by simpa using hpe
          go_wp2
          go_end0
          exact ⟨by rw [HO.out, HPT.out]; exact ⟨rfl, by rw [← HP.out]; exact HU3.out⟩, HB3.out⟩
end Go.Proofs.YtppbkblnjlbnfaaGreatDoor
