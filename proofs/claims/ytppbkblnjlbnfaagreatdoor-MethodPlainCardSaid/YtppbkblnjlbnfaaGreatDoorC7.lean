import Derived.Test.YtppbkblnjlbnfaaGreatDoorC6b
import Derived.ScopeJumps
import Derived.WalkMore
/-! Contract: deci.Show. -/
set_option linter.unusedVariables false
namespace Go.Proofs.YtppbkblnjlbnfaaGreatDoor
open Go.RowKit
theorem last_c (b m : Nat) (W : World) (hm : m ≤ 1000000000000) (hc : W.cell? ⟨b, 0, none⟩ = some (.int .i64 (m : Int))) (hf : W.frozen? ⟨b, 0, none⟩ = false) :
    Calls Tryz.prog 119 #[.pointer (some ⟨b, 0, none⟩)] W fun e W' => e = .returned (.int .u8 ((PM.dig m).toNat : Int)) ∧ W' = W.setCell ⟨b, 0, none⟩ (.int .i64 ((m / 10 : Nat) : Int)) := by
  have h0 : (0 : Int) ≤ (m : Int) := by omega
  have h1 : (m : Int) ≤ 1000000000000 := by omega
  have h2 : 0 ≤ (m : Int) % 10 := by omega
  have h3 : (m : Int) % 10 < 10 := by omega
  go_enter Tryz.func119, Tryz.ntmps119
  go_wp2
  go_ret
  refine ⟨ret_int ?_, by rw [Int.natCast_ediv]; rfl⟩
  unfold PM.dig
  rw [UInt8.toNat_ofNat_of_lt' (by show _ < 256; omega)]
  omega
theorem wp_scope_label {P : Program} {a : Act} {w : World} {Q : Exit → Act → World → Prop} {c rest : Code} (l : Nat) (J : Act → World → Prop) (μ : Act → World → Nat) (hf : findLabel c l = some (Code.skip.seq rest))
    (first : ∀ Q' : Exit → Act → World → Prop, (∀ a w, J a w → rest.wp P Q' a w) → c.wp P Q' a w)
    (pass : ∀ a w, J a w → rest.wp P (Exit.jump l (fun a' w' => J a' w' ∧ μ a' w' < μ a w) Q) a w) : (Code.scope c).wp P Q a w :=
  wp_scope_jumps l J μ hf (first _ (fun a w hJ => Code.wp_mono (fun e a' w' h => by
    cases e <;> first | exact h | exact ⟨h.1, h.2.1⟩) (pass a w hJ))) (fun a w hJ => wp_seq (wp_skip (pass a w hJ)))
theorem rdigF_step (f m : Nat) (h : m / 10 ≠ 0) : PM.rdigF (f + 1) m = PM.dig m :: PM.rdigF f (m / 10) := by simp [PM.rdigF, h]
theorem rdigF_end (f m : Nat) (h : m / 10 = 0) : PM.rdigF (f + 1) m = [PM.dig m] := by simp [PM.rdigF, h]
theorem byteCells_snoc (l : List UInt8) (c : UInt8) : Lib.byteCells (l ++ [c]) = Lib.byteCells l ++ [.int .u8 (c.toNat : Int)] := by simp [Lib.byteCells]
/-- What a row holds when a pairs have changed places. -/
def swapAt (l : List UInt8) (a j : Nat) : UInt8 := if j < a ∨ l.length ≤ j + a then l.getD (l.length - 1 - j) 0 else l.getD j 0
theorem swapAt_end (l : List UInt8) (a j : Nat) (hj : j < l.length) (h : l.length ≤ 2 * a + 1) : swapAt l a j = l.reverse[j]'(by simpa using hj) := by
  unfold swapAt
  rw [List.getElem_reverse]
  split
  · rw [List.getD_eq_getElem?_getD, List.getElem?_eq_getElem (by omega)]; rfl
  · have : j = l.length - 1 - j := by omega
    rw [List.getD_eq_getElem?_getD, List.getElem?_eq_getElem hj]
    simp only [Option.getD_some]
    congr 1
theorem swap_hi (l : List UInt8) (a b : Nat) (h : a + b + 1 = l.length) (hl : a < b) : some (Value.int .u8 ((swapAt l a a).toNat : Int)) = some (.int .u8 ((swapAt l (a + 1) b).toNat : Int)) := by
  have h1 : swapAt l a a = l.getD a 0 := by unfold swapAt; rw [if_neg (by omega)]
  have h2 : swapAt l (a + 1) b = l.getD a 0 := by unfold swapAt; rw [if_pos (by omega)]; congr 1; omega
  rw [h1, h2]
theorem swap_lo (l : List UInt8) (a b : Nat) (h : a + b + 1 = l.length) (hl : a < b) : some (Value.int .u8 ((swapAt l a b).toNat : Int)) = some (.int .u8 ((swapAt l (a + 1) a).toNat : Int)) := by
  have h1 : swapAt l a b = l.getD b 0 := by unfold swapAt; rw [if_neg (by omega)]
  have h2 : swapAt l (a + 1) a = l.getD b 0 := by unfold swapAt; rw [if_pos (by omega)]; congr 1; omega
  rw [h1, h2]
theorem swap_mid (l : List UInt8) (a j : Nat) (h : 2 * a + 1 < l.length) (h1 : j ≠ a) (h2 : j + a + 1 ≠ l.length) : swapAt l (a + 1) j = swapAt l a j := by
  unfold swapAt
  by_cases hc : j < a ∨ l.length ≤ j + a
  · rw [if_pos hc, if_pos (by omega)]
  · rw [if_neg hc, if_neg (by omega)]
def cellNat (w : World) (p : Addr) : Nat := match w.cell? p with | some v => (intOf v).toNat | none => 0
/-- The variables of Show at its label. -/
def ShowAt (n : Nat) (w : World) (a' : Act) (w' : World) : Prop := ∃ (m f : Nat) (v u11 u12 u13 u14 u15 u16 u17 : Value) (done : List UInt8),
  a' = { tmps := #[.int .i64 (n : Int), .pointer (some ⟨w.heap.size, 0, none⟩), .string { data := #[] }, v, .func (.func 119) #[] #[.pointer (some ⟨w.heap.size, 0, none⟩)], .bool (decide ((n : Int) < 0)), undef, undef, .func (.func 119) #[] #[.pointer (some ⟨w.heap.size, 0, none⟩)], .int .i64 (n : Int), .bool (decide ((n : Int) < 0)), u11, u12, u13, u14, u15, u16, u17, undef, undef, undef, undef, undef, undef, undef, undef, undef, undef, undef, undef, undef, undef, undef, undef, undef, undef, undef, undef, undef, undef, undef, undef, undef, undef, undef, undef, undef, undef], defers := [] } ∧
  m ≤ 1000000000000 ∧ m < 10 ^ f ∧ 0 < f ∧ done ++ PM.rdigF f m = PM.rdig n ∧ done.length + f = 20 ∧ w'.cell? ⟨w.heap.size, 0, none⟩ = some (.int .i64 (m : Int)) ∧ w'.frozen? ⟨w.heap.size, 0, none⟩ = false ∧
  w'.ownsRow w.heap.size 5 1 v done.length (Lib.byteCells done) ∧ v.ownBlock ≠ some w.heap.size ∧ Below w.heap.size w w'
set_option maxRecDepth 100000 in
set_option maxHeartbeats 2000000 in
theorem deciShow_c (n : Nat) (hn : n ≤ 1000000000000) (w : World) :
    Calls Tryz.prog 93 #[.int .i64 (n : Int)] w fun e w' => e = .returned (.string (mkS (PM.digs n))) ∧ Below w.heap.size w w' := by
  have h0 : (0 : Int) ≤ (n : Int) := by omega
  obtain ⟨i0, hi, hz0, hz1, hz2⟩ := info_parts infoByte
  go_enter Tryz.func93, Tryz.ntmps93
  go_wp2
  refine wp_scope_label 0 (ShowAt n w) (fun a' w' => cellNat w' ⟨w.heap.size, 0, none⟩) rfl ?_ ?_
  · intro Q' hQ
    go_wp2
    go_step3
    rename_i K hK
    refine hK _ _ (hQ _ _ ⟨n, 20, _, _, _, _, _, _, _, _, [], rfl, hn, by omega, by omega, rfl, rfl, by go_simp, by go_simp, World.ownsRow_nil _ _ _ _, by simp [Value.ownBlock], by (repeat (first | exact Below.refl _ _ | apply b_alloc | apply b_drew | apply b_drewN | assumption | (refine b_then ?_ (by assumption))))⟩)
  · rintro a' w1 ⟨m, f, v, u11, u12, u13, u14, u15, u16, u17, done, rfl, hm, hmf, hfp, hd, hf, hc, hfz, hown, hvb, hb⟩
    have hd20 : done.length ≤ 20 := by omega
    have HD := Lib.hid hd
    have HF := Lib.hid hf
    clear hd hf
    have hlt := cell_lt hc
    go_wp2_with fail
    refine (last_c w.heap.size m w1 hm hc hfz).mono ?_
    rintro e w2 ⟨rfl, hw2⟩
    have hc2 : w2.cell? ⟨w.heap.size, 0, none⟩ = some (.int .i64 ((m / 10 : Nat) : Int)) := by rw [hw2]; exact World.cell?_setCell_same' _ _ _ (by rw [hc]; rfl)
    have hf2 : w2.frozen? ⟨w.heap.size, 0, none⟩ = false := by rw [hw2, World.frozen?_setCell]; exact hfz
    have hown2 : w2.ownsRow w.heap.size 5 1 v done.length (Lib.byteCells done) := by
      rw [hw2]
      exact hown.kept (row := some w.heap.size) ⟨rfl, rfl, rfl, by simp [World.setCell], fun k _ hk => Below.heap_setCell _ _ _ _ (fun e => hk (by simp [e]))⟩ (.inr hvb)
    have hb2 : Below w.heap.size w w2 := by rw [hw2]; exact hb.setCell (p := ⟨w.heap.size, 0, none⟩) (Nat.le_refl _) _
    have hc1 := Lib.hid hc
    clear hw2 hown hc hfz hb
    have hlt2 := cell_lt hc2
    have hneg : decide ((n : Int) < 0) = false := by simp
    by_cases hz : m / 10 = 0
    · have hzb : (((m / 10 : Nat) : Int) != 0) = false := by rw [hz]; rfl
      go_wp2_with (at_builtin; refine wpList_append_own_at _ rfl _ _ 90 rfl w.heap.size 5 i0 (.int .u8 0) 1 1 Tryz.underlying90 hi hz0 hz1 hz2 rfl (by decide) _ _ _ rfl (hown2.alloc _) ⟨w2.heap.size, 0, none⟩ 1 1 [.int .u8 ((PM.dig m).toNat : Int)] rfl rfl (cell_one_new _ _ _) ?c2 ?c3 ?c4 ?c5 ?_)
      case c2 => intro u hu; simp at hu; subst hu; rfl
      case c3 => unfold maxLen; omega
      case c4 => omega
      case c5 => simp; omega
      intro v' w3 hown' hgrow _ hat
      have hc3 : w3.cell? ⟨w.heap.size, 0, none⟩ = some (.int .i64 ((m / 10 : Nat) : Int)) := hgrow.cell (by go_simp) (fun e => hvb e.symm)
      have hf3 : w3.frozen? ⟨w.heap.size, 0, none⟩ = false := (World.frozen?_of_block (a := ⟨w.heap.size, 0, none⟩) (hgrow.block _ (by simp; omega) (fun e => hvb e.symm))).trans (by go_simp)
      have hvb' : v'.ownBlock ≠ some w.heap.size := by
        rcases hat with h | h
        · rw [h]; exact hvb
        · rw [h]; intro e; have := Option.some.inj e; omega
      have hb3 : Below w.heap.size w w3 := (b_alloc hb2 _).grown hgrow (by simp; omega) (fun k hk => (hown2.lt k hk).1)
      rw [← byteCells_snoc] at hown'
      have hsz3 := hgrow.size
      clear hown2 hat
      obtain ⟨g, cap, rfl⟩ : ∃ g cap, v' = .slice (some ⟨g, 0, none⟩) (done.length + 1) cap := by
        rcases hown'.2 with ⟨_, h0⟩ | ⟨g, cap, cur, hv, _⟩
        · omega
        · exact ⟨g, cap, hv⟩
      have hcg : ∀ j, j < done.length + 1 → w3.cell? ⟨g, j, none⟩ = some (.int .u8 ((swapAt (done ++ [PM.dig m]) 0 j).toNat : Int)) := fun j hj => by
        have h1 := hown'.cells (g := g) rfl j (.int .u8 ((swapAt (done ++ [PM.dig m]) 0 j).toNat : Int)) (by
          have hj' : j < (done ++ [PM.dig m]).length := by simp; omega
          have : swapAt (done ++ [PM.dig m]) 0 j = (done ++ [PM.dig m])[j] := by
            unfold swapAt
            rw [if_neg (by omega), List.getD_eq_getElem?_getD, List.getElem?_eq_getElem hj']
            rfl
          rw [this, Lib.byteCells, List.getElem?_map, List.getElem?_eq_getElem hj']
          rfl)
        rwa [show (⟨g, 0, none⟩ : Addr).add j = ⟨g, j, none⟩ by unfold Addr.add; split <;> simp_all] at h1
      have hfg : ∀ o, w3.frozen? ⟨g, o, none⟩ = false := by
        rcases hown'.2 with ⟨h, _⟩ | ⟨g', cap', cur, hv, _, hg, _⟩
        · cases h
        · injection hv with hv
          injection hv with hv
          injection hv with hv
          subst hv
          exact fun o => Lib.frozen_of_heap hg o
      have hgB : w.heap.size ≤ g := (hown'.lt g rfl).1
      have HC := Lib.hid hcg
      have HF2 := Lib.hid hfg
      clear hcg hfg hown' hgrow hvb' hc2 hf2
      go_wp2
      go_loopw [6, 7] (fun i k wr => ∃ a b : Nat, i = .int .i64 a ∧ k = .int .i64 b ∧ Hid (a + b = done.length) ∧ Hid (∀ j, j < done.length + 1 → wr.cell? ⟨g, j, none⟩ = some (.int .u8 ((swapAt (done ++ [PM.dig m]) a j).toNat : Int))) ∧ Hid (∀ o, wr.frozen? ⟨g, o, none⟩ = false) ∧ Below w.heap.size w wr) (fun i k _ => (intOf k - intOf i + 1).toNat)
      case atStart => exact ⟨0, done.length, rfl, congrArg (Value.int .i64) (by omega), Lib.hid (by omega), HC, HF2, hb3⟩
      case round =>
        obtain ⟨a, b, rfl, rfl, HAB, HC, HF3, hbr⟩ := hrel
        have hab : a ≤ done.length := by have := HAB.out; omega
        have hbb : b ≤ done.length := by have := HAB.out; omega
        by_cases hlt3 : a < b
        · have hca := HC.out a (by omega)
          have hcb := HC.out b (by omega)
          have hfa := HF3.out a
          have hfb := HF3.out b
          have hab1 : (a : Int) < (done.length : Int) + 1 := by omega
          have hbb1 : (b : Int) < (done.length : Int) + 1 := by omega
          go_wp2
          go_region
          have hgw : g < wr.heap.size := cell_lt hca
          go_wp2
          refine ⟨⟨a + 1, b - 1, congrArg (Value.int .i64) (by omega), congrArg (Value.int .i64) (by omega), Lib.hid (by have := HAB.out; omega), Lib.hid (fun j hj => ?_), Lib.hid (fun o => ?_), ?_⟩, ?_⟩
          · have hab' := HAB.out
            rw [World.cell?_drew]
            by_cases e1 : j = b
            · subst e1
              rw [World.cell?_setCell_same' _ _ _ (by rw [World.cell?_setCell_other _ _ _ _ (by intro e; injection e; omega), hcb]; rfl)]
              exact swap_hi _ _ _ (by simp; omega) hlt3
            · rw [World.cell?_setCell_other _ _ _ _ (by intro e; injection e; omega)]
              by_cases e2 : j = a
              · subst e2
                rw [World.cell?_setCell_same' _ _ _ (by rw [hca]; rfl)]
                exact swap_lo _ _ _ (by simp; omega) hlt3
              · rw [World.cell?_setCell_other _ _ _ _ (by intro e; injection e; omega), HC.out j hj]
                rw [swap_mid _ _ _ (by simp; omega) e2 (by simp; omega)]
          · simp [HF3.out]
          · exact b_drew ((hbr.setCell (p := ⟨g, a, none⟩) hgB _).setCell (p := ⟨g, b, none⟩) hgB _)
          · simp only [intOf]; omega
        · go_wp2
          have hcv : (convert 90 9 (.slice (some ⟨g, 0, none⟩) (done.length + 1) cap)).run Tryz.prog wr = .ok (.string (mkS (PM.digs n))) wr := by
            have hl : PM.digs n = (done ++ [PM.dig m]).reverse := by
              obtain ⟨f, rfl⟩ : ∃ f', f = f' + 1 := ⟨f - 1, by omega⟩
              unfold PM.digs
              rw [← HD.out, rdigF_end f m hz]
            have hlen : done.length + 1 = (PM.digs n).length := by rw [hl]; simp
            rw [hlen]
            refine run_bytes_str wr 90 9 5 Tryz.underlying90 Tryz.underlying5 Tryz.underlying9 g cap (PM.digs n) (fun j hj => ?_)
            rw [HC.out j (by omega)]
            have hj' : j < (done ++ [PM.dig m]).length := by simp; omega
            have := swapAt_end (done ++ [PM.dig m]) a j hj' (by have := HAB.out; simp; omega)
            rw [this]
            simp only [hl]
          rw [hcv]
          go_wp2
          simp only [Exit.jump]
          go_ret
          exact ⟨rfl, by (repeat (first | exact Below.refl _ _ | apply b_alloc | apply b_drew | apply b_drewN | assumption | (refine b_then ?_ (by assumption))))⟩
    · have hzb : (((m / 10 : Nat) : Int) != 0) = true := by rw [bne_iff_ne]; omega
      have hzm : m / 10 < m := by omega
      go_wp2_with (at_builtin; refine wpList_append_own_at _ rfl _ _ 90 rfl w.heap.size 5 i0 (.int .u8 0) 1 1 Tryz.underlying90 hi hz0 hz1 hz2 rfl (by decide) _ _ _ rfl (hown2.alloc _) ⟨w2.heap.size, 0, none⟩ 1 1 [.int .u8 ((PM.dig m).toNat : Int)] rfl rfl (cell_one_new _ _ _) ?c2 ?c3 ?c4 ?c5 ?_)
      case c2 => intro u hu; simp at hu; subst hu; rfl
      case c3 => unfold maxLen; omega
      case c4 => omega
      case c5 => simp; omega
      intro v' w3 hown' hgrow _ hat
      have hc3 : w3.cell? ⟨w.heap.size, 0, none⟩ = some (.int .i64 ((m / 10 : Nat) : Int)) := hgrow.cell (by go_simp) (fun e => hvb e.symm)
      have hf3 : w3.frozen? ⟨w.heap.size, 0, none⟩ = false := (World.frozen?_of_block (a := ⟨w.heap.size, 0, none⟩) (hgrow.block _ (by simp; omega) (fun e => hvb e.symm))).trans (by go_simp)
      have hvb' : v'.ownBlock ≠ some w.heap.size := by
        rcases hat with h | h
        · rw [h]; exact hvb
        · rw [h]; intro e; have := Option.some.inj e; omega
      have hb3 : Below w.heap.size w w3 := (b_alloc hb2 _).grown hgrow (by simp; omega) (fun k hk => (hown2.lt k hk).1)
      rw [← byteCells_snoc] at hown'
      have hsz3 := hgrow.size
      clear hown2 hat
      go_wp2
      go_step3
      obtain ⟨f, rfl⟩ : ∃ f', f = f' + 1 := ⟨f - 1, by omega⟩
      refine ⟨rfl, ⟨m / 10, f, _, _, _, _, _, _, _, _, done ++ [PM.dig m], rfl, by omega, ?_, ?_, ?_, ?_, hc3, hf3, by simpa using hown', hvb', hb3⟩, ?_⟩
      · rw [Nat.pow_succ] at hmf; omega
      · rcases f with _ | f
        · simp at hmf; omega
        · omega
      · rw [List.append_assoc, List.singleton_append, ← rdigF_step f m hz]; exact HD.out
      · have := HF.out; simp; omega
      · have hc1 := hc1.out
        simp only [cellNat, hc3, hc1, intOf, Int.toNat_natCast]
        exact hzm
end Go.Proofs.YtppbkblnjlbnfaaGreatDoor
