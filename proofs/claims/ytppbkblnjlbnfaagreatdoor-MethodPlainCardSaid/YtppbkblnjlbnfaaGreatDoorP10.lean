import Derived.Test.YtppbkblnjlbnfaaGreatDoorP9
set_option linter.unusedVariables false
namespace Go.Proofs.YtppbkblnjlbnfaaGreatDoor
open Go.RowKit
def six6 : List Value := [.string ⟨#[9]⟩, .string ⟨#[]⟩, .string ⟨#[10]⟩, .string ⟨#[]⟩, .string ⟨#[13]⟩, .string ⟨#[]⟩]
/-- A byteStringReplacer that is being built: which bytes it replaces, by nothing. -/
def BSt (g B : Nat) (ds : List UInt8) (W : World) : Prop := ∃ cs v, W.heap[g]? = some (.cells cs 217 (0, 0)) ∧ cs.size = 257 ∧ cs[256]? = some v ∧ W.ownsRow B 9 1 v ds.length (strs (ds.map fun c => [c])) ∧
  ∀ c : UInt8, ∃ a k, cs[c.toNat]? = some (.slice a 0 k) ∧ (a = none ↔ c ∉ ds) ∧ (a = none → k = 0)
theorem zero257 : Tryz.zeroCells217.toList.take 256 = List.replicate 256 (.slice none 0 0) := by kernel_rfl
theorem zero257_size : Tryz.zeroCells217.size = 257 := by kernel_rfl
theorem zero257_at (c : UInt8) : Tryz.zeroCells217.toList[c.toNat]? = some (.slice none 0 0) := by
  have hc := c.toNat_lt
  have h := congrArg (fun l => l[c.toNat]?) zero257
  simp only [List.getElem?_take, List.getElem?_replicate] at h
  rw [if_pos hc, if_pos hc] at h
  exact h
theorem grown_setRow (W : World) (g : Nat) (cs : Array Value) : W.grownBy (W.setRow g cs) (some g) :=
  ⟨rfl, rfl, rfl, by simp [World.setRow], fun k hk hne => by
    have h : ¬ g = k := fun e => hne (by rw [e])
    simp [World.setRow, Array.getElem?_modify, h]⟩
theorem blk_setCell {w : World} {g i : Nat} {cs : Array Value} {t : TypeId} {fr : Nat × Nat} (h : w.heap[g]? = some (.cells cs t fr)) (v : Value) : (w.setCell ⟨g, i, none⟩ v).heap[g]? = some (.cells (cs.setIfInBounds i v) t fr) := by
  obtain ⟨hlt, hk⟩ := Array.getElem?_eq_some_iff.1 h
  show (w.heap.modify g _)[g]? = _
  rw [Array.getElem?_eq_getElem (by rw [Array.size_modify]; exact hlt), Array.getElem_modify_self, hk]
  rfl
theorem strs_snoc' (ds : List UInt8) (o : UInt8) : strs (ds.map fun c => [c]) ++ [.string (mkS [o])] = strs ((ds.map fun c => [c]) ++ ([o].map fun c => [c])) := strs_snoc _ _
theorem own_ne {W : World} {B : Nat} {v : Value} {n : Nat} {xs : List Value} (h : W.ownsRow B 9 1 v n xs) {g : Nat} {cs : Array Value} {t : TypeId} {fr : Nat × Nat} (hg : W.heap[g]? = some (.cells cs t fr)) (ht : t ≠ 9) : some g ≠ v.ownBlock := fun e => by
  rcases h.2 with ⟨rfl, _⟩ | ⟨g', cap, cur, rfl, _, hgg, _⟩
  · simp [Value.ownBlock] at e
  · simp [Value.ownBlock] at e
    subst e
    rw [hg] at hgg
    injection hgg with hgg
    injection hgg with _ hgg _
    exact ht hgg
theorem grown_setCell (W : World) (a : Addr) (v : Value) : W.grownBy (W.setCell a v) (some a.block) :=
  ⟨rfl, rfl, rfl, by simp [World.setCell], fun k _ hk => Below.heap_setCell _ _ _ k (fun e => hk (by rw [e]))⟩
/-- One byte more. -/
theorem BSt.step {g B : Nat} {ds : List UInt8} {o : UInt8} {w3 W5 : World} {cs : Array Value} {v : Value} (hg : w3.heap[g]? = some (.cells cs 217 (0, 0))) (hsz : cs.size = 257)
    (hown : w3.ownsRow B 9 1 v (ds.length + 1) (strs (ds.map fun c => [c]) ++ [.string (mkS [o])])) (hcs : ∀ c : UInt8, ∃ a k, cs[c.toNat]? = some (.slice a 0 k) ∧ (a = none ↔ c ∉ ds) ∧ (a = none → k = 0))
    (hb : Below (w3.setCell ⟨g, 256, none⟩ v).heap.size (w3.setCell ⟨g, 256, none⟩ v) W5) (a : Addr) (kc : Nat) : BSt g B (ds ++ [o]) (W5.setCell ⟨g, o.toNat, none⟩ (.slice (some a) 0 kc)) := by
  have h4 := blk_setCell (i := 256) hg v
  have h5 := obj_b hb h4
  have h6 := blk_setCell (i := o.toNat) h5 (.slice (some a) 0 kc)
  have ho := o.toNat_lt
  have o4 := hown.kept (grown_setCell w3 ⟨g, 256, none⟩ v) (.inr (own_ne hown hg (by decide)).symm)
  have o5 := own_keep o4 hb
  have o6 := o5.kept (grown_setCell W5 ⟨g, o.toNat, none⟩ (.slice (some a) 0 kc)) (.inr (own_ne o5 h5 (by decide)).symm)
  refine ⟨_, v, h6, by simp [hsz], ?_, ?_, fun c => ?_⟩
  · rw [Array.getElem?_setIfInBounds, if_neg (by omega), Array.getElem?_setIfInBounds, if_pos rfl, if_pos (by omega)]
  · rw [List.length_append, List.map_append, ← strs_snoc']
    exact o6
  · have hc := c.toNat_lt
    by_cases hco : c = o
    · subst hco
      refine ⟨some a, kc, ?_, by simp, by simp⟩
      rw [Array.getElem?_setIfInBounds, if_pos rfl, if_pos (by simp [hsz]; omega)]
    · obtain ⟨a1, k1, h1, h2, h3⟩ := hcs c
      refine ⟨a1, k1, ?_, by simp [h2, hco], h3⟩
      have hne : ¬ o.toNat = c.toNat := fun e => hco (UInt8.toNat_inj.1 e).symm
      rw [Array.getElem?_setIfInBounds, if_neg hne, Array.getElem?_setIfInBounds, if_neg (by omega)]
      exact h1
set_option maxRecDepth 100000 in
set_option maxHeartbeats 1000000 in
theorem Build_c (b h vc : Nat) (w : World) (hb : w.cell? ⟨b, 4, none⟩ = some (.slice (some ⟨h, 0, none⟩) 6 vc)) 
  (c0 : w.cell? ⟨h, 0, none⟩ = some (.string ⟨#[9]⟩)) (c1 : w.cell? ⟨h, 1, none⟩ = some (.string ⟨#[]⟩))
  (c2 : w.cell? ⟨h, 2, none⟩ = some (.string ⟨#[10]⟩)) (c3 : w.cell? ⟨h, 3, none⟩ = some (.string ⟨#[]⟩))
  (c4 : w.cell? ⟨h, 4, none⟩ = some (.string ⟨#[13]⟩)) (c5 : w.cell? ⟨h, 5, none⟩ = some (.string ⟨#[]⟩)) (hh : h < w.heap.size) : Calls Tryz.prog 156 #[.pointer (some ⟨b, 0, none⟩)] w fun e w' => e = .returned (.iface 218 (.pointer (some ⟨w.heap.size + 1, 0, none⟩))) ∧ BSt (w.heap.size + 1) w.heap.size [13, 10, 9] w' ∧ Below w.heap.size w w' := by
  have hmk : ∀ w : World, (Instr.makeSlice 25 (.int .i64 0) (.int .i64 3)).run Tryz.prog w = .ok (.slice (some ⟨w.heap.size, 0, none⟩) 0 3) (w.alloc (.cells #[.string ⟨#[]⟩, .string ⟨#[]⟩, .string ⟨#[]⟩] 9)) := fun _ => by kernel_rfl
  go_enter Tryz.func156, Tryz.ntmps156
  go_wp2
  go_loopw [4, 5] (fun al i wr => wr = w ∧ ((i = .int .i64 0 ∧ al = .bool true) ∨ (i = .int .i64 2 ∧ al = .bool false) ∨ (i = .int .i64 4 ∧ al = .bool false) ∨ (i = .int .i64 6 ∧ al = .bool false))) (fun _ i _ => 6 - (intOf i).toNat)
  case atStart => exact ⟨rfl, .inl ⟨rfl, rfl⟩⟩
  case round =>
    obtain ⟨hwr, hrel⟩ := hrel
    have hwr' := hwr.symm
    subst hwr'
    clear hwr
    rcases hrel with ⟨rfl, rfl⟩ | ⟨rfl, rfl⟩ | ⟨rfl, rfl⟩ | ⟨rfl, rfl⟩
    · go_wp2
      go_roundw
      case rel => exact ⟨trivial, .inr (.inl ⟨rfl, rfl⟩)⟩
      case measure => simp [intOf]
    · go_wp2
      go_roundw
      case rel => exact ⟨trivial, .inr (.inr (.inl ⟨rfl, rfl⟩))⟩
      case measure => simp [intOf]
    · go_wp2
      go_roundw
      case rel => exact ⟨trivial, .inr (.inr (.inr ⟨rfl, rfl⟩))⟩
      case measure => simp [intOf]
    · have hz : ∀ cs : Array Value, Hid (((w.alloc (.cells #[.string ⟨#[]⟩, .string ⟨#[]⟩, .string ⟨#[]⟩] 9)).alloc (.cells cs 217)).heap[w.heap.size + 1]? = some (.cells cs 217 (0, 0))) := fun cs => Go.heap_alloc2_new _ _ _
      go_wp2_with (refine wpList_store_row rfl 217 _ _ rfl (w.heap.size + 1) _ rfl rfl 217 _ (hz _).out (by kernel_rfl) (by kernel_rfl) (by kernel_rfl) ?_)
      obtain ⟨i0, hi, hz0, hz1, hz2⟩ := info_parts infoText
      go_loopw [12, 13, 14] (fun i o n w2 => Hid (Below w.heap.size w w2) ∧ ((i = .int .i64 4 ∧ Hid (BSt (w.heap.size + 1) w.heap.size [] w2)) ∨ (i = .int .i64 2 ∧ Hid (BSt (w.heap.size + 1) w.heap.size [13] w2)) ∨ (i = .int .i64 0 ∧ Hid (BSt (w.heap.size + 1) w.heap.size [13, 10] w2)) ∨ (i = .int .i64 (-2) ∧ Hid (BSt (w.heap.size + 1) w.heap.size [13, 10, 9] w2)))) (fun i _ _ _ => (intOf i + 2).toNat)
      case atStart =>
        refine ⟨row_below (b_alloc (b_alloc (Below.refl _ _) _) _) (Nat.le_succ _) _, .inl ⟨rfl, ?_⟩⟩
        refine ⟨_, _, setRow_heap _ _ _ _ _ _ (hz _).out, ?_, ?_, ((World.ownsRow_made w #[.string ⟨#[]⟩, .string ⟨#[]⟩, .string ⟨#[]⟩] 3 (Nat.le_refl _) (by unfold maxLen; omega) rfl).alloc _).kept (grown_setRow _ _ _) (.inr ?_), fun c => ⟨none, 0, ?_, by simp, fun _ => rfl⟩⟩
        · have := zero257_size
          simp [this]
        · have := zero257_size
          simp [this]
        · simp [Value.ownBlock]
        · have hc := c.toNat_lt
          have h := zero257_at c
          rw [Array.getElem?_toList] at h
          rw [Array.getElem?_setIfInBounds, if_neg (by omega)]
          exact h
      case round =>
        obtain ⟨hbel, hrel⟩ := hrel
        rcases hrel with ⟨rfl, hB⟩ | ⟨rfl, hB⟩ | ⟨rfl, hB⟩ | ⟨rfl, hB⟩
        · have d4 := cell_b hbel.out c4
          have d5 := cell_b hbel.out c5
          obtain ⟨cs, v, hg, hsz, hv, hown, hcs⟩ := hB.out
          obtain ⟨va, vc2, rfl⟩ := own_form hown
          obtain ⟨a1, k1, hco, hna, hk⟩ := hcs 13
          obtain rfl : a1 = none := hna.2 (by decide)
          obtain rfl : k1 = 0 := hk rfl
          have e1 : wr.cell? ⟨w.heap.size + 1, 13, none⟩ = some (.slice none 0 0) := by rw [Lib.cell_of_heap hg]; exact hco
          have e2 : wr.cell? ⟨w.heap.size + 1, 256, none⟩ = some (.slice va 0 vc2) := by rw [Lib.cell_of_heap hg]; exact hv
          have HG := Lib.hid hg
          have HO := Lib.hid hown
          have HCS := Lib.hid hcs
          clear hg hown hcs hco hna hk hv
          have hnil : ∀ W : World, (binOp .eql 90 (.slice none 0 0) (.slice none 0 0)).run Tryz.prog W = .ok (.bool true) W := fun _ => rfl
          have hcv : ∀ W : World, (convert 90 9 (.slice (some ⟨W.heap.size, 0, none⟩) 1 1)).run Tryz.prog (W.alloc (.cells #[.int .u8 13] 5)) = .ok (.string (mkS [13])) (W.alloc (.cells #[.int .u8 13] 5)) := fun W => run_bytes_str _ 90 9 5 Tryz.underlying90 Tryz.underlying5 Tryz.underlying9 W.heap.size 1 [13] (fun j hj => by
            obtain rfl : j = 0 := by simp at hj; omega
            rw [Lib.cell_of_heap (Go.heap_alloc_new W _)]
            rfl)
          have g13 : ∀ h : 0 < (⟨#[13]⟩ : ByteArray).size, (⟨#[13]⟩ : ByteArray)[0]'h = 13 := fun _ => rfl
          have hcn : ∀ j u, [Value.string (mkS [13])][j]? = some u → ((wr.alloc (.cells #[.int .u8 13] 5)).alloc (.cells #[.string (mkS [13])] 9)).cell? ((⟨wr.heap.size + 1, 0, none⟩ : Addr).add j) = some u := fun j u hj => by
            have := cell_one_new (wr.alloc (.cells #[.int .u8 13] 5)) (.string (mkS [13])) 9 j u hj
            rwa [World.size_alloc] at this
          have HCN := Lib.hid hcn
          clear hcn
          go_wp2_with (at_builtin; refine wpList_append_own_at _ rfl _ _ 25 rfl w.heap.size 9 i0 (.string ⟨#[]⟩) 1 16 Tryz.underlying25 hi hz0 hz1 hz2 rfl (by decide) _ _ _ rfl (own_alloc (own_alloc HO.out _) _) ⟨wr.heap.size + 1, 0, none⟩ 1 1 [.string (mkS [13])] rfl rfl HCN.out ?c2 ?c3 ?c4 ?c5 ?_)
          case c2 => intro u hu; simp at hu; subst hu; rfl
          case c3 => simp [maxLen]
          case c4 => simp
          case c5 => have := hbel.out.size; simp; omega
          intro v' w3 hown' hgrow _ hat
          obtain ⟨ua, uc, rfl⟩ := own_form hown'
          have hne := own_ne HO.out HG.out (by decide)
          have hg3 : w3.heap[w.heap.size + 1]? = some (.cells cs 217 (0, 0)) :=
            (hgrow.block _ (by have := h_lt HG.out; simp; omega) hne).trans (obj_b (b_alloc (b_alloc (Below.refl _ _) _) _) HG.out)
          have e3 : w3.cell? ⟨w.heap.size + 1, 256, none⟩ = some (.slice va 0 vc2) := by
            rw [Lib.cell_of_heap hg3, ← Lib.cell_of_heap HG.out]
            exact e2
          have f3 : ∀ k, w3.frozen? ⟨w.heap.size + 1, k, none⟩ = false := fun k => by simp [World.frozen?, hg3]
          have hb3 : Below w.heap.size w w3 := (b_alloc (b_alloc hbel.out _) _).grown hgrow (by have := hbel.out.size; simp; omega) (fun k hk => (HO.out.lt k hk).1)
          obtain ⟨W5, kc, hb5, hconv⟩ : ∃ W5 kc, Below (w3.setCell ⟨w.heap.size + 1, 256, none⟩ (.slice ua 1 uc)).heap.size (w3.setCell ⟨w.heap.size + 1, 256, none⟩ (.slice ua 1 uc)) W5 ∧ (convert 9 90 (.string ⟨#[]⟩)).run Tryz.prog (w3.setCell ⟨w.heap.size + 1, 256, none⟩ (.slice ua 1 uc)) = .ok (.slice (some ⟨(w3.setCell ⟨w.heap.size + 1, 256, none⟩ (.slice ua 1 uc)).heap.size, 0, none⟩) 0 kc) W5 :=
            ⟨_, _, b_alloc (b_drew (Below.refl _ _)) _, run_bytes_of_string _ 9 90 5 ⟨#[]⟩ Tryz.underlying9 Tryz.underlying90 Tryz.underlying5⟩
          have h4 := blk_setCell (i := 256) hg3 (.slice ua 1 uc)
          have h5 := obj_b hb5 h4
          have e5 : W5.cell? ⟨w.heap.size + 1, 13, none⟩ = some (.slice none 0 0) := by
            rw [Lib.cell_of_heap h5, Array.getElem?_setIfInBounds, if_neg (by decide), ← Lib.cell_of_heap HG.out]
            exact e1
          have f5 : ∀ k, W5.frozen? ⟨w.heap.size + 1, k, none⟩ = false := fun k => by simp [World.frozen?, h5]
          have hstep := BSt.step (ds := []) (o := 13) hg3 hsz hown' HCS.out hb5 ⟨(w3.setCell ⟨w.heap.size + 1, 256, none⟩ (.slice ua 1 uc)).heap.size, 0, none⟩ kc
          have hbel2 : Below w.heap.size w (W5.setCell ⟨w.heap.size + 1, 13, none⟩ (.slice (some ⟨(w3.setCell ⟨w.heap.size + 1, 256, none⟩ (.slice ua 1 uc)).heap.size, 0, none⟩) 0 kc)) := b_set (b_then (b_set hb3 _ (Nat.le_succ _) _) hb5) _ (Nat.le_succ _) _
          simp only [World.size_setCell] at hstep hbel2
          have HST := Lib.hid hstep
          have HBE := Lib.hid hbel2
          clear hgrow hown' hat hne hstep hbel2 hb3 hb5 h4 h5 hg3
          go_wp2
          exact ⟨⟨HBE, .inr (.inl ⟨rfl, HST⟩)⟩, by simp [intOf]⟩
        · have d4 := cell_b hbel.out c2
          have d5 := cell_b hbel.out c3
          obtain ⟨cs, v, hg, hsz, hv, hown, hcs⟩ := hB.out
          obtain ⟨va, vc2, rfl⟩ := own_form hown
          obtain ⟨a1, k1, hco, hna, hk⟩ := hcs 10
          obtain rfl : a1 = none := hna.2 (by decide)
          obtain rfl : k1 = 0 := hk rfl
          have e1 : wr.cell? ⟨w.heap.size + 1, 10, none⟩ = some (.slice none 0 0) := by rw [Lib.cell_of_heap hg]; exact hco
          have e2 : wr.cell? ⟨w.heap.size + 1, 256, none⟩ = some (.slice va 1 vc2) := by rw [Lib.cell_of_heap hg]; exact hv
          have HG := Lib.hid hg
          have HO := Lib.hid hown
          have HCS := Lib.hid hcs
          clear hg hown hcs hco hna hk hv
          have hnil : ∀ W : World, (binOp .eql 90 (.slice none 0 0) (.slice none 0 0)).run Tryz.prog W = .ok (.bool true) W := fun _ => rfl
          have hcv : ∀ W : World, (convert 90 9 (.slice (some ⟨W.heap.size, 0, none⟩) 1 1)).run Tryz.prog (W.alloc (.cells #[.int .u8 10] 5)) = .ok (.string (mkS [10])) (W.alloc (.cells #[.int .u8 10] 5)) := fun W => run_bytes_str _ 90 9 5 Tryz.underlying90 Tryz.underlying5 Tryz.underlying9 W.heap.size 1 [10] (fun j hj => by
            obtain rfl : j = 0 := by simp at hj; omega
            rw [Lib.cell_of_heap (Go.heap_alloc_new W _)]
            rfl)
          have g10 : ∀ h : 0 < (⟨#[10]⟩ : ByteArray).size, (⟨#[10]⟩ : ByteArray)[0]'h = 10 := fun _ => rfl
          have hcn : ∀ j u, [Value.string (mkS [10])][j]? = some u → ((wr.alloc (.cells #[.int .u8 10] 5)).alloc (.cells #[.string (mkS [10])] 9)).cell? ((⟨wr.heap.size + 1, 0, none⟩ : Addr).add j) = some u := fun j u hj => by
            have := cell_one_new (wr.alloc (.cells #[.int .u8 10] 5)) (.string (mkS [10])) 9 j u hj
            rwa [World.size_alloc] at this
          have HCN := Lib.hid hcn
          clear hcn
          go_wp2_with (at_builtin; refine wpList_append_own_at _ rfl _ _ 25 rfl w.heap.size 9 i0 (.string ⟨#[]⟩) 1 16 Tryz.underlying25 hi hz0 hz1 hz2 rfl (by decide) _ _ _ rfl (own_alloc (own_alloc HO.out _) _) ⟨wr.heap.size + 1, 0, none⟩ 1 1 [.string (mkS [10])] rfl rfl HCN.out ?c2 ?c3 ?c4 ?c5 ?_)
          case c2 => intro u hu; simp at hu; subst hu; rfl
          case c3 => simp [maxLen]
          case c4 => simp
          case c5 => have := hbel.out.size; simp; omega
          intro v' w3 hown' hgrow _ hat
          obtain ⟨ua, uc, rfl⟩ := own_form hown'
          have hne := own_ne HO.out HG.out (by decide)
          have hg3 : w3.heap[w.heap.size + 1]? = some (.cells cs 217 (0, 0)) :=
            (hgrow.block _ (by have := h_lt HG.out; simp; omega) hne).trans (obj_b (b_alloc (b_alloc (Below.refl _ _) _) _) HG.out)
          have e3 : w3.cell? ⟨w.heap.size + 1, 256, none⟩ = some (.slice va 1 vc2) := by
            rw [Lib.cell_of_heap hg3, ← Lib.cell_of_heap HG.out]
            exact e2
          have f3 : ∀ k, w3.frozen? ⟨w.heap.size + 1, k, none⟩ = false := fun k => by simp [World.frozen?, hg3]
          have hb3 : Below w.heap.size w w3 := (b_alloc (b_alloc hbel.out _) _).grown hgrow (by have := hbel.out.size; simp; omega) (fun k hk => (HO.out.lt k hk).1)
          obtain ⟨W5, kc, hb5, hconv⟩ : ∃ W5 kc, Below (w3.setCell ⟨w.heap.size + 1, 256, none⟩ (.slice ua 2 uc)).heap.size (w3.setCell ⟨w.heap.size + 1, 256, none⟩ (.slice ua 2 uc)) W5 ∧ (convert 9 90 (.string ⟨#[]⟩)).run Tryz.prog (w3.setCell ⟨w.heap.size + 1, 256, none⟩ (.slice ua 2 uc)) = .ok (.slice (some ⟨(w3.setCell ⟨w.heap.size + 1, 256, none⟩ (.slice ua 2 uc)).heap.size, 0, none⟩) 0 kc) W5 :=
            ⟨_, _, b_alloc (b_drew (Below.refl _ _)) _, run_bytes_of_string _ 9 90 5 ⟨#[]⟩ Tryz.underlying9 Tryz.underlying90 Tryz.underlying5⟩
          have h4 := blk_setCell (i := 256) hg3 (.slice ua 2 uc)
          have h5 := obj_b hb5 h4
          have e5 : W5.cell? ⟨w.heap.size + 1, 10, none⟩ = some (.slice none 0 0) := by
            rw [Lib.cell_of_heap h5, Array.getElem?_setIfInBounds, if_neg (by decide), ← Lib.cell_of_heap HG.out]
            exact e1
          have f5 : ∀ k, W5.frozen? ⟨w.heap.size + 1, k, none⟩ = false := fun k => by simp [World.frozen?, h5]
          have hstep := BSt.step (ds := [13]) (o := 10) hg3 hsz hown' HCS.out hb5 ⟨(w3.setCell ⟨w.heap.size + 1, 256, none⟩ (.slice ua 2 uc)).heap.size, 0, none⟩ kc
          have hbel2 : Below w.heap.size w (W5.setCell ⟨w.heap.size + 1, 10, none⟩ (.slice (some ⟨(w3.setCell ⟨w.heap.size + 1, 256, none⟩ (.slice ua 2 uc)).heap.size, 0, none⟩) 0 kc)) := b_set (b_then (b_set hb3 _ (Nat.le_succ _) _) hb5) _ (Nat.le_succ _) _
          simp only [World.size_setCell] at hstep hbel2
          have HST := Lib.hid hstep
          have HBE := Lib.hid hbel2
          clear hgrow hown' hat hne hstep hbel2 hb3 hb5 h4 h5 hg3
          go_wp2
          exact ⟨⟨HBE, .inr (.inr (.inl ⟨rfl, HST⟩))⟩, by simp [intOf]⟩
        · have d4 := cell_b hbel.out c0
          have d5 := cell_b hbel.out c1
          obtain ⟨cs, v, hg, hsz, hv, hown, hcs⟩ := hB.out
          obtain ⟨va, vc2, rfl⟩ := own_form hown
          obtain ⟨a1, k1, hco, hna, hk⟩ := hcs 9
          obtain rfl : a1 = none := hna.2 (by decide)
          obtain rfl : k1 = 0 := hk rfl
          have e1 : wr.cell? ⟨w.heap.size + 1, 9, none⟩ = some (.slice none 0 0) := by rw [Lib.cell_of_heap hg]; exact hco
          have e2 : wr.cell? ⟨w.heap.size + 1, 256, none⟩ = some (.slice va 2 vc2) := by rw [Lib.cell_of_heap hg]; exact hv
          have HG := Lib.hid hg
          have HO := Lib.hid hown
          have HCS := Lib.hid hcs
          clear hg hown hcs hco hna hk hv
          have hnil : ∀ W : World, (binOp .eql 90 (.slice none 0 0) (.slice none 0 0)).run Tryz.prog W = .ok (.bool true) W := fun _ => rfl
          have hcv : ∀ W : World, (convert 90 9 (.slice (some ⟨W.heap.size, 0, none⟩) 1 1)).run Tryz.prog (W.alloc (.cells #[.int .u8 9] 5)) = .ok (.string (mkS [9])) (W.alloc (.cells #[.int .u8 9] 5)) := fun W => run_bytes_str _ 90 9 5 Tryz.underlying90 Tryz.underlying5 Tryz.underlying9 W.heap.size 1 [9] (fun j hj => by
            obtain rfl : j = 0 := by simp at hj; omega
            rw [Lib.cell_of_heap (Go.heap_alloc_new W _)]
            rfl)
          have g9 : ∀ h : 0 < (⟨#[9]⟩ : ByteArray).size, (⟨#[9]⟩ : ByteArray)[0]'h = 9 := fun _ => rfl
          have hcn : ∀ j u, [Value.string (mkS [9])][j]? = some u → ((wr.alloc (.cells #[.int .u8 9] 5)).alloc (.cells #[.string (mkS [9])] 9)).cell? ((⟨wr.heap.size + 1, 0, none⟩ : Addr).add j) = some u := fun j u hj => by
            have := cell_one_new (wr.alloc (.cells #[.int .u8 9] 5)) (.string (mkS [9])) 9 j u hj
            rwa [World.size_alloc] at this
          have HCN := Lib.hid hcn
          clear hcn
          go_wp2_with (at_builtin; refine wpList_append_own_at _ rfl _ _ 25 rfl w.heap.size 9 i0 (.string ⟨#[]⟩) 1 16 Tryz.underlying25 hi hz0 hz1 hz2 rfl (by decide) _ _ _ rfl (own_alloc (own_alloc HO.out _) _) ⟨wr.heap.size + 1, 0, none⟩ 1 1 [.string (mkS [9])] rfl rfl HCN.out ?c2 ?c3 ?c4 ?c5 ?_)
          case c2 => intro u hu; simp at hu; subst hu; rfl
          case c3 => simp [maxLen]
          case c4 => simp
          case c5 => have := hbel.out.size; simp; omega
          intro v' w3 hown' hgrow _ hat
          obtain ⟨ua, uc, rfl⟩ := own_form hown'
          have hne := own_ne HO.out HG.out (by decide)
          have hg3 : w3.heap[w.heap.size + 1]? = some (.cells cs 217 (0, 0)) :=
            (hgrow.block _ (by have := h_lt HG.out; simp; omega) hne).trans (obj_b (b_alloc (b_alloc (Below.refl _ _) _) _) HG.out)
          have e3 : w3.cell? ⟨w.heap.size + 1, 256, none⟩ = some (.slice va 2 vc2) := by
            rw [Lib.cell_of_heap hg3, ← Lib.cell_of_heap HG.out]
            exact e2
          have f3 : ∀ k, w3.frozen? ⟨w.heap.size + 1, k, none⟩ = false := fun k => by simp [World.frozen?, hg3]
          have hb3 : Below w.heap.size w w3 := (b_alloc (b_alloc hbel.out _) _).grown hgrow (by have := hbel.out.size; simp; omega) (fun k hk => (HO.out.lt k hk).1)
          obtain ⟨W5, kc, hb5, hconv⟩ : ∃ W5 kc, Below (w3.setCell ⟨w.heap.size + 1, 256, none⟩ (.slice ua 3 uc)).heap.size (w3.setCell ⟨w.heap.size + 1, 256, none⟩ (.slice ua 3 uc)) W5 ∧ (convert 9 90 (.string ⟨#[]⟩)).run Tryz.prog (w3.setCell ⟨w.heap.size + 1, 256, none⟩ (.slice ua 3 uc)) = .ok (.slice (some ⟨(w3.setCell ⟨w.heap.size + 1, 256, none⟩ (.slice ua 3 uc)).heap.size, 0, none⟩) 0 kc) W5 :=
            ⟨_, _, b_alloc (b_drew (Below.refl _ _)) _, run_bytes_of_string _ 9 90 5 ⟨#[]⟩ Tryz.underlying9 Tryz.underlying90 Tryz.underlying5⟩
          have h4 := blk_setCell (i := 256) hg3 (.slice ua 3 uc)
          have h5 := obj_b hb5 h4
          have e5 : W5.cell? ⟨w.heap.size + 1, 9, none⟩ = some (.slice none 0 0) := by
            rw [Lib.cell_of_heap h5, Array.getElem?_setIfInBounds, if_neg (by decide), ← Lib.cell_of_heap HG.out]
            exact e1
          have f5 : ∀ k, W5.frozen? ⟨w.heap.size + 1, k, none⟩ = false := fun k => by simp [World.frozen?, h5]
          have hstep := BSt.step (ds := [13, 10]) (o := 9) hg3 hsz hown' HCS.out hb5 ⟨(w3.setCell ⟨w.heap.size + 1, 256, none⟩ (.slice ua 3 uc)).heap.size, 0, none⟩ kc
          have hbel2 : Below w.heap.size w (W5.setCell ⟨w.heap.size + 1, 9, none⟩ (.slice (some ⟨(w3.setCell ⟨w.heap.size + 1, 256, none⟩ (.slice ua 3 uc)).heap.size, 0, none⟩) 0 kc)) := b_set (b_then (b_set hb3 _ (Nat.le_succ _) _) hb5) _ (Nat.le_succ _) _
          simp only [World.size_setCell] at hstep hbel2
          have HST := Lib.hid hstep
          have HBE := Lib.hid hbel2
          clear hgrow hown' hat hne hstep hbel2 hb3 hb5 h4 h5 hg3
          go_wp2
          exact ⟨⟨HBE, .inr (.inr (.inr ⟨rfl, HST⟩))⟩, by simp [intOf]⟩
        · obtain ⟨cs, v, hg, hsz, hv, hown, hcs⟩ := hB.out
          clear hg hsz hv hown hcs
          go_wp2
          go_ret
          exact ⟨rfl, hB.out, hbel.out⟩
/-- What is laid into another block leaves it. -/
theorem BSt.other {g B b i : Nat} {ds : List UInt8} {W : World} {cs : Array Value} {t : TypeId} {fr : Nat × Nat} (h : BSt g B ds W) (hb : W.heap[b]? = some (.cells cs t fr)) (ht : t ≠ 9) (hne : g ≠ b) (u : Value) : BSt g B ds (W.setCell ⟨b, i, none⟩ u) := by
  obtain ⟨c, v, h1, h2, h3, h4, h5⟩ := h
  exact ⟨c, v, (Below.heap_setCell _ _ _ g hne).trans h1, h2, h3, h4.kept (grown_setCell W ⟨b, i, none⟩ u) (.inr (own_ne h4 hb ht).symm), h5⟩
theorem BSt.below {g B : Nat} {ds : List UInt8} {W W' : World} (h : BSt g B ds W) (hb : Below W.heap.size W W') : BSt g B ds W' := by
  obtain ⟨c, v, h1, h2, h3, h4, h5⟩ := h
  exact ⟨c, v, obj_b hb h1, h2, h3, own_keep h4 hb, h5⟩
set_option maxRecDepth 100000 in
set_option maxHeartbeats 1000000 in
theorem BuildOnce_c (b h vc : Nat) (w : World) (hb : w.heap[b]? = some (.cells #[.int .u32 0, .int .i32 1, .int .u32 0, .nilIface, .slice (some ⟨h, 0, none⟩) 6 vc] 162 (0, 0)))
    (hs : ∀ j u, six6[j]? = some u → w.cell? ⟨h, j, none⟩ = some u) :
    Calls Tryz.prog 122 #[.pointer (some ⟨b, 0, none⟩)] w fun e w' => e = .returned (.tuple #[]) ∧ w'.heap[b]? = some (.cells #[.int .u32 0, .int .i32 1, .int .u32 0, .iface 218 (.pointer (some ⟨w.heap.size + 1, 0, none⟩)), .slice none 0 0] 162 (0, 0)) ∧
      BSt (w.heap.size + 1) w.heap.size [13, 10, 9] w' ∧ ∀ B, B ≤ b → Below B w w' := by
  have hh : h < w.heap.size := cell_lt (hs 0 _ rfl)
  have hlt := h_lt hb
  have HBU := Lib.hid (Build_c b h vc w (by rw [Lib.cell_of_heap hb]; rfl) (hs 0 _ rfl) (hs 1 _ rfl) (hs 2 _ rfl) (hs 3 _ rfl) (hs 4 _ rfl) (hs 5 _ rfl) hh)
  have HB := Lib.hid hb
  clear hb hs hh
  go_enter Tryz.func122, Tryz.ntmps122
  go_wp2_with fail
  refine HBU.out.mono ?_
  rintro e w1 ⟨rfl, hst, hbel⟩
  have h1 := obj_b hbel HB.out
  have h2 := blk_setCell (i := 3) h1 (.iface 218 (.pointer (some ⟨w.heap.size + 1, 0, none⟩)))
  have h3 := blk_setCell (i := 4) h2 (.slice none 0 0)
  have s1 := hst.other (i := 3) h1 (by decide) (by omega) (.iface 218 (.pointer (some ⟨w.heap.size + 1, 0, none⟩)))
  have s2 := s1.other (i := 4) h2 (by decide) (by omega) (.slice none 0 0)
  have c3 : w1.cell? ⟨b, 3, none⟩ = some .nilIface := by rw [Lib.cell_of_heap h1]; rfl
  have c4 : w1.cell? ⟨b, 4, none⟩ = some (.slice (some ⟨h, 0, none⟩) 6 vc) := by rw [Lib.cell_of_heap h1]; rfl
  have f1 : ∀ k, w1.frozen? ⟨b, k, none⟩ = false := fun k => by simp [World.frozen?, h1]
  have H3 := Lib.hid h3
  have S2 := Lib.hid s2
  have HBE := Lib.hid hbel
  clear hst hbel h1 h2 h3 s1 s2
  go_wp2
  go_end0
  refine ⟨rfl, H3.out, S2.out, fun B hB => ?_⟩
  exact ((HBE.out.mono (by omega)).setCell (p := ⟨b, 3, none⟩) hB _).setCell (p := ⟨b, 4, none⟩) hB _
end Go.Proofs.YtppbkblnjlbnfaaGreatDoor
