import Derived.Test.YtppbkblnjlbnfaaGreatDoorP11
/-! Contracts: strings.NewReplacer (of six texts), a Replacer's Replace, ascii.Clean. -/
set_option linter.unusedVariables false
set_option linter.unusedSimpArgs false
namespace Go.Proofs.YtppbkblnjlbnfaaGreatDoor
open Go.RowKit
theorem six6_at (b : Nat) (w : World) (hb : w.heap[b]? = some (.cells six6.toArray 9 (0, 0))) : ∀ j u, six6[j]? = some u → w.cell? ((⟨b, 0, none⟩ : Addr).add j) = some u := by
  intro j u hj
  have e : (⟨b, 0, none⟩ : Addr).add j = ⟨b, j, none⟩ := by unfold Addr.add; split <;> simp_all
  rw [e, Lib.cell_of_heap hb, List.getElem?_toArray]
  exact hj
set_option maxRecDepth 100000 in
set_option maxHeartbeats 1000000 in
theorem NewRep_c (b : Nat) (w : World) (hb : w.heap[b]? = some (.cells six6.toArray 9 (0, 0))) : Calls Tryz.prog 95 #[.slice (some ⟨b, 0, none⟩) 6 6] w fun e w' => ∃ h vc W, e = .returned (.pointer (some ⟨W.heap.size, 0, none⟩)) ∧ w' = W.alloc (.cells #[.int .u32 0, .int .i32 0, .int .u32 0, .nilIface, .slice (some ⟨h, 0, none⟩) 6 vc] 162) ∧ Below w.heap.size w W ∧ ∀ j u, six6[j]? = some u → W.cell? ⟨h, j, none⟩ = some u := by
  obtain ⟨i0, hi, hz0, hz1, hz2⟩ := info_parts infoText
  have HB := Lib.hid hb
  clear hb
  go_enter Tryz.func95, Tryz.ntmps95
  go_wp2_with (at_builtin; refine wpList_append_own_at _ rfl _ _ 25 rfl w.heap.size 9 i0 (.string ⟨#[]⟩) 1 16 Tryz.underlying25 hi hz0 hz1 hz2 rfl (by decide) _ _ _ rfl (World.ownsRow_nil _ _ _ _) ⟨b, 0, none⟩ 6 6 six6 rfl rfl (six6_at b w HB.out) ?c2 ?c3 ?c4 ?c5 ?_)
  case c2 => intro u hu; simp [six6] at hu; rcases hu with rfl | rfl | rfl | rfl | rfl | rfl <;> rfl
  case c3 => unfold maxLen; omega
  case c4 => omega
  case c5 => exact Nat.le_refl _
  intro v' w3 hown' hgrow _ hat
  obtain ⟨gg, cap, cur, hva, hge, hgg, _, _, _, htk⟩ := hown'.2.resolve_left (fun e => by simp [six6] at e)
  subst hva
  have hlow : Below w.heap.size w w3 := (Below.refl _ _).grown hgrow (Nat.le_refl _) (fun k hk => by simp [Value.ownBlock] at hk)
  have hx : ∀ j u, six6[j]? = some u → w3.cell? ⟨gg, j, none⟩ = some u := fun j u hj => by
    rw [Lib.cell_of_heap hgg]
    rw [← htk, List.getElem?_take] at hj
    split at hj
    · simpa using hj
    · cases hj
  have HL := Lib.hid hlow
  have HX := Lib.hid hx
  clear hgrow hat hown' hgg htk hlow hx
  go_wp2
  go_ret
  exact ⟨gg, cap, w3, rfl, rfl, HL.out, HX.out⟩
set_option maxRecDepth 100000 in
set_option maxHeartbeats 1000000 in
theorem RepReplace_c (b h vc : Nat) (s : List UInt8) (hs : s.length ≤ 1000000) (w : World) (hb : w.heap[b]? = some (.cells #[.int .u32 0, .int .i32 0, .int .u32 0, .nilIface, .slice (some ⟨h, 0, none⟩) 6 vc] 162 (0, 0)))
    (hx : ∀ j u, six6[j]? = some u → w.cell? ⟨h, j, none⟩ = some u) :
    Calls Tryz.prog 96 #[.pointer (some ⟨b, 0, none⟩), .string (mkS s)] w fun e w' => e = .returned (.string (mkS (s.filter fun c => !PM.isEnd c))) ∧ ∀ B, B ≤ b → Below B w w' := by
  have hlt := h_lt hb
  have hne : h ≠ b := by
    rintro rfl
    have h1 := hx 0 _ rfl
    rw [Lib.cell_of_heap hb] at h1
    simp at h1
  have hl : (w.setCell ⟨b, 1, none⟩ (.int .i32 1)).heap[b]? = some (.cells #[.int .u32 0, .int .i32 1, .int .u32 0, .nilIface, .slice (some ⟨h, 0, none⟩) 6 vc] 162 (0, 0)) := setCell_heap hb 1 _
  have hxl : ∀ j u, six6[j]? = some u → (w.setCell ⟨b, 1, none⟩ (.int .i32 1)).cell? ⟨h, j, none⟩ = some u := fun j u hj => (World.cell?_setCell_other _ ⟨b, 1, none⟩ ⟨h, j, none⟩ _ (by simp [hne])).trans (hx j u hj)
  have hbu := BuildOnce_c b h vc _ hl hxl
  have hsz : (w.setCell ⟨b, 1, none⟩ (.int .i32 1)).heap.size = w.heap.size := World.size_setCell _ _ _
  rw [hsz] at hbu
  have hB1 : ∀ B, B ≤ b → Below B w (w.setCell ⟨b, 1, none⟩ (.int .i32 1)) := fun B hB => (Below.refl _ _).setCell (p := ⟨b, 1, none⟩) hB _
  have hdo := do_c b w (fun W => W.heap[b]? = some (.cells #[.int .u32 0, .int .i32 1, .int .u32 0, .iface 218 (.pointer (some ⟨w.heap.size + 1, 0, none⟩)), .slice none 0 0] 162 (0, 0)) ∧
      BSt (w.heap.size + 1) w.heap.size [13, 10, 9] W ∧ ∀ B, B ≤ b → Below B (w.setCell ⟨b, 1, none⟩ (.int .i32 1)) W)
    (by rw [Lib.cell_of_heap hb]; rfl) (by rw [Lib.cell_of_heap hb]; rfl) (Lib.frozen_of_heap hb 1) hbu
    (fun W hW => ⟨by rw [Lib.cell_of_heap hW.1]; rfl, by rw [Lib.cell_of_heap hW.1]; rfl, Lib.frozen_of_heap hW.1 0, Lib.frozen_of_heap hW.1 1⟩)
  have HDO := Lib.hid hdo
  have HB1 := Lib.hid hB1
  have HBR := Lib.hid (fun W hst => BRep_c (w.heap.size + 1) w.heap.size s hs W hst)
  clear hdo hbu hxl hl hx hb hB1
  go_enter Tryz.func96, Tryz.ntmps96
  go_wp2_with fail
  refine HDO.out.mono ?_
  rintro e w1 ⟨rfl, W, ⟨q1, q2, q3⟩, hw1⟩
  have r1 : w1.heap[b]? = some (.cells #[.int .u32 1, .int .i32 0, .int .u32 0, .iface 218 (.pointer (some ⟨w.heap.size + 1, 0, none⟩)), .slice none 0 0] 162 (0, 0)) := by
    rw [hw1]
    exact setCell_heap (setCell_heap q1 0 _) 1 _
  have r2 : BSt (w.heap.size + 1) w.heap.size [13, 10, 9] w1 := by
    rw [hw1]
    have s0 := q2.below (b_drew (Below.refl _ _))
    exact (s0.other (i := 0) q1 (by decide) (by omega) _).other (i := 1) (setCell_heap q1 0 _) (by decide) (by omega) _
  have r3 : ∀ B, B ≤ b → Below B w w1 := fun B hB => by
    rw [hw1]
    have := (HB1.out B hB).trans (q3 B hB)
    exact ((show Below B w W.drew from ⟨this.os, this.tape, this.output, this.size, this.block⟩).setCell (p := ⟨b, 0, none⟩) hB _).setCell (p := ⟨b, 1, none⟩) hB _
  have c3 : w1.cell? ⟨b, 3, none⟩ = some (.iface 218 (.pointer (some ⟨w.heap.size + 1, 0, none⟩))) := by rw [Lib.cell_of_heap r1]; rfl
  have R2 := Lib.hid r2
  have R3 := Lib.hid r3
  clear r1 r2 r3 q1 q2 q3 hw1
  go_wp2_with (first
    | (go_at_call 257; refine (HBR.out _ R2.out).mono ?_; rintro e w2 ⟨rfl, hb2⟩))
  go_ret
  exact ⟨rfl, fun B hB => (R3.out B hB).trans (hb2.mono (by have := (R3.out B hB).size; omega))⟩
theorem tabs_below {w W : World} (h : Lib.Utf8Tabs 2 3 w) (hb : Below w.heap.size w W) : Lib.Utf8Tabs 2 3 W :=
  ⟨fun c hc => cell_b hb (h.1 c hc), fun i hi => ⟨cell_b hb (h.2 i hi).1, cell_b hb (h.2 i hi).2⟩⟩
set_option maxHeartbeats 1000000 in
theorem Clean_c (s : List UInt8) (hs : s.length ≤ 1000000) (w : World) (hT : Lib.Utf8Tabs 2 3 w) : Calls Tryz.prog 70 #[.string (mkS s)] w fun e w' => e = .returned (.string (mkS (PM.clean s))) ∧ Below w.heap.size w w' := by
  have htl : (PM.trim s).length ≤ 1000000 := by
    have h1 : (PM.trim s).length ≤ s.length := by
      unfold PM.trim
      rw [List.length_reverse]
      refine Nat.le_trans (List.dropWhile_sublist _).length_le ?_
      rw [List.length_reverse]
      exact (List.dropWhile_sublist _).length_le
    omega
  have HN := Lib.hid (NewRep_c w.heap.size _ (show (w.alloc (.cells six6.toArray 9)).heap[w.heap.size]? = _ from Go.heap_alloc_new w _))
  have hb0 := Lib.hid (b_alloc (Below.refl w.heap.size w) (.cells six6.toArray 9))
  have HT := Lib.hid hT
  clear hT
  go_enter Tryz.func70, Tryz.ntmps70
  go_wp2_with fail
  refine HN.out.mono ?_
  rintro e w1 ⟨h, vc, W, rfl, hw1, hb1, hx⟩
  have hW := b_then hb0.out hb1
  have h1 : Hid (w1.heap[W.heap.size]? = some (.cells #[.int .u32 0, .int .i32 0, .int .u32 0, .nilIface, .slice (some ⟨h, 0, none⟩) 6 vc] 162 (0, 0))) := Lib.hid (by rw [hw1]; exact Go.heap_alloc_new W _)
  have h2 := Lib.hid (show ∀ j u, six6[j]? = some u → w1.cell? ⟨h, j, none⟩ = some u from fun j u hj => by
    rw [hw1]
    exact cell_b (b_alloc (Below.refl _ _) _) (hx j u hj))
  have h3 := Lib.hid (show Below w.heap.size w w1 from by rw [hw1]; exact b_alloc hW _)
  have hWs : w.heap.size ≤ W.heap.size := hW.size
  clear hw1 hb1 hx hW
  go_wp2_with fail
  refine (Trim_c s (by omega) w1 (tabs_below HT.out h3.out)).mono ?_
  rintro e w2 ⟨rfl, hb2⟩
  replace h1 := Lib.hid (obj_b hb2 h1.out)
  replace h2 := Lib.hid (fun j u hj => cell_b hb2 (h2.out j u hj))
  replace h3 := Lib.hid (b_then h3.out hb2)
  go_wp2_with fail
  refine (RepReplace_c W.heap.size h vc (PM.trim s) htl w2 h1.out h2.out).mono ?_
  rintro e w3 ⟨rfl, hb3⟩
  go_wp2_with fail
  go_ret
  exact ⟨rfl, h3.out.trans (hb3 _ hWs)⟩
end Go.Proofs.YtppbkblnjlbnfaaGreatDoor
