import Derived.Test.YtgegnnojobmdcaaGreatDoorC24
/-! Contract: postmarklaw10.awake. -/
set_option linter.unusedVariables false
namespace Go.Proofs.YtgegnnojobmdcaaGreatDoor
open Go.RowKit
/-- A whole address is loaded, guarded or not. -/
theorem wpList_load_g {P : Program} {ops : Array Oper} {rest : List Oper} {o : Oper} {a : Act} {w : World} {Q : Exit → Act → World → Prop} (ty : TypeId) (x : Operand) (ho : o.op = .load ty x) (hw : Region.wanted o (yielded ops a.tmps) = true)
    (g : Nat) (hx : a.eval x = .pointer (some ⟨g, 0, none⟩)) {t : TypeId} {cs : Array Value} {fr : Nat × Nat} {d : TypeDesc} (hg : w.heap[g]? = some (.cells cs t fr))
    (hu : P.underlying ty = some d) (hd : (match d with | .struct _ | .array _ _ => true | _ => false) = true) (hi : (P.info? ty).map (·.size) = some cs.size)
    (h : wpList P ops Q rest (a.put o.dst (.agg cs)) w) : wpList P ops Q (o :: rest) a w :=
  wpList_step fun _ hK => by
    rw [if_pos hw]
    exact wp_load_row ty x ho g hx _ cs _ _ hg hu hd hi (hK _ _ h)
@[go_sem] theorem field_hf (a0 a1 a2 a3 a4 a5 a6 a7 a8 a9 a10 a11 a12 a13 a14 a15 a16 a17 a18 a19 : Value) (q : Bool) (W : World) : (Instr.field 27 (.agg #[a0, a1, a2, a3, a4, a5, a6, a7, a8, a9, a10, a11, a12, a13, a14, a15, a16, a17, a18, a19, .bool q]) 10).run Tryz.prog W = .ok (.bool q) W := by kernel_rfl
def aw (b : Nat) : UV := ⟨PM.http, [117], [], 1, [97, 46, 111, 114, 103], 0, 0, 0, 0, 0, 0, 0, 0, 0, 8080, some ⟨b, 0, none⟩, 2, 2, [[97], []], [], [120], [], true, false⟩
def fr0 : UV := ⟨[], [], [], 0, [], 0, 0, 0, 0, 0, 0, 0, 0, 0, 0, none, 0, 0, [], [], [], [], false, true⟩
@[go_sem] theorem bd_aw (a b c d : ByteArray) (h : Array Value) (k : Int) (p : Option Addr) (n m : Nat) (q : Bool) (h0 : Int) (h1 : ByteArray) (h2 h3 h4 h5 h6 h7 h8 h9 h10 : Int) (w : World) : (Instr.build 27 #[(0, .string a), (3, .agg #[.int .i64 h0, .string h1, .int .i64 h2, .int .i64 h3, .int .i64 h4, .int .i64 h5, .int .i64 h6, .int .i64 h7, .int .i64 h8, .int .i64 h9, .int .i64 h10]), (4, .int .i64 k), (5, .slice p n m), (9, .bool q), (7, .string b), (1, .string c)]).run Tryz.prog w = .ok (.agg #[.string a, .string c, .string ⟨#[]⟩, .int .i64 h0, .string h1, .int .i64 h2, .int .i64 h3, .int .i64 h4, .int .i64 h5, .int .i64 h6, .int .i64 h7, .int .i64 h8, .int .i64 h9, .int .i64 h10, .int .i64 k, .slice p n m, .string ⟨#[]⟩, .string b, .string ⟨#[]⟩, .bool q, .bool false]) w := run_build w 27 _ _ (by kernel_rfl)
@[go_sem] theorem bd_fr (q : Bool) (w : World) : (Instr.build 27 #[(10, .bool q)]).run Tryz.prog w = .ok (.agg #[.string ⟨#[]⟩, .string ⟨#[]⟩, .string ⟨#[]⟩, .int .i64 0, .string ⟨#[]⟩, .int .i64 0, .int .i64 0, .int .i64 0, .int .i64 0, .int .i64 0, .int .i64 0, .int .i64 0, .int .i64 0, .int .i64 0, .int .i64 0, .slice none 0 0, .string ⟨#[]⟩, .string ⟨#[]⟩, .string ⟨#[]⟩, .bool false, .bool q]) w := run_build w 27 _ _ (by kernel_rfl)
theorem aw1 (b : Nat) : PM.showUrl (PM.open_ (aw b).pm) = [104, 116, 116, 112, 58, 47, 47, 97, 46, 111, 114, 103, 58, 56, 48, 56, 48, 47, 97, 47, 63, 120] := by
  show PM.showUrl (PM.open_ ⟨PM.http, [117], [], ⟨1, [97, 46, 111, 114, 103], 0, [0, 0, 0, 0, 0, 0, 0, 0]⟩, 8080, [[97], []], [], [120], [], true, false⟩) = _
  kernel_rfl
theorem aw2 (b : Nat) : PM.showUrl (aw b).pm = [104, 116, 116, 112, 58, 47, 47, 117, 64, 97, 46, 111, 114, 103, 58, 56, 48, 56, 48, 47, 97, 47, 63, 120] := by
  show PM.showUrl ⟨PM.http, [117], [], ⟨1, [97, 46, 111, 114, 103], 0, [0, 0, 0, 0, 0, 0, 0, 0]⟩, 8080, [[97], []], [], [120], [], true, false⟩ = _
  kernel_rfl
theorem aw3 (b : Nat) : PM.door (aw b).pm = [97, 46, 111, 114, 103, 58, 56, 48, 56, 48] := by
  show PM.door ⟨PM.http, [117], [], ⟨1, [97, 46, 111, 114, 103], 0, [0, 0, 0, 0, 0, 0, 0, 0]⟩, 8080, [[97], []], [], [120], [], true, false⟩ = _
  kernel_rfl
set_option maxRecDepth 100000 in
set_option maxHeartbeats 2000000 in
theorem awake_c (w : World) (hg : Gl w) : Calls Tryz.prog 31 #[] w fun e w' => e = .returned (.bool true) ∧ Below w.heap.size w w' := by
  have HG := Lib.hid hg
  clear hg
  have HN : Hid (((w.alloc (.cells #[.string ⟨#[97]⟩, .string ⟨#[]⟩] 9)).alloc (.cells #[.string ⟨#[]⟩, .string ⟨#[]⟩, .string ⟨#[]⟩, .int .i64 0, .string ⟨#[]⟩, .int .i64 0, .int .i64 0, .int .i64 0, .int .i64 0, .int .i64 0, .int .i64 0, .int .i64 0, .int .i64 0, .int .i64 0, .int .i64 0, .slice none 0 0, .string ⟨#[]⟩, .string ⟨#[]⟩, .string ⟨#[]⟩, .bool false, .bool false] 27)).heap[w.heap.size + 1]? = some (.cells #[.string ⟨#[]⟩, .string ⟨#[]⟩, .string ⟨#[]⟩, .int .i64 0, .string ⟨#[]⟩, .int .i64 0, .int .i64 0, .int .i64 0, .int .i64 0, .int .i64 0, .int .i64 0, .int .i64 0, .int .i64 0, .int .i64 0, .int .i64 0, .slice none 0 0, .string ⟨#[]⟩, .string ⟨#[]⟩, .string ⟨#[]⟩, .bool false, .bool false] 27 (0, 0))) := Go.heap_alloc2_new _ _ _
  go_enter Tryz.func31, Tryz.ntmps31
  go_upto_region 2 with (refine wpList_store_row rfl 27 _ _ rfl (w.heap.size + 1) (aw w.heap.size).cells rfl rfl 27 _ HN.out (by kernel_rfl) rfl (agg_one (aw w.heap.size)) ?_)
  obtain ⟨V0, hV0⟩ : ∃ V0, V0 = ((w.alloc (.cells #[.string ⟨#[97]⟩, .string ⟨#[]⟩] 9)).alloc (.cells #[.string ⟨#[]⟩, .string ⟨#[]⟩, .string ⟨#[]⟩, .int .i64 0, .string ⟨#[]⟩, .int .i64 0, .int .i64 0, .int .i64 0, .int .i64 0, .int .i64 0, .int .i64 0, .int .i64 0, .int .i64 0, .int .i64 0, .int .i64 0, .slice none 0 0, .string ⟨#[]⟩, .string ⟨#[]⟩, .string ⟨#[]⟩, .bool false, .bool false] 27)).setRow (w.heap.size + 1) (aw w.heap.size).cells := ⟨_, rfl⟩
  have hN : V0.heap[w.heap.size + 1]? = some (.cells (aw w.heap.size).cells 27 (0, 0)) := by
    rw [hV0]
    exact heap_setRow HN.out _
  have hB : Below w.heap.size w V0 := by
    rw [hV0]
    exact below_setRow (by (repeat (first | exact Below.refl _ _ | apply b_alloc | apply b_drew | apply b_drewN | assumption | (refine b_then ?_ (by assumption))))) (by omega) _
  have hR : RdS V0 (some ⟨w.heap.size, 0, none⟩) 2 [[97], []] := by
    have h0 : V0.heap[w.heap.size]? = some (.cells #[.string ⟨#[97]⟩, .string ⟨#[]⟩] 9 (0, 0)) := by
      rw [hV0]
      have : ((w.alloc (.cells #[.string ⟨#[97]⟩, .string ⟨#[]⟩] 9)).alloc (.cells #[.string ⟨#[]⟩, .string ⟨#[]⟩, .string ⟨#[]⟩, .int .i64 0, .string ⟨#[]⟩, .int .i64 0, .int .i64 0, .int .i64 0, .int .i64 0, .int .i64 0, .int .i64 0, .int .i64 0, .int .i64 0, .int .i64 0, .int .i64 0, .slice none 0 0, .string ⟨#[]⟩, .string ⟨#[]⟩, .string ⟨#[]⟩, .bool false, .bool false] 27)).heap[w.heap.size]? = some (.cells #[.string ⟨#[97]⟩, .string ⟨#[]⟩] 9 (0, 0)) := heap_two _ _ _
      simpa [World.setRow, Array.getElem?_modify] using this
    refine ⟨rfl, by decide, .inr ⟨w.heap.size, 0, rfl, h_lt h0, fun j hj => ?_⟩⟩
    rw [Lib.cell_of_heap h0]
    match j, hj with
    | 0, _ => rfl
    | 1, _ => rfl
  have HO : Hid ((aw w.heap.size).Ok V0) := ⟨by simp [aw, PM.http], by simp [aw], by simp [aw], by simp [aw], by simp [aw], by simp [aw], by simp [aw], by simp [aw], by simp [aw], hR⟩
  rw [← hV0]
  clear hV0 hR HN
  have HH := Lib.hid hN
  have HB := Lib.hid hB
  clear hN hB
  go_wp2_with (refine wpList_load_g 27 _ rfl (by kernel_rfl) (w.heap.size + 1) rfl HH.out Tryz.underlying27 rfl (by kernel_rfl) ?_)
  refine (Open_c (aw w.heap.size) _ HO.out).mono ?_
  rintro e V1 ⟨v1, rfl, hp1, ho1, -, hb1⟩
  replace HH := Lib.hid (heap_b hb1 HH.out)
  replace HB := Lib.hid (b_then HB.out hb1)
  replace HO := Lib.hid (HO.out.below hb1)
  have HO1 := Lib.hid ho1
  have HP1 := Lib.hid hp1
  clear ho1 hp1 hb1
  go_wp2_with fail
  have hS := showUrl_c v1 V1 HO1.out (HG.out.below HB.out)
  rw [HP1.out, aw1] at hS
  refine hS.mono ?_
  clear hS
  rintro e V2 ⟨rfl, hb2⟩
  replace HH := Lib.hid (heap_b hb2 HH.out)
  replace HB := Lib.hid (b_then HB.out hb2)
  replace HO := Lib.hid (HO.out.below hb2)
  clear hb2
  go_wp2_with (refine wpList_load_g 27 _ rfl (by kernel_rfl) (w.heap.size + 1) rfl HH.out Tryz.underlying27 rfl (by kernel_rfl) ?_)
  have hS := showUrl_c (aw w.heap.size) V2 HO.out (HG.out.below HB.out)
  rw [aw2] at hS
  refine hS.mono ?_
  clear hS
  rintro e V3 ⟨rfl, hb2⟩
  replace HH := Lib.hid (heap_b hb2 HH.out)
  replace HB := Lib.hid (b_then HB.out hb2)
  replace HO := Lib.hid (HO.out.below hb2)
  clear hb2
  go_wp2_with (refine wpList_load_g 27 _ rfl (by kernel_rfl) (w.heap.size + 1) rfl HH.out Tryz.underlying27 rfl (by kernel_rfl) ?_)
  have hS := Door_c (aw w.heap.size) V3 HO.out (HG.out.below HB.out)
  rw [aw3] at hS
  refine hS.mono ?_
  clear hS
  rintro e V4 ⟨rfl, hb2⟩
  replace HB := Lib.hid (b_then HB.out hb2)
  clear hb2 HH HO
  go_wp2_with fail
  have hF : fr0.Ok V4 := ⟨by simp [fr0], by simp [fr0], by simp [fr0], by simp [fr0], by simp [fr0], by simp [fr0], by simp [fr0], by simp [fr0], by simp [fr0], ⟨rfl, by decide, .inl rfl⟩⟩
  refine (Bare_c fr0 _ hF).mono ?_
  rintro e V5 ⟨v5, rfl, hp5, -, -, hb5⟩
  have h5 : v5.hf = false := congrArg PM.Url.hasFrag hp5
  replace HB := Lib.hid (b_then HB.out hb5)
  clear hF hp5 hb5
  unfold UV.cells
  go_wp2
  go_ret
  exact ⟨rfl, HB.out⟩
end Go.Proofs.YtgegnnojobmdcaaGreatDoor
