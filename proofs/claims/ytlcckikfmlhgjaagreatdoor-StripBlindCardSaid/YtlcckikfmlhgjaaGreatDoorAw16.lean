import Derived.Test.YtlcckikfmlhgjaaGreatDoorAw12
import Derived.Test.YtlcckikfmlhgjaaGreatDoorSg
/-! Contract: postmarklaw16.awake. -/
set_option linter.unusedVariables false
set_option linter.unusedSimpArgs false
namespace Go.Proofs.YtlcckikfmlhgjaaGreatDoor
open Go.RowKit
/-- An address in a box, whose texts are few. -/
structure UOk (b : Nat) (u : UV) (w W : World) : Prop where
  one : W.heap[b]? = some (.cells u.cells 27 (0, 0))
  ok : u.Ok W
  be : Below w.heap.size w W
theorem UOk.below {b : Nat} {u : UV} {w W W' : World} (h : UOk b u w W) (hb : Below W.heap.size W W') : UOk b u w W' := ⟨heap_b hb h.one, h.ok.below hb, b_then h.be hb⟩
def k16 : PM.Url := ⟨[104, 116, 116, 112, 115], [117], [112], ⟨1, [97, 46, 111, 114, 103], 0, [0, 0, 0, 0, 0, 0, 0, 0]⟩, -1, [[98]], [], [99], [100], true, true⟩
theorem k16_parse : PM.urlParse [104, 116, 116, 112, 115, 58, 47, 47, 117, 58, 112, 64, 97, 46, 111, 114, 103, 47, 98, 63, 99, 35, 100] = some k16 := by kernel_rfl
theorem k16_2 : PM.stripAt k16 2 = [104, 116, 116, 112, 115, 58, 47, 47, 97, 46, 111, 114, 103, 47, 98, 63, 99] := by kernel_rfl
theorem k16_1 : PM.stripAt k16 1 = [104, 116, 116, 112, 115, 58, 47, 47, 97, 46, 111, 114, 103, 47] := by kernel_rfl
theorem k16_0 : PM.stripAt k16 0 = [] := by kernel_rfl
theorem k16_f : PM.stripFull k16 = [104, 116, 116, 112, 115, 58, 47, 47, 97, 46, 111, 114, 103, 47, 98, 63, 99] := by kernel_rfl
theorem k16_c : PM.stripCap k16 = [104, 116, 116, 112, 115, 58, 47, 47, 97, 46, 111, 114, 103, 47, 98, 63, 99] := by kernel_rfl
theorem k16_o : PM.stripOrigin k16 = [104, 116, 116, 112, 115, 58, 47, 47, 97, 46, 111, 114, 103, 47] := by kernel_rfl
set_option maxRecDepth 100000 in
set_option maxHeartbeats 4000000 in
theorem awake16_c (w : World) (hg : Gl w) (hT : Lib.Utf8Tabs 1 2 w) : Calls Tryz.prog 42 #[] w fun e w' => e = .returned (.bool true) ∧ Below w.heap.size w w' := by
  have HG := Lib.hid hg
  have HTB := Lib.hid hT
  have HP1 : Hid (∀ W, Gl W → Lib.Utf8Tabs 1 2 W → Calls Tryz.prog 39 #[.string ⟨#[104, 116, 116, 112, 115, 58, 47, 47, 117, 58, 112, 64, 97, 46, 111, 114, 103, 47, 98, 63, 99, 35, 100]⟩] W fun e w' => (∃ v : UV, e = .returned (.tuple #[.agg v.cells, .bool true]) ∧ v.pm = k16 ∧ v.Ok w') ∧ Below W.heap.size W w') := Lib.hid fun W => known_c [104, 116, 116, 112, 115, 58, 47, 47, 117, 58, 112, 64, 97, 46, 111, 114, 103, 47, 98, 63, 99, 35, 100] k16 (by decide) k16_parse (by decide) W
  have HB : Hid (Below w.heap.size w w) := Lib.hid (Below.refl _ _)
  clear hg hT
  go_enter Tryz.func42, Tryz.ntmps42
  go_wp2_with fail
  refine (HP1.out _ (HG.out.below HB.out) (tabs_below HTB.out HB.out)).mono ?_
  rintro e V1 ⟨⟨u, rfl, hup, huo⟩, hb⟩
  have HUP := Lib.hid hup
  have HUO := Lib.hid huo
  clear hup huo
  replace HB := Lib.hid (b_then HB.out hb)
  clear hb
  have HN := Lib.hid (Go.heap_alloc_new V1 (.cells zurl 27))
  unfold zurl at HN 
  go_upto_region 2 with (first | (refine wpList_store_row rfl 27 _ _ rfl V1.heap.size u.cells rfl rfl 27 _ HN.out (by kernel_rfl) rfl (agg_one u) ?_))
  obtain ⟨V2, hV⟩ : ∃ V2, V2 = (V1.alloc (.cells #[.string ⟨#[]⟩, .string ⟨#[]⟩, .string ⟨#[]⟩, .int .i64 0, .string ⟨#[]⟩, .int .i64 0, .int .i64 0, .int .i64 0, .int .i64 0, .int .i64 0, .int .i64 0, .int .i64 0, .int .i64 0, .int .i64 0, .int .i64 0, .slice none 0 0, .string ⟨#[]⟩, .string ⟨#[]⟩, .string ⟨#[]⟩, .bool false, .bool false] 27)).setRow V1.heap.size u.cells := ⟨_, rfl⟩
  have hN : V2.heap[V1.heap.size]? = some (.cells u.cells 27 (0, 0)) := by rw [hV]; exact heap_setRow HN.out _
  have hb : Below V1.heap.size V1 V2 := by rw [hV]; exact below_setRow (b_alloc (Below.refl _ _) _) (Nat.le_refl _) _
  rw [← hV]
  clear hV HN 
  have HU := Lib.hid hN
  clear hN
  have hlw_bu : w.heap.size ≤ V1.heap.size := HB.out.size
  replace HB := Lib.hid (b_then HB.out hb)
  replace HUO := Lib.hid (HUO.out.below hb)
  clear hb
  generalize V1.heap.size = bu at HU hlw_bu ⊢
  (try simp only [Act.put])
  go_wp2_with (first | go_skip | (refine wpList_load_g 27 _ rfl (by kernel_rfl) bu rfl HU.out Tryz.underlying27 rfl (by kernel_rfl) ?_))
  refine (Tell_c u 2 _ HUO.out (HG.out.below HB.out)).mono ?_
  rw [HUP.out, k16_2]
  rintro e V3 ⟨rfl, hb⟩
  replace HB := Lib.hid (b_then HB.out hb)
  replace HU := Lib.hid (obj_b hb HU.out)
  replace HUO := Lib.hid (HUO.out.below hb)
  clear hb
  go_wp2_with (first | go_skip | (refine wpList_load_g 27 _ rfl (by kernel_rfl) bu rfl HU.out Tryz.underlying27 rfl (by kernel_rfl) ?_))
  refine (Tell_c u 1 _ HUO.out (HG.out.below HB.out)).mono ?_
  rw [HUP.out, k16_1]
  rintro e V4 ⟨rfl, hb⟩
  replace HB := Lib.hid (b_then HB.out hb)
  replace HU := Lib.hid (obj_b hb HU.out)
  replace HUO := Lib.hid (HUO.out.below hb)
  clear hb
  go_wp2_with (first | go_skip | (refine wpList_load_g 27 _ rfl (by kernel_rfl) bu rfl HU.out Tryz.underlying27 rfl (by kernel_rfl) ?_))
  refine (Tell_c u 0 _ HUO.out (HG.out.below HB.out)).mono ?_
  rw [HUP.out, k16_0]
  rintro e V5 ⟨rfl, hb⟩
  replace HB := Lib.hid (b_then HB.out hb)
  replace HU := Lib.hid (obj_b hb HU.out)
  replace HUO := Lib.hid (HUO.out.below hb)
  clear hb
  go_wp2_with (first | go_skip | (refine wpList_load_g 27 _ rfl (by kernel_rfl) bu rfl HU.out Tryz.underlying27 rfl (by kernel_rfl) ?_))
  refine (Full_s_c u _ HUO.out (HG.out.below HB.out)).mono ?_
  rw [HUP.out, k16_f]
  rintro e V6 ⟨rfl, hb⟩
  replace HB := Lib.hid (b_then HB.out hb)
  replace HU := Lib.hid (obj_b hb HU.out)
  replace HUO := Lib.hid (HUO.out.below hb)
  clear hb
  go_wp2_with (first | go_skip | (refine wpList_load_g 27 _ rfl (by kernel_rfl) bu rfl HU.out Tryz.underlying27 rfl (by kernel_rfl) ?_))
  refine (Cap_s_c u _ HUO.out (HG.out.below HB.out)).mono ?_
  rw [HUP.out, k16_c]
  rintro e V7 ⟨rfl, hb⟩
  replace HB := Lib.hid (b_then HB.out hb)
  replace HU := Lib.hid (obj_b hb HU.out)
  replace HUO := Lib.hid (HUO.out.below hb)
  clear hb
  go_wp2_with (first | go_skip | (refine wpList_load_g 27 _ rfl (by kernel_rfl) bu rfl HU.out Tryz.underlying27 rfl (by kernel_rfl) ?_))
  refine (Origin_s_c u _ HUO.out (HG.out.below HB.out)).mono ?_
  rw [HUP.out, k16_o]
  rintro e V8 ⟨rfl, hb⟩
  replace HB := Lib.hid (b_then HB.out hb)
  replace HU := Lib.hid (obj_b hb HU.out)
  replace HUO := Lib.hid (HUO.out.below hb)
  clear hb
  go_wp2
  go_ret
  exact ⟨rfl, HB.out⟩
end Go.Proofs.YtlcckikfmlhgjaaGreatDoor
