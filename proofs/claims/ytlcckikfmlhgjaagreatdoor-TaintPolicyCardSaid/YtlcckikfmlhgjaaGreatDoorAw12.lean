import Derived.Test.YtlcckikfmlhgjaaGreatDoorP15
import Derived.Test.YtlcckikfmlhgjaaGreatDoorOg
/-! Contract: postmarklaw12.awake. -/
set_option linter.unusedVariables false
set_option linter.unusedSimpArgs false
namespace Go.Proofs.YtlcckikfmlhgjaaGreatDoor
open Go.RowKit
/-- A text whose address is known is parsed to it. -/
theorem known_c (s : List UInt8) (p : PM.Url) (hs : s.length ≤ 30000) (hp : PM.urlParse s = some p) (hl : p.path.length ≤ 10000) (w : World) (hg : Gl w) (hT : Lib.Utf8Tabs 1 2 w) : Calls Tryz.prog 39 #[.string (mkS s)] w fun e w' => (∃ v : UV, e = .returned (.tuple #[.agg v.cells, .bool true]) ∧ v.pm = p ∧ v.Ok w') ∧ Below w.heap.size w w' := by
  have h := UrlParse_c s hs w hg hT
  rw [hp] at h
  refine h.mono ?_
  rintro e w' ⟨⟨v, h1, h2, h3⟩, hb⟩
  have h2' : v.pm = p := h2
  have hx : v.xs = v.pm.path := rfl
  exact ⟨⟨v, h1, h2', h3 (by rw [hx, h2']; exact hl)⟩, hb⟩
def k12 : PM.Url := ⟨[104, 116, 116, 112, 115], [117], [], ⟨1, [97, 46, 111, 114, 103], 0, [0, 0, 0, 0, 0, 0, 0, 0]⟩, 8443, [[120]], [], [], [], false, false⟩
def d12 : PM.Url := ⟨[100, 97, 116, 97], [], [], ⟨0, [], 0, [0, 0, 0, 0, 0, 0, 0, 0]⟩, -1, [], [44], [], [], false, false⟩
theorem k12_parse : PM.urlParse [104, 116, 116, 112, 115, 58, 47, 47, 117, 64, 97, 46, 111, 114, 103, 58, 56, 52, 52, 51, 47, 120] = some k12 := by kernel_rfl
theorem d12_parse : PM.urlParse [100, 97, 116, 97, 58, 44] = some d12 := by kernel_rfl
theorem k12_show : PM.originShow (PM.originOf k12) = [104, 116, 116, 112, 115, 58, 47, 47, 97, 46, 111, 114, 103, 58, 56, 52, 52, 51] := by kernel_rfl
theorem d12_show : PM.originShow (PM.originOf d12) = [110, 117, 108, 108] := by kernel_rfl
theorem k12_may : PM.originMay (PM.originOf k12) = true := by kernel_rfl
theorem k12_same : PM.originSame (PM.originOf k12) (PM.originOf k12) = true := by kernel_rfl
theorem k12_trust : PM.trust k12 = true := by kernel_rfl
theorem d12_trust : PM.trust d12 = false := by kernel_rfl
theorem k12_both : PM.both k12 k12 = true := by kernel_rfl
theorem d12_both : PM.both d12 d12 = false := by kernel_rfl
set_option maxRecDepth 100000 in
set_option maxHeartbeats 4000000 in
theorem awake12_c (w : World) (hg : Gl w) (hT : Lib.Utf8Tabs 1 2 w) : Calls Tryz.prog 23 #[] w fun e w' => e = .returned (.bool true) ∧ Below w.heap.size w w' := by
  have HG := Lib.hid hg
  have HTB := Lib.hid hT
  have HP1 : Hid (∀ W, Gl W → Lib.Utf8Tabs 1 2 W → Calls Tryz.prog 39 #[.string ⟨#[104, 116, 116, 112, 115, 58, 47, 47, 117, 64, 97, 46, 111, 114, 103, 58, 56, 52, 52, 51, 47, 120]⟩] W fun e w' => (∃ v : UV, e = .returned (.tuple #[.agg v.cells, .bool true]) ∧ v.pm = k12 ∧ v.Ok w') ∧ Below W.heap.size W w') := Lib.hid fun W => known_c [104, 116, 116, 112, 115, 58, 47, 47, 117, 64, 97, 46, 111, 114, 103, 58, 56, 52, 52, 51, 47, 120] k12 (by decide) k12_parse (by decide) W
  have HP2 : Hid (∀ W, Gl W → Lib.Utf8Tabs 1 2 W → Calls Tryz.prog 39 #[.string ⟨#[100, 97, 116, 97, 58, 44]⟩] W fun e w' => (∃ v : UV, e = .returned (.tuple #[.agg v.cells, .bool true]) ∧ v.pm = d12 ∧ v.Ok w') ∧ Below W.heap.size W w') := Lib.hid fun W => known_c [100, 97, 116, 97, 58, 44] d12 (by decide) d12_parse (by decide) W
  have HB : Hid (Below w.heap.size w w) := Lib.hid (Below.refl _ _)
  clear hg hT
  go_enter Tryz.func23, Tryz.ntmps23
  go_wp2_with fail
  refine (HP1.out _ (HG.out.below HB.out) (tabs_below HTB.out HB.out)).mono ?_
  rintro e V1 ⟨⟨u, rfl, hup, huo⟩, hb⟩
  have HUP := Lib.hid hup
  have HUO := Lib.hid huo
  clear hup huo
  replace HB := Lib.hid (b_then HB.out hb)
  clear hb
  have HN := Lib.hid (Go.heap_alloc_new V1 (.cells zurl 27))
  unfold zurl at HN 
  go_upto_region 2 with (first | (refine wpList_store_row rfl 27 _ _ rfl V1.heap.size u.cells rfl rfl 27 _ HN.out (by kernel_rfl) rfl (agg_one u) ?_))
  obtain ⟨V2, hV⟩ : ∃ V2, V2 = (V1.alloc (.cells #[.string ⟨#[]⟩, .string ⟨#[]⟩, .string ⟨#[]⟩, .int .i64 0, .string ⟨#[]⟩, .int .i64 0, .int .i64 0, .int .i64 0, .int .i64 0, .int .i64 0, .int .i64 0, .int .i64 0, .int .i64 0, .int .i64 0, .int .i64 0, .slice none 0 0, .string ⟨#[]⟩, .string ⟨#[]⟩, .string ⟨#[]⟩, .bool false, .bool false] 27)).setRow V1.heap.size u.cells := ⟨_, rfl⟩
  have hN : V2.heap[V1.heap.size]? = some (.cells u.cells 27 (0, 0)) := by rw [hV]; exact heap_setRow HN.out _
  have hb : Below V1.heap.size V1 V2 := by rw [hV]; exact below_setRow (b_alloc (Below.refl _ _) _) (Nat.le_refl _) _
  rw [← hV]
  clear hV HN 
  have HU := Lib.hid hN
  clear hN
  have hlw_bu : w.heap.size ≤ V1.heap.size := HB.out.size
  replace HB := Lib.hid (b_then HB.out hb)
  replace HUO := Lib.hid (HUO.out.below hb)
  clear hb
  generalize V1.heap.size = bu at HU hlw_bu ⊢
  (try simp only [Act.put])
  go_wp2_with fail
  refine (HP2.out _ (HG.out.below HB.out) (tabs_below HTB.out HB.out)).mono ?_
  rintro e V3 ⟨⟨v, rfl, hvp, hvo⟩, hb⟩
  have HVP := Lib.hid hvp
  have HVO := Lib.hid hvo
  clear hvp hvo
  replace HB := Lib.hid (b_then HB.out hb)
  replace HU := Lib.hid (obj_b hb HU.out)
  replace HUO := Lib.hid (HUO.out.below hb)
  clear hb
  have HN := Lib.hid (Go.heap_alloc_new V3 (.cells zurl 27))
  unfold zurl at HN 
  go_upto_region 3 with (first | (refine wpList_store_row rfl 27 _ _ rfl V3.heap.size v.cells rfl rfl 27 _ HN.out (by kernel_rfl) rfl (agg_one v) ?_))
  obtain ⟨V4, hV⟩ : ∃ V4, V4 = (V3.alloc (.cells #[.string ⟨#[]⟩, .string ⟨#[]⟩, .string ⟨#[]⟩, .int .i64 0, .string ⟨#[]⟩, .int .i64 0, .int .i64 0, .int .i64 0, .int .i64 0, .int .i64 0, .int .i64 0, .int .i64 0, .int .i64 0, .int .i64 0, .int .i64 0, .slice none 0 0, .string ⟨#[]⟩, .string ⟨#[]⟩, .string ⟨#[]⟩, .bool false, .bool false] 27)).setRow V3.heap.size v.cells := ⟨_, rfl⟩
  have hN : V4.heap[V3.heap.size]? = some (.cells v.cells 27 (0, 0)) := by rw [hV]; exact heap_setRow HN.out _
  have hb : Below V3.heap.size V3 V4 := by rw [hV]; exact below_setRow (b_alloc (Below.refl _ _) _) (Nat.le_refl _) _
  rw [← hV]
  clear hV HN 
  have HV := Lib.hid hN
  clear hN
  have hlt_bv_HU : bu < V3.heap.size := h_lt HU.out
  have hlw_bv : w.heap.size ≤ V3.heap.size := HB.out.size
  replace HB := Lib.hid (b_then HB.out hb)
  replace HU := Lib.hid (obj_b hb HU.out)
  replace HUO := Lib.hid (HUO.out.below hb)
  replace HVO := Lib.hid (HVO.out.below hb)
  clear hb
  generalize V3.heap.size = bv at HV hlt_bv_HU hlw_bv ⊢
  (try simp only [Act.put])
  go_wp2_with (refine wpList_load_g 27 _ rfl (by kernel_rfl) bu rfl HU.out Tryz.underlying27 rfl (by kernel_rfl) ?_)
  refine (Of_c u _ HUO.out (HG.out.below HB.out)).mono ?_
  rintro e V5 ⟨rfl, hb⟩
  replace HB := Lib.hid (b_then HB.out hb)
  replace HU := Lib.hid (obj_b hb HU.out)
  replace HV := Lib.hid (obj_b hb HV.out)
  replace HUO := Lib.hid (HUO.out.below hb)
  replace HVO := Lib.hid (HVO.out.below hb)
  clear hb
  have HN := Lib.hid (Go.heap_alloc_new V5 (.cells zo 35))
  unfold zo at HN 
  go_upto_region 4 with (first | (refine wpList_store_row rfl 35 _ _ rfl V5.heap.size (ofOV u).cells rfl rfl 35 _ HN.out (by kernel_rfl) rfl (oagg_one (ofOV u)) ?_))
  obtain ⟨V6, hV⟩ : ∃ V6, V6 = (V5.alloc (.cells #[.bool false, .string ⟨#[]⟩, .int .i64 0, .string ⟨#[]⟩, .int .i64 0, .int .i64 0, .int .i64 0, .int .i64 0, .int .i64 0, .int .i64 0, .int .i64 0, .int .i64 0, .int .i64 0, .int .i64 0] 35)).setRow V5.heap.size (ofOV u).cells := ⟨_, rfl⟩
  have hN : V6.heap[V5.heap.size]? = some (.cells (ofOV u).cells 35 (0, 0)) := by rw [hV]; exact heap_setRow HN.out _
  have hb : Below V5.heap.size V5 V6 := by rw [hV]; exact below_setRow (b_alloc (Below.refl _ _) _) (Nat.le_refl _) _
  rw [← hV]
  clear hV HN 
  have HO := Lib.hid hN
  clear hN
  have hlt_bo_HU : bu < V5.heap.size := h_lt HU.out
  have hlt_bo_HV : bv < V5.heap.size := h_lt HV.out
  have hlw_bo : w.heap.size ≤ V5.heap.size := HB.out.size
  replace HB := Lib.hid (b_then HB.out hb)
  replace HU := Lib.hid (obj_b hb HU.out)
  replace HV := Lib.hid (obj_b hb HV.out)
  replace HUO := Lib.hid (HUO.out.below hb)
  replace HVO := Lib.hid (HVO.out.below hb)
  clear hb
  generalize V5.heap.size = bo at HO hlt_bo_HU hlt_bo_HV hlw_bo ⊢
  (try simp only [Act.put])
  have hou : (ofOV u).Ok := ofOV_ok HUO.out
  have hov : (ofOV v).Ok := ofOV_ok HVO.out
  have HOU := Lib.hid hou
  have HOV := Lib.hid hov
  clear hou hov
  go_wp2_with (refine wpList_load_g 35 _ rfl (by kernel_rfl) bo rfl HO.out Tryz.underlying35 rfl (by kernel_rfl) ?_)
  refine (Show_o_c (ofOV u) _ HOU.out (HG.out.below HB.out)).mono ?_
  rw [ofOV_pm, HUP.out, k12_show]
  rintro e V7 ⟨rfl, hb⟩
  replace HB := Lib.hid (b_then HB.out hb)
  replace HU := Lib.hid (obj_b hb HU.out)
  replace HV := Lib.hid (obj_b hb HV.out)
  replace HO := Lib.hid (obj_b hb HO.out)
  replace HUO := Lib.hid (HUO.out.below hb)
  replace HVO := Lib.hid (HVO.out.below hb)
  clear hb
  go_wp2_with (refine wpList_load_g 27 _ rfl (by kernel_rfl) bv rfl HV.out Tryz.underlying27 rfl (by kernel_rfl) ?_)
  refine (Of_c v _ HVO.out (HG.out.below HB.out)).mono ?_
  rintro e V8 ⟨rfl, hb⟩
  replace HB := Lib.hid (b_then HB.out hb)
  replace HU := Lib.hid (obj_b hb HU.out)
  replace HV := Lib.hid (obj_b hb HV.out)
  replace HO := Lib.hid (obj_b hb HO.out)
  replace HUO := Lib.hid (HUO.out.below hb)
  replace HVO := Lib.hid (HVO.out.below hb)
  clear hb
  go_wp2_with fail
  refine (Show_o_c (ofOV v) _ HOV.out (HG.out.below HB.out)).mono ?_
  rw [ofOV_pm, HVP.out, d12_show]
  rintro e V9 ⟨rfl, hb⟩
  replace HB := Lib.hid (b_then HB.out hb)
  replace HU := Lib.hid (obj_b hb HU.out)
  replace HV := Lib.hid (obj_b hb HV.out)
  replace HO := Lib.hid (obj_b hb HO.out)
  replace HUO := Lib.hid (HUO.out.below hb)
  replace HVO := Lib.hid (HVO.out.below hb)
  clear hb
  go_wp2_with (refine wpList_load_g 35 _ rfl (by kernel_rfl) bo rfl HO.out Tryz.underlying35 rfl (by kernel_rfl) ?_)
  refine (May_c (ofOV u) _ HOU.out (HG.out.below HB.out)).mono ?_
  rw [ofOV_pm, HUP.out, k12_may]
  rintro e V10 ⟨rfl, hb⟩
  replace HB := Lib.hid (b_then HB.out hb)
  replace HU := Lib.hid (obj_b hb HU.out)
  replace HV := Lib.hid (obj_b hb HV.out)
  replace HO := Lib.hid (obj_b hb HO.out)
  replace HUO := Lib.hid (HUO.out.below hb)
  replace HVO := Lib.hid (HVO.out.below hb)
  clear hb
  go_wp2_with (refine wpList_load_g 35 _ rfl (by kernel_rfl) bo rfl HO.out Tryz.underlying35 rfl (by kernel_rfl) ?_)
  refine (Same_o_c (ofOV u) (ofOV u) _ HOU.out (HG.out.below HB.out)).mono ?_
  rw [ofOV_pm, HUP.out, k12_same]
  rintro e V11 ⟨rfl, hb⟩
  replace HB := Lib.hid (b_then HB.out hb)
  replace HU := Lib.hid (obj_b hb HU.out)
  replace HV := Lib.hid (obj_b hb HV.out)
  replace HO := Lib.hid (obj_b hb HO.out)
  replace HUO := Lib.hid (HUO.out.below hb)
  replace HVO := Lib.hid (HVO.out.below hb)
  clear hb
  go_wp2_with (refine wpList_load_g 27 _ rfl (by kernel_rfl) bu rfl HU.out Tryz.underlying27 rfl (by kernel_rfl) ?_)
  refine (Trust_c u _ HUO.out (HG.out.below HB.out)).mono ?_
  rw [HUP.out, k12_trust]
  rintro e V12 ⟨rfl, hb⟩
  replace HB := Lib.hid (b_then HB.out hb)
  replace HU := Lib.hid (obj_b hb HU.out)
  replace HV := Lib.hid (obj_b hb HV.out)
  replace HO := Lib.hid (obj_b hb HO.out)
  replace HUO := Lib.hid (HUO.out.below hb)
  replace HVO := Lib.hid (HVO.out.below hb)
  clear hb
  go_wp2_with (refine wpList_load_g 27 _ rfl (by kernel_rfl) bv rfl HV.out Tryz.underlying27 rfl (by kernel_rfl) ?_)
  refine (Trust_c v _ HVO.out (HG.out.below HB.out)).mono ?_
  rw [HVP.out, d12_trust]
  rintro e V13 ⟨rfl, hb⟩
  replace HB := Lib.hid (b_then HB.out hb)
  replace HU := Lib.hid (obj_b hb HU.out)
  replace HV := Lib.hid (obj_b hb HV.out)
  replace HO := Lib.hid (obj_b hb HO.out)
  replace HUO := Lib.hid (HUO.out.below hb)
  replace HVO := Lib.hid (HVO.out.below hb)
  clear hb
  go_wp2_with (refine wpList_load_g 27 _ rfl (by kernel_rfl) bu rfl HU.out Tryz.underlying27 rfl (by kernel_rfl) ?_)
  refine (Both_c u u _ HUO.out HUO.out (HG.out.below HB.out)).mono ?_
  rw [HUP.out, k12_both]
  rintro e V14 ⟨rfl, hb⟩
  replace HB := Lib.hid (b_then HB.out hb)
  replace HU := Lib.hid (obj_b hb HU.out)
  replace HV := Lib.hid (obj_b hb HV.out)
  replace HO := Lib.hid (obj_b hb HO.out)
  replace HUO := Lib.hid (HUO.out.below hb)
  replace HVO := Lib.hid (HVO.out.below hb)
  clear hb
  go_wp2_with (refine wpList_load_g 27 _ rfl (by kernel_rfl) bv rfl HV.out Tryz.underlying27 rfl (by kernel_rfl) ?_)
  refine (Both_c v v _ HVO.out HVO.out (HG.out.below HB.out)).mono ?_
  rw [HVP.out, d12_both]
  rintro e V15 ⟨rfl, hb⟩
  replace HB := Lib.hid (b_then HB.out hb)
  replace HU := Lib.hid (obj_b hb HU.out)
  replace HV := Lib.hid (obj_b hb HV.out)
  replace HO := Lib.hid (obj_b hb HO.out)
  replace HUO := Lib.hid (HUO.out.below hb)
  replace HVO := Lib.hid (HVO.out.below hb)
  clear hb
  go_wp2
  go_ret
  exact ⟨rfl, HB.out⟩
end Go.Proofs.YtlcckikfmlhgjaaGreatDoor
