import Derived.Test.YtgegnnojobmdcaaC26
/-! The walk of ShowApart. -/
set_option linter.unusedVariables false
set_option linter.unusedSimpArgs false
namespace Go.Proofs.Ytgegnnojobmdcaa
open Go.RowKit
theorem apart_eq {u v : UV} (hu : PM.urlMay u.pm = true) (hv : PM.urlMay v.pm = true) : (PM.showUrl u.pm == PM.showUrl v.pm) = PM.urlSame u.pm v.pm := by
  have h1 := PM.show_apart hu hv rfl rfl
  have h2 := PM.urlSame_iff u.pm v.pm
  rw [Bool.eq_iff_iff, h2, beq_iff_eq]
  exact h1
set_option maxRecDepth 100000 in
set_option maxHeartbeats 4000000 in
theorem ShowApart_c (u v : UV) (w : World) (hr : RdW w u.a u.pn u.xs) (hr2 : RdW w v.a v.pn v.xs) (hg : Gl w) : Calls Try.prog 5 #[.agg u.cells, .agg v.cells] w fun e w' => e = .returned (.bool true) ∧ Below w.heap.size w w' := by
  have HT := Lib.hid (PairAt.new u v w)
  have HR := Lib.hid hr
  have HR2 := Lib.hid hr2
  have HG := Lib.hid hg
  clear hr hr2 hg
  unfold UV.cells at HT ⊢
  go_enter Try.func5, Try.ntmps5
  go_upto_region 1 with fail
  generalize (w.alloc (.cells #[.string (mkS u.sc), .string (mkS u.us), .string (mkS u.pa), .int .i64 u.k, .string (mkS u.n), .int .i64 u.m, .int .i64 u.s0, .int .i64 u.s1, .int .i64 u.s2, .int .i64 u.s3, .int .i64 u.s4, .int .i64 u.s5, .int .i64 u.s6, .int .i64 u.s7, .int .i64 u.port, .slice u.a u.pn u.pc, .string (mkS u.op), .string (mkS u.qu), .string (mkS u.fr), .bool u.hq, .bool u.hf] 27)).alloc (.cells #[.string (mkS v.sc), .string (mkS v.us), .string (mkS v.pa), .int .i64 v.k, .string (mkS v.n), .int .i64 v.m, .int .i64 v.s0, .int .i64 v.s1, .int .i64 v.s2, .int .i64 v.s3, .int .i64 v.s4, .int .i64 v.s5, .int .i64 v.s6, .int .i64 v.s7, .int .i64 v.port, .slice v.a v.pn v.pc, .string (mkS v.op), .string (mkS v.qu), .string (mkS v.fr), .bool v.hq, .bool v.hf] 27) = V0 at HT ⊢
  go_wp2_with fail
  refine (awake_c _ (HG.out.below HT.out.be)).mono ?_
  rintro e V1 ⟨rfl, hb⟩
  replace HT := Lib.hid (HT.out.below hb)
  clear hb
  go_wp2_with (first | (refine wpList_load_g 27 _ rfl (by kernel_rfl) w.heap.size rfl HT.out.one Try.underlying27 rfl (by kernel_rfl) ?_) | (refine wpList_load_g 27 _ rfl (by kernel_rfl) (w.heap.size + 1) rfl HT.out.two Try.underlying27 rfl (by kernel_rfl) ?_))
  refine (Few_c u _ (HR.out.below HT.out.be)).mono ?_
  rintro e V2 ⟨rfl, hb⟩
  replace HT := Lib.hid (HT.out.below hb)
  clear hb
  go_wp2_with (first | (refine wpList_load_g 27 _ rfl (by kernel_rfl) w.heap.size rfl HT.out.one Try.underlying27 rfl (by kernel_rfl) ?_) | (refine wpList_load_g 27 _ rfl (by kernel_rfl) (w.heap.size + 1) rfl HT.out.two Try.underlying27 rfl (by kernel_rfl) ?_))
  refine (Few_c v _ (HR2.out.below HT.out.be)).mono ?_
  rintro e V3 ⟨rfl, hb⟩
  replace HT := Lib.hid (HT.out.below hb)
  clear hb
  cases hf : PM.few u.pm
  · go_wp2
    go_ret
    exact ⟨rfl, HT.out.be⟩
  have HO := Lib.hid (few_ok HR.out hf)
  clear hf
  cases hf : PM.few v.pm
  · go_wp2
    go_ret
    exact ⟨rfl, HT.out.be⟩
  have HO2 := Lib.hid (few_ok HR2.out hf)
  clear hf
  go_wp2_with (first | (refine wpList_load_g 27 _ rfl (by kernel_rfl) w.heap.size rfl HT.out.one Try.underlying27 rfl (by kernel_rfl) ?_) | (refine wpList_load_g 27 _ rfl (by kernel_rfl) (w.heap.size + 1) rfl HT.out.two Try.underlying27 rfl (by kernel_rfl) ?_))
  refine (urlMay_c u _ (HO.out.below HT.out.be) (HG.out.below HT.out.be)).mono ?_
  cases hm : PM.urlMay u.pm
  · rintro e V ⟨rfl, hb⟩
    replace HT := Lib.hid (HT.out.below hb)
    go_wp2
    go_ret
    exact ⟨rfl, HT.out.be⟩
  rintro e V4 ⟨rfl, hb⟩
  replace HT := Lib.hid (HT.out.below hb)
  have HM := Lib.hid hm
  clear hb hm
  go_wp2_with (first | (refine wpList_load_g 27 _ rfl (by kernel_rfl) w.heap.size rfl HT.out.one Try.underlying27 rfl (by kernel_rfl) ?_) | (refine wpList_load_g 27 _ rfl (by kernel_rfl) (w.heap.size + 1) rfl HT.out.two Try.underlying27 rfl (by kernel_rfl) ?_))
  refine (urlMay_c v _ (HO2.out.below HT.out.be) (HG.out.below HT.out.be)).mono ?_
  cases hm : PM.urlMay v.pm
  · rintro e V ⟨rfl, hb⟩
    replace HT := Lib.hid (HT.out.below hb)
    go_wp2
    go_ret
    exact ⟨rfl, HT.out.be⟩
  rintro e V5 ⟨rfl, hb⟩
  replace HT := Lib.hid (HT.out.below hb)
  have HM2 := Lib.hid hm
  clear hb hm
  have RS := fun W (h : PairAt u v w W) => showUrl_c u W (HO.out.below h.be) (HG.out.below h.be)
  have RT := fun W (h : PairAt u v w W) => showUrl_c v W (HO2.out.below h.be) (HG.out.below h.be)
  have RQ := fun W (h : PairAt u v w W) => UrlSame_c u v W (HO.out.below h.be) (HO2.out.below h.be)
  have hap := apart_eq HM.out HM2.out
  generalize PM.showUrl u.pm = S at RS hap
  generalize PM.showUrl v.pm = T at RT hap
  generalize PM.urlSame u.pm v.pm = D at RQ hap
  replace RS := Lib.hid RS
  replace RT := Lib.hid RT
  replace RQ := Lib.hid RQ
  replace hap := Lib.hid hap
  go_wp2_with fail
  refine wp_region_noPanic ?_
  refine wp_region_held_drew (S := fun W' => PairAt u v w W') (by kernel_rfl) (HT.out.below (b_drew (Below.refl _ _))) (fun hS0 => ?_)
  refine wpAnyH_take (i := 0) (v := ?_) rfl (by kernel_rfl) (by kernel_rfl) (by kernel_rfl) (fun _ _ _ h => h) (Or.inl ⟨by kernel_rfl, fun W hW => ?_⟩) (by assumption) ?_
  rotate_left
  · refine yield_row 27 (.tmp 2) ?_ w.heap.size ?_ hW.one Try.underlying27 rfl (by kernel_rfl)
    · rfl
    · rfl
  (try simp only [List.getElem_toArray, List.getElem_cons_zero, List.getElem_cons_succ, Act.put, List.setIfInBounds_toArray, List.set_cons_zero, List.set_cons_succ])
  refine wpAnyH_take (i := 2) (v := ?_) rfl (by kernel_rfl) (by kernel_rfl) (by kernel_rfl) (fun _ _ _ h => h) (Or.inl ⟨by kernel_rfl, fun W hW => ?_⟩) (by assumption) ?_
  rotate_left
  · refine yield_row 27 (.tmp 3) ?_ (w.heap.size + 1) ?_ hW.two Try.underlying27 rfl (by kernel_rfl)
    · rfl
    · rfl
  (try simp only [List.getElem_toArray, List.getElem_cons_zero, List.getElem_cons_succ, Act.put, List.setIfInBounds_toArray, List.set_cons_zero, List.set_cons_succ])
  refine wpAnyH_take (i := 5) (v := ?_) rfl (by kernel_rfl) (by kernel_rfl) (by kernel_rfl) (fun _ _ _ h => h) (Or.inl ⟨by kernel_rfl, fun W hW => ?_⟩) (by assumption) ?_
  rotate_left
  · refine yield_row 27 (.tmp 2) ?_ w.heap.size ?_ hW.one Try.underlying27 rfl (by kernel_rfl)
    · rfl
    · rfl
  (try simp only [List.getElem_toArray, List.getElem_cons_zero, List.getElem_cons_succ, Act.put, List.setIfInBounds_toArray, List.set_cons_zero, List.set_cons_succ])
  refine wpAnyH_take (i := 6) (v := ?_) rfl (by kernel_rfl) (by kernel_rfl) (by kernel_rfl) (fun _ _ _ h => h) (Or.inl ⟨by kernel_rfl, fun W hW => ?_⟩) (by assumption) ?_
  rotate_left
  · refine yield_row 27 (.tmp 3) ?_ (w.heap.size + 1) ?_ hW.two Try.underlying27 rfl (by kernel_rfl)
    · rfl
    · rfl
  (try simp only [List.getElem_toArray, List.getElem_cons_zero, List.getElem_cons_succ, Act.put, List.setIfInBounds_toArray, List.set_cons_zero, List.set_cons_succ])
  refine wpAnyH_ready (rs := [1]) (by kernel_rfl) (by simp) ?_
  refine AllReadyH.cons rfl (fun K hK => ?_) AllReadyH.nil
  go_simp
  refine (RS.out _ hS0).mono ?_
  rintro e U1 ⟨rfl, hb⟩
  have hSn := hS0.below hb
  clear hb hS0
  refine hK.out _ _ hSn (fun _ => ?_)
  clear hK K
  (try simp only [List.getElem_toArray, List.getElem_cons_zero, List.getElem_cons_succ, Act.put, List.setIfInBounds_toArray, List.set_cons_zero, List.set_cons_succ])
  refine wpAnyH_ready (rs := [3]) (by kernel_rfl) (by simp) ?_
  refine AllReadyH.cons rfl (fun K hK => ?_) AllReadyH.nil
  go_simp
  refine (RT.out _ hSn).mono ?_
  rintro e U2 ⟨rfl, hb⟩
  replace hSn := hSn.below hb
  clear hb
  refine hK.out _ _ hSn (fun _ => ?_)
  clear hK K
  (try simp only [List.getElem_toArray, List.getElem_cons_zero, List.getElem_cons_succ, Act.put, List.setIfInBounds_toArray, List.set_cons_zero, List.set_cons_succ])
  refine wpAnyH_take (i := 4) (v := ?_) rfl (by kernel_rfl) (by kernel_rfl) (by kernel_rfl) (fun _ _ _ h => h) (Or.inl ⟨by kernel_rfl, fun W hW => ?_⟩) (by assumption) ?_
  rotate_left
  · go_simp
    try with_reducible rfl
  (try simp only [List.getElem_toArray, List.getElem_cons_zero, List.getElem_cons_succ, Act.put, List.setIfInBounds_toArray, List.set_cons_zero, List.set_cons_succ])
  refine wpAnyH_ready (rs := [7]) (by kernel_rfl) (by simp) ?_
  refine AllReadyH.cons rfl (fun K hK => ?_) AllReadyH.nil
  go_simp
  refine (RQ.out _ hSn).mono ?_
  rintro e U3 ⟨rfl, hb⟩
  replace hSn := hSn.below hb
  clear hb
  refine hK.out _ _ hSn (fun _ => ?_)
  clear hK K
  (try simp only [List.getElem_toArray, List.getElem_cons_zero, List.getElem_cons_succ, Act.put, List.setIfInBounds_toArray, List.set_cons_zero, List.set_cons_succ])
  refine wpAnyH_take (i := 8) (v := ?_) rfl (by kernel_rfl) (by kernel_rfl) (by kernel_rfl) (fun _ _ _ h => h) (Or.inl ⟨by kernel_rfl, fun W hW => ?_⟩) (by assumption) ?_
  rotate_left
  · go_simp
    try with_reducible rfl
  (try simp only [List.getElem_toArray, List.getElem_cons_zero, List.getElem_cons_succ, Act.put, List.setIfInBounds_toArray, List.set_cons_zero, List.set_cons_succ])
  refine wpAnyH_take (i := 9) (v := ?_) rfl (by kernel_rfl) (by kernel_rfl) (by kernel_rfl) (fun _ _ _ h => h) (Or.inl ⟨by kernel_rfl, fun W hW => ?_⟩) (by assumption) ?_
  rotate_left
  · go_simp
    try with_reducible rfl
  (try simp only [List.getElem_toArray, List.getElem_cons_zero, List.getElem_cons_succ, Act.put, List.setIfInBounds_toArray, List.set_cons_zero, List.set_cons_succ])
  refine wpAnyH_done (by kernel_rfl) ?_ _
  refine NoPanic.normal ?_
  go_wp2
  go_ret
  exact ⟨ret_bool (by rw [hap.out]; cases D <;> rfl), hSn.be⟩
end Go.Proofs.Ytgegnnojobmdcaa
