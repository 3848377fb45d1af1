import Derived.Test.YtgegnnojobmdcaaC25
import Derived.Test.YtgegnnojobmdcaaC23
import Derived.Test.YtgegnnojobmdcaaBack
/-! The walk of ShowParts. -/
set_option linter.unusedVariables false
namespace Go.Proofs.Ytgegnnojobmdcaa
open Go.RowKit
theorem few_ok {u : UV} {w : World} (hr : RdW w u.a u.pn u.xs) (h : PM.few u.pm = true) : u.Ok w := by
  obtain ⟨a, b, c, d, e, f, g, i, j⟩ := PM.few_all h
  exact ⟨Nat.le_trans c (by decide), Nat.le_trans d (by decide), Nat.le_trans e (by decide), Nat.le_trans f (by decide), Nat.le_trans g (by decide), Nat.le_trans i (by decide), Nat.le_trans j (by decide), Nat.le_trans a (by decide), fun s hs => Nat.le_trans (b s hs) (by decide), hr.s a⟩
theorem showUrl_len {u : UV} {w : World} (hu : u.Ok w) : (PM.showUrl u.pm).length ≤ 1000000000000 := by
  have hw : ∀ (is : Bool) (parts : List (List UInt8)), (∀ s ∈ parts, s.length ≤ 20000000000) → parts.length ≤ 3 → (PM.when is parts).length ≤ 60000000000 := fun is parts h1 h2 => by
    have := when_len is parts h1
    omega
  have hb : ∀ l : List UInt8, l.length ≤ 1000000 → l.length ≤ 20000000000 := fun l h => by omega
  have l1 := hw true [u.pm.scheme, [58], u.pm.opaque_] (by simp; exact ⟨hb _ hu.sc, hb _ hu.op⟩) (by simp)
  have l2 := hw (PM.isWeb u.pm) [[47, 47], u.pm.user] (by simp; exact hb _ hu.us) (by simp)
  have l3 := hw (!u.pm.pass.isEmpty) [[58], u.pm.pass] (by simp; exact hb _ hu.pa) (by simp)
  have l4 := hw (!u.pm.user.isEmpty || !u.pm.pass.isEmpty) [[64]] (by simp) (by simp)
  have l5 := hw (PM.isWeb u.pm) [PM.door u.pm, PM.pathShow u.pm.path] (by simp; exact ⟨door_len u hu.n, pathShow_len u.xs hu.xn hu.xl⟩) (by simp)
  have l6 := hw u.pm.hasQuery [[63], u.pm.query] (by simp; exact hb _ hu.qu) (by simp)
  have l7 := hw u.pm.hasFrag [[35], u.pm.frag] (by simp; exact hb _ hu.fr) (by simp)
  unfold PM.showUrl
  split
  · simp
  · simp only [List.length_append]
    omega
/-- Where a law of one address stands. -/
structure OneAt (u : UV) (w W : World) : Prop where
  one : W.heap[w.heap.size]? = some (.cells u.cells 27 (0, 0))
  be : Below w.heap.size w W
theorem OneAt.below {u : UV} {w W W' : World} (h : OneAt u w W) (hb : Below W.heap.size W W') : OneAt u w W' := ⟨heap_b hb h.one, b_then h.be hb⟩
theorem OneAt.new (u : UV) (w : World) : OneAt u w (w.alloc (.cells #[.string (mkS u.sc), .string (mkS u.us), .string (mkS u.pa), .int .i64 u.k, .string (mkS u.n), .int .i64 u.m, .int .i64 u.s0, .int .i64 u.s1, .int .i64 u.s2, .int .i64 u.s3, .int .i64 u.s4, .int .i64 u.s5, .int .i64 u.s6, .int .i64 u.s7, .int .i64 u.port, .slice u.a u.pn u.pc, .string (mkS u.op), .string (mkS u.qu), .string (mkS u.fr), .bool u.hq, .bool u.hf] 27)) := ⟨Go.heap_alloc_new _ _, by (repeat (first | exact Below.refl _ _ | apply b_alloc | apply b_drew | apply b_drewN | assumption | (refine b_then ?_ (by assumption))))⟩
set_option maxRecDepth 100000 in
set_option maxHeartbeats 2000000 in
theorem ShowParts_c (u : UV) (w : World) (hr : RdW w u.a u.pn u.xs) (hg : Gl w) : Calls Try.prog 3 #[.agg u.cells] w fun e w' => e = .returned (.bool true) ∧ Below w.heap.size w w' := by
  have HT := Lib.hid (OneAt.new u w)
  have HR := Lib.hid hr
  have HG := Lib.hid hg
  clear hr hg
  unfold UV.cells
  go_enter Try.func3, Try.ntmps3
  go_upto_region 1 with fail
  generalize w.alloc (.cells #[.string (mkS u.sc), .string (mkS u.us), .string (mkS u.pa), .int .i64 u.k, .string (mkS u.n), .int .i64 u.m, .int .i64 u.s0, .int .i64 u.s1, .int .i64 u.s2, .int .i64 u.s3, .int .i64 u.s4, .int .i64 u.s5, .int .i64 u.s6, .int .i64 u.s7, .int .i64 u.port, .slice u.a u.pn u.pc, .string (mkS u.op), .string (mkS u.qu), .string (mkS u.fr), .bool u.hq, .bool u.hf] 27) = V0 at HT ⊢
  go_wp2_with fail
  refine (awake_c _ (HG.out.below HT.out.be)).mono ?_
  rintro e V1 ⟨rfl, hb⟩
  replace HT := Lib.hid (HT.out.below hb)
  clear hb
  go_wp2_with (refine wpList_load_g 27 _ rfl (by kernel_rfl) w.heap.size rfl HT.out.one Try.underlying27 rfl (by kernel_rfl) ?_)
  refine (Few_c u _ (HR.out.below HT.out.be)).mono ?_
  cases hf : PM.few u.pm
  · rintro e V2 ⟨rfl, hb⟩
    replace HT := Lib.hid (HT.out.below hb)
    go_wp2
    go_ret
    exact ⟨rfl, HT.out.be⟩
  rintro e V2 ⟨rfl, hb⟩
  replace HT := Lib.hid (HT.out.below hb)
  have HO := Lib.hid (few_ok HR.out hf)
  clear hb hf
  go_wp2_with (refine wpList_load_g 27 _ rfl (by kernel_rfl) w.heap.size rfl HT.out.one Try.underlying27 rfl (by kernel_rfl) ?_)
  refine (urlMay_c u _ (HO.out.below HT.out.be) (HG.out.below HT.out.be)).mono ?_
  cases hm : PM.urlMay u.pm
  · rintro e V3 ⟨rfl, hb⟩
    replace HT := Lib.hid (HT.out.below hb)
    go_wp2
    go_ret
    exact ⟨rfl, HT.out.be⟩
  rintro e V3 ⟨rfl, hb⟩
  replace HT := Lib.hid (HT.out.below hb)
  have HM := Lib.hid hm
  clear hb hm
  go_wp2_with (refine wpList_load_g 27 _ rfl (by kernel_rfl) w.heap.size rfl HT.out.one Try.underlying27 rfl (by kernel_rfl) ?_)
  refine (showUrl_c u _ (HO.out.below HT.out.be) (HG.out.below HT.out.be)).mono ?_
  rintro e V4 ⟨rfl, hb⟩
  replace HT := Lib.hid (HT.out.below hb)
  clear hb
  go_wp2_with (refine wpList_load_g 27 _ rfl (by kernel_rfl) w.heap.size rfl HT.out.one Try.underlying27 rfl (by kernel_rfl) ?_)
  refine (Bare_c u _ (HO.out.below HT.out.be)).mono ?_
  rintro e V5 ⟨v, rfl, hp, ho, -, hb⟩
  replace HT := Lib.hid (HT.out.below hb)
  have HP := Lib.hid hp
  have HO1 := Lib.hid ho
  clear hb hp ho
  go_wp2_with fail
  refine (showUrl_c v _ HO1.out (HG.out.below HT.out.be)).mono ?_
  rw [HP.out]
  rintro e V6 ⟨rfl, hb⟩
  replace HT := Lib.hid (HT.out.below hb)
  clear hb
  obtain ⟨c0, c1, c2, c3, c4, c5, c6, c7, c8, c9, c10, c11, c12, c13, c14, c15, c16, c17, c18, c19, c20⟩ := UrlAt.of_heap HT.out.one
  have hfrag := PM.show_frag HM.out
  have hBl : (PM.showUrl (PM.bare u.pm)).length ≤ 1000000000000 := by
    rw [← HP.out]
    exact showUrl_len HO1.out
  have hfl : u.fr.length ≤ 1000000 := HO.out.fr
  obtain ⟨r, hsch⟩ := PM.show_scheme HM.out
  have h1 : ((u.sc.length : Int) < (PM.showUrl u.pm).length) := by
    rw [hsch]
    show (u.sc.length : Int) < ((u.sc ++ 58 :: r).length : Int)
    simp
    omega
  have h2 : ((PM.showUrl u.pm).take u.sc.length == u.sc) = true := by
    rw [hsch]
    show ((u.sc ++ 58 :: r).take u.sc.length == u.sc) = true
    simp
  have h3 : (PM.showUrl u.pm)[u.sc.length]? = some 58 := by
    rw [hsch]
    show (u.sc ++ 58 :: r)[u.sc.length]? = some 58
    simp
  have hfrag' : PM.showUrl u.pm = if u.hf then PM.showUrl (PM.bare u.pm) ++ ([35] ++ u.fr) else PM.showUrl (PM.bare u.pm) := hfrag
  generalize PM.showUrl (PM.bare u.pm) = B at hfrag' hBl ⊢
  generalize PM.showUrl u.pm = S at hfrag' h1 h2 h3 ⊢
  have HF := Lib.hid hfrag'
  have H3 := Lib.hid h3
  clear hfrag hfrag' hsch h3 r
  rcases (Bool.eq_false_or_eq_true u.hf).symm with hh | hh
  · rw [hh] at c20
    have he : B = S := by rw [HF.out, hh]; rfl
    subst he
    clear HF
    go_upto_region 11 with fail
    go_quiet (fail)
    go_wp2
    go_ret
    refine ⟨ret_bool ?_, b_drewN HT.out.be _⟩
    obtain ⟨_, e⟩ := List.getElem?_eq_some_iff.1 H3.out
    rw [e]
    rfl
  · rw [hh] at c20
    have he : B ++ ([35] ++ u.fr) = S := by rw [HF.out, hh]; rfl
    have hw : mkS B ++ (⟨#[35]⟩ : ByteArray) ++ mkS u.fr = mkS S := by
      rw [show (⟨#[35]⟩ : ByteArray) = mkS [35] from rfl, mkS_append, mkS_append, ← he]
      simp
    clear HF he
    go_upto_region 11 with fail
    go_quiet (fail)
    go_wp2
    go_ret
    refine ⟨ret_bool ?_, b_drewN HT.out.be _⟩
    obtain ⟨_, e⟩ := List.getElem?_eq_some_iff.1 H3.out
    rw [e]
    rfl
end Go.Proofs.Ytgegnnojobmdcaa
