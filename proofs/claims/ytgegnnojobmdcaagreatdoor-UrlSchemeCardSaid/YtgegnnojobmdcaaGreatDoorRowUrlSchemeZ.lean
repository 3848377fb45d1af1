/-
UrlScheme: whatever comes in, the law's call returns true, and the arguments read behind the call as they did before; no condition on them. The row lists the two tables of unicode/utf8 (first, acceptRanges); the card ties them.
-/
import Derived.Test.YtgegnnojobmdcaaGreatDoorTz
import Derived.Test.YtgegnnojobmdcaaGreatDoorP15
import Derived.Test.YtgegnnojobmdcaaGreatDoorC23
set_option linter.unusedVariables false
set_option linter.unusedSimpArgs false
/-! Contract: postmarklaw09.awake. -/
namespace Go.Proofs.YtgegnnojobmdcaaGreatDoor
open Go.RowKit
def awT : List UInt8 := [72, 84, 84, 80, 58, 47, 47, 117, 64, 65, 46, 111, 114, 103, 58, 56, 48, 47, 98, 63, 99, 35, 100]
def awV (a : Option Addr) (pn pc : Nat) : UV := ⟨[104, 116, 116, 112], [117], [], 1, [97, 46, 111, 114, 103], 0, 0, 0, 0, 0, 0, 0, 0, 0, -1, a, pn, pc, [[98]], [], [99], [100], true, true⟩
theorem awT_parse : PM.urlParse awT = some (awV none 0 0).pm := by kernel_rfl
theorem awP (w : World) (hg : Gl w) (hT : Lib.Utf8Tabs 1 2 w) : Calls Tryz.prog 14 #[.string ⟨#[72, 84, 84, 80, 58, 47, 47, 117, 64, 65, 46, 111, 114, 103, 58, 56, 48, 47, 98, 63, 99, 35, 100]⟩] w fun e w' =>
    (∃ g o pc, e = .returned (.tuple #[.agg (awV (some ⟨g, o, none⟩) 1 pc).cells, .bool true]) ∧ (awV (some ⟨g, o, none⟩) 1 pc).Ok w' ∧ w'.cell? ⟨g, o, none⟩ = some (.string (mkS [98]))) ∧ Below w.heap.size w w' := by
  have h := UrlParse_c awT (by decide) w hg hT
  rw [awT_parse] at h
  refine h.mono ?_
  rintro e w' ⟨⟨v, h1, h2, h3⟩, hb⟩
  refine ⟨?_, hb⟩
  obtain ⟨sc, us, pa, k, n, m, s0, s1, s2, s3, s4, s5, s6, s7, port, a, pn, pc, xs, op, qu, fr, hq, hf⟩ := v
  have h2' : (⟨sc, us, pa, ⟨k, n, m, [s0, s1, s2, s3, s4, s5, s6, s7]⟩, port, xs, op, qu, fr, hq, hf⟩ : PM.Url) = ⟨[104, 116, 116, 112], [117], [], ⟨1, [97, 46, 111, 114, 103], 0, [0, 0, 0, 0, 0, 0, 0, 0]⟩, -1, [[98]], [], [99], [100], true, true⟩ := h2
  simp only [PM.Url.mk.injEq, PM.Host.mk.injEq, List.cons.injEq, and_true] at h2'
  obtain ⟨rfl, rfl, rfl, ⟨rfl, rfl, rfl, rfl, rfl, rfl, rfl, rfl, rfl, rfl, rfl⟩, rfl, rfl, rfl, rfl, rfl, rfl, rfl⟩ := h2'
  have hok := h3 (show ([[98]] : List (List UInt8)).length ≤ 10000 by decide)
  have hrd : RdS w' a pn [[98]] := hok.rd
  have hpn : pn = 1 := hrd.len.symm
  subst hpn
  rcases hrd.at_ with e0 | ⟨b, o, rfl, hlt, hc⟩
  · cases e0
  · exact ⟨b, o, pc, h1, hok, hc 0 (by decide)⟩
theorem aw_scheme : PM.scheme [72, 116, 116, 112, 58, 120] = ([104, 116, 116, 112], [120], true) := by kernel_rfl
theorem aw_tail : PM.tail [97, 63, 98, 35, 99, 63, 100] = ([97], [98], [99, 63, 100], true, true) := by kernel_rfl
theorem aw_may (a : Option Addr) (pn pc : Nat) : PM.urlMay (awV a pn pc).pm = true := by
  show PM.urlMay (awV none 0 0).pm = true
  kernel_rfl
theorem aw_host : PM.hostShow ⟨1, [97, 46, 111, 114, 103], 0, [0, 0, 0, 0, 0, 0, 0, 0]⟩ = [97, 46, 111, 114, 103] := by kernel_rfl
theorem aw_web : PM.web [104, 116, 116, 112, 115] = 443 := by kernel_rfl
set_option maxRecDepth 100000 in
set_option maxHeartbeats 4000000 in
theorem awake9_c (w : World) (hg : Gl w) (hT : Lib.Utf8Tabs 1 2 w) : Calls Tryz.prog 12 #[] w fun e w' => e = .returned (.bool true) ∧ Below w.heap.size w w' := by
  have hP := awP w hg hT
  have HG := Lib.hid hg
  have hS := fun W hg => Scheme_c [72, 116, 116, 112, 58, 120] (by decide) W hg
  rw [aw_scheme] at hS
  have hTl := fun W hg => Tail_c [97, 63, 98, 35, 99, 63, 100] (by decide) W hg
  rw [aw_tail] at hTl
  have HS : Hid (∀ W, Gl W → Calls Tryz.prog 17 #[.string ⟨#[72, 116, 116, 112, 58, 120]⟩] W fun e w' => e = .returned (.tuple #[.string (mkS [104, 116, 116, 112]), .string (mkS [120]), .bool true]) ∧ Below W.heap.size W w') := Lib.hid hS
  have HTl : Hid (∀ W, Gl W → Calls Tryz.prog 19 #[.string ⟨#[97, 63, 98, 35, 99, 63, 100]⟩] W fun e w' => e = .returned (.tuple #[.string (mkS [97]), .string (mkS [98]), .string (mkS [99, 63, 100]), .bool true, .bool true]) ∧ Below W.heap.size W w') := Lib.hid hTl
  have HP := Lib.hid hP
  clear hP hS hTl hg hT
  go_enter Tryz.func12, Tryz.ntmps12
  go_wp2_with fail
  refine HP.out.mono ?_
  rintro e V1 ⟨⟨g, o, pc, rfl, hok, hcell⟩, hb1⟩
  have HOK := Lib.hid hok
  have HCE := Lib.hid hcell
  have HB := Lib.hid hb1
  clear hok hcell hb1
  obtain ⟨v, hv⟩ : ∃ v, v = awV (some ⟨g, o, none⟩) 1 pc := ⟨_, rfl⟩
  have HN := Lib.hid (Go.heap_alloc_new V1 (.cells zurl 27))
  rw [← hv] at HOK ⊢
  have HV := Lib.hid hv
  clear hv
  go_upto_region 2 with (refine wpList_store_row rfl 27 _ _ rfl V1.heap.size v.cells rfl rfl 27 _ HN.out (by kernel_rfl) rfl (agg_one v) ?_)
  obtain ⟨V2, hV⟩ : ∃ V2, V2 = (V1.alloc (.cells #[.string ⟨#[]⟩, .string ⟨#[]⟩, .string ⟨#[]⟩, .int .i64 0, .string ⟨#[]⟩, .int .i64 0, .int .i64 0, .int .i64 0, .int .i64 0, .int .i64 0, .int .i64 0, .int .i64 0, .int .i64 0, .int .i64 0, .int .i64 0, .slice none 0 0, .string ⟨#[]⟩, .string ⟨#[]⟩, .string ⟨#[]⟩, .bool false, .bool false] 27)).setRow V1.heap.size v.cells := ⟨_, rfl⟩
  have hN : V2.heap[V1.heap.size]? = some (.cells v.cells 27 (0, 0)) := by rw [hV]; exact heap_setRow HN.out _
  have hb : Below V1.heap.size V1 V2 := by rw [hV]; exact below_setRow (b_alloc (Below.refl _ _) _) (Nat.le_refl _) _
  rw [← hV]
  clear hV HN
  have HX := Lib.hid hN
  replace HOK := Lib.hid (HOK.out.below hb)
  replace HCE := Lib.hid (cell_b hb HCE.out)
  replace HB := Lib.hid (b_then HB.out hb)
  clear hN hb
  generalize V1.heap.size = b at HX ⊢
  go_wp2_with fail
  refine (HS.out _ (HG.out.below HB.out)).mono ?_
  rintro e V3 ⟨rfl, hb⟩
  replace HX := Lib.hid (obj_b hb HX.out)
  replace HOK := Lib.hid (HOK.out.below hb)
  replace HCE := Lib.hid (cell_b hb HCE.out)
  replace HB := Lib.hid (b_then HB.out hb)
  clear hb
  go_wp2_with fail
  refine (HTl.out _ (HG.out.below HB.out)).mono ?_
  rintro e V4 ⟨rfl, hb⟩
  replace HX := Lib.hid (obj_b hb HX.out)
  replace HOK := Lib.hid (HOK.out.below hb)
  replace HCE := Lib.hid (cell_b hb HCE.out)
  replace HB := Lib.hid (b_then HB.out hb)
  clear hb
  obtain ⟨c0, c1, c2, c3, c4, c5, c6, c7, c8, c9, c10, c11, c12, c13, c14, c15, c16, c17, c18, c19, c20⟩ : UrlAt V4 b (awV (some ⟨g, o, none⟩) 1 pc) := by rw [← HV.out]; exact UrlAt.of_heap HX.out
  have ce := HCE.out
  unfold awV at c0 c1 c2 c3 c4 c5 c6 c7 c8 c9 c10 c11 c12 c13 c14 c15 c16 c17 c18 c19 c20
  dsimp only at c0 c1 c2 c3 c4 c5 c6 c7 c8 c9 c10 c11 c12 c13 c14 c15 c16 c17 c18 c19 c20
  go_wp2_with (refine wpList_load_g 27 _ rfl (by kernel_rfl) b rfl HX.out Tryz.underlying27 rfl (by kernel_rfl) ?_)
  refine (hostShow_c 1 [97, 46, 111, 114, 103] 0 0 0 0 0 0 0 0 0 (by decide) _ (HG.out.below HB.out)).mono ?_
  rw [aw_host]
  rintro e V5 ⟨rfl, hb⟩
  replace HX := Lib.hid (obj_b hb HX.out)
  replace HOK := Lib.hid (HOK.out.below hb)
  replace HCE := Lib.hid (cell_b hb HCE.out)
  replace HB := Lib.hid (b_then HB.out hb)
  clear hb ce c0 c1 c2 c3 c4 c5 c6 c7 c8 c9 c10 c11 c12 c13 c14 c15 c16 c17 c18 c19 c20
  obtain ⟨c0, c1, c2, c3, c4, c5, c6, c7, c8, c9, c10, c11, c12, c13, c14, c15, c16, c17, c18, c19, c20⟩ : UrlAt V5 b (awV (some ⟨g, o, none⟩) 1 pc) := by rw [← HV.out]; exact UrlAt.of_heap HX.out
  have ce := HCE.out
  unfold awV at c0 c1 c2 c3 c4 c5 c6 c7 c8 c9 c10 c11 c12 c13 c14 c15 c16 c17 c18 c19 c20
  dsimp only at c0 c1 c2 c3 c4 c5 c6 c7 c8 c9 c10 c11 c12 c13 c14 c15 c16 c17 c18 c19 c20
  go_wp2_with (refine wpList_load_g 27 _ rfl (by kernel_rfl) b rfl HX.out Tryz.underlying27 rfl (by kernel_rfl) ?_)
  refine (urlMay_c v _ HOK.out (HG.out.below HB.out)).mono ?_
  rw [show PM.urlMay v.pm = true from by rw [HV.out]; exact aw_may _ _ _]
  rintro e V6 ⟨rfl, hb⟩
  replace HX := Lib.hid (obj_b hb HX.out)
  replace HOK := Lib.hid (HOK.out.below hb)
  replace HCE := Lib.hid (cell_b hb HCE.out)
  replace HB := Lib.hid (b_then HB.out hb)
  clear hb ce c0 c1 c2 c3 c4 c5 c6 c7 c8 c9 c10 c11 c12 c13 c14 c15 c16 c17 c18 c19 c20
  obtain ⟨c0, c1, c2, c3, c4, c5, c6, c7, c8, c9, c10, c11, c12, c13, c14, c15, c16, c17, c18, c19, c20⟩ : UrlAt V6 b (awV (some ⟨g, o, none⟩) 1 pc) := by rw [← HV.out]; exact UrlAt.of_heap HX.out
  have ce := HCE.out
  unfold awV at c0 c1 c2 c3 c4 c5 c6 c7 c8 c9 c10 c11 c12 c13 c14 c15 c16 c17 c18 c19 c20
  dsimp only at c0 c1 c2 c3 c4 c5 c6 c7 c8 c9 c10 c11 c12 c13 c14 c15 c16 c17 c18 c19 c20
  go_wp2_with fail
  refine (Web_c [104, 116, 116, 112, 115] _).mono ?_
  rw [aw_web]
  rintro e V7 ⟨rfl, rfl⟩
  go_wp2_with (refine wpList_load_g 27 _ rfl (by kernel_rfl) b rfl HX.out Tryz.underlying27 rfl (by kernel_rfl) ?_)
  refine (UrlSame_c v v _ HOK.out HOK.out).mono ?_
  rw [(PM.urlSame_iff _ _).2 rfl]
  rintro e V8 ⟨rfl, hb⟩
  replace HB := Lib.hid (b_then HB.out hb)
  go_wp2
  go_ret
  exact ⟨rfl, HB.out⟩
end Go.Proofs.YtgegnnojobmdcaaGreatDoor
/-! The walk of UrlScheme. -/
namespace PM
/-- What may stand in a scheme. -/
def schOk (x : UInt8) : Prop := (97 ≤ x.toNat ∧ x.toNat ≤ 122) ∨ (48 ≤ x.toNat ∧ x.toNat ≤ 57) ∨ x = 43 ∨ x = 45 ∨ x = 46
theorem alpha_low {c : UInt8} (h : alpha c = true) : 97 ≤ (low c).toNat ∧ (low c).toNat ≤ 122 := by
  unfold alpha at h
  simp at h
  unfold low
  split
  · rename_i h2
    simp at h2
    have : (c + 32).toNat = c.toNat + 32 := by
      rw [UInt8.toNat_add]
      have : (32 : UInt8).toNat = 32 := rfl
      omega
    omega
  · rename_i h2
    simp at h2
    omega
theorem low_ok {c : UInt8} (h : schOdd c = false) : schOk (low c) := by
  unfold schOdd at h
  simp only [Bool.and_eq_false_iff, Bool.not_eq_false'] at h
  by_cases ha : alpha c = true
  · exact .inl (alpha_low ha)
  · have hn : ¬ (65 ≤ c.toNat ∧ c.toNat ≤ 90) := by
      intro hh
      apply ha
      unfold alpha
      simp
      omega
    have hl : low c = c := by
      unfold low
      rw [if_neg (by simp; omega)]
    rw [hl]
    rcases h with (h | h) | h
    · exact absurd h ha
    · unfold isDigit at h
      simp at h
      exact .inr (.inl (by omega))
    · have : c = 43 ∨ c = 45 ∨ c = 46 := by
        unfold has at h
        simpa using h
      exact .inr (.inr this)
theorem ok_odd {c : UInt8} (h : schOk c) : schOdd c = false ∧ low c = c ∧ c ≠ 58 := by
  have h3 : low c = c := by
    unfold low
    rw [if_neg]
    rcases h with h | h | rfl | rfl | rfl
    · simp; omega
    · simp; omega
    · decide
    · decide
    · decide
  refine ⟨?_, h3, ?_⟩
  · rcases h with h | h | rfl | rfl | rfl
    · have : alpha c = true := by unfold alpha; simp; omega
      unfold schOdd
      rw [this]
      rfl
    · have : isDigit c = true := by unfold isDigit; simp; omega
      unfold schOdd
      rw [this]
      simp
    · decide
    · decide
    · decide
  · rintro rfl
    rcases h with h | h | h | h | h
    · exact absurd h.1 (by decide)
    · exact absurd h.2 (by decide)
    · exact absurd h (by decide)
    · exact absurd h (by decide)
    · exact absurd h (by decide)
theorem scheme_none {s : L} (h : (scheme s).2.2 = false) : scheme s = ([], [], false) := by
  unfold scheme at h ⊢
  split
  · rfl
  · rename_i hb
    rw [if_neg hb] at h
    cases h
theorem scheme_some {s c r : L} (h : scheme s = (c, r, true)) : (∃ a, a.length = c.length ∧ s = a ++ 58 :: r) ∧ c ≠ [] ∧ (97 ≤ (c.headD 0).toNat ∧ (c.headD 0).toNat ≤ 122) ∧ (∀ x ∈ c, schOk x) ∧ scheme (c ++ 58 :: r) = (c, r, true) := by
  unfold scheme at h
  split at h
  · cases h
  · rename_i hb
    simp only [Prod.mk.injEq, and_true] at h
    obtain ⟨h1, h2⟩ := h
    unfold schBad at hb
    simp only [Bool.or_eq_true, Bool.not_eq_true', not_or, Bool.not_eq_true, Bool.not_eq_false] at hb
    obtain ⟨⟨⟨b1, b2⟩, b3⟩, b4⟩ := hb
    have hh : has s 58 = true := by
      unfold cut at b1
      split at b1
      · assumption
      · cases b1
    have hc : cut 58 s = (s.takeWhile (· != 58), (s.dropWhile (· != 58)).drop 1, true) := by
      unfold cut
      rw [if_pos hh]
    rw [hc] at h1 h2 b2 b3 b4
    dsimp only at h1 h2 b2 b3 b4
    have hs : s = s.takeWhile (· != 58) ++ 58 :: (s.dropWhile (· != 58)).drop 1 := by
      have hd : ∃ t, s.dropWhile (· != 58) = 58 :: t := by
        have hm : (58 : UInt8) ∈ s := by
          unfold has at hh
          simpa using hh
        clear h1 h2 b2 b3 b4 hc b1 hh
        induction s with
        | nil => cases hm
        | cons x q ih =>
          by_cases hx : x = 58
          · subst hx
            exact ⟨q, by simp⟩
          · rw [List.dropWhile_cons, if_pos (by simpa using hx)]
            exact ih ((List.mem_cons.1 hm).resolve_left (fun e => hx e.symm))
      obtain ⟨t, ht⟩ := hd
      have := List.takeWhile_append_dropWhile (p := (· != (58 : UInt8))) (l := s)
      rw [ht] at this ⊢
      rw [List.drop_one, List.tail_cons]
      exact this.symm
    have hlen : (s.takeWhile (· != 58)).length = c.length := by rw [← h1]; simp [lower]
    have hne : c ≠ [] := by
      intro e
      rw [e] at hlen
      simp at b2 hlen
      exact b2 hlen
    have hok : ∀ x ∈ c, schOk x := by
      intro x hx
      rw [← h1] at hx
      unfold lower at hx
      obtain ⟨y, hy, rfl⟩ := List.mem_map.1 hx
      rw [List.any_eq_false] at b4
      exact low_ok (by simpa using b4 y hy)
    have hhead : 97 ≤ (c.headD 0).toNat ∧ (c.headD 0).toNat ≤ 122 := by
      rw [← h1]
      cases htw : s.takeWhile (· != 58) with
      | nil => rw [htw] at b2; simp at b2
      | cons y q =>
        rw [htw] at b3
        exact alpha_low (by simpa using b3)
    refine ⟨⟨_, hlen, by rw [← h2]; exact hs⟩, hne, hhead, hok, ?_⟩
    unfold scheme schBad
    rw [cut_hit 58 c r (fun x hx => (ok_odd (hok x hx)).2.2)]
    dsimp only
    have g1 : c.any schOdd = false := by
      rw [List.any_eq_false]
      intro x hx
      rw [(ok_odd (hok x hx)).1]
      decide
    have g2 : alpha (c.headD 0) = true := by
      unfold alpha
      simp only [Bool.or_eq_true, Bool.and_eq_true, decide_eq_true_eq]
      exact .inr hhead
    have g3 : lower c = c := by
      unfold lower
      conv => rhs; rw [← List.map_id c]
      exact List.map_congr_left fun x hx => (ok_odd (hok x hx)).2.1
    have g4 : c.isEmpty = false := by
      cases c with
      | nil => exact absurd rfl hne
      | cons _ _ => rfl
    rw [g1, g2, g3, g4]
    rfl
end PM
namespace Go.Proofs.YtgegnnojobmdcaaGreatDoor
open Go.RowKit
set_option maxRecDepth 100000 in
set_option maxHeartbeats 4000000 in
theorem UrlScheme_c (s : List UInt8) (i : Int) (w : World) (hg : Gl w) (hT : Lib.Utf8Tabs 1 2 w) : Calls Tryz.prog 6 #[.string (mkS s), .int .i64 i] w fun e w' => e = .returned (.bool true) ∧ Below w.heap.size w w' := by
  have HA := Lib.hid (awake9_c w hg hT)
  have HG := Lib.hid hg
  clear hg hT
  go_enter Tryz.func6, Tryz.ntmps6
  go_wp2_with fail
  refine HA.out.mono ?_
  rintro e V1 ⟨rfl, hb⟩
  have HB := Lib.hid hb
  clear hb
  by_cases hl : 300 < s.length
  · have hl2 : (300 : Int) < (s.length : Int) := by omega
    go_wp2
    go_ret
    exact ⟨rfl, HB.out⟩
  have hl2 : ¬ (300 : Int) < (s.length : Int) := by omega
  obtain ⟨c, r, is, hsc⟩ : ∃ c r is, PM.scheme s = (c, r, is) := ⟨_, _, _, rfl⟩
  have hS := fun W hg => Scheme_c s (by omega) W hg
  rw [hsc] at hS
  have HS := Lib.hid hS
  clear hS
  cases is
  · have := PM.scheme_none (s := s) (by rw [hsc])
    rw [hsc] at this
    simp only [Prod.mk.injEq, and_true] at this
    obtain ⟨rfl, rfl⟩ := this
    clear hsc
    go_wp2_with (go_at_call 17; refine (HS.out _ (HG.out.below HB.out)).mono ?_; rintro e V2 ⟨rfl, hb2⟩)
    go_ret
    exact ⟨rfl, b_then HB.out hb2⟩
  · obtain ⟨⟨a, ha, hsa⟩, hne, hhd, hok, hag⟩ := PM.scheme_some hsc
    clear hsc
    have hal : s.length = c.length + 1 + r.length := by rw [hsa]; simp; omega
    have hS2 := fun W hg => Scheme_c (c ++ 58 :: r) (by simp; omega) W hg
    rw [hag] at hS2
    have hcat : mkS (c ++ 58 :: r) = mkS c ++ ⟨#[58]⟩ ++ mkS r := by
      apply ByteArray.ext
      simp [mkS]
    rw [hcat] at hS2
    have HS2 := Lib.hid hS2
    have HOK := Lib.hid hok
    have hlt : c.length < s.length := by omega
    have hlt' : (c.length : Int) < (s.length : Int) := by omega
    have h58 : s[c.length] = 58 := by
      simp only [hsa, ← ha]
      rw [List.getElem_append_right (by simp)]
      simp
    have hc0 : 0 < c.length := List.length_pos_iff.2 hne
    have hh0 : c.headD 0 = c[0] := by
      cases c with
      | nil => exact absurd rfl hne
      | cons x q => rfl
    rw [hh0] at hhd
    have hx1 : ¬ ((c[0].toNat : Int) < 97) := by omega
    have hx2 : ¬ ((122 : Int) < (c[0].toNat : Int)) := by omega
    have hce : c.isEmpty = false := by
      cases c with
      | nil => exact absurd rfl hne
      | cons x q => rfl
    have hsum : (c.length : Int) + 1 + (r.length : Int) = (s.length : Int) := by omega
    clear hok hS2 hsa hag hh0 hhd hal ha hne hcat
    go_wp2_with (go_at_call 17; with_reducible refine (HS.out _ (HG.out.below HB.out)).mono ?_; rintro e V2 ⟨rfl, hb2⟩)
    refine (HS2.out _ (HG.out.below (b_then HB.out hb2))).mono ?_
    rintro e V3 ⟨rfl, hb3⟩
    replace HB := Lib.hid (b_then HB.out (b_then hb2 hb3))
    clear hb2 hb3 HS HS2
    by_cases hi : 0 ≤ i
    · by_cases hi2 : i < (c.length : Int)
      · obtain ⟨k, rfl⟩ : ∃ k : Nat, i = (k : Int) := ⟨i.toNat, by omega⟩
        have hk : k < c.length := by omega
        rcases HOK.out c[k] (List.getElem_mem hk) with hm | hm | hm | hm | hm
        · have m1 : (97 : Int) ≤ (c[k].toNat : Int) := by omega
          have m2 : (c[k].toNat : Int) ≤ 122 := by omega
          clear hm hi hx1 hx2
          go_wp2
          go_ret
          exact ⟨rfl, HB.out⟩
        · have m1 : (48 : Int) ≤ (c[k].toNat : Int) := by omega
          have m2 : (c[k].toNat : Int) ≤ 57 := by omega
          have m3 : (c[k].toNat : Int) < 97 := by omega
          clear hm hi hx1 hx2
          go_wp2
          go_ret
          exact ⟨rfl, HB.out⟩
        · clear hi hx1 hx2
          go_wp2
          go_ret
          exact ⟨rfl, HB.out⟩
        · clear hi hx1 hx2
          go_wp2
          go_ret
          exact ⟨rfl, HB.out⟩
        · clear hi hx1 hx2
          go_wp2
          go_ret
          exact ⟨rfl, HB.out⟩
      · go_wp2
        go_ret
        exact ⟨rfl, HB.out⟩
    · go_wp2
      go_ret
      exact ⟨rfl, HB.out⟩
end Go.Proofs.YtgegnnojobmdcaaGreatDoor
/-! The row of UrlScheme. -/
namespace Go.Proofs.YtgegnnojobmdcaaGreatDoor
open Go.ChangeShapes Go.WideShapes Go.ChangeAt Go.RowKit
open Go.WideMaps Go.WideElems
open Go.ChangeMaps (open_string shut_string)
theorem urlScheme_reads (os : Os) {H : Type} (enc : TypeId × Value → H) : ∃ x, DataW.whole enc Tryz.prog ((laidWorld os).forCall (fun _ _ => 0) ⟨#[], #[.string ⟨#[]⟩, .int .i64 0], []⟩).memory Tryz.f6.params.toList Rows.urlSchemeSpec.vars false (#[.string ⟨#[]⟩, .int .i64 0] : Array Value).toList 8 = some x :=
  Option.isSome_iff_exists.1 (by kernel_rfl)
set_option maxRecDepth 100000 in
theorem urlScheme_lifted (os : Os) (started : os.Started) (H : Type) (enc : TypeId × Value → H) (F : Stop.Interp) :
    ReturnsInHanded {} Tryz.checked os 6 .any ((OpenSpec.ofChange Rows.urlSchemeSpec).preRow enc Tryz.prog Tryz.f6 Rows.urlSchemeRow.domain false Rows.urlSchemeRow.laid) (((OpenSpec.ofChange Rows.urlSchemeSpec).at F).post enc Tryz.prog Tryz.f6 false true false false) := by
  obtain ⟨x, hx⟩ := urlScheme_reads os enc
  refine returnsInHanded_of_row (C := Tryz.checked) (s := OpenSpec.ofChange Rows.urlSchemeSpec) own started (by kernel_rfl) Tryz.func6
    (witness_row_atRef (enc := enc) (C := Tryz.checked) false (laidWorld os) #[.string ⟨#[]⟩, .int .i64 0] rfl (by kernel_rfl) (by kernel_rfl) (by kernel_rfl)
      (OpenSpec.preRow_of_cond 8 hx rfl (fun k hk => by cases hk) (by kernel_rfl) (laid_met os _))) ?_
  intro W base args ds gs before hval0 hW _ _ _ hL hsh _
  have hval : ∀ (j : Nat) t v, Tryz.f6.params[j]? = some t → args[j]? = some v → Value.okWide Tryz.prog W .any base t v := hval0
  have hW' := hW
  obtain ⟨p, q, hA0, hV, rfl, hfz, hnd⟩ := hW
  have hA : DataW.TrodAll enc Tryz.prog W 0 (fun _ => true) true Tryz.f6.params.toList args.toList ds p := hA0
  rw [Tryz.params6] at hA hval
  obtain ⟨v0, v1, d0, d1, p0, p1, rfl, rfl, rfl, h0, h1⟩ := trodAll_two hA
  obtain ⟨rfl, rfl⟩ := trodVars_none hV
  simp only [List.append_nil] at hfz hnd hW'
  have hlt : ∀ x ∈ p0 ++ p1, x.block < W.heap.size := fun x hx => hW'.lt x hx
  have h0k := h0
  obtain ⟨s0, e0, _, _, w0⟩ := open_string Tryz.underlying9 (hval 0 9 v0 rfl rfl) h0
  obtain ⟨l0, rfl⟩ := mkS_surj s0
  subst e0
  have h1k := h1
  obtain ⟨n1, e1, _, _, w1⟩ := open_int Tryz.underlying3 (hval 1 3 v1 rfl rfl) h1
  subst e1
  refine (UrlScheme_c l0 n1 W (gl_of hsh) (tabs_laid hL)).mono fun e W' ⟨he, hb⟩ => ?_
  subst he
  refine ⟨_, rfl, _, _, _, [], p0 ++ p1, [], hW', ?_, ?_, ?_, hb.frame _, fun h => by cases h⟩
  · exact trodAll_mk1 (shut_bool Tryz.underlying4 _)
  · exact trodAll_mk2 (Below.trod laidOut (by kernel_rfl) (of_decide_eq_true (by kernel_rfl)) h0k hb (fun x hx => hlt x (by simp [hx]))) (Below.trod laidOut (by kernel_rfl) (of_decide_eq_true (by kernel_rfl)) h1k hb (fun x hx => hlt x (by simp [hx])))
  · rfl
theorem urlScheme_said : Rows.UrlSchemeSaid :=
  OpenClaim.holds_of_cond 6 Tryz.f6 rfl rfl rfl rfl rfl rfl rfl ⟨rfl, rfl, rfl, rfl, rfl⟩ rfl rfl rfl rfl rfl (by kernel_rfl) Tryz.func6 (by kernel_rfl)
    (of_decide_eq_true (by kernel_rfl)) (by unfold Func.isWrapper; first | (rw [if_pos (by decide +kernel)]; kernel_rfl) | (rw [if_neg (by decide +kernel)]; exact ⟨rfl, rfl⟩))
    (fun os started H enc _ F => by rw [OpenClaim.pre_eq_preRow]; exact urlScheme_lifted os started H enc F)
theorem urlScheme_plain (f : FuncId) (fn : Func) (hf : Tryz.pinned.checked.prog.funcNamed "postmark/postmarklaw09.UrlScheme" = some f) (hfn : Tryz.pinned.checked.prog.funcs[f]? = some fn) :
    true = Tryz.pinned.checked.prog.looks [] ∧ ∀ (j : Nat) t, fn.params[j]? = some t → Tryz.pinned.checked.prog.wantsStandIn t = false := by
  obtain rfl : f = 6 := Option.some.inj ((show Tryz.prog.funcNamed "postmark/postmarklaw09.UrlScheme" = some 6 by kernel_rfl).symm.trans hf) |>.symm
  obtain rfl : fn = Tryz.f6 := (Option.some.inj (Tryz.func6.symm.trans hfn)).symm
  refine ⟨by kernel_rfl, fun j t ht => ?_⟩
  rw [Tryz.params6] at ht
  have hm := Array.mem_of_getElem? ht
  simp only [Array.mem_def, List.mem_cons, List.not_mem_nil, or_false] at hm
  rcases hm with rfl | rfl
  · exact (show Tryz.prog.wantsStandIn 9 = false by kernel_rfl)
  · exact (show Tryz.prog.wantsStandIn 3 = false by kernel_rfl)
theorem urlScheme_holds : Rows.UrlSchemeCardSaid :=
  Claim7.holds_tied_plain_at .later [] _ _ _ _ urlScheme_said (fun _ h => by cases h) (by kernel_rfl) (fun _ h => by cases h) urlScheme_row_tie rfl ⟨rfl, rfl⟩ (by kernel_rfl) rfl urlScheme_plain (by kernel_rfl)
#print axioms urlScheme_holds
end Go.Proofs.YtgegnnojobmdcaaGreatDoor
