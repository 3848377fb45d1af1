/-
UrlTail: whatever comes in, the law's call returns true, and the arguments read behind the call as they did before; no condition on them. The row lists the two tables of unicode/utf8 (first, acceptRanges); the card ties them.
-/
import Derived.Test.YtgegnnojobmdcaaGreatDoorTz
import Derived.Test.YtgegnnojobmdcaaGreatDoorP15
import Derived.Test.YtgegnnojobmdcaaGreatDoorC23
import Derived.Test.YtgegnnojobmdcaaGreatDoorMay
set_option linter.unusedVariables false
set_option linter.unusedSimpArgs false
/-! Contract: postmarklaw09.awake. -/
namespace Go.Proofs.YtgegnnojobmdcaaGreatDoor
open Go.RowKit
def awT : List UInt8 := [72, 84, 84, 80, 58, 47, 47, 117, 64, 65, 46, 111, 114, 103, 58, 56, 48, 47, 98, 63, 99, 35, 100]
def awV (a : Option Addr) (pn pc : Nat) : UV := ⟨[104, 116, 116, 112], [117], [], 1, [97, 46, 111, 114, 103], 0, 0, 0, 0, 0, 0, 0, 0, 0, -1, a, pn, pc, [[98]], [], [99], [100], true, true⟩
theorem awT_parse : PM.urlParse awT = some (awV none 0 0).pm := by kernel_rfl
theorem awP (w : World) (hg : Gl w) (hT : Lib.Utf8Tabs 1 2 w) : Calls Tryz.prog 14 #[.string ⟨#[72, 84, 84, 80, 58, 47, 47, 117, 64, 65, 46, 111, 114, 103, 58, 56, 48, 47, 98, 63, 99, 35, 100]⟩] w fun e w' =>
    (∃ g o pc, e = .returned (.tuple #[.agg (awV (some ⟨g, o, none⟩) 1 pc).cells, .bool true]) ∧ (awV (some ⟨g, o, none⟩) 1 pc).Ok w' ∧ w'.cell? ⟨g, o, none⟩ = some (.string (mkS [98]))) ∧ Below w.heap.size w w' := by
  have h := UrlParse_c awT (by decide) w hg hT
  rw [awT_parse] at h
  refine h.mono ?_
  rintro e w' ⟨⟨v, h1, h2, h3⟩, hb⟩
  refine ⟨?_, hb⟩
  obtain ⟨sc, us, pa, k, n, m, s0, s1, s2, s3, s4, s5, s6, s7, port, a, pn, pc, xs, op, qu, fr, hq, hf⟩ := v
  have h2' : (⟨sc, us, pa, ⟨k, n, m, [s0, s1, s2, s3, s4, s5, s6, s7]⟩, port, xs, op, qu, fr, hq, hf⟩ : PM.Url) = ⟨[104, 116, 116, 112], [117], [], ⟨1, [97, 46, 111, 114, 103], 0, [0, 0, 0, 0, 0, 0, 0, 0]⟩, -1, [[98]], [], [99], [100], true, true⟩ := h2
  simp only [PM.Url.mk.injEq, PM.Host.mk.injEq, List.cons.injEq, and_true] at h2'
  obtain ⟨rfl, rfl, rfl, ⟨rfl, rfl, rfl, rfl, rfl, rfl, rfl, rfl, rfl, rfl, rfl⟩, rfl, rfl, rfl, rfl, rfl, rfl, rfl⟩ := h2'
  have hok := h3 (show ([[98]] : List (List UInt8)).length ≤ 10000 by decide)
  have hrd : RdS w' a pn [[98]] := hok.rd
  have hpn : pn = 1 := hrd.len.symm
  subst hpn
  rcases hrd.at_ with e0 | ⟨b, o, rfl, hlt, hc⟩
  · cases e0
  · exact ⟨b, o, pc, h1, hok, hc 0 (by decide)⟩
theorem aw_scheme : PM.scheme [72, 116, 116, 112, 58, 120] = ([104, 116, 116, 112], [120], true) := by kernel_rfl
theorem aw_tail : PM.tail [97, 63, 98, 35, 99, 63, 100] = ([97], [98], [99, 63, 100], true, true) := by kernel_rfl
theorem aw_may (a : Option Addr) (pn pc : Nat) : PM.urlMay (awV a pn pc).pm = true := by
  show PM.urlMay (awV none 0 0).pm = true
  kernel_rfl
theorem aw_host : PM.hostShow ⟨1, [97, 46, 111, 114, 103], 0, [0, 0, 0, 0, 0, 0, 0, 0]⟩ = [97, 46, 111, 114, 103] := by kernel_rfl
theorem aw_web : PM.web [104, 116, 116, 112, 115] = 443 := by kernel_rfl
set_option maxRecDepth 100000 in
set_option maxHeartbeats 4000000 in
theorem awake9_c (w : World) (hg : Gl w) (hT : Lib.Utf8Tabs 1 2 w) : Calls Tryz.prog 12 #[] w fun e w' => e = .returned (.bool true) ∧ Below w.heap.size w w' := by
  have hP := awP w hg hT
  have HG := Lib.hid hg
  have hS := fun W hg => Scheme_c [72, 116, 116, 112, 58, 120] (by decide) W hg
  rw [aw_scheme] at hS
  have hTl := fun W hg => Tail_c [97, 63, 98, 35, 99, 63, 100] (by decide) W hg
  rw [aw_tail] at hTl
  have HS : Hid (∀ W, Gl W → Calls Tryz.prog 17 #[.string ⟨#[72, 116, 116, 112, 58, 120]⟩] W fun e w' => e = .returned (.tuple #[.string (mkS [104, 116, 116, 112]), .string (mkS [120]), .bool true]) ∧ Below W.heap.size W w') := Lib.hid hS
  have HTl : Hid (∀ W, Gl W → Calls Tryz.prog 19 #[.string ⟨#[97, 63, 98, 35, 99, 63, 100]⟩] W fun e w' => e = .returned (.tuple #[.string (mkS [97]), .string (mkS [98]), .string (mkS [99, 63, 100]), .bool true, .bool true]) ∧ Below W.heap.size W w') := Lib.hid hTl
  have HP := Lib.hid hP
  clear hP hS hTl hg hT
  go_enter Tryz.func12, Tryz.ntmps12
  go_wp2_with fail
  refine HP.out.mono ?_
  rintro e V1 ⟨⟨g, o, pc, rfl, hok, hcell⟩, hb1⟩
  have HOK := Lib.hid hok
  have HCE := Lib.hid hcell
  have HB := Lib.hid hb1
  clear hok hcell hb1
  obtain ⟨v, hv⟩ : ∃ v, v = awV (some ⟨g, o, none⟩) 1 pc := ⟨_, rfl⟩
  have HN := Lib.hid (Go.heap_alloc_new V1 (.cells zurl 27))
  rw [← hv] at HOK ⊢
  have HV := Lib.hid hv
  clear hv
  go_upto_region 2 with (refine wpList_store_row rfl 27 _ _ rfl V1.heap.size v.cells rfl rfl 27 _ HN.out (by kernel_rfl) rfl (agg_one v) ?_)
  obtain ⟨V2, hV⟩ : ∃ V2, V2 = (V1.alloc (.cells #[.string ⟨#[]⟩, .string ⟨#[]⟩, .string ⟨#[]⟩, .int .i64 0, .string ⟨#[]⟩, .int .i64 0, .int .i64 0, .int .i64 0, .int .i64 0, .int .i64 0, .int .i64 0, .int .i64 0, .int .i64 0, .int .i64 0, .int .i64 0, .slice none 0 0, .string ⟨#[]⟩, .string ⟨#[]⟩, .string ⟨#[]⟩, .bool false, .bool false] 27)).setRow V1.heap.size v.cells := ⟨_, rfl⟩
  have hN : V2.heap[V1.heap.size]? = some (.cells v.cells 27 (0, 0)) := by rw [hV]; exact heap_setRow HN.out _
  have hb : Below V1.heap.size V1 V2 := by rw [hV]; exact below_setRow (b_alloc (Below.refl _ _) _) (Nat.le_refl _) _
  rw [← hV]
  clear hV HN
  have HX := Lib.hid hN
  replace HOK := Lib.hid (HOK.out.below hb)
  replace HCE := Lib.hid (cell_b hb HCE.out)
  replace HB := Lib.hid (b_then HB.out hb)
  clear hN hb
  generalize V1.heap.size = b at HX ⊢
  go_wp2_with fail
  refine (HS.out _ (HG.out.below HB.out)).mono ?_
  rintro e V3 ⟨rfl, hb⟩
  replace HX := Lib.hid (obj_b hb HX.out)
  replace HOK := Lib.hid (HOK.out.below hb)
  replace HCE := Lib.hid (cell_b hb HCE.out)
  replace HB := Lib.hid (b_then HB.out hb)
  clear hb
  go_wp2_with fail
  refine (HTl.out _ (HG.out.below HB.out)).mono ?_
  rintro e V4 ⟨rfl, hb⟩
  replace HX := Lib.hid (obj_b hb HX.out)
  replace HOK := Lib.hid (HOK.out.below hb)
  replace HCE := Lib.hid (cell_b hb HCE.out)
  replace HB := Lib.hid (b_then HB.out hb)
  clear hb
  obtain ⟨c0, c1, c2, c3, c4, c5, c6, c7, c8, c9, c10, c11, c12, c13, c14, c15, c16, c17, c18, c19, c20⟩ : UrlAt V4 b (awV (some ⟨g, o, none⟩) 1 pc) := by rw [← HV.out]; exact UrlAt.of_heap HX.out
  have ce := HCE.out
  unfold awV at c0 c1 c2 c3 c4 c5 c6 c7 c8 c9 c10 c11 c12 c13 c14 c15 c16 c17 c18 c19 c20
  dsimp only at c0 c1 c2 c3 c4 c5 c6 c7 c8 c9 c10 c11 c12 c13 c14 c15 c16 c17 c18 c19 c20
  go_wp2_with (refine wpList_load_g 27 _ rfl (by kernel_rfl) b rfl HX.out Tryz.underlying27 rfl (by kernel_rfl) ?_)
  refine (hostShow_c 1 [97, 46, 111, 114, 103] 0 0 0 0 0 0 0 0 0 (by decide) _ (HG.out.below HB.out)).mono ?_
  rw [aw_host]
  rintro e V5 ⟨rfl, hb⟩
  replace HX := Lib.hid (obj_b hb HX.out)
  replace HOK := Lib.hid (HOK.out.below hb)
  replace HCE := Lib.hid (cell_b hb HCE.out)
  replace HB := Lib.hid (b_then HB.out hb)
  clear hb ce c0 c1 c2 c3 c4 c5 c6 c7 c8 c9 c10 c11 c12 c13 c14 c15 c16 c17 c18 c19 c20
  obtain ⟨c0, c1, c2, c3, c4, c5, c6, c7, c8, c9, c10, c11, c12, c13, c14, c15, c16, c17, c18, c19, c20⟩ : UrlAt V5 b (awV (some ⟨g, o, none⟩) 1 pc) := by rw [← HV.out]; exact UrlAt.of_heap HX.out
  have ce := HCE.out
  unfold awV at c0 c1 c2 c3 c4 c5 c6 c7 c8 c9 c10 c11 c12 c13 c14 c15 c16 c17 c18 c19 c20
  dsimp only at c0 c1 c2 c3 c4 c5 c6 c7 c8 c9 c10 c11 c12 c13 c14 c15 c16 c17 c18 c19 c20
  go_wp2_with (refine wpList_load_g 27 _ rfl (by kernel_rfl) b rfl HX.out Tryz.underlying27 rfl (by kernel_rfl) ?_)
  refine (urlMay_c v _ HOK.out (HG.out.below HB.out)).mono ?_
  rw [show PM.urlMay v.pm = true from by rw [HV.out]; exact aw_may _ _ _]
  rintro e V6 ⟨rfl, hb⟩
  replace HX := Lib.hid (obj_b hb HX.out)
  replace HOK := Lib.hid (HOK.out.below hb)
  replace HCE := Lib.hid (cell_b hb HCE.out)
  replace HB := Lib.hid (b_then HB.out hb)
  clear hb ce c0 c1 c2 c3 c4 c5 c6 c7 c8 c9 c10 c11 c12 c13 c14 c15 c16 c17 c18 c19 c20
  obtain ⟨c0, c1, c2, c3, c4, c5, c6, c7, c8, c9, c10, c11, c12, c13, c14, c15, c16, c17, c18, c19, c20⟩ : UrlAt V6 b (awV (some ⟨g, o, none⟩) 1 pc) := by rw [← HV.out]; exact UrlAt.of_heap HX.out
  have ce := HCE.out
  unfold awV at c0 c1 c2 c3 c4 c5 c6 c7 c8 c9 c10 c11 c12 c13 c14 c15 c16 c17 c18 c19 c20
  dsimp only at c0 c1 c2 c3 c4 c5 c6 c7 c8 c9 c10 c11 c12 c13 c14 c15 c16 c17 c18 c19 c20
  go_wp2_with fail
  refine (Web_c [104, 116, 116, 112, 115] _).mono ?_
  rw [aw_web]
  rintro e V7 ⟨rfl, rfl⟩
  go_wp2_with (refine wpList_load_g 27 _ rfl (by kernel_rfl) b rfl HX.out Tryz.underlying27 rfl (by kernel_rfl) ?_)
  refine (UrlSame_c v v _ HOK.out HOK.out).mono ?_
  rw [(PM.urlSame_iff _ _).2 rfl]
  rintro e V8 ⟨rfl, hb⟩
  replace HB := Lib.hid (b_then HB.out hb)
  go_wp2
  go_ret
  exact ⟨rfl, HB.out⟩
end Go.Proofs.YtgegnnojobmdcaaGreatDoor
/-! Plain: query and fragment do not touch what stands ahead. -/
namespace PM
theorem dw_filter (p q : UInt8 → Bool) (h : ∀ c, p c = false → q c = true) (s : L) : (s.filter p).dropWhile q = (s.dropWhile q).filter p := by
  induction s with
  | nil => rfl
  | cons c r ih =>
    by_cases hq : q c = true
    · rw [List.dropWhile_cons, if_pos hq]
      by_cases hp : p c = true
      · rw [List.filter_cons, if_pos hp, List.dropWhile_cons, if_pos hq, ih]
      · rw [List.filter_cons, if_neg hp, ih]
    · have hp : p c = true := by
        cases hpc : p c with
        | true => rfl
        | false => exact absurd (h c hpc) hq
      rw [List.dropWhile_cons, if_neg hq, List.filter_cons, if_pos hp, List.dropWhile_cons, if_neg hq]
theorem end_blank (c : UInt8) (h : (!isEnd c) = false) : blank c = true := by
  simp only [Bool.not_eq_false', isEnd, Bool.or_eq_true, beq_iff_eq] at h
  rcases h with (rfl | rfl) | rfl <;> rfl
theorem clean_eq (s : L) : clean s = trim (s.filter fun c => !isEnd c) := by
  unfold clean trim
  rw [dw_filter _ _ end_blank, ← List.filter_reverse, dw_filter _ _ end_blank, ← List.filter_reverse]
def rtrim (s : L) : L := (s.reverse.dropWhile blank).reverse
theorem rtrim_app (a : L) (c : UInt8) (b : L) (hc : blank c = false) : rtrim (a ++ c :: b) = a ++ c :: rtrim b := by
  unfold rtrim
  have e : (a ++ c :: b).reverse = b.reverse ++ (c :: a.reverse) := by simp
  rw [e, List.dropWhile_append]
  split
  · rename_i h
    have h' : b.reverse.dropWhile blank = [] := by simpa using h
    rw [h', List.dropWhile_cons, if_neg (by rw [hc]; decide)]
    simp
  · simp
theorem ltrim_app (a : L) (c : UInt8) (b : L) (hc : blank c = false) : (a ++ c :: b).dropWhile blank = a.dropWhile blank ++ c :: b := by
  rw [List.dropWhile_append]
  split
  · rename_i h
    have h' : a.dropWhile blank = [] := by simpa using h
    rw [h', List.dropWhile_cons, if_neg (by rw [hc]; decide)]
    rfl
  · rfl
theorem clean_end {t : L} (h : ∀ x, t.getLast? = some x → blank x = false) : clean t = (t.filter fun c => !isEnd c).dropWhile blank := by
  rw [clean_eq]
  rcases List.eq_nil_or_concat t with rfl | ⟨a, x, rfl⟩
  · rfl
  · have hx := h x (by simp)
    have hp : (!isEnd x) = true := by
      cases hpc : (!isEnd x) with
      | true => rfl
      | false => rw [end_blank x hpc] at hx; cases hx
    have e : (a.concat x).filter (fun c => !isEnd c) = a.filter (fun c => !isEnd c) ++ x :: [] := by
      rw [List.concat_eq_append, List.filter_append, List.filter_cons, if_pos hp]
      rfl
    rw [e]
    show rtrim ((_ ++ x :: []).dropWhile blank) = _
    rw [ltrim_app _ _ _ hx, rtrim_app _ _ _ hx]
    rfl
theorem clean_tail {t q f : L} (h : ∀ x, t.getLast? = some x → blank x = false) : clean (t ++ 63 :: 120 :: (q ++ 35 :: 120 :: f)) = clean t ++ 63 :: ((120 :: q.filter fun c => !isEnd c) ++ 35 :: (120 :: rtrim (f.filter fun c => !isEnd c))) := by
  rw [clean_eq (t ++ _), clean_end h]
  have e : (t ++ 63 :: 120 :: (q ++ 35 :: 120 :: f)).filter (fun c => !isEnd c) = (t.filter fun c => !isEnd c) ++ 63 :: ((120 :: q.filter fun c => !isEnd c) ++ 35 :: 120 :: (f.filter fun c => !isEnd c)) := by
    simp [isEnd]
  rw [e]
  show rtrim (List.dropWhile blank _) = _
  rw [ltrim_app _ _ _ (by decide)]
  generalize (t.filter fun c => !isEnd c).dropWhile blank = C
  generalize (q.filter fun c => !isEnd c) = Q
  generalize (f.filter fun c => !isEnd c) = F
  have e2 : C ++ 63 :: ((120 :: Q) ++ 35 :: 120 :: F) = (C ++ 63 :: ((120 :: Q) ++ [35])) ++ 120 :: F := by simp
  rw [e2, rtrim_app _ _ _ (by decide)]
  simp
theorem clean_sub {t : L} {c : UInt8} (h : c ∈ clean t) : c ∈ t := by
  unfold clean trim at h
  have h1 := (List.mem_filter.1 h).1
  have h2 := List.mem_reverse.1 h1
  have h3 := (List.dropWhile_sublist _).subset h2
  exact (List.dropWhile_sublist _).subset (List.mem_reverse.1 h3)
theorem tail_back {t q f : L} (ht : ∀ c ∈ t, c ≠ 63 ∧ c ≠ 35) (hq : ∀ c ∈ q, c ≠ 35) : tail (t ++ 63 :: (q ++ 35 :: f)) = (t, q, f, true, true) := by
  have e : t ++ 63 :: (q ++ 35 :: f) = (t ++ 63 :: q) ++ 35 :: f := by simp
  unfold tail
  rw [e, cut_hit 35 (t ++ 63 :: q) f (by
    intro x hx
    simp only [List.mem_append, List.mem_cons] at hx
    rcases hx with hx | rfl | hx
    · exact (ht x hx).2
    · decide
    · exact hq x hx)]
  dsimp only
  rw [cut_hit 63 t q (fun x hx => (ht x hx).1)]
theorem tail_none' {t : L} (ht : ∀ c ∈ t, c ≠ 63 ∧ c ≠ 35) : tail t = (t, [], [], false, false) := by
  unfold tail
  rw [cut_none 35 t (fun x hx => (ht x hx).2)]
  dsimp only
  rw [cut_none 63 t (fun x hx => (ht x hx).1)]
def withTail (Q F : L) (u : Url) : Url := { u with query := encode 2 Q, frag := encode 1 F, hasQuery := true, hasFrag := true }
def noTail (u : Url) : Url := { u with query := [], frag := [], hasQuery := false, hasFrag := false }
theorem split_has {c : UInt8} {s : L} (h : has s c = true) : ∃ a r, (∀ x ∈ a, x ≠ c) ∧ s = a ++ c :: r := by
  have hm : c ∈ s := by
    unfold has at h
    simpa using h
  clear h
  induction s with
  | nil => cases hm
  | cons x q ih =>
    by_cases hx : x = c
    · subst hx
      exact ⟨[], q, by simp, rfl⟩
    · obtain ⟨a, r, h1, h2⟩ := ih ((List.mem_cons.1 hm).resolve_left (fun e => hx e.symm))
      exact ⟨x :: a, r, fun y hy => by
        rcases List.mem_cons.1 hy with rfl | hy
        · exact hx
        · exact h1 y hy, by rw [h2]; rfl⟩
theorem parseT_tail (sch r Q F : L) : parseT sch (r, Q, F, true, true) = (parseT sch (r, [], [], false, false)).map (withTail Q F) ∧ ∀ u, parseT sch (r, [], [], false, false) = some u → noTail u = u := by
  unfold parseT
  split
  · exact ⟨rfl, fun u h => by simp only [Option.some.injEq] at h; subst h; rfl⟩
  · unfold parseWeb
    dsimp only
    cases unslash2 r with
    | none => exact ⟨rfl, fun u h => by cases h⟩
    | some t =>
      dsimp only
      generalize hostParse (doorName (doorOf (where_ t))) = oh
      generalize portOf sch (doorPort (doorOf (where_ t))) = op
      cases oh with
      | none => exact ⟨rfl, fun u h => by cases h⟩
      | some h0 =>
        cases op with
        | none => exact ⟨rfl, fun u h => by cases h⟩
        | some p0 => exact ⟨rfl, fun u h => by simp only [Option.some.injEq] at h; subst h; rfl⟩
theorem scheme_hit {a r : L} (ha : ∀ x ∈ a, x ≠ (58 : UInt8)) : scheme (a ++ 58 :: r) = if a.isEmpty || !alpha (a.headD 0) || a.any schOdd then ([], [], false) else (lower a, r, true) := by
  unfold scheme schBad
  rw [cut_hit 58 a r ha]
  rfl
theorem parseC_tail {C Q F : L} (hC : ∀ c ∈ C, c ≠ 63 ∧ c ≠ 35) (hQ : ∀ c ∈ Q, c ≠ 35) : parseC (C ++ 63 :: (Q ++ 35 :: F)) = (parseC C).map (withTail Q F) ∧ ∀ u, parseC C = some u → noTail u = u := by
  cases h58 : has C 58 with
  | true =>
    obtain ⟨a, r, ha, rfl⟩ := split_has h58
    have hr : ∀ c ∈ r, c ≠ 63 ∧ c ≠ 35 := fun c hc => hC c (by simp [hc])
    have e : (a ++ 58 :: r) ++ 63 :: (Q ++ 35 :: F) = a ++ 58 :: (r ++ 63 :: (Q ++ 35 :: F)) := by simp
    unfold parseC
    rw [e, scheme_hit ha, scheme_hit ha]
    split
    · exact ⟨rfl, fun u h => by cases h⟩
    · dsimp only
      rw [tail_back hr hQ, tail_none' hr]
      split
      · exact ⟨rfl, fun u h => by cases h⟩
      · exact parseT_tail _ _ _ _
  | false =>
    have hno : ∀ x ∈ C, x ≠ (58 : UInt8) := by
      intro x hx e
      subst e
      unfold has at h58
      simp at h58
      exact h58 hx
    have h1 : parseC C = none := by
      have : scheme C = ([], [], false) := by
        unfold scheme schBad
        rw [cut_none 58 C hno]
        rfl
      unfold parseC
      rw [this]
      rfl
    have h2 : parseC (C ++ 63 :: (Q ++ 35 :: F)) = none := by
      have : scheme (C ++ 63 :: (Q ++ 35 :: F)) = ([], [], false) := by
        cases h : has (C ++ 63 :: (Q ++ 35 :: F)) 58 with
        | false =>
          unfold scheme schBad cut
          rw [h]
          rfl
        | true =>
          obtain ⟨a, r, ha, e⟩ := split_has h
          rw [e, scheme_hit ha]
          have hm : (63 : UInt8) ∈ a := by
            have hlen : C.length < a.length := by
              refine Nat.lt_of_not_le fun hle => ?_
              have h58' : (C ++ 63 :: (Q ++ 35 :: F))[a.length]? = some 58 := by rw [e]; simp
              rcases Nat.lt_or_ge a.length C.length with hlt | hge
              · rw [List.getElem?_append_left hlt] at h58'
                exact hno 58 (List.mem_of_getElem? h58') rfl
              · have : a.length = C.length := by omega
                rw [this, List.getElem?_append_right (Nat.le_refl _)] at h58'
                simp at h58'
            have h63 : (a ++ 58 :: r)[C.length]? = some 63 := by rw [← e]; simp
            rw [List.getElem?_append_left hlen] at h63
            exact List.mem_of_getElem? h63
          have hany : a.any schOdd = true := List.any_eq_true.2 ⟨63, hm, by decide⟩
          rw [hany]
          simp
      unfold parseC
      rw [this]
      rfl
    rw [h1, h2]
    exact ⟨rfl, fun u h => by cases h⟩
theorem tail_law {t q f : L} (ht : ∀ c ∈ t, c ≠ 63 ∧ c ≠ 35) (hq : ∀ c ∈ q, c ≠ 35) (h : ∀ x, t.getLast? = some x → blank x = false) (z : Url) (hz : noTail z = z) :
    (urlParse (t ++ 63 :: 120 :: (q ++ 35 :: 120 :: f))).isSome = (urlParse t).isSome ∧ noTail ((urlParse (t ++ 63 :: 120 :: (q ++ 35 :: 120 :: f))).getD z) = (urlParse t).getD z := by
  unfold urlParse
  rw [clean_tail h]
  have := parseC_tail (C := clean t) (Q := 120 :: q.filter fun c => !isEnd c) (F := 120 :: rtrim (f.filter fun c => !isEnd c)) (fun c hc => ht c (clean_sub hc)) (by
    intro c hc
    rcases List.mem_cons.1 hc with rfl | hc
    · decide
    · exact hq c (List.mem_filter.1 hc).1)
  rw [this.1]
  cases hp : parseC (clean t) with
  | none => exact ⟨rfl, hz⟩
  | some u =>
    refine ⟨rfl, ?_⟩
    show noTail (withTail _ _ u) = u
    have h2 := this.2 u hp
    conv => rhs; rw [← h2]
    rfl
theorem has_mem {c : UInt8} {s : L} (h : has s c = true) : c ∈ s := by
  unfold has at h
  simpa using h
theorem cut_flag (c : UInt8) (s : L) : (cut c s).2.2 = has s c := by
  unfold cut
  cases h : has s c <;> simp
theorem tail_flags (s : L) : ((tail s).2.2.2.1 = true → (tail s).1 ≠ s) ∧ ((tail s).2.2.2.2 = true → (tail s).1 ≠ s) := by
  have hno := tail_no s
  constructor
  · intro h e
    have h1 : (cut 63 (cut 35 s).1).2.2 = true := h
    rw [cut_flag] at h1
    have h2 := (cut_fst_no 35 s 63 (has_mem h1)).2
    rw [e] at hno
    exact (hno 63 h2).1 rfl
  · intro h e
    have h1 : (cut 35 s).2.2 = true := h
    rw [cut_flag] at h1
    rw [e] at hno
    exact (hno 35 (has_mem h1)).2 rfl
end PM
/-! The walk of UrlTail. -/
namespace Go.Proofs.YtgegnnojobmdcaaGreatDoor
open Go.RowKit
theorem uz_no : PM.noTail uz.pm = uz.pm := rfl
theorem path_few {t : List UInt8} (ht : t.length ≤ 3000) {x : UV} (h : x.pm = (PM.urlParse t).getD uz.pm) : x.xs.length ≤ 10000 := by
  have hxs : x.xs = x.pm.path := rfl
  rw [hxs, h]
  cases ho : PM.urlParse t with
  | none => simp [uz, UV.pm]
  | some q =>
    have := (parse_short ho).pn
    show q.path.length ≤ 10000
    omega
theorem tl_p1 (t : List UInt8) (ht : t.length ≤ 300) (W : World) (hg : Gl W) (hT : Lib.Utf8Tabs 1 2 W) :
    Calls Tryz.prog 14 #[.string (mkS t)] W fun e w' => (∃ x : UV, e = .returned (.tuple #[.agg x.cells, .bool (PM.urlParse t).isSome]) ∧ x.pm = (PM.urlParse t).getD uz.pm ∧ x.Ok w') ∧ Below W.heap.size W w' := by
  refine (UrlParse_c t (by omega) W hg hT).mono ?_
  rintro e w' ⟨⟨x, h1, h2, h3⟩, hb⟩
  exact ⟨⟨x, h1, h2, h3 (path_few (by omega) h2)⟩, hb⟩
theorem tl_p2 (t q f : List UInt8) (ht : t.length ≤ 300) (hq : q.length ≤ 100) (hf : f.length ≤ 100) (h1 : ∀ c ∈ t, c ≠ 63 ∧ c ≠ 35) (h2 : ∀ c ∈ q, c ≠ 35) (h3 : ∀ x, t.getLast? = some x → PM.blank x = false) (W : World) (hg : Gl W) (hT : Lib.Utf8Tabs 1 2 W) :
    Calls Tryz.prog 14 #[.string (mkS t ++ ⟨#[63, 120]⟩ ++ mkS q ++ ⟨#[35, 120]⟩ ++ mkS f)] W fun e w' => (∃ x : UV, e = .returned (.tuple #[.agg x.cells, .bool (PM.urlParse t).isSome]) ∧ PM.noTail x.pm = (PM.urlParse t).getD uz.pm ∧ x.Ok w') ∧ Below W.heap.size W w' := by
  have hcat : mkS t ++ ⟨#[63, 120]⟩ ++ mkS q ++ ⟨#[35, 120]⟩ ++ mkS f = mkS (t ++ 63 :: 120 :: (q ++ 35 :: 120 :: f)) := by
    apply ByteArray.ext
    simp [mkS]
  rw [hcat]
  have hl := PM.tail_law (f := f) h1 h2 h3 uz.pm uz_no
  have hlen : (t ++ 63 :: 120 :: (q ++ 35 :: 120 :: f)).length ≤ 3000 := by simp; omega
  refine (UrlParse_c _ (by omega) W hg hT).mono ?_
  rintro e w' ⟨⟨x, g1, g2, g3⟩, hb⟩
  rw [hl.1] at g1
  have g2' := hl.2
  rw [← g2] at g2'
  exact ⟨⟨x, g1, g2', g3 (path_few hlen g2)⟩, hb⟩
theorem RdS.lt {W : World} {a : Option Addr} {n : Nat} {xs : List (List UInt8)} (h : RdS W a n xs) : ∀ g o, a = some ⟨g, o, none⟩ → xs ≠ [] → g < W.heap.size := fun g o e hx => by
  rcases h.at_ with e0 | ⟨b, o', e', hlt, _⟩
  · exact absurd e0 hx
  · rw [e] at e'
    simp at e'
    omega
def UV.bareTail (v : UV) : UV := { v with qu := [], fr := [], hq := false, hf := false }
theorem bareTail_cells (v : UV) : ((((v.cells.setIfInBounds 17 (.string ⟨#[]⟩)).setIfInBounds 18 (.string ⟨#[]⟩)).setIfInBounds 19 (.bool false)).setIfInBounds 20 (.bool false)) = v.bareTail.cells := by kernel_rfl
theorem same_t2 (u v : UV) (h : v.pm = u.pm) (w : World) (hu : u.Ok w) (hv : v.Ok w) : Calls Tryz.prog 23 #[.agg u.cells, .agg v.cells] w fun e w' => e = .returned (.bool true) ∧ Below w.heap.size w w' := by
  have := UrlSame_c u v w hu hv
  rwa [(PM.urlSame_iff _ _).2 h.symm] at this
set_option maxRecDepth 100000 in
set_option maxHeartbeats 16000000 in
theorem UrlTailL_c (s q f : List UInt8) (w : World) (hg : Gl w) (hT : Lib.Utf8Tabs 1 2 w) : Calls Tryz.prog 5 #[.string (mkS s), .string (mkS q), .string (mkS f)] w fun e w' => e = .returned (.bool true) ∧ Below w.heap.size w w' := by
  have HA := Lib.hid (awake9_c w hg hT)
  have HG := Lib.hid hg
  have HTB := Lib.hid hT
  clear hg hT
  go_enter Tryz.func5, Tryz.ntmps5
  go_wp2_with fail
  refine HA.out.mono ?_
  rintro e V1 ⟨rfl, hb⟩
  have HB := Lib.hid hb
  clear hb HA
  by_cases hl : 300 < s.length
  · have hl2 : (300 : Int) < (s.length : Int) := by omega
    go_wp2
    go_ret
    exact ⟨rfl, HB.out⟩
  have hl2 : ¬ (300 : Int) < (s.length : Int) := by omega
  by_cases hm : 100 < q.length
  · have hm2 : (100 : Int) < (q.length : Int) := by omega
    go_wp2
    go_ret
    exact ⟨rfl, HB.out⟩
  have hm2 : ¬ (100 : Int) < (q.length : Int) := by omega
  by_cases hn : 100 < f.length
  · have hn2 : (100 : Int) < (f.length : Int) := by omega
    go_wp2
    go_ret
    exact ⟨rfl, HB.out⟩
  have hn2 : ¬ (100 : Int) < (f.length : Int) := by omega
  have htn := PM.tail_no s
  have htf := PM.tail_flags s
  have htl := (PM.tail_len s).1
  have hTl := fun W hg => Tail_c s (by omega) W hg
  obtain ⟨t, x1, x2, hq, hf, hts⟩ : ∃ t x1 x2 hq hf, PM.tail s = (t, x1, x2, hq, hf) := ⟨_, _, _, _, _, rfl⟩
  rw [hts] at htn htf htl hTl
  dsimp only at htn htf htl
  have HTN := Lib.hid htn
  have HTF := Lib.hid htf
  have HTL := Lib.hid hTl
  clear htn htf hTl hts
  go_wp2_with fail
  refine (HTL.out _ (HG.out.below HB.out)).mono ?_
  rintro e V2 ⟨rfl, hb⟩
  replace HB := Lib.hid (b_then HB.out hb)
  clear hb
  obtain ⟨B, hB⟩ : ∃ B, B = t.getLast?.elim false PM.blank := ⟨_, rfl⟩
  have HBB := Lib.hid hB
  clear hB
  go_upto_region 5 with fail
  go_cut [60] (fun b wr => b = .bool B ∧ wr = V2)
  case first =>
    rcases List.eq_nil_or_concat t with rfl | ⟨a, x, ht⟩
    · go_wp2
      go_meet
      exact ⟨by rw [HBB.out]; rfl, rfl⟩
    · obtain rfl : t = a ++ [x] := by rw [ht, List.concat_eq_append]
      clear ht
      have hal : a.length ≤ 300 := by simp at htl; omega
      have hal2 : (a.length : Int) ≤ 300 := by omega
      have hB2 : B = decide ((x.toNat : Int) ≤ 32) := by
        rw [HBB.out]
        simp [PM.blank]
        omega
      have HB2 := Lib.hid hB2
      clear hB2
      go_wp2
      go_meet
      exact ⟨by rw [HB2.out], rfl⟩
  case rest =>
    obtain ⟨rfl, rfl⟩ := hcut
    cases B
    rotate_left
    · go_wp2
      go_ret
      exact ⟨rfl, HB.out⟩
    have hlast : ∀ x, t.getLast? = some x → PM.blank x = false := fun x hx => by
      have := HBB.out
      rw [hx] at this
      exact this.symm
    have HLA := Lib.hid hlast
    clear hlast
    go_wp2
    go_loopw [6, 13] (fun r i wr => wr = wc ∧ r = .bool false ∧ ∃ k : Nat, k ≤ q.length ∧ i = .int .i64 k ∧ Hid (∀ x ∈ q.take k, x ≠ 35)) (fun _ i _ => q.length - (intOf i).toNat)
    case atStart => exact ⟨rfl, rfl, 0, Nat.zero_le _, rfl, Lib.hid (by simp)⟩
    case round =>
      obtain ⟨hwr, rfl, k, hk, rfl, HQ⟩ := hrel
      have hwr' := hwr.symm
      subst hwr'
      clear hwr
      by_cases hlt : k < q.length
      · by_cases h35 : q[k] = 35
        · have h35' : (((q[k]'hlt).toNat : Int) == 35) = true := by rw [h35]; rfl
          go_wp2
          go_ret
          exact ⟨rfl, HB.out⟩
        · have h35' : (((q[k]'hlt).toNat : Int) == 35) = false := by
            have : (q[k]'hlt).toNat ≠ 35 := (PM.u8_ne _ 35 (by decide)).2 h35
            simp
            omega
          have HQ2 : Hid (∀ x ∈ q.take (k + 1), x ≠ 35) := Lib.hid (by
            intro x hx
            rw [List.take_succ_eq_append_getElem hlt] at hx
            rcases List.mem_append.1 hx with hx | hx
            · exact HQ.out x hx
            · simp at hx
              rw [hx]
              exact h35)
          clear h35
          go_wp2
          go_roundw
          case rel => exact ⟨trivial, rfl, k + 1, by omega, congrArg (Value.int .i64) (by omega), HQ2⟩
          case measure => simp [intOf]; omega
      · obtain rfl : k = q.length := by omega
        rw [List.take_length] at HQ
        have hT2 := fun W hg => Tail_c (t ++ 63 :: (q ++ 35 :: f)) (by simp; omega) W hg
        rw [PM.tail_back HTN.out HQ.out] at hT2
        have hcat : mkS (t ++ 63 :: (q ++ 35 :: f)) = mkS t ++ ⟨#[63]⟩ ++ mkS q ++ ⟨#[35]⟩ ++ mkS f := by
          apply ByteArray.ext
          simp [mkS]
        rw [hcat] at hT2
        have HT2 := Lib.hid hT2
        have hP1 := fun W hg hT => tl_p1 t (by omega) W hg hT
        have hP2 := fun W hg hT => tl_p2 t q f (by omega) (by omega) (by omega) HTN.out HQ.out HLA.out W hg hT
        obtain ⟨c, hc⟩ : ∃ c, (PM.urlParse t).isSome = c := ⟨_, rfl⟩
        rw [hc] at hP1 hP2
        have HP1 := Lib.hid hP1
        have HP2 := Lib.hid hP2
        clear hT2 hcat hP1 hP2 hc hk hlt
        go_wp2_with fail
        refine (HT2.out _ (HG.out.below HB.out)).mono ?_
        rintro e V3 ⟨rfl, hb⟩
        replace HB := Lib.hid (b_then HB.out hb)
        clear hb
        go_wp2_with fail
        refine (HP1.out _ (HG.out.below HB.out) (tabs_below HTB.out HB.out)).mono ?_
        rintro e V4 ⟨⟨u, rfl, hup, huo⟩, hb⟩
        have HUP := Lib.hid hup
        have HUO := Lib.hid huo
        clear hup huo
        replace HB := Lib.hid (b_then HB.out hb)
        clear hb
        have HN := Lib.hid (Go.heap_alloc_new V4 (.cells zurl 27))
        go_upto_region 14 with (refine wpList_store_row rfl 27 _ _ rfl V4.heap.size u.cells rfl rfl 27 _ HN.out (by kernel_rfl) rfl (agg_one u) ?_)
        obtain ⟨V5, hV⟩ : ∃ V5, V5 = (V4.alloc (.cells #[.string ⟨#[]⟩, .string ⟨#[]⟩, .string ⟨#[]⟩, .int .i64 0, .string ⟨#[]⟩, .int .i64 0, .int .i64 0, .int .i64 0, .int .i64 0, .int .i64 0, .int .i64 0, .int .i64 0, .int .i64 0, .int .i64 0, .int .i64 0, .slice none 0 0, .string ⟨#[]⟩, .string ⟨#[]⟩, .string ⟨#[]⟩, .bool false, .bool false] 27)).setRow V4.heap.size u.cells := ⟨_, rfl⟩
        have hN : V5.heap[V4.heap.size]? = some (.cells u.cells 27 (0, 0)) := by rw [hV]; exact heap_setRow HN.out _
        have hb : Below V4.heap.size V4 V5 := by rw [hV]; exact below_setRow (b_alloc (Below.refl _ _) _) (Nat.le_refl _) _
        rw [← hV]
        clear hV HN
        have HU := Lib.hid hN
        have hszu := HB.out.size
        clear hN
        replace HB := Lib.hid (b_then HB.out hb)
        replace HUO := Lib.hid (HUO.out.below hb)
        clear hb
        generalize V4.heap.size = bu at HU hszu ⊢
        go_wp2_with fail
        refine (HP2.out _ (HG.out.below HB.out) (tabs_below HTB.out HB.out)).mono ?_
        rintro e V6 ⟨⟨v, rfl, hvp, hvo⟩, hb⟩
        have HVP := Lib.hid (hvp.trans HUP.out.symm)
        have HVO := Lib.hid hvo
        clear hvp hvo
        replace HB := Lib.hid (b_then HB.out hb)
        replace HU := Lib.hid (obj_b hb HU.out)
        replace HUO := Lib.hid (HUO.out.below hb)
        clear hb
        have hbu := h_lt HU.out
        have hlu := HUO.out.rd.lt
        have hlv := HVO.out.rd.lt
        have HN := Lib.hid (Go.heap_alloc_new V6 (.cells zurl 27))
        go_upto_region 15 with (refine wpList_store_row rfl 27 _ _ rfl V6.heap.size v.cells rfl rfl 27 _ HN.out (by kernel_rfl) rfl (agg_one v) ?_)
        obtain ⟨V7, hV⟩ : ∃ V7, V7 = (V6.alloc (.cells #[.string ⟨#[]⟩, .string ⟨#[]⟩, .string ⟨#[]⟩, .int .i64 0, .string ⟨#[]⟩, .int .i64 0, .int .i64 0, .int .i64 0, .int .i64 0, .int .i64 0, .int .i64 0, .int .i64 0, .int .i64 0, .int .i64 0, .int .i64 0, .slice none 0 0, .string ⟨#[]⟩, .string ⟨#[]⟩, .string ⟨#[]⟩, .bool false, .bool false] 27)).setRow V6.heap.size v.cells := ⟨_, rfl⟩
        have hN : V7.heap[V6.heap.size]? = some (.cells v.cells 27 (0, 0)) := by rw [hV]; exact heap_setRow HN.out _
        have hb : Below V6.heap.size V6 V7 := by rw [hV]; exact below_setRow (b_alloc (Below.refl _ _) _) (Nat.le_refl _) _
        rw [← hV]
        clear hV HN
        have HV := Lib.hid hN
        have hszv := HB.out.size
        clear hN
        replace HB := Lib.hid (b_then HB.out hb)
        replace HU := Lib.hid (obj_b hb HU.out)
        replace HUO := Lib.hid (HUO.out.below hb)
        replace HVO := Lib.hid (HVO.out.below hb)
        clear hb
        generalize V6.heap.size = bv at HV hszv hbu hlu hlv ⊢
        go_cut [142] (fun b wr => b = .bool false ∧ wr = V7)
        case first =>
          cases hq
          · cases hf
            · go_wp2
              go_meet
              exact ⟨rfl, rfl⟩
            · have hts : (t == s) = false := by simpa using HTF.out.2 rfl
              go_wp2
              go_meet
              exact ⟨rfl, rfl⟩
          · have hts : (t == s) = false := by simpa using HTF.out.1 rfl
            cases hf
            · go_wp2
              go_meet
              exact ⟨rfl, rfl⟩
            · go_wp2
              go_meet
              exact ⟨rfl, rfl⟩
        case rest =>
          obtain ⟨rfl, rfl⟩ := hcut
          have hne : bu ≠ bv := by omega
          have c17 : wc.cell? ⟨bv, 17, none⟩ = some (.string (mkS v.qu)) := by rw [Lib.cell_of_heap HV.out]; rfl
          have c18 : wc.cell? ⟨bv, 18, none⟩ = some (.string (mkS v.fr)) := by rw [Lib.cell_of_heap HV.out]; rfl
          have c19 : wc.cell? ⟨bv, 19, none⟩ = some (.bool v.hq) := by rw [Lib.cell_of_heap HV.out]; rfl
          have c20 : wc.cell? ⟨bv, 20, none⟩ = some (.bool v.hf) := by rw [Lib.cell_of_heap HV.out]; rfl
          have f17 := Lib.frozen_of_heap HV.out 17
          have f18 := Lib.frozen_of_heap HV.out 18
          have f19 := Lib.frozen_of_heap HV.out 19
          have f20 := Lib.frozen_of_heap HV.out 20
          have HLU := Lib.hid hlu
          have HLV := Lib.hid hlv
          clear hlu hlv
          go_upto_region 21 with fail
          obtain ⟨V8, hV8⟩ : ∃ V8, V8 = (((wc.setCell ⟨bv, 17, none⟩ (.string ⟨#[]⟩)).setCell ⟨bv, 18, none⟩ (.string ⟨#[]⟩)).setCell ⟨bv, 19, none⟩ (.bool false)).setCell ⟨bv, 20, none⟩ (.bool false) := ⟨_, rfl⟩
          rw [← hV8]
          have hV' : V8.heap[bv]? = some (.cells v.bareTail.cells 27 (0, 0)) := by
            rw [hV8, ← bareTail_cells]
            exact setCell_heap (setCell_heap (setCell_heap (setCell_heap HV.out 17 _) 18 _) 19 _) 20 _
          have hk : ∀ g, g ≠ bv → V8.heap[g]? = wc.heap[g]? := fun g hg => by
            rw [hV8]
            exact heap_set_other (heap_set_other (heap_set_other (heap_set_other rfl _ _ _ (fun e => hg e.symm)) _ _ _ (fun e => hg e.symm)) _ _ _ (fun e => hg e.symm)) _ _ _ (fun e => hg e.symm)
          have hsz : V8.heap.size = wc.heap.size := by rw [hV8]; simp
          have hU' : V8.heap[bu]? = some (.cells u.cells 27 (0, 0)) := (hk bu hne).trans HU.out
          have hB' : Below w.heap.size w V8 := by
            rw [hV8]
            exact b_set (b_set (b_set (b_set HB.out _ hszv _) _ hszv _) _ hszv _) _ hszv _
          have ou := HUO.out
          have ov := HVO.out
          have hou : u.Ok V8 := ⟨ou.sc, ou.us, ou.pa, ou.n, ou.op, ou.qu, ou.fr, ou.xn, ou.xl, ou.rd.frame (by omega) fun g o e hx => hk g (by have := HLU.out g o e hx; omega)⟩
          have hov : v.bareTail.Ok V8 := ⟨ov.sc, ov.us, ov.pa, ov.n, ov.op, by simp [UV.bareTail], by simp [UV.bareTail], ov.xn, ov.xl, ov.rd.frame (by omega) fun g o e hx => hk g (by have := HLV.out g o e hx; omega)⟩
          have hpm : v.bareTail.pm = u.pm := HVP.out
          have HOU := Lib.hid hou
          have HOV := Lib.hid hov
          have HB' := Lib.hid hB'
          clear hV8 hk hsz ou ov hou hov hB' c17 c18 c19 c20 f17 f18 f19 f20
          go_wp2_with (first | (refine wpList_load_g 27 _ rfl (by kernel_rfl) bu rfl hU' Tryz.underlying27 rfl (by kernel_rfl) ?_) | (refine wpList_load_g 27 _ rfl (by kernel_rfl) bv rfl hV' Tryz.underlying27 rfl (by kernel_rfl) ?_))
          refine (same_t2 u v.bareTail hpm V8 HOU.out HOV.out).mono ?_
          rintro e V9 ⟨rfl, hb⟩
          go_wp2
          go_ret
          exact ⟨rfl, b_then HB'.out hb⟩
end Go.Proofs.YtgegnnojobmdcaaGreatDoor
/-! The row of UrlTail. -/
namespace Go.Proofs.YtgegnnojobmdcaaGreatDoor
open Go.ChangeShapes Go.WideShapes Go.ChangeAt Go.RowKit
open Go.WideMaps Go.WideElems
open Go.ChangeMaps (open_string shut_string)
theorem urlTail_reads (os : Os) {H : Type} (enc : TypeId × Value → H) : ∃ x, DataW.whole enc Tryz.prog ((laidWorld os).forCall (fun _ _ => 0) ⟨#[], #[.string ⟨#[]⟩, .string ⟨#[]⟩, .string ⟨#[]⟩], []⟩).memory Tryz.f5.params.toList Rows.urlTailSpec.vars false (#[.string ⟨#[]⟩, .string ⟨#[]⟩, .string ⟨#[]⟩] : Array Value).toList 8 = some x :=
  Option.isSome_iff_exists.1 (by kernel_rfl)
set_option maxRecDepth 100000 in
theorem urlTail_lifted (os : Os) (started : os.Started) (H : Type) (enc : TypeId × Value → H) (F : Stop.Interp) :
    ReturnsInHanded {} Tryz.checked os 5 .any ((OpenSpec.ofChange Rows.urlTailSpec).preRow enc Tryz.prog Tryz.f5 Rows.urlTailRow.domain false Rows.urlTailRow.laid) (((OpenSpec.ofChange Rows.urlTailSpec).at F).post enc Tryz.prog Tryz.f5 false true false false) := by
  obtain ⟨x, hx⟩ := urlTail_reads os enc
  refine returnsInHanded_of_row (C := Tryz.checked) (s := OpenSpec.ofChange Rows.urlTailSpec) own started (by kernel_rfl) Tryz.func5
    (witness_row_atRef (enc := enc) (C := Tryz.checked) false (laidWorld os) #[.string ⟨#[]⟩, .string ⟨#[]⟩, .string ⟨#[]⟩] rfl (by kernel_rfl) (by kernel_rfl) (by kernel_rfl)
      (OpenSpec.preRow_of_cond 8 hx rfl (fun k hk => by cases hk) (by kernel_rfl) (laid_met os _))) ?_
  intro W base args ds gs before hval0 hW _ _ _ hL hsh _
  have hval : ∀ (j : Nat) t v, Tryz.f5.params[j]? = some t → args[j]? = some v → Value.okWide Tryz.prog W .any base t v := hval0
  have hW' := hW
  obtain ⟨p, q, hA0, hV, rfl, hfz, hnd⟩ := hW
  have hA : DataW.TrodAll enc Tryz.prog W 0 (fun _ => true) true Tryz.f5.params.toList args.toList ds p := hA0
  rw [Tryz.params5] at hA hval
  obtain ⟨v0, v1, v2, d0, d1, d2, p0, p1, p2, rfl, rfl, rfl, h0, h1, h2⟩ := trodAll_three hA
  obtain ⟨rfl, rfl⟩ := trodVars_none hV
  simp only [List.append_nil] at hfz hnd hW'
  have hlt : ∀ x ∈ p0 ++ p1 ++ p2, x.block < W.heap.size := fun x hx => hW'.lt x hx
  have h0k := h0
  obtain ⟨s0, e0, _, _, w0⟩ := open_string Tryz.underlying9 (hval 0 9 v0 rfl rfl) h0
  obtain ⟨l0, rfl⟩ := mkS_surj s0
  subst e0
  have h1k := h1
  obtain ⟨s1, e1, _, _, w1⟩ := open_string Tryz.underlying9 (hval 1 9 v1 rfl rfl) h1
  obtain ⟨l1, rfl⟩ := mkS_surj s1
  subst e1
  have h2k := h2
  obtain ⟨s2, e2, _, _, w2⟩ := open_string Tryz.underlying9 (hval 2 9 v2 rfl rfl) h2
  obtain ⟨l2, rfl⟩ := mkS_surj s2
  subst e2
  refine (UrlTailL_c l0 l1 l2 W (gl_of hsh) (tabs_laid hL)).mono fun e W' ⟨he, hb⟩ => ?_
  subst he
  refine ⟨_, rfl, _, _, _, [], p0 ++ p1 ++ p2, [], hW', ?_, ?_, ?_, hb.frame _, fun h => by cases h⟩
  · exact trodAll_mk1 (shut_bool Tryz.underlying4 _)
  · have h3 := trodAll_mk3 (Below.trod laidOut (by kernel_rfl) (of_decide_eq_true (by kernel_rfl)) h0k hb (fun x hx => hlt x (by simp [hx]))) (Below.trod laidOut (by kernel_rfl) (of_decide_eq_true (by kernel_rfl)) h1k hb (fun x hx => hlt x (by simp [hx]))) (Below.trod laidOut (by kernel_rfl) (of_decide_eq_true (by kernel_rfl)) h2k hb (fun x hx => hlt x (by simp [hx])))
    rw [← List.append_assoc] at h3
    exact h3
  · rfl
theorem urlTail_said : Rows.UrlTailSaid :=
  OpenClaim.holds_of_cond 5 Tryz.f5 rfl rfl rfl rfl rfl rfl rfl ⟨rfl, rfl, rfl, rfl, rfl⟩ rfl rfl rfl rfl rfl (by kernel_rfl) Tryz.func5 (by kernel_rfl)
    (of_decide_eq_true (by kernel_rfl)) (by unfold Func.isWrapper; first | (rw [if_pos (by decide +kernel)]; kernel_rfl) | (rw [if_neg (by decide +kernel)]; exact ⟨rfl, rfl⟩))
    (fun os started H enc _ F => by rw [OpenClaim.pre_eq_preRow]; exact urlTail_lifted os started H enc F)
theorem urlTail_plain (f : FuncId) (fn : Func) (hf : Tryz.pinned.checked.prog.funcNamed "postmark/postmarklaw09.UrlTail" = some f) (hfn : Tryz.pinned.checked.prog.funcs[f]? = some fn) :
    true = Tryz.pinned.checked.prog.looks [] ∧ ∀ (j : Nat) t, fn.params[j]? = some t → Tryz.pinned.checked.prog.wantsStandIn t = false := by
  obtain rfl : f = 5 := Option.some.inj ((show Tryz.prog.funcNamed "postmark/postmarklaw09.UrlTail" = some 5 by kernel_rfl).symm.trans hf) |>.symm
  obtain rfl : fn = Tryz.f5 := (Option.some.inj (Tryz.func5.symm.trans hfn)).symm
  refine ⟨by kernel_rfl, fun j t ht => ?_⟩
  rw [Tryz.params5] at ht
  have hm := Array.mem_of_getElem? ht
  simp only [Array.mem_def, List.mem_cons, List.not_mem_nil, or_false] at hm
  rcases hm with rfl | rfl | rfl
  · exact (show Tryz.prog.wantsStandIn 9 = false by kernel_rfl)
  · exact (show Tryz.prog.wantsStandIn 9 = false by kernel_rfl)
  · exact (show Tryz.prog.wantsStandIn 9 = false by kernel_rfl)
theorem urlTail_holds : Rows.UrlTailCardSaid :=
  Claim7.holds_tied_plain_at .later [] _ _ _ _ urlTail_said (fun _ h => by cases h) (by kernel_rfl) (fun _ h => by cases h) urlTail_row_tie rfl ⟨rfl, rfl⟩ (by kernel_rfl) rfl urlTail_plain (by kernel_rfl)
#print axioms urlTail_holds
end Go.Proofs.YtgegnnojobmdcaaGreatDoor
