/-
UrlPort: whatever comes in, the law's call returns true, and the arguments read behind the call as they did before; no condition on them. The row lists the two tables of unicode/utf8 (first, acceptRanges); the card ties them.
-/
import Derived.Test.YtgegnnojobmdcaaGreatDoorTz
import Derived.Test.YtgegnnojobmdcaaGreatDoorP15
import Derived.Test.YtgegnnojobmdcaaGreatDoorC23
import Derived.Test.YtgegnnojobmdcaaGreatDoorMay
import Derived.Test.YtgegnnojobmdcaaGreatDoorP2
set_option linter.unusedVariables false
set_option linter.unusedSimpArgs false
/-! Contract: postmarklaw09.awake. -/
namespace Go.Proofs.YtgegnnojobmdcaaGreatDoor
open Go.RowKit
def awT : List UInt8 := [72, 84, 84, 80, 58, 47, 47, 117, 64, 65, 46, 111, 114, 103, 58, 56, 48, 47, 98, 63, 99, 35, 100]
def awV (a : Option Addr) (pn pc : Nat) : UV := ⟨[104, 116, 116, 112], [117], [], 1, [97, 46, 111, 114, 103], 0, 0, 0, 0, 0, 0, 0, 0, 0, -1, a, pn, pc, [[98]], [], [99], [100], true, true⟩
theorem awT_parse : PM.urlParse awT = some (awV none 0 0).pm := by kernel_rfl
theorem awP (w : World) (hg : Gl w) (hT : Lib.Utf8Tabs 1 2 w) : Calls Tryz.prog 14 #[.string ⟨#[72, 84, 84, 80, 58, 47, 47, 117, 64, 65, 46, 111, 114, 103, 58, 56, 48, 47, 98, 63, 99, 35, 100]⟩] w fun e w' =>
    (∃ g o pc, e = .returned (.tuple #[.agg (awV (some ⟨g, o, none⟩) 1 pc).cells, .bool true]) ∧ (awV (some ⟨g, o, none⟩) 1 pc).Ok w' ∧ w'.cell? ⟨g, o, none⟩ = some (.string (mkS [98]))) ∧ Below w.heap.size w w' := by
  have h := UrlParse_c awT (by decide) w hg hT
  rw [awT_parse] at h
  refine h.mono ?_
  rintro e w' ⟨⟨v, h1, h2, h3⟩, hb⟩
  refine ⟨?_, hb⟩
  obtain ⟨sc, us, pa, k, n, m, s0, s1, s2, s3, s4, s5, s6, s7, port, a, pn, pc, xs, op, qu, fr, hq, hf⟩ := v
  have h2' : (⟨sc, us, pa, ⟨k, n, m, [s0, s1, s2, s3, s4, s5, s6, s7]⟩, port, xs, op, qu, fr, hq, hf⟩ : PM.Url) = ⟨[104, 116, 116, 112], [117], [], ⟨1, [97, 46, 111, 114, 103], 0, [0, 0, 0, 0, 0, 0, 0, 0]⟩, -1, [[98]], [], [99], [100], true, true⟩ := h2
  simp only [PM.Url.mk.injEq, PM.Host.mk.injEq, List.cons.injEq, and_true] at h2'
  obtain ⟨rfl, rfl, rfl, ⟨rfl, rfl, rfl, rfl, rfl, rfl, rfl, rfl, rfl, rfl, rfl⟩, rfl, rfl, rfl, rfl, rfl, rfl, rfl⟩ := h2'
  have hok := h3 (show ([[98]] : List (List UInt8)).length ≤ 10000 by decide)
  have hrd : RdS w' a pn [[98]] := hok.rd
  have hpn : pn = 1 := hrd.len.symm
  subst hpn
  rcases hrd.at_ with e0 | ⟨b, o, rfl, hlt, hc⟩
  · cases e0
  · exact ⟨b, o, pc, h1, hok, hc 0 (by decide)⟩
theorem aw_scheme : PM.scheme [72, 116, 116, 112, 58, 120] = ([104, 116, 116, 112], [120], true) := by kernel_rfl
theorem aw_tail : PM.tail [97, 63, 98, 35, 99, 63, 100] = ([97], [98], [99, 63, 100], true, true) := by kernel_rfl
theorem aw_may (a : Option Addr) (pn pc : Nat) : PM.urlMay (awV a pn pc).pm = true := by
  show PM.urlMay (awV none 0 0).pm = true
  kernel_rfl
theorem aw_host : PM.hostShow ⟨1, [97, 46, 111, 114, 103], 0, [0, 0, 0, 0, 0, 0, 0, 0]⟩ = [97, 46, 111, 114, 103] := by kernel_rfl
theorem aw_web : PM.web [104, 116, 116, 112, 115] = 443 := by kernel_rfl
set_option maxRecDepth 100000 in
set_option maxHeartbeats 4000000 in
theorem awake9_c (w : World) (hg : Gl w) (hT : Lib.Utf8Tabs 1 2 w) : Calls Tryz.prog 12 #[] w fun e w' => e = .returned (.bool true) ∧ Below w.heap.size w w' := by
  have hP := awP w hg hT
  have HG := Lib.hid hg
  have hS := fun W hg => Scheme_c [72, 116, 116, 112, 58, 120] (by decide) W hg
  rw [aw_scheme] at hS
  have hTl := fun W hg => Tail_c [97, 63, 98, 35, 99, 63, 100] (by decide) W hg
  rw [aw_tail] at hTl
  have HS : Hid (∀ W, Gl W → Calls Tryz.prog 17 #[.string ⟨#[72, 116, 116, 112, 58, 120]⟩] W fun e w' => e = .returned (.tuple #[.string (mkS [104, 116, 116, 112]), .string (mkS [120]), .bool true]) ∧ Below W.heap.size W w') := Lib.hid hS
  have HTl : Hid (∀ W, Gl W → Calls Tryz.prog 19 #[.string ⟨#[97, 63, 98, 35, 99, 63, 100]⟩] W fun e w' => e = .returned (.tuple #[.string (mkS [97]), .string (mkS [98]), .string (mkS [99, 63, 100]), .bool true, .bool true]) ∧ Below W.heap.size W w') := Lib.hid hTl
  have HP := Lib.hid hP
  clear hP hS hTl hg hT
  go_enter Tryz.func12, Tryz.ntmps12
  go_wp2_with fail
  refine HP.out.mono ?_
  rintro e V1 ⟨⟨g, o, pc, rfl, hok, hcell⟩, hb1⟩
  have HOK := Lib.hid hok
  have HCE := Lib.hid hcell
  have HB := Lib.hid hb1
  clear hok hcell hb1
  obtain ⟨v, hv⟩ : ∃ v, v = awV (some ⟨g, o, none⟩) 1 pc := ⟨_, rfl⟩
  have HN := Lib.hid (Go.heap_alloc_new V1 (.cells zurl 27))
  rw [← hv] at HOK ⊢
  have HV := Lib.hid hv
  clear hv
  go_upto_region 2 with (refine wpList_store_row rfl 27 _ _ rfl V1.heap.size v.cells rfl rfl 27 _ HN.out (by kernel_rfl) rfl (agg_one v) ?_)
  obtain ⟨V2, hV⟩ : ∃ V2, V2 = (V1.alloc (.cells #[.string ⟨#[]⟩, .string ⟨#[]⟩, .string ⟨#[]⟩, .int .i64 0, .string ⟨#[]⟩, .int .i64 0, .int .i64 0, .int .i64 0, .int .i64 0, .int .i64 0, .int .i64 0, .int .i64 0, .int .i64 0, .int .i64 0, .int .i64 0, .slice none 0 0, .string ⟨#[]⟩, .string ⟨#[]⟩, .string ⟨#[]⟩, .bool false, .bool false] 27)).setRow V1.heap.size v.cells := ⟨_, rfl⟩
  have hN : V2.heap[V1.heap.size]? = some (.cells v.cells 27 (0, 0)) := by rw [hV]; exact heap_setRow HN.out _
  have hb : Below V1.heap.size V1 V2 := by rw [hV]; exact below_setRow (b_alloc (Below.refl _ _) _) (Nat.le_refl _) _
  rw [← hV]
  clear hV HN
  have HX := Lib.hid hN
  replace HOK := Lib.hid (HOK.out.below hb)
  replace HCE := Lib.hid (cell_b hb HCE.out)
  replace HB := Lib.hid (b_then HB.out hb)
  clear hN hb
  generalize V1.heap.size = b at HX ⊢
  go_wp2_with fail
  refine (HS.out _ (HG.out.below HB.out)).mono ?_
  rintro e V3 ⟨rfl, hb⟩
  replace HX := Lib.hid (obj_b hb HX.out)
  replace HOK := Lib.hid (HOK.out.below hb)
  replace HCE := Lib.hid (cell_b hb HCE.out)
  replace HB := Lib.hid (b_then HB.out hb)
  clear hb
  go_wp2_with fail
  refine (HTl.out _ (HG.out.below HB.out)).mono ?_
  rintro e V4 ⟨rfl, hb⟩
  replace HX := Lib.hid (obj_b hb HX.out)
  replace HOK := Lib.hid (HOK.out.below hb)
  replace HCE := Lib.hid (cell_b hb HCE.out)
  replace HB := Lib.hid (b_then HB.out hb)
  clear hb
  obtain ⟨c0, c1, c2, c3, c4, c5, c6, c7, c8, c9, c10, c11, c12, c13, c14, c15, c16, c17, c18, c19, c20⟩ : UrlAt V4 b (awV (some ⟨g, o, none⟩) 1 pc) := by rw [← HV.out]; exact UrlAt.of_heap HX.out
  have ce := HCE.out
  unfold awV at c0 c1 c2 c3 c4 c5 c6 c7 c8 c9 c10 c11 c12 c13 c14 c15 c16 c17 c18 c19 c20
  dsimp only at c0 c1 c2 c3 c4 c5 c6 c7 c8 c9 c10 c11 c12 c13 c14 c15 c16 c17 c18 c19 c20
  go_wp2_with (refine wpList_load_g 27 _ rfl (by kernel_rfl) b rfl HX.out Tryz.underlying27 rfl (by kernel_rfl) ?_)
  refine (hostShow_c 1 [97, 46, 111, 114, 103] 0 0 0 0 0 0 0 0 0 (by decide) _ (HG.out.below HB.out)).mono ?_
  rw [aw_host]
  rintro e V5 ⟨rfl, hb⟩
  replace HX := Lib.hid (obj_b hb HX.out)
  replace HOK := Lib.hid (HOK.out.below hb)
  replace HCE := Lib.hid (cell_b hb HCE.out)
  replace HB := Lib.hid (b_then HB.out hb)
  clear hb ce c0 c1 c2 c3 c4 c5 c6 c7 c8 c9 c10 c11 c12 c13 c14 c15 c16 c17 c18 c19 c20
  obtain ⟨c0, c1, c2, c3, c4, c5, c6, c7, c8, c9, c10, c11, c12, c13, c14, c15, c16, c17, c18, c19, c20⟩ : UrlAt V5 b (awV (some ⟨g, o, none⟩) 1 pc) := by rw [← HV.out]; exact UrlAt.of_heap HX.out
  have ce := HCE.out
  unfold awV at c0 c1 c2 c3 c4 c5 c6 c7 c8 c9 c10 c11 c12 c13 c14 c15 c16 c17 c18 c19 c20
  dsimp only at c0 c1 c2 c3 c4 c5 c6 c7 c8 c9 c10 c11 c12 c13 c14 c15 c16 c17 c18 c19 c20
  go_wp2_with (refine wpList_load_g 27 _ rfl (by kernel_rfl) b rfl HX.out Tryz.underlying27 rfl (by kernel_rfl) ?_)
  refine (urlMay_c v _ HOK.out (HG.out.below HB.out)).mono ?_
  rw [show PM.urlMay v.pm = true from by rw [HV.out]; exact aw_may _ _ _]
  rintro e V6 ⟨rfl, hb⟩
  replace HX := Lib.hid (obj_b hb HX.out)
  replace HOK := Lib.hid (HOK.out.below hb)
  replace HCE := Lib.hid (cell_b hb HCE.out)
  replace HB := Lib.hid (b_then HB.out hb)
  clear hb ce c0 c1 c2 c3 c4 c5 c6 c7 c8 c9 c10 c11 c12 c13 c14 c15 c16 c17 c18 c19 c20
  obtain ⟨c0, c1, c2, c3, c4, c5, c6, c7, c8, c9, c10, c11, c12, c13, c14, c15, c16, c17, c18, c19, c20⟩ : UrlAt V6 b (awV (some ⟨g, o, none⟩) 1 pc) := by rw [← HV.out]; exact UrlAt.of_heap HX.out
  have ce := HCE.out
  unfold awV at c0 c1 c2 c3 c4 c5 c6 c7 c8 c9 c10 c11 c12 c13 c14 c15 c16 c17 c18 c19 c20
  dsimp only at c0 c1 c2 c3 c4 c5 c6 c7 c8 c9 c10 c11 c12 c13 c14 c15 c16 c17 c18 c19 c20
  go_wp2_with fail
  refine (Web_c [104, 116, 116, 112, 115] _).mono ?_
  rw [aw_web]
  rintro e V7 ⟨rfl, rfl⟩
  go_wp2_with (refine wpList_load_g 27 _ rfl (by kernel_rfl) b rfl HX.out Tryz.underlying27 rfl (by kernel_rfl) ?_)
  refine (UrlSame_c v v _ HOK.out HOK.out).mono ?_
  rw [(PM.urlSame_iff _ _).2 rfl]
  rintro e V8 ⟨rfl, hb⟩
  replace HB := Lib.hid (b_then HB.out hb)
  go_wp2
  go_ret
  exact ⟨rfl, HB.out⟩
end Go.Proofs.YtgegnnojobmdcaaGreatDoor
/-! Plain: query and fragment do not touch what stands ahead. -/
namespace PM
theorem dw_filter (p q : UInt8 → Bool) (h : ∀ c, p c = false → q c = true) (s : L) : (s.filter p).dropWhile q = (s.dropWhile q).filter p := by
  induction s with
  | nil => rfl
  | cons c r ih =>
    by_cases hq : q c = true
    · rw [List.dropWhile_cons, if_pos hq]
      by_cases hp : p c = true
      · rw [List.filter_cons, if_pos hp, List.dropWhile_cons, if_pos hq, ih]
      · rw [List.filter_cons, if_neg hp, ih]
    · have hp : p c = true := by
        cases hpc : p c with
        | true => rfl
        | false => exact absurd (h c hpc) hq
      rw [List.dropWhile_cons, if_neg hq, List.filter_cons, if_pos hp, List.dropWhile_cons, if_neg hq]
theorem end_blank (c : UInt8) (h : (!isEnd c) = false) : blank c = true := by
  simp only [Bool.not_eq_false', isEnd, Bool.or_eq_true, beq_iff_eq] at h
  rcases h with (rfl | rfl) | rfl <;> rfl
theorem clean_eq (s : L) : clean s = trim (s.filter fun c => !isEnd c) := by
  unfold clean trim
  rw [dw_filter _ _ end_blank, ← List.filter_reverse, dw_filter _ _ end_blank, ← List.filter_reverse]
def rtrim (s : L) : L := (s.reverse.dropWhile blank).reverse
theorem rtrim_app (a : L) (c : UInt8) (b : L) (hc : blank c = false) : rtrim (a ++ c :: b) = a ++ c :: rtrim b := by
  unfold rtrim
  have e : (a ++ c :: b).reverse = b.reverse ++ (c :: a.reverse) := by simp
  rw [e, List.dropWhile_append]
  split
  · rename_i h
    have h' : b.reverse.dropWhile blank = [] := by simpa using h
    rw [h', List.dropWhile_cons, if_neg (by rw [hc]; decide)]
    simp
  · simp
theorem ltrim_app (a : L) (c : UInt8) (b : L) (hc : blank c = false) : (a ++ c :: b).dropWhile blank = a.dropWhile blank ++ c :: b := by
  rw [List.dropWhile_append]
  split
  · rename_i h
    have h' : a.dropWhile blank = [] := by simpa using h
    rw [h', List.dropWhile_cons, if_neg (by rw [hc]; decide)]
    rfl
  · rfl
theorem clean_end {t : L} (h : ∀ x, t.getLast? = some x → blank x = false) : clean t = (t.filter fun c => !isEnd c).dropWhile blank := by
  rw [clean_eq]
  rcases List.eq_nil_or_concat t with rfl | ⟨a, x, rfl⟩
  · rfl
  · have hx := h x (by simp)
    have hp : (!isEnd x) = true := by
      cases hpc : (!isEnd x) with
      | true => rfl
      | false => rw [end_blank x hpc] at hx; cases hx
    have e : (a.concat x).filter (fun c => !isEnd c) = a.filter (fun c => !isEnd c) ++ x :: [] := by
      rw [List.concat_eq_append, List.filter_append, List.filter_cons, if_pos hp]
      rfl
    rw [e]
    show rtrim ((_ ++ x :: []).dropWhile blank) = _
    rw [ltrim_app _ _ _ hx, rtrim_app _ _ _ hx]
    rfl
theorem clean_tail {t q f : L} (h : ∀ x, t.getLast? = some x → blank x = false) : clean (t ++ 63 :: 120 :: (q ++ 35 :: 120 :: f)) = clean t ++ 63 :: ((120 :: q.filter fun c => !isEnd c) ++ 35 :: (120 :: rtrim (f.filter fun c => !isEnd c))) := by
  rw [clean_eq (t ++ _), clean_end h]
  have e : (t ++ 63 :: 120 :: (q ++ 35 :: 120 :: f)).filter (fun c => !isEnd c) = (t.filter fun c => !isEnd c) ++ 63 :: ((120 :: q.filter fun c => !isEnd c) ++ 35 :: 120 :: (f.filter fun c => !isEnd c)) := by
    simp [isEnd]
  rw [e]
  show rtrim (List.dropWhile blank _) = _
  rw [ltrim_app _ _ _ (by decide)]
  generalize (t.filter fun c => !isEnd c).dropWhile blank = C
  generalize (q.filter fun c => !isEnd c) = Q
  generalize (f.filter fun c => !isEnd c) = F
  have e2 : C ++ 63 :: ((120 :: Q) ++ 35 :: 120 :: F) = (C ++ 63 :: ((120 :: Q) ++ [35])) ++ 120 :: F := by simp
  rw [e2, rtrim_app _ _ _ (by decide)]
  simp
theorem clean_sub {t : L} {c : UInt8} (h : c ∈ clean t) : c ∈ t := by
  unfold clean trim at h
  have h1 := (List.mem_filter.1 h).1
  have h2 := List.mem_reverse.1 h1
  have h3 := (List.dropWhile_sublist _).subset h2
  exact (List.dropWhile_sublist _).subset (List.mem_reverse.1 h3)
theorem tail_back {t q f : L} (ht : ∀ c ∈ t, c ≠ 63 ∧ c ≠ 35) (hq : ∀ c ∈ q, c ≠ 35) : tail (t ++ 63 :: (q ++ 35 :: f)) = (t, q, f, true, true) := by
  have e : t ++ 63 :: (q ++ 35 :: f) = (t ++ 63 :: q) ++ 35 :: f := by simp
  unfold tail
  rw [e, cut_hit 35 (t ++ 63 :: q) f (by
    intro x hx
    simp only [List.mem_append, List.mem_cons] at hx
    rcases hx with hx | rfl | hx
    · exact (ht x hx).2
    · decide
    · exact hq x hx)]
  dsimp only
  rw [cut_hit 63 t q (fun x hx => (ht x hx).1)]
theorem tail_none' {t : L} (ht : ∀ c ∈ t, c ≠ 63 ∧ c ≠ 35) : tail t = (t, [], [], false, false) := by
  unfold tail
  rw [cut_none 35 t (fun x hx => (ht x hx).2)]
  dsimp only
  rw [cut_none 63 t (fun x hx => (ht x hx).1)]
def withTail (Q F : L) (u : Url) : Url := { u with query := encode 2 Q, frag := encode 1 F, hasQuery := true, hasFrag := true }
def noTail (u : Url) : Url := { u with query := [], frag := [], hasQuery := false, hasFrag := false }
theorem split_has {c : UInt8} {s : L} (h : has s c = true) : ∃ a r, (∀ x ∈ a, x ≠ c) ∧ s = a ++ c :: r := by
  have hm : c ∈ s := by
    unfold has at h
    simpa using h
  clear h
  induction s with
  | nil => cases hm
  | cons x q ih =>
    by_cases hx : x = c
    · subst hx
      exact ⟨[], q, by simp, rfl⟩
    · obtain ⟨a, r, h1, h2⟩ := ih ((List.mem_cons.1 hm).resolve_left (fun e => hx e.symm))
      exact ⟨x :: a, r, fun y hy => by
        rcases List.mem_cons.1 hy with rfl | hy
        · exact hx
        · exact h1 y hy, by rw [h2]; rfl⟩
theorem parseT_tail (sch r Q F : L) : parseT sch (r, Q, F, true, true) = (parseT sch (r, [], [], false, false)).map (withTail Q F) ∧ ∀ u, parseT sch (r, [], [], false, false) = some u → noTail u = u := by
  unfold parseT
  split
  · exact ⟨rfl, fun u h => by simp only [Option.some.injEq] at h; subst h; rfl⟩
  · unfold parseWeb
    dsimp only
    cases unslash2 r with
    | none => exact ⟨rfl, fun u h => by cases h⟩
    | some t =>
      dsimp only
      generalize hostParse (doorName (doorOf (where_ t))) = oh
      generalize portOf sch (doorPort (doorOf (where_ t))) = op
      cases oh with
      | none => exact ⟨rfl, fun u h => by cases h⟩
      | some h0 =>
        cases op with
        | none => exact ⟨rfl, fun u h => by cases h⟩
        | some p0 => exact ⟨rfl, fun u h => by simp only [Option.some.injEq] at h; subst h; rfl⟩
theorem scheme_hit {a r : L} (ha : ∀ x ∈ a, x ≠ (58 : UInt8)) : scheme (a ++ 58 :: r) = if a.isEmpty || !alpha (a.headD 0) || a.any schOdd then ([], [], false) else (lower a, r, true) := by
  unfold scheme schBad
  rw [cut_hit 58 a r ha]
  rfl
theorem parseC_tail {C Q F : L} (hC : ∀ c ∈ C, c ≠ 63 ∧ c ≠ 35) (hQ : ∀ c ∈ Q, c ≠ 35) : parseC (C ++ 63 :: (Q ++ 35 :: F)) = (parseC C).map (withTail Q F) ∧ ∀ u, parseC C = some u → noTail u = u := by
  cases h58 : has C 58 with
  | true =>
    obtain ⟨a, r, ha, rfl⟩ := split_has h58
    have hr : ∀ c ∈ r, c ≠ 63 ∧ c ≠ 35 := fun c hc => hC c (by simp [hc])
    have e : (a ++ 58 :: r) ++ 63 :: (Q ++ 35 :: F) = a ++ 58 :: (r ++ 63 :: (Q ++ 35 :: F)) := by simp
    unfold parseC
    rw [e, scheme_hit ha, scheme_hit ha]
    split
    · exact ⟨rfl, fun u h => by cases h⟩
    · dsimp only
      rw [tail_back hr hQ, tail_none' hr]
      split
      · exact ⟨rfl, fun u h => by cases h⟩
      · exact parseT_tail _ _ _ _
  | false =>
    have hno : ∀ x ∈ C, x ≠ (58 : UInt8) := by
      intro x hx e
      subst e
      unfold has at h58
      simp at h58
      exact h58 hx
    have h1 : parseC C = none := by
      have : scheme C = ([], [], false) := by
        unfold scheme schBad
        rw [cut_none 58 C hno]
        rfl
      unfold parseC
      rw [this]
      rfl
    have h2 : parseC (C ++ 63 :: (Q ++ 35 :: F)) = none := by
      have : scheme (C ++ 63 :: (Q ++ 35 :: F)) = ([], [], false) := by
        cases h : has (C ++ 63 :: (Q ++ 35 :: F)) 58 with
        | false =>
          unfold scheme schBad cut
          rw [h]
          rfl
        | true =>
          obtain ⟨a, r, ha, e⟩ := split_has h
          rw [e, scheme_hit ha]
          have hm : (63 : UInt8) ∈ a := by
            have hlen : C.length < a.length := by
              refine Nat.lt_of_not_le fun hle => ?_
              have h58' : (C ++ 63 :: (Q ++ 35 :: F))[a.length]? = some 58 := by rw [e]; simp
              rcases Nat.lt_or_ge a.length C.length with hlt | hge
              · rw [List.getElem?_append_left hlt] at h58'
                exact hno 58 (List.mem_of_getElem? h58') rfl
              · have : a.length = C.length := by omega
                rw [this, List.getElem?_append_right (Nat.le_refl _)] at h58'
                simp at h58'
            have h63 : (a ++ 58 :: r)[C.length]? = some 63 := by rw [← e]; simp
            rw [List.getElem?_append_left hlen] at h63
            exact List.mem_of_getElem? h63
          have hany : a.any schOdd = true := List.any_eq_true.2 ⟨63, hm, by decide⟩
          rw [hany]
          simp
      unfold parseC
      rw [this]
      rfl
    rw [h1, h2]
    exact ⟨rfl, fun u h => by cases h⟩
theorem tail_law {t q f : L} (ht : ∀ c ∈ t, c ≠ 63 ∧ c ≠ 35) (hq : ∀ c ∈ q, c ≠ 35) (h : ∀ x, t.getLast? = some x → blank x = false) (z : Url) (hz : noTail z = z) :
    (urlParse (t ++ 63 :: 120 :: (q ++ 35 :: 120 :: f))).isSome = (urlParse t).isSome ∧ noTail ((urlParse (t ++ 63 :: 120 :: (q ++ 35 :: 120 :: f))).getD z) = (urlParse t).getD z := by
  unfold urlParse
  rw [clean_tail h]
  have := parseC_tail (C := clean t) (Q := 120 :: q.filter fun c => !isEnd c) (F := 120 :: rtrim (f.filter fun c => !isEnd c)) (fun c hc => ht c (clean_sub hc)) (by
    intro c hc
    rcases List.mem_cons.1 hc with rfl | hc
    · decide
    · exact hq c (List.mem_filter.1 hc).1)
  rw [this.1]
  cases hp : parseC (clean t) with
  | none => exact ⟨rfl, hz⟩
  | some u =>
    refine ⟨rfl, ?_⟩
    show noTail (withTail _ _ u) = u
    have h2 := this.2 u hp
    conv => rhs; rw [← h2]
    rfl
theorem has_mem {c : UInt8} {s : L} (h : has s c = true) : c ∈ s := by
  unfold has at h
  simpa using h
theorem cut_flag (c : UInt8) (s : L) : (cut c s).2.2 = has s c := by
  unfold cut
  cases h : has s c <;> simp
theorem tail_flags (s : L) : ((tail s).2.2.2.1 = true → (tail s).1 ≠ s) ∧ ((tail s).2.2.2.2 = true → (tail s).1 ≠ s) := by
  have hno := tail_no s
  constructor
  · intro h e
    have h1 : (cut 63 (cut 35 s).1).2.2 = true := h
    rw [cut_flag] at h1
    have h2 := (cut_fst_no 35 s 63 (has_mem h1)).2
    rw [e] at hno
    exact (hno 63 h2).1 rfl
  · intro h e
    have h1 : (cut 35 s).2.2 = true := h
    rw [cut_flag] at h1
    rw [e] at hno
    exact (hno 35 (has_mem h1)).2 rfl
end PM
/-! Plain: a port behind a host. -/
namespace PM
def dgs (d : L) : Prop := ∀ c ∈ d, 48 ≤ c.toNat ∧ c.toNat ≤ 57
theorem dgs_plainb {d : L} (h : dgs d) : ∀ c ∈ d, Plainb c := fun c hc => .inl (h c hc)
theorem hostcolon_no {h : Host} {d : L} (hd : dgs d) {x : UInt8} (h1 : ¬ Plainb x) (h2 : x ≠ 58) (h3 : x ≠ 91) (h4 : x ≠ 93) : ∀ c ∈ hostShow h ++ 58 :: d, c ≠ x := by
  intro c hc e
  subst e
  rcases List.mem_append.1 hc with hc | hc
  · rcases hostShow_all h c hc with g | g | g | g
    · exact h1 g
    · exact h2 g
    · exact h3 g
    · exact h4 g
  · rcases List.mem_cons.1 hc with g | g
    · exact h2 g
    · exact h1 (dgs_plainb hd c g)
theorem val_lt {d : L} (hd : dgs d) : val d < 10 ^ d.length := by
  have key : ∀ (d : L), dgs d → ∀ m b, m < b → d.foldl (fun n c => 10 * n + (c.toNat - 48)) m < b * 10 ^ d.length := by
    intro d
    induction d with
    | nil => intro _ m b h; simpa using h
    | cons c r ih =>
      intro hd m b h
      have hc := hd c (by simp)
      have := ih (fun x hx => hd x (by simp [hx])) (10 * m + (c.toNat - 48)) (10 * b) (by omega)
      rw [List.foldl_cons, List.length_cons, Nat.pow_succ, Nat.mul_comm (10 ^ r.length) 10, ← Nat.mul_assoc, Nat.mul_comm b 10]
      exact this
  have := key d hd 0 1 (by omega)
  rw [Nat.one_mul] at this
  exact this
theorem port_parse {s d : L} {h : Host} (hw : web s ≠ 0) (hm : hostMay h = true) (hl : h.six.length = 8) (hd : dgs d) : urlParse (s ++ 58 :: 47 :: 47 :: (hostShow h ++ 58 :: d)) = match portOf s d with
    | some p => some ⟨s, [], [], h, p, pathParse [], [], [], [], false, false⟩
    | none => none := by
  have hsc := web_cases hw
  have hss : ∀ c ∈ s, Seen c := by
    rcases hsc with rfl | rfl
    · unfold Seen; decide
    · unfold Seen; decide
  have hall : ∀ c ∈ s ++ 58 :: 47 :: 47 :: (hostShow h ++ 58 :: d), Seen c := by
    intro c hc
    simp only [List.mem_append, List.mem_cons] at hc
    rcases hc with hc | rfl | rfl | rfl | hc | rfl | hc
    · exact hss c hc
    · unfold Seen; decide
    · unfold Seen; decide
    · unfold Seen; decide
    · exact (hostShow_fine h c hc).seen
    · unfold Seen; decide
    · exact (dgs_plainb hd c hc).fine.seen
  have ho := opq_of_web hw
  have hpos : 0 < web s := by have := web_nonneg s; omega
  have hno : ∀ c ∈ 47 :: 47 :: (hostShow h ++ 58 :: d), c ≠ 63 ∧ c ≠ 35 := by
    intro c hc
    simp only [List.mem_cons] at hc
    rcases hc with rfl | rfl | hc
    · decide
    · decide
    · exact ⟨hostcolon_no hd (notP _ (by decide) (by decide) (by decide)) (by decide) (by decide) (by decide) c hc, hostcolon_no hd (notP _ (by decide) (by decide) (by decide)) (by decide) (by decide) (by decide) c hc⟩
  have h47 : ∀ c ∈ hostShow h ++ 58 :: d, c ≠ 47 := hostcolon_no hd (notP _ (by decide) (by decide) (by decide)) (by decide) (by decide) (by decide)
  have h64 : ∀ c ∈ hostShow h ++ 58 :: d, c ≠ 64 := hostcolon_no hd (notP _ (by decide) (by decide) (by decide)) (by decide) (by decide) (by decide)
  unfold urlParse
  rw [clean_seen hall]
  unfold parseC
  rw [scheme_of (by rcases hsc with e | e; exact .inl e; exact .inr (.inl e))]
  dsimp only
  rw [tail_none' hno, ho, decide_eq_true hpos]
  simp only [Bool.not_true, Bool.or_false, Bool.or_self, Bool.false_eq_true, if_false]
  unfold parseT
  rw [ho]
  simp only [Bool.false_eq_true, if_false]
  unfold parseWeb
  simp only [unslash2]
  have hwh : where_ (hostShow h ++ 58 :: d) = hostShow h ++ 58 :: d := by
    have := List.takeWhile_append_of_pos (p := (· != (47 : UInt8))) (l₁ := hostShow h ++ 58 :: d) (l₂ := []) (by intro c hc; simpa using h47 c hc)
    unfold where_
    simpa using this
  have hdr : (hostShow h ++ 58 :: d).dropWhile (· != 47) = [] := by
    have := List.dropWhile_append_of_pos (p := (· != (47 : UInt8))) (l₁ := hostShow h ++ 58 :: d) (l₂ := []) (by intro c hc; simpa using h47 c hc)
    simpa using this
  have hat : hasAt (hostShow h ++ 58 :: d) = false := at_none h64
  obtain ⟨d4, d5⟩ := (door_parts hm).2 d
  rw [hwh, hdr]
  unfold userOf passOf doorOf
  rw [hat]
  simp only [Bool.false_eq_true, if_false]
  rw [d4, d5, hostParse_show _ hm hl]
  cases portOf s d with
  | none => rfl
  | some p => rfl
theorem port_of {s d : L} (hd : dgs d) : portOf s d = if 65535 < val d then none else some (if d.isEmpty || decide ((val d : Int) = web s) then -1 else (val d : Int)) := by
  unfold portOf
  by_cases h0 : d = []
  · subst h0
    rfl
  · rw [if_neg h0]
    have hp : plain d = true := by
      unfold plain
      have h1 : d.all isDigit = true := List.all_eq_true.2 fun c hc => by
        have := hd c hc
        unfold isDigit
        simp
        omega
      have h2 : d.isEmpty = false := by
        cases d with
        | nil => exact absurd rfl h0
        | cons _ _ => rfl
      rw [h1, h2]
      rfl
    have h2 : d.isEmpty = false := by
      cases d with
      | nil => exact absurd rfl h0
      | cons _ _ => rfl
    unfold read
    rw [hp, h2]
    by_cases hv : val d ≤ 65535
    · have hv' : ¬ 65535 < val d := by omega
      rw [if_neg hv', decide_eq_true hv]
      simp only [Bool.and_self, if_true, Bool.false_or, decide_eq_true_eq]
      split <;> rfl
    · have hv' : 65535 < val d := by omega
      rw [if_pos hv', decide_eq_false hv]
      rfl
end PM
/-! The walk of UrlPort. -/
namespace Go.Proofs.YtgegnnojobmdcaaGreatDoor
open Go.RowKit
theorem pt_p (kk : Int) (nn : List UInt8) (mm s0 s1 s2 s3 s4 s5 s6 s7 : Int) (hm : PM.hostMay (⟨kk, nn, mm, [s0, s1, s2, s3, s4, s5, s6, s7]⟩ : PM.Host) = true) (s d : List UInt8) (hs : PM.web s ≠ 0) (hd : PM.dgs d) (hn : nn.length ≤ 100) (hdl : d.length ≤ 8) (W : World) (hg : Gl W) (hT : Lib.Utf8Tabs 1 2 W) :
    Calls Tryz.prog 14 #[.string (mkS s ++ ⟨#[58, 47, 47]⟩ ++ mkS (PM.hostShow (⟨kk, nn, mm, [s0, s1, s2, s3, s4, s5, s6, s7]⟩ : PM.Host)) ++ ⟨#[58]⟩ ++ mkS d)] W fun e w' => (∃ x : UV, e = .returned (.tuple #[.agg x.cells, .bool !decide (65535 < PM.val d)]) ∧ (¬ 65535 < PM.val d → x.k = kk ∧ x.n = nn ∧ x.m = mm ∧ x.s0 = s0 ∧ x.s1 = s1 ∧ x.s2 = s2 ∧ x.s3 = s3 ∧ x.s4 = s4 ∧ x.s5 = s5 ∧ x.s6 = s6 ∧ x.s7 = s7 ∧ x.port = if d.isEmpty || decide ((PM.val d : Int) = PM.web s) then -1 else (PM.val d : Int))) ∧ Below W.heap.size W w' := by
  have hcat : mkS s ++ ⟨#[58, 47, 47]⟩ ++ mkS (PM.hostShow (⟨kk, nn, mm, [s0, s1, s2, s3, s4, s5, s6, s7]⟩ : PM.Host)) ++ ⟨#[58]⟩ ++ mkS d = mkS (s ++ 58 :: 47 :: 47 :: (PM.hostShow (⟨kk, nn, mm, [s0, s1, s2, s3, s4, s5, s6, s7]⟩ : PM.Host) ++ 58 :: d)) := by
    apply ByteArray.ext
    simp [mkS]
  rw [hcat]
  have hp := PM.port_parse hs hm rfl hd
  rw [PM.port_of hd] at hp
  have hsl : s.length ≤ 5 := by
    rcases PM.web_cases hs with rfl | rfl <;> decide
  have hhl := hostShow_len2 (⟨kk, nn, mm, [s0, s1, s2, s3, s4, s5, s6, s7]⟩ : PM.Host) rfl
  have hlen : (s ++ 58 :: 47 :: 47 :: (PM.hostShow (⟨kk, nn, mm, [s0, s1, s2, s3, s4, s5, s6, s7]⟩ : PM.Host) ++ 58 :: d)).length ≤ 30000 := by
    have hhl' : (PM.hostShow (⟨kk, nn, mm, [s0, s1, s2, s3, s4, s5, s6, s7]⟩ : PM.Host)).length ≤ nn.length + 3100 := hhl
    simp only [List.length_append, List.length_cons]
    omega
  refine (UrlParse_c _ hlen W hg hT).mono ?_
  rintro e w' ⟨⟨x, g1, g2, g3⟩, hb⟩
  by_cases hv : 65535 < PM.val d
  · rw [if_pos hv] at hp
    have hp' : PM.urlParse (s ++ 58 :: 47 :: 47 :: (PM.hostShow (⟨kk, nn, mm, [s0, s1, s2, s3, s4, s5, s6, s7]⟩ : PM.Host) ++ 58 :: d)) = none := hp
    rw [hp'] at g1
    refine ⟨⟨x, ?_, fun h => absurd hv h⟩, hb⟩
    rw [decide_eq_true hv]
    exact g1
  · rw [if_neg hv] at hp
    have hp' : PM.urlParse (s ++ 58 :: 47 :: 47 :: (PM.hostShow (⟨kk, nn, mm, [s0, s1, s2, s3, s4, s5, s6, s7]⟩ : PM.Host) ++ 58 :: d)) = some ⟨s, [], [], (⟨kk, nn, mm, [s0, s1, s2, s3, s4, s5, s6, s7]⟩ : PM.Host), if d.isEmpty || decide ((PM.val d : Int) = PM.web s) then -1 else (PM.val d : Int), PM.pathParse [], [], [], [], false, false⟩ := hp
    rw [hp'] at g1 g2
    refine ⟨⟨x, ?_, fun _ => ?_⟩, hb⟩
    · rw [decide_eq_false hv]
      exact g1
    · have hx : x.pm.host = (⟨kk, nn, mm, [s0, s1, s2, s3, s4, s5, s6, s7]⟩ : PM.Host) := congrArg PM.Url.host g2
      have hy : x.pm.port = _ := congrArg PM.Url.port g2
      have hx' : (⟨x.k, x.n, x.m, [x.s0, x.s1, x.s2, x.s3, x.s4, x.s5, x.s6, x.s7]⟩ : PM.Host) = (⟨kk, nn, mm, [s0, s1, s2, s3, s4, s5, s6, s7]⟩ : PM.Host) := hx
      simp only [PM.Host.mk.injEq, List.cons.injEq, and_true] at hx'
      obtain ⟨a1, a2, a3, b0, b1, b2, b3, b4, b5, b6, b7⟩ := hx'
      exact ⟨a1, a2, a3, b0, b1, b2, b3, b4, b5, b6, b7, hy⟩
theorem dgs_take {d : List UInt8} {k : Nat} (hlt : k < d.length) (h : PM.dgs (d.take k)) (hc : 48 ≤ d[k].toNat ∧ d[k].toNat ≤ 57) : PM.dgs (d.take (k + 1)) := by
  intro x hx
  rw [List.take_succ_eq_append_getElem hlt] at hx
  rcases List.mem_append.1 hx with hx | hx
  · exact h x hx
  · simp at hx
    rw [hx]
    exact hc
set_option maxRecDepth 100000 in
set_option maxHeartbeats 16000000 in
theorem UrlPortL_c (kk : Int) (nn : List UInt8) (mm s0 s1 s2 s3 s4 s5 s6 s7 : Int) (s d : List UInt8) (w : World) (hg : Gl w) (hT : Lib.Utf8Tabs 1 2 w) : Calls Tryz.prog 7 #[.agg #[.int .i64 kk, .string (mkS nn), .int .i64 mm, .int .i64 s0, .int .i64 s1, .int .i64 s2, .int .i64 s3, .int .i64 s4, .int .i64 s5, .int .i64 s6, .int .i64 s7], .string (mkS s), .string (mkS d)] w fun e w' => e = .returned (.bool true) ∧ Below w.heap.size w w' := by
  have HH : Hid ((w.alloc (.cells #[.int .i64 kk, .string (mkS nn), .int .i64 mm, .int .i64 s0, .int .i64 s1, .int .i64 s2, .int .i64 s3, .int .i64 s4, .int .i64 s5, .int .i64 s6, .int .i64 s7] 24)).heap[w.heap.size]? = some (.cells #[.int .i64 kk, .string (mkS nn), .int .i64 mm, .int .i64 s0, .int .i64 s1, .int .i64 s2, .int .i64 s3, .int .i64 s4, .int .i64 s5, .int .i64 s6, .int .i64 s7] 24 (0, 0))) := Lib.hid (Go.heap_alloc_new _ _)
  have HB : Hid (Below w.heap.size w (w.alloc (.cells #[.int .i64 kk, .string (mkS nn), .int .i64 mm, .int .i64 s0, .int .i64 s1, .int .i64 s2, .int .i64 s3, .int .i64 s4, .int .i64 s5, .int .i64 s6, .int .i64 s7] 24))) := Lib.hid (b_alloc (Below.refl _ _) _)
  have HG := Lib.hid hg
  have HTB := Lib.hid hT
  clear hg hT
  go_enter Tryz.func7, Tryz.ntmps7
  go_upto_region 1 with fail
  generalize w.alloc (.cells #[.int .i64 kk, .string (mkS nn), .int .i64 mm, .int .i64 s0, .int .i64 s1, .int .i64 s2, .int .i64 s3, .int .i64 s4, .int .i64 s5, .int .i64 s6, .int .i64 s7] 24) = V0 at HH HB ⊢
  go_wp2_with fail
  refine (awake9_c _ (HG.out.below HB.out) (tabs_below HTB.out HB.out)).mono ?_
  rintro e V1 ⟨rfl, hb⟩
  replace HB := Lib.hid (b_then HB.out hb)
  replace HH := Lib.hid (obj_b hb HH.out)
  clear hb
  have c1 : V1.cell? ⟨w.heap.size, 1, none⟩ = some (.string (mkS nn)) := by rw [Lib.cell_of_heap HH.out]; rfl
  by_cases hl : 100 < nn.length
  · have hl2 : (100 : Int) < (nn.length : Int) := by omega
    go_wp2
    go_ret
    exact ⟨rfl, HB.out⟩
  have hl2 : decide ((100 : Int) < (nn.length : Int)) = false := decide_eq_false (by omega)
  go_wp2_with (refine wpList_load_g 24 _ rfl (by kernel_rfl) w.heap.size rfl HH.out Tryz.underlying24 rfl (by kernel_rfl) ?_)
  refine (hostMay_c kk nn mm s0 s1 s2 s3 s4 s5 s6 s7 (by omega) _ (HG.out.below HB.out)).mono ?_
  cases hm : PM.hostMay (⟨kk, nn, mm, [s0, s1, s2, s3, s4, s5, s6, s7]⟩ : PM.Host)
  · rintro e V ⟨rfl, hb⟩
    replace HB := Lib.hid (b_then HB.out hb)
    go_wp2
    go_ret
    exact ⟨rfl, HB.out⟩
  rintro e V2 ⟨rfl, hb⟩
  have HM := Lib.hid hm
  clear hm c1
  replace HB := Lib.hid (b_then HB.out hb)
  replace HH := Lib.hid (obj_b hb HH.out)
  clear hb
  obtain ⟨wb, hwb⟩ : ∃ wb, PM.web s = wb := ⟨_, rfl⟩
  have hW := fun W => Web_c s W
  rw [hwb] at hW
  have HW := Lib.hid hW
  have HWB := Lib.hid hwb
  clear hW hwb
  go_wp2_with fail
  refine (HW.out _).mono ?_
  rintro e V3 ⟨rfl, hw3⟩
  have hw3' := hw3.symm
  subst hw3'
  clear hw3
  by_cases h0 : wb = 0
  · subst h0
    go_wp2
    go_ret
    exact ⟨rfl, HB.out⟩
  have h0' : (wb == 0) = false := by simpa using h0
  by_cases hd : 8 < d.length
  · have hd2 : (8 : Int) < (d.length : Int) := by omega
    go_wp2
    go_ret
    exact ⟨rfl, HB.out⟩
  have hd2 : decide ((8 : Int) < (d.length : Int)) = false := decide_eq_false (by omega)
  go_wp2
  go_loopw [6, 8, 9] (fun r nv i wr => wr = V2 ∧ r = .bool false ∧ ∃ k : Nat, k ≤ d.length ∧ i = .int .i64 k ∧ nv = .int .i64 (PM.val (d.take k) : Nat) ∧ Hid (PM.dgs (d.take k))) (fun _ _ i _ => d.length - (intOf i).toNat)
  case atStart => exact ⟨rfl, rfl, 0, Nat.zero_le _, rfl, rfl, Lib.hid (by intro c hc; simp at hc)⟩
  case round =>
    obtain ⟨hwr, rfl, k, hk, rfl, rfl, HD⟩ := hrel
    have hwr' := hwr.symm
    subst hwr'
    clear hwr
    by_cases hlt : k < d.length
    · by_cases h1 : d[k].toNat < 48
      · have h1' : ((d[k]'hlt).toNat : Int) < 48 := by omega
        go_wp2
        go_ret
        exact ⟨rfl, HB.out⟩
      have h1' : ¬ ((d[k]'hlt).toNat : Int) < 48 := by omega
      by_cases h2 : 57 < d[k].toNat
      · have h2' : (57 : Int) < ((d[k]'hlt).toNat : Int) := by omega
        go_wp2
        go_ret
        exact ⟨rfl, HB.out⟩
      have h2' : ¬ (57 : Int) < ((d[k]'hlt).toNat : Int) := by omega
      have hvl := PM.val_lt HD.out
      have hpw : 10 ^ (d.take k).length ≤ 10 ^ 8 := Nat.pow_le_pow_right (by decide) (by simp; omega)
      have hvs : PM.val (d.take (k + 1)) = 10 * PM.val (d.take k) + (d[k].toNat - 48) := by
        rw [List.take_succ_eq_append_getElem hlt, PM.val_snoc]
      have hvb : (PM.val (d.take k) : Int) ≤ 100000000 := by omega
      have HVS := Lib.hid hvs
      have HD2 := Lib.hid (dgs_take hlt HD.out ⟨by omega, by omega⟩)
      generalize PM.val (d.take k) = va at hvb HVS ⊢
      clear hvl hpw hvs h1 h2
      go_wp2
      go_roundw
      case rel => exact ⟨trivial, rfl, k + 1, by omega, congrArg (Value.int .i64) (by omega), congrArg (Value.int .i64) (by rw [HVS.out]; omega), HD2⟩
      case measure => simp [intOf]; omega
    · obtain rfl : k = d.length := by omega
      rw [List.take_length] at HD ⊢
      have hPP := fun W hg hT => pt_p kk nn mm s0 s1 s2 s3 s4 s5 s6 s7 HM.out s d (by rw [HWB.out]; exact h0) HD.out (by omega) (by omega) W hg hT
      rw [HWB.out] at hPP
      obtain ⟨N, hN⟩ : ∃ N, PM.val d = N := ⟨_, rfl⟩
      rw [hN] at hPP ⊢
      have hvl := PM.val_lt HD.out
      have hpw : 10 ^ d.length ≤ 10 ^ 8 := Nat.pow_le_pow_right (by decide) (by omega)
      have hNb : (N : Int) ≤ 100000000 := by omega
      obtain ⟨isb, hisb⟩ : ∃ b, (!decide (65535 < N)) = b := ⟨_, rfl⟩
      rw [hisb] at hPP
      have hsl : s.length ≤ 5 := by
        have hws : PM.web s ≠ 0 := by rw [HWB.out]; exact h0
        rcases PM.web_cases hws with rfl | rfl <;> decide
      have hsl2 : (s.length : Int) ≤ 5 := by omega
      have hdl : (d.length : Int) ≤ 8 := by omega
      have hHS := fun W hg => hostShow_c kk nn mm s0 s1 s2 s3 s4 s5 s6 s7 (by omega) W hg
      have hhl : (PM.hostShow (⟨kk, nn, mm, [s0, s1, s2, s3, s4, s5, s6, s7]⟩ : PM.Host)).length ≤ nn.length + 3100 := hostShow_len2 _ rfl
      obtain ⟨hst, hhst⟩ : ∃ t, PM.hostShow (⟨kk, nn, mm, [s0, s1, s2, s3, s4, s5, s6, s7]⟩ : PM.Host) = t := ⟨_, rfl⟩
      rw [hhst] at hPP hHS hhl
      have hhl2 : (hst.length : Int) ≤ 3200 := by omega
      have HHS := Lib.hid hHS
      clear hhst hHS
      have HPP := Lib.hid hPP
      have HIS := Lib.hid hisb
      clear hPP hisb hN hvl hpw hk hlt hd
      go_wp2_with (refine wpList_load_g 24 _ rfl (by kernel_rfl) w.heap.size rfl HH.out Tryz.underlying24 rfl (by kernel_rfl) ?_)
      refine (HHS.out _ (HG.out.below HB.out)).mono ?_
      rintro e V3 ⟨rfl, hb⟩
      replace HB := Lib.hid (b_then HB.out hb)
      replace HH := Lib.hid (obj_b hb HH.out)
      clear hb
      go_wp2_with fail
      refine (HPP.out _ (HG.out.below HB.out) (tabs_below HTB.out HB.out)).mono ?_
      rintro e V4 ⟨⟨x, rfl, hx⟩, hb⟩
      have HX := Lib.hid hx
      clear hx HPP
      replace HB := Lib.hid (b_then HB.out hb)
      replace HH := Lib.hid (obj_b hb HH.out)
      clear hb
      have HN := Lib.hid (Go.heap_alloc_new V4 (.cells zurl 27))
      go_upto_region 12 with (refine wpList_store_row rfl 27 _ _ rfl V4.heap.size x.cells rfl rfl 27 _ HN.out (by kernel_rfl) rfl (agg_one x) ?_)
      obtain ⟨V5, hV⟩ : ∃ V5, V5 = (V4.alloc (.cells #[.string ⟨#[]⟩, .string ⟨#[]⟩, .string ⟨#[]⟩, .int .i64 0, .string ⟨#[]⟩, .int .i64 0, .int .i64 0, .int .i64 0, .int .i64 0, .int .i64 0, .int .i64 0, .int .i64 0, .int .i64 0, .int .i64 0, .int .i64 0, .slice none 0 0, .string ⟨#[]⟩, .string ⟨#[]⟩, .string ⟨#[]⟩, .bool false, .bool false] 27)).setRow V4.heap.size x.cells := ⟨_, rfl⟩
      have hN : V5.heap[V4.heap.size]? = some (.cells x.cells 27 (0, 0)) := by rw [hV]; exact heap_setRow HN.out _
      have hb : Below V4.heap.size V4 V5 := by rw [hV]; exact below_setRow (b_alloc (Below.refl _ _) _) (Nat.le_refl _) _
      rw [← hV]
      clear hV HN
      have HU := Lib.hid hN
      clear hN
      replace HB := Lib.hid (b_then HB.out hb)
      replace HH := Lib.hid (obj_b hb HH.out)
      clear hb
      generalize V4.heap.size = bx at HU ⊢
      have heq : ∀ W : World, (Op.equalIn 10000 24 (.agg #[.int .i64 kk, .string (mkS nn), .int .i64 mm, .int .i64 s0, .int .i64 s1, .int .i64 s2, .int .i64 s3, .int .i64 s4, .int .i64 s5, .int .i64 s6, .int .i64 s7]) (.agg #[.int .i64 kk, .string (mkS nn), .int .i64 mm, .int .i64 s0, .int .i64 s1, .int .i64 s2, .int .i64 s3, .int .i64 s4, .int .i64 s5, .int .i64 s6, .int .i64 s7])).run Tryz.prog W = .ok true W := fun W => by
        have h := eq_host kk kk nn nn mm mm s0 s1 s2 s3 s4 s5 s6 s7 s0 s1 s2 s3 s4 s5 s6 s7 W
        simpa using h
      by_cases hv : 65535 < N
      · have hv2 : (65535 : Int) < (N : Int) := by omega
        obtain rfl : false = isb := by rw [← HIS.out, decide_eq_true hv]; rfl
        go_wp2
        go_ret
        exact ⟨rfl, HB.out⟩
      · have hv2 : ¬ (65535 : Int) < (N : Int) := by omega
        obtain rfl : true = isb := by rw [← HIS.out, decide_eq_false hv]; rfl
        obtain ⟨x1, x2, x3, x4, x5, x6, x7, x8, x9, x10, x11, x12⟩ := HX.out hv
        obtain ⟨c0, c1, c2, c3, c4, c5, c6, c7, c8, c9, c10, c11, c12, c13, c14, c15, c16, c17, c18, c19, c20⟩ := UrlAt.of_heap HU.out
        rw [x1] at c3
        rw [x2] at c4
        rw [x3] at c5
        rw [x4] at c6
        rw [x5] at c7
        rw [x6] at c8
        rw [x7] at c9
        rw [x8] at c10
        rw [x9] at c11
        rw [x10] at c12
        rw [x11] at c13
        rw [x12] at c14
        clear x1 x2 x3 x4 x5 x6 x7 x8 x9 x10 x11 x12 hv
        cases hde : d.isEmpty
        · rw [hde] at c14
          by_cases hn : (N : Int) = wb
          · rw [decide_eq_true hn] at c14
            have hn2 : ((N : Int) == wb) = true := by simpa using hn
            simp only [Bool.false_or, if_true] at c14
            clear hn
            go_wp2_with (first
              | (go_at_call 24; refine (HW.out _).mono ?_; rintro e V6 ⟨rfl, rfl⟩)
              | (refine wpList_load_g 24 _ rfl (by kernel_rfl) w.heap.size rfl HH.out Tryz.underlying24 rfl (by kernel_rfl) ?_))
            go_ret
            exact ⟨rfl, HB.out⟩
          · rw [decide_eq_false hn] at c14
            have hn2 : ((N : Int) == wb) = false := by simpa using hn
            simp only [Bool.false_or, Bool.false_eq_true, if_false] at c14
            clear hn
            go_wp2_with (first
              | (go_at_call 24; refine (HW.out _).mono ?_; rintro e V6 ⟨rfl, rfl⟩)
              | (refine wpList_load_g 24 _ rfl (by kernel_rfl) w.heap.size rfl HH.out Tryz.underlying24 rfl (by kernel_rfl) ?_))
            go_ret
            exact ⟨rfl, HB.out⟩
        · rw [hde] at c14
          simp only [Bool.true_or, if_true] at c14
          go_wp2_with (first
            | (refine wpList_load_g 24 _ rfl (by kernel_rfl) w.heap.size rfl HH.out Tryz.underlying24 rfl (by kernel_rfl) ?_))
          go_ret
          exact ⟨rfl, HB.out⟩
end Go.Proofs.YtgegnnojobmdcaaGreatDoor
/-! A host as an argument: opened. -/
namespace Go.Proofs.YtgegnnojobmdcaaGreatDoor
open Go.ChangeShapes Go.WideShapes Go.ChangeAt Go.RowKit
open Go.WideMaps Go.WideElems
theorem list11 {α : Type} {l : List α} (h : l.length = 11) : ∃ c0 c1 c2 c3 c4 c5 c6 c7 c8 c9 c10, l = [c0, c1, c2, c3, c4, c5, c6, c7, c8, c9, c10] := by
  match l, h with
  | [c0, c1, c2, c3, c4, c5, c6, c7, c8, c9, c10], _ => exact ⟨c0, c1, c2, c3, c4, c5, c6, c7, c8, c9, c10, rfl⟩
set_option maxRecDepth 100000 in
theorem open_host {H : Type} {enc : TypeId × Value → H} {w : World} {base : Nat} {spare : Nat → Bool} {held : Bool} {r : Reach} {b0 : Nat} {v : Value} {d : DataW H} {p : List MemPlace} (hv : Value.okWide Tryz.prog w r b0 24 v) (h : DataW.Trod enc Tryz.prog w base spare held 24 v d p) :
    ∃ (k : Int) (n : List UInt8) (m n0 n1 n2 n3 n4 n5 n6 n7 : Int), v = .agg #[.int .i64 k, .string (mkS n), .int .i64 m, .int .i64 n0, .int .i64 n1, .int .i64 n2, .int .i64 n3, .int .i64 n4, .int .i64 n5, .int .i64 n6, .int .i64 n7] := by
  have hu := Tryz.underlying24
  obtain ⟨cs, rfl, hsz⟩ := okWide_struct hu hv
  obtain ⟨fuel, hf0⟩ := h
  have hC : Tryz.prog.cellsOf 24 = 11 := by kernel_rfl
  obtain ⟨l⟩ := cs
  have hl : l.length = 11 := by simpa [hC] using hsz
  obtain ⟨c0, c1, c2, c3, c4, c5, c6, c7, c8, c9, c10, rfl⟩ := list11 hl
  obtain ⟨k, n, m', n0, n1, n2, n3, n4, n5, n6, n7, q0, q1, q2, q3, q4, q5, q6, q7, q8, q9, q10⟩ := host_cells (a0 := c0) (a1 := c1) (a2 := c2) (a3 := c3) (a4 := c4) (a5 := c5) (a6 := c6) (a7 := c7) (a8 := c8) (a9 := c9) (a10 := c10) hf0
  refine ⟨k, n, m', n0, n1, n2, n3, n4, n5, n6, n7, ?_⟩
  subst q0 q1 q2 q3 q4 q5 q6 q7 q8 q9 q10
  rfl
end Go.Proofs.YtgegnnojobmdcaaGreatDoor
/-! The row of UrlPort. -/
namespace Go.Proofs.YtgegnnojobmdcaaGreatDoor
open Go.ChangeShapes Go.WideShapes Go.ChangeAt Go.RowKit
open Go.WideMaps Go.WideElems
open Go.ChangeMaps (open_string shut_string)
theorem urlPort_reads (os : Os) {H : Type} (enc : TypeId × Value → H) : ∃ x, DataW.whole enc Tryz.prog ((laidWorld os).forCall (fun _ _ => 0) ⟨#[], #[.agg #[.int .i64 0, .string ⟨#[]⟩, .int .i64 0, .int .i64 0, .int .i64 0, .int .i64 0, .int .i64 0, .int .i64 0, .int .i64 0, .int .i64 0, .int .i64 0], .string ⟨#[]⟩, .string ⟨#[]⟩], []⟩).memory Tryz.f7.params.toList Rows.urlPortSpec.vars false (#[.agg #[.int .i64 0, .string ⟨#[]⟩, .int .i64 0, .int .i64 0, .int .i64 0, .int .i64 0, .int .i64 0, .int .i64 0, .int .i64 0, .int .i64 0, .int .i64 0], .string ⟨#[]⟩, .string ⟨#[]⟩] : Array Value).toList 8 = some x :=
  Option.isSome_iff_exists.1 (by kernel_rfl)
set_option maxRecDepth 100000 in
theorem urlPort_lifted (os : Os) (started : os.Started) (H : Type) (enc : TypeId × Value → H) (F : Stop.Interp) :
    ReturnsInHanded {} Tryz.checked os 7 .any ((OpenSpec.ofChange Rows.urlPortSpec).preRow enc Tryz.prog Tryz.f7 Rows.urlPortRow.domain false Rows.urlPortRow.laid) (((OpenSpec.ofChange Rows.urlPortSpec).at F).post enc Tryz.prog Tryz.f7 false true false false) := by
  obtain ⟨x, hx⟩ := urlPort_reads os enc
  refine returnsInHanded_of_row (C := Tryz.checked) (s := OpenSpec.ofChange Rows.urlPortSpec) own started (by kernel_rfl) Tryz.func7
    (witness_row_atRef (enc := enc) (C := Tryz.checked) false (laidWorld os) #[.agg #[.int .i64 0, .string ⟨#[]⟩, .int .i64 0, .int .i64 0, .int .i64 0, .int .i64 0, .int .i64 0, .int .i64 0, .int .i64 0, .int .i64 0, .int .i64 0], .string ⟨#[]⟩, .string ⟨#[]⟩] rfl (by kernel_rfl) (by kernel_rfl) (by kernel_rfl)
      (OpenSpec.preRow_of_cond 8 hx rfl (fun k hk => by cases hk) (by kernel_rfl) (laid_met os _))) ?_
  intro W base args ds gs before hval0 hW _ _ _ hL hsh _
  have hval : ∀ (j : Nat) t v, Tryz.f7.params[j]? = some t → args[j]? = some v → Value.okWide Tryz.prog W .any base t v := hval0
  have hW' := hW
  obtain ⟨p, q, hA0, hV, rfl, hfz, hnd⟩ := hW
  have hA : DataW.TrodAll enc Tryz.prog W 0 (fun _ => true) true Tryz.f7.params.toList args.toList ds p := hA0
  rw [Tryz.params7] at hA hval
  obtain ⟨v0, v1, v2, d0, d1, d2, p0, p1, p2, rfl, rfl, rfl, h0, h1, h2⟩ := trodAll_three hA
  obtain ⟨rfl, rfl⟩ := trodVars_none hV
  simp only [List.append_nil] at hfz hnd hW'
  have hlt : ∀ x ∈ p0 ++ p1 ++ p2, x.block < W.heap.size := fun x hx => hW'.lt x hx
  have h0k := h0
  obtain ⟨k0, n0, m0, a00, a01, a02, a03, a04, a05, a06, a07, rfl⟩ := open_host (hval 0 24 v0 rfl rfl) h0
  have h1k := h1
  obtain ⟨s1, e1, _, _, w1⟩ := open_string Tryz.underlying9 (hval 1 9 v1 rfl rfl) h1
  obtain ⟨l1, rfl⟩ := mkS_surj s1
  subst e1
  have h2k := h2
  obtain ⟨s2, e2, _, _, w2⟩ := open_string Tryz.underlying9 (hval 2 9 v2 rfl rfl) h2
  obtain ⟨l2, rfl⟩ := mkS_surj s2
  subst e2
  refine (UrlPortL_c k0 n0 m0 a00 a01 a02 a03 a04 a05 a06 a07 l1 l2 W  (gl_of hsh) (tabs_laid hL)).mono fun e W' ⟨he, hb⟩ => ?_
  subst he
  refine ⟨_, rfl, _, _, _, [], p0 ++ p1 ++ p2, [], hW', ?_, ?_, ?_, hb.frame _, fun h => by cases h⟩
  · exact trodAll_mk1 (shut_bool Tryz.underlying4 _)
  · have h3 := trodAll_mk3 (Below.trod laidOut (by kernel_rfl) (of_decide_eq_true (by kernel_rfl)) h0k hb (fun x hx => hlt x (by simp [hx]))) (Below.trod laidOut (by kernel_rfl) (of_decide_eq_true (by kernel_rfl)) h1k hb (fun x hx => hlt x (by simp [hx]))) (Below.trod laidOut (by kernel_rfl) (of_decide_eq_true (by kernel_rfl)) h2k hb (fun x hx => hlt x (by simp [hx])))
    rw [← List.append_assoc] at h3
    exact h3
  · rfl
theorem urlPort_said : Rows.UrlPortSaid :=
  OpenClaim.holds_of_cond 7 Tryz.f7 rfl rfl rfl rfl rfl rfl rfl ⟨rfl, rfl, rfl, rfl, rfl⟩ rfl rfl rfl rfl rfl (by kernel_rfl) Tryz.func7 (by kernel_rfl)
    (of_decide_eq_true (by kernel_rfl)) (by unfold Func.isWrapper; first | (rw [if_pos (by decide +kernel)]; kernel_rfl) | (rw [if_neg (by decide +kernel)]; exact ⟨rfl, rfl⟩))
    (fun os started H enc _ F => by rw [OpenClaim.pre_eq_preRow]; exact urlPort_lifted os started H enc F)
theorem urlPort_plain (f : FuncId) (fn : Func) (hf : Tryz.pinned.checked.prog.funcNamed "postmark/postmarklaw09.UrlPort" = some f) (hfn : Tryz.pinned.checked.prog.funcs[f]? = some fn) :
    true = Tryz.pinned.checked.prog.looks [] ∧ ∀ (j : Nat) t, fn.params[j]? = some t → Tryz.pinned.checked.prog.wantsStandIn t = false := by
  obtain rfl : f = 7 := Option.some.inj ((show Tryz.prog.funcNamed "postmark/postmarklaw09.UrlPort" = some 7 by kernel_rfl).symm.trans hf) |>.symm
  obtain rfl : fn = Tryz.f7 := (Option.some.inj (Tryz.func7.symm.trans hfn)).symm
  refine ⟨by kernel_rfl, fun j t ht => ?_⟩
  rw [Tryz.params7] at ht
  have hm := Array.mem_of_getElem? ht
  simp only [Array.mem_def, List.mem_cons, List.not_mem_nil, or_false] at hm
  rcases hm with rfl | rfl | rfl
  · exact (show Tryz.prog.wantsStandIn 24 = false by kernel_rfl)
  · exact (show Tryz.prog.wantsStandIn 9 = false by kernel_rfl)
  · exact (show Tryz.prog.wantsStandIn 9 = false by kernel_rfl)
theorem urlPort_holds : Rows.UrlPortCardSaid :=
  Claim7.holds_tied_plain_at .later [] _ _ _ _ urlPort_said (fun _ h => by cases h) (by kernel_rfl) (fun _ h => by cases h) urlPort_row_tie rfl ⟨rfl, rfl⟩ (by kernel_rfl) rfl urlPort_plain (by kernel_rfl)
#print axioms urlPort_holds
end Go.Proofs.YtgegnnojobmdcaaGreatDoor
