/-
UrlParts: whatever comes in, the law's call returns true, and the arguments read behind the call as they did before; no condition on them. The row lists the two tables of unicode/utf8 (first, acceptRanges); the card ties them.
-/
import Derived.Test.YtgegnnojobmdcaaGreatDoorTz
import Derived.Test.YtgegnnojobmdcaaGreatDoorP15
import Derived.Test.YtgegnnojobmdcaaGreatDoorC23
import Derived.Test.YtgegnnojobmdcaaGreatDoorMay
import Derived.KernelRfl
set_option linter.unusedVariables false
set_option linter.unusedSimpArgs false
/-! Contract: postmarklaw09.awake. -/
namespace Go.Proofs.YtgegnnojobmdcaaGreatDoor
open Go.RowKit
def awT : List UInt8 := [72, 84, 84, 80, 58, 47, 47, 117, 64, 65, 46, 111, 114, 103, 58, 56, 48, 47, 98, 63, 99, 35, 100]
def awV (a : Option Addr) (pn pc : Nat) : UV := ⟨[104, 116, 116, 112], [117], [], 1, [97, 46, 111, 114, 103], 0, 0, 0, 0, 0, 0, 0, 0, 0, -1, a, pn, pc, [[98]], [], [99], [100], true, true⟩
theorem awT_parse : PM.urlParse awT = some (awV none 0 0).pm := by kernel_rfl
theorem awP (w : World) (hg : Gl w) (hT : Lib.Utf8Tabs 1 2 w) : Calls Tryz.prog 14 #[.string ⟨#[72, 84, 84, 80, 58, 47, 47, 117, 64, 65, 46, 111, 114, 103, 58, 56, 48, 47, 98, 63, 99, 35, 100]⟩] w fun e w' =>
    (∃ g o pc, e = .returned (.tuple #[.agg (awV (some ⟨g, o, none⟩) 1 pc).cells, .bool true]) ∧ (awV (some ⟨g, o, none⟩) 1 pc).Ok w' ∧ w'.cell? ⟨g, o, none⟩ = some (.string (mkS [98]))) ∧ Below w.heap.size w w' := by
  have h := UrlParse_c awT (by decide) w hg hT
  rw [awT_parse] at h
  refine h.mono ?_
  rintro e w' ⟨⟨v, h1, h2, h3⟩, hb⟩
  refine ⟨?_, hb⟩
  obtain ⟨sc, us, pa, k, n, m, s0, s1, s2, s3, s4, s5, s6, s7, port, a, pn, pc, xs, op, qu, fr, hq, hf⟩ := v
  have h2' : (⟨sc, us, pa, ⟨k, n, m, [s0, s1, s2, s3, s4, s5, s6, s7]⟩, port, xs, op, qu, fr, hq, hf⟩ : PM.Url) = ⟨[104, 116, 116, 112], [117], [], ⟨1, [97, 46, 111, 114, 103], 0, [0, 0, 0, 0, 0, 0, 0, 0]⟩, -1, [[98]], [], [99], [100], true, true⟩ := h2
  simp only [PM.Url.mk.injEq, PM.Host.mk.injEq, List.cons.injEq, and_true] at h2'
  obtain ⟨rfl, rfl, rfl, ⟨rfl, rfl, rfl, rfl, rfl, rfl, rfl, rfl, rfl, rfl, rfl⟩, rfl, rfl, rfl, rfl, rfl, rfl, rfl⟩ := h2'
  have hok := h3 (show ([[98]] : List (List UInt8)).length ≤ 10000 by decide)
  have hrd : RdS w' a pn [[98]] := hok.rd
  have hpn : pn = 1 := hrd.len.symm
  subst hpn
  rcases hrd.at_ with e0 | ⟨b, o, rfl, hlt, hc⟩
  · cases e0
  · exact ⟨b, o, pc, h1, hok, hc 0 (by decide)⟩
theorem aw_scheme : PM.scheme [72, 116, 116, 112, 58, 120] = ([104, 116, 116, 112], [120], true) := by kernel_rfl
theorem aw_tail : PM.tail [97, 63, 98, 35, 99, 63, 100] = ([97], [98], [99, 63, 100], true, true) := by kernel_rfl
theorem aw_may (a : Option Addr) (pn pc : Nat) : PM.urlMay (awV a pn pc).pm = true := by
  show PM.urlMay (awV none 0 0).pm = true
  kernel_rfl
theorem aw_host : PM.hostShow ⟨1, [97, 46, 111, 114, 103], 0, [0, 0, 0, 0, 0, 0, 0, 0]⟩ = [97, 46, 111, 114, 103] := by kernel_rfl
theorem aw_web : PM.web [104, 116, 116, 112, 115] = 443 := by kernel_rfl
set_option maxRecDepth 100000 in
set_option maxHeartbeats 4000000 in
theorem awake9_c (w : World) (hg : Gl w) (hT : Lib.Utf8Tabs 1 2 w) : Calls Tryz.prog 12 #[] w fun e w' => e = .returned (.bool true) ∧ Below w.heap.size w w' := by
  have hP := awP w hg hT
  have HG := Lib.hid hg
  have hS := fun W hg => Scheme_c [72, 116, 116, 112, 58, 120] (by decide) W hg
  rw [aw_scheme] at hS
  have hTl := fun W hg => Tail_c [97, 63, 98, 35, 99, 63, 100] (by decide) W hg
  rw [aw_tail] at hTl
  have HS : Hid (∀ W, Gl W → Calls Tryz.prog 17 #[.string ⟨#[72, 116, 116, 112, 58, 120]⟩] W fun e w' => e = .returned (.tuple #[.string (mkS [104, 116, 116, 112]), .string (mkS [120]), .bool true]) ∧ Below W.heap.size W w') := Lib.hid hS
  have HTl : Hid (∀ W, Gl W → Calls Tryz.prog 19 #[.string ⟨#[97, 63, 98, 35, 99, 63, 100]⟩] W fun e w' => e = .returned (.tuple #[.string (mkS [97]), .string (mkS [98]), .string (mkS [99, 63, 100]), .bool true, .bool true]) ∧ Below W.heap.size W w') := Lib.hid hTl
  have HP := Lib.hid hP
  clear hP hS hTl hg hT
  go_enter Tryz.func12, Tryz.ntmps12
  go_wp2_with fail
  refine HP.out.mono ?_
  rintro e V1 ⟨⟨g, o, pc, rfl, hok, hcell⟩, hb1⟩
  have HOK := Lib.hid hok
  have HCE := Lib.hid hcell
  have HB := Lib.hid hb1
  clear hok hcell hb1
  obtain ⟨v, hv⟩ : ∃ v, v = awV (some ⟨g, o, none⟩) 1 pc := ⟨_, rfl⟩
  have HN := Lib.hid (Go.heap_alloc_new V1 (.cells zurl 27))
  rw [← hv] at HOK ⊢
  have HV := Lib.hid hv
  clear hv
  go_upto_region 2 with (refine wpList_store_row rfl 27 _ _ rfl V1.heap.size v.cells rfl rfl 27 _ HN.out (by kernel_rfl) rfl (agg_one v) ?_)
  obtain ⟨V2, hV⟩ : ∃ V2, V2 = (V1.alloc (.cells #[.string ⟨#[]⟩, .string ⟨#[]⟩, .string ⟨#[]⟩, .int .i64 0, .string ⟨#[]⟩, .int .i64 0, .int .i64 0, .int .i64 0, .int .i64 0, .int .i64 0, .int .i64 0, .int .i64 0, .int .i64 0, .int .i64 0, .int .i64 0, .slice none 0 0, .string ⟨#[]⟩, .string ⟨#[]⟩, .string ⟨#[]⟩, .bool false, .bool false] 27)).setRow V1.heap.size v.cells := ⟨_, rfl⟩
  have hN : V2.heap[V1.heap.size]? = some (.cells v.cells 27 (0, 0)) := by rw [hV]; exact heap_setRow HN.out _
  have hb : Below V1.heap.size V1 V2 := by rw [hV]; exact below_setRow (b_alloc (Below.refl _ _) _) (Nat.le_refl _) _
  rw [← hV]
  clear hV HN
  have HX := Lib.hid hN
  replace HOK := Lib.hid (HOK.out.below hb)
  replace HCE := Lib.hid (cell_b hb HCE.out)
  replace HB := Lib.hid (b_then HB.out hb)
  clear hN hb
  generalize V1.heap.size = b at HX ⊢
  go_wp2_with fail
  refine (HS.out _ (HG.out.below HB.out)).mono ?_
  rintro e V3 ⟨rfl, hb⟩
  replace HX := Lib.hid (obj_b hb HX.out)
  replace HOK := Lib.hid (HOK.out.below hb)
  replace HCE := Lib.hid (cell_b hb HCE.out)
  replace HB := Lib.hid (b_then HB.out hb)
  clear hb
  go_wp2_with fail
  refine (HTl.out _ (HG.out.below HB.out)).mono ?_
  rintro e V4 ⟨rfl, hb⟩
  replace HX := Lib.hid (obj_b hb HX.out)
  replace HOK := Lib.hid (HOK.out.below hb)
  replace HCE := Lib.hid (cell_b hb HCE.out)
  replace HB := Lib.hid (b_then HB.out hb)
  clear hb
  obtain ⟨c0, c1, c2, c3, c4, c5, c6, c7, c8, c9, c10, c11, c12, c13, c14, c15, c16, c17, c18, c19, c20⟩ : UrlAt V4 b (awV (some ⟨g, o, none⟩) 1 pc) := by rw [← HV.out]; exact UrlAt.of_heap HX.out
  have ce := HCE.out
  unfold awV at c0 c1 c2 c3 c4 c5 c6 c7 c8 c9 c10 c11 c12 c13 c14 c15 c16 c17 c18 c19 c20
  dsimp only at c0 c1 c2 c3 c4 c5 c6 c7 c8 c9 c10 c11 c12 c13 c14 c15 c16 c17 c18 c19 c20
  go_wp2_with (refine wpList_load_g 27 _ rfl (by kernel_rfl) b rfl HX.out Tryz.underlying27 rfl (by kernel_rfl) ?_)
  refine (hostShow_c 1 [97, 46, 111, 114, 103] 0 0 0 0 0 0 0 0 0 (by decide) _ (HG.out.below HB.out)).mono ?_
  rw [aw_host]
  rintro e V5 ⟨rfl, hb⟩
  replace HX := Lib.hid (obj_b hb HX.out)
  replace HOK := Lib.hid (HOK.out.below hb)
  replace HCE := Lib.hid (cell_b hb HCE.out)
  replace HB := Lib.hid (b_then HB.out hb)
  clear hb ce c0 c1 c2 c3 c4 c5 c6 c7 c8 c9 c10 c11 c12 c13 c14 c15 c16 c17 c18 c19 c20
  obtain ⟨c0, c1, c2, c3, c4, c5, c6, c7, c8, c9, c10, c11, c12, c13, c14, c15, c16, c17, c18, c19, c20⟩ : UrlAt V5 b (awV (some ⟨g, o, none⟩) 1 pc) := by rw [← HV.out]; exact UrlAt.of_heap HX.out
  have ce := HCE.out
  unfold awV at c0 c1 c2 c3 c4 c5 c6 c7 c8 c9 c10 c11 c12 c13 c14 c15 c16 c17 c18 c19 c20
  dsimp only at c0 c1 c2 c3 c4 c5 c6 c7 c8 c9 c10 c11 c12 c13 c14 c15 c16 c17 c18 c19 c20
  go_wp2_with (refine wpList_load_g 27 _ rfl (by kernel_rfl) b rfl HX.out Tryz.underlying27 rfl (by kernel_rfl) ?_)
  refine (urlMay_c v _ HOK.out (HG.out.below HB.out)).mono ?_
  rw [show PM.urlMay v.pm = true from by rw [HV.out]; exact aw_may _ _ _]
  rintro e V6 ⟨rfl, hb⟩
  replace HX := Lib.hid (obj_b hb HX.out)
  replace HOK := Lib.hid (HOK.out.below hb)
  replace HCE := Lib.hid (cell_b hb HCE.out)
  replace HB := Lib.hid (b_then HB.out hb)
  clear hb ce c0 c1 c2 c3 c4 c5 c6 c7 c8 c9 c10 c11 c12 c13 c14 c15 c16 c17 c18 c19 c20
  obtain ⟨c0, c1, c2, c3, c4, c5, c6, c7, c8, c9, c10, c11, c12, c13, c14, c15, c16, c17, c18, c19, c20⟩ : UrlAt V6 b (awV (some ⟨g, o, none⟩) 1 pc) := by rw [← HV.out]; exact UrlAt.of_heap HX.out
  have ce := HCE.out
  unfold awV at c0 c1 c2 c3 c4 c5 c6 c7 c8 c9 c10 c11 c12 c13 c14 c15 c16 c17 c18 c19 c20
  dsimp only at c0 c1 c2 c3 c4 c5 c6 c7 c8 c9 c10 c11 c12 c13 c14 c15 c16 c17 c18 c19 c20
  go_wp2_with fail
  refine (Web_c [104, 116, 116, 112, 115] _).mono ?_
  rw [aw_web]
  rintro e V7 ⟨rfl, rfl⟩
  go_wp2_with (refine wpList_load_g 27 _ rfl (by kernel_rfl) b rfl HX.out Tryz.underlying27 rfl (by kernel_rfl) ?_)
  refine (UrlSame_c v v _ HOK.out HOK.out).mono ?_
  rw [(PM.urlSame_iff _ _).2 rfl]
  rintro e V8 ⟨rfl, hb⟩
  replace HB := Lib.hid (b_then HB.out hb)
  go_wp2
  go_ret
  exact ⟨rfl, HB.out⟩
end Go.Proofs.YtgegnnojobmdcaaGreatDoor
/-! Plain: query and fragment do not touch what stands ahead. -/
namespace PM
theorem dw_filter (p q : UInt8 → Bool) (h : ∀ c, p c = false → q c = true) (s : L) : (s.filter p).dropWhile q = (s.dropWhile q).filter p := by
  induction s with
  | nil => rfl
  | cons c r ih =>
    by_cases hq : q c = true
    · rw [List.dropWhile_cons, if_pos hq]
      by_cases hp : p c = true
      · rw [List.filter_cons, if_pos hp, List.dropWhile_cons, if_pos hq, ih]
      · rw [List.filter_cons, if_neg hp, ih]
    · have hp : p c = true := by
        cases hpc : p c with
        | true => rfl
        | false => exact absurd (h c hpc) hq
      rw [List.dropWhile_cons, if_neg hq, List.filter_cons, if_pos hp, List.dropWhile_cons, if_neg hq]
theorem end_blank (c : UInt8) (h : (!isEnd c) = false) : blank c = true := by
  simp only [Bool.not_eq_false', isEnd, Bool.or_eq_true, beq_iff_eq] at h
  rcases h with (rfl | rfl) | rfl <;> rfl
theorem clean_eq (s : L) : clean s = trim (s.filter fun c => !isEnd c) := by
  unfold clean trim
  rw [dw_filter _ _ end_blank, ← List.filter_reverse, dw_filter _ _ end_blank, ← List.filter_reverse]
def rtrim (s : L) : L := (s.reverse.dropWhile blank).reverse
theorem rtrim_app (a : L) (c : UInt8) (b : L) (hc : blank c = false) : rtrim (a ++ c :: b) = a ++ c :: rtrim b := by
  unfold rtrim
  have e : (a ++ c :: b).reverse = b.reverse ++ (c :: a.reverse) := by simp
  rw [e, List.dropWhile_append]
  split
  · rename_i h
    have h' : b.reverse.dropWhile blank = [] := by simpa using h
    rw [h', List.dropWhile_cons, if_neg (by rw [hc]; decide)]
    simp
  · simp
theorem ltrim_app (a : L) (c : UInt8) (b : L) (hc : blank c = false) : (a ++ c :: b).dropWhile blank = a.dropWhile blank ++ c :: b := by
  rw [List.dropWhile_append]
  split
  · rename_i h
    have h' : a.dropWhile blank = [] := by simpa using h
    rw [h', List.dropWhile_cons, if_neg (by rw [hc]; decide)]
    rfl
  · rfl
theorem clean_end {t : L} (h : ∀ x, t.getLast? = some x → blank x = false) : clean t = (t.filter fun c => !isEnd c).dropWhile blank := by
  rw [clean_eq]
  rcases List.eq_nil_or_concat t with rfl | ⟨a, x, rfl⟩
  · rfl
  · have hx := h x (by simp)
    have hp : (!isEnd x) = true := by
      cases hpc : (!isEnd x) with
      | true => rfl
      | false => rw [end_blank x hpc] at hx; cases hx
    have e : (a.concat x).filter (fun c => !isEnd c) = a.filter (fun c => !isEnd c) ++ x :: [] := by
      rw [List.concat_eq_append, List.filter_append, List.filter_cons, if_pos hp]
      rfl
    rw [e]
    show rtrim ((_ ++ x :: []).dropWhile blank) = _
    rw [ltrim_app _ _ _ hx, rtrim_app _ _ _ hx]
    rfl
theorem clean_tail {t q f : L} (h : ∀ x, t.getLast? = some x → blank x = false) : clean (t ++ 63 :: 120 :: (q ++ 35 :: 120 :: f)) = clean t ++ 63 :: ((120 :: q.filter fun c => !isEnd c) ++ 35 :: (120 :: rtrim (f.filter fun c => !isEnd c))) := by
  rw [clean_eq (t ++ _), clean_end h]
  have e : (t ++ 63 :: 120 :: (q ++ 35 :: 120 :: f)).filter (fun c => !isEnd c) = (t.filter fun c => !isEnd c) ++ 63 :: ((120 :: q.filter fun c => !isEnd c) ++ 35 :: 120 :: (f.filter fun c => !isEnd c)) := by
    simp [isEnd]
  rw [e]
  show rtrim (List.dropWhile blank _) = _
  rw [ltrim_app _ _ _ (by decide)]
  generalize (t.filter fun c => !isEnd c).dropWhile blank = C
  generalize (q.filter fun c => !isEnd c) = Q
  generalize (f.filter fun c => !isEnd c) = F
  have e2 : C ++ 63 :: ((120 :: Q) ++ 35 :: 120 :: F) = (C ++ 63 :: ((120 :: Q) ++ [35])) ++ 120 :: F := by simp
  rw [e2, rtrim_app _ _ _ (by decide)]
  simp
theorem clean_sub {t : L} {c : UInt8} (h : c ∈ clean t) : c ∈ t := by
  unfold clean trim at h
  have h1 := (List.mem_filter.1 h).1
  have h2 := List.mem_reverse.1 h1
  have h3 := (List.dropWhile_sublist _).subset h2
  exact (List.dropWhile_sublist _).subset (List.mem_reverse.1 h3)
theorem tail_back {t q f : L} (ht : ∀ c ∈ t, c ≠ 63 ∧ c ≠ 35) (hq : ∀ c ∈ q, c ≠ 35) : tail (t ++ 63 :: (q ++ 35 :: f)) = (t, q, f, true, true) := by
  have e : t ++ 63 :: (q ++ 35 :: f) = (t ++ 63 :: q) ++ 35 :: f := by simp
  unfold tail
  rw [e, cut_hit 35 (t ++ 63 :: q) f (by
    intro x hx
    simp only [List.mem_append, List.mem_cons] at hx
    rcases hx with hx | rfl | hx
    · exact (ht x hx).2
    · decide
    · exact hq x hx)]
  dsimp only
  rw [cut_hit 63 t q (fun x hx => (ht x hx).1)]
theorem tail_none' {t : L} (ht : ∀ c ∈ t, c ≠ 63 ∧ c ≠ 35) : tail t = (t, [], [], false, false) := by
  unfold tail
  rw [cut_none 35 t (fun x hx => (ht x hx).2)]
  dsimp only
  rw [cut_none 63 t (fun x hx => (ht x hx).1)]
def withTail (Q F : L) (u : Url) : Url := { u with query := encode 2 Q, frag := encode 1 F, hasQuery := true, hasFrag := true }
def noTail (u : Url) : Url := { u with query := [], frag := [], hasQuery := false, hasFrag := false }
theorem split_has {c : UInt8} {s : L} (h : has s c = true) : ∃ a r, (∀ x ∈ a, x ≠ c) ∧ s = a ++ c :: r := by
  have hm : c ∈ s := by
    unfold has at h
    simpa using h
  clear h
  induction s with
  | nil => cases hm
  | cons x q ih =>
    by_cases hx : x = c
    · subst hx
      exact ⟨[], q, by simp, rfl⟩
    · obtain ⟨a, r, h1, h2⟩ := ih ((List.mem_cons.1 hm).resolve_left (fun e => hx e.symm))
      exact ⟨x :: a, r, fun y hy => by
        rcases List.mem_cons.1 hy with rfl | hy
        · exact hx
        · exact h1 y hy, by rw [h2]; rfl⟩
theorem parseT_tail (sch r Q F : L) : parseT sch (r, Q, F, true, true) = (parseT sch (r, [], [], false, false)).map (withTail Q F) ∧ ∀ u, parseT sch (r, [], [], false, false) = some u → noTail u = u := by
  unfold parseT
  split
  · exact ⟨rfl, fun u h => by simp only [Option.some.injEq] at h; subst h; rfl⟩
  · unfold parseWeb
    dsimp only
    cases unslash2 r with
    | none => exact ⟨rfl, fun u h => by cases h⟩
    | some t =>
      dsimp only
      generalize hostParse (doorName (doorOf (where_ t))) = oh
      generalize portOf sch (doorPort (doorOf (where_ t))) = op
      cases oh with
      | none => exact ⟨rfl, fun u h => by cases h⟩
      | some h0 =>
        cases op with
        | none => exact ⟨rfl, fun u h => by cases h⟩
        | some p0 => exact ⟨rfl, fun u h => by simp only [Option.some.injEq] at h; subst h; rfl⟩
theorem scheme_hit {a r : L} (ha : ∀ x ∈ a, x ≠ (58 : UInt8)) : scheme (a ++ 58 :: r) = if a.isEmpty || !alpha (a.headD 0) || a.any schOdd then ([], [], false) else (lower a, r, true) := by
  unfold scheme schBad
  rw [cut_hit 58 a r ha]
  rfl
theorem parseC_tail {C Q F : L} (hC : ∀ c ∈ C, c ≠ 63 ∧ c ≠ 35) (hQ : ∀ c ∈ Q, c ≠ 35) : parseC (C ++ 63 :: (Q ++ 35 :: F)) = (parseC C).map (withTail Q F) ∧ ∀ u, parseC C = some u → noTail u = u := by
  cases h58 : has C 58 with
  | true =>
    obtain ⟨a, r, ha, rfl⟩ := split_has h58
    have hr : ∀ c ∈ r, c ≠ 63 ∧ c ≠ 35 := fun c hc => hC c (by simp [hc])
    have e : (a ++ 58 :: r) ++ 63 :: (Q ++ 35 :: F) = a ++ 58 :: (r ++ 63 :: (Q ++ 35 :: F)) := by simp
    unfold parseC
    rw [e, scheme_hit ha, scheme_hit ha]
    split
    · exact ⟨rfl, fun u h => by cases h⟩
    · dsimp only
      rw [tail_back hr hQ, tail_none' hr]
      split
      · exact ⟨rfl, fun u h => by cases h⟩
      · exact parseT_tail _ _ _ _
  | false =>
    have hno : ∀ x ∈ C, x ≠ (58 : UInt8) := by
      intro x hx e
      subst e
      unfold has at h58
      simp at h58
      exact h58 hx
    have h1 : parseC C = none := by
      have : scheme C = ([], [], false) := by
        unfold scheme schBad
        rw [cut_none 58 C hno]
        rfl
      unfold parseC
      rw [this]
      rfl
    have h2 : parseC (C ++ 63 :: (Q ++ 35 :: F)) = none := by
      have : scheme (C ++ 63 :: (Q ++ 35 :: F)) = ([], [], false) := by
        cases h : has (C ++ 63 :: (Q ++ 35 :: F)) 58 with
        | false =>
          unfold scheme schBad cut
          rw [h]
          rfl
        | true =>
          obtain ⟨a, r, ha, e⟩ := split_has h
          rw [e, scheme_hit ha]
          have hm : (63 : UInt8) ∈ a := by
            have hlen : C.length < a.length := by
              refine Nat.lt_of_not_le fun hle => ?_
              have h58' : (C ++ 63 :: (Q ++ 35 :: F))[a.length]? = some 58 := by rw [e]; simp
              rcases Nat.lt_or_ge a.length C.length with hlt | hge
              · rw [List.getElem?_append_left hlt] at h58'
                exact hno 58 (List.mem_of_getElem? h58') rfl
              · have : a.length = C.length := by omega
                rw [this, List.getElem?_append_right (Nat.le_refl _)] at h58'
                simp at h58'
            have h63 : (a ++ 58 :: r)[C.length]? = some 63 := by rw [← e]; simp
            rw [List.getElem?_append_left hlen] at h63
            exact List.mem_of_getElem? h63
          have hany : a.any schOdd = true := List.any_eq_true.2 ⟨63, hm, by decide⟩
          rw [hany]
          simp
      unfold parseC
      rw [this]
      rfl
    rw [h1, h2]
    exact ⟨rfl, fun u h => by cases h⟩
theorem tail_law {t q f : L} (ht : ∀ c ∈ t, c ≠ 63 ∧ c ≠ 35) (hq : ∀ c ∈ q, c ≠ 35) (h : ∀ x, t.getLast? = some x → blank x = false) (z : Url) (hz : noTail z = z) :
    (urlParse (t ++ 63 :: 120 :: (q ++ 35 :: 120 :: f))).isSome = (urlParse t).isSome ∧ noTail ((urlParse (t ++ 63 :: 120 :: (q ++ 35 :: 120 :: f))).getD z) = (urlParse t).getD z := by
  unfold urlParse
  rw [clean_tail h]
  have := parseC_tail (C := clean t) (Q := 120 :: q.filter fun c => !isEnd c) (F := 120 :: rtrim (f.filter fun c => !isEnd c)) (fun c hc => ht c (clean_sub hc)) (by
    intro c hc
    rcases List.mem_cons.1 hc with rfl | hc
    · decide
    · exact hq c (List.mem_filter.1 hc).1)
  rw [this.1]
  cases hp : parseC (clean t) with
  | none => exact ⟨rfl, hz⟩
  | some u =>
    refine ⟨rfl, ?_⟩
    show noTail (withTail _ _ u) = u
    have h2 := this.2 u hp
    conv => rhs; rw [← h2]
    rfl
theorem has_mem {c : UInt8} {s : L} (h : has s c = true) : c ∈ s := by
  unfold has at h
  simpa using h
theorem cut_flag (c : UInt8) (s : L) : (cut c s).2.2 = has s c := by
  unfold cut
  cases h : has s c <;> simp
theorem tail_flags (s : L) : ((tail s).2.2.2.1 = true → (tail s).1 ≠ s) ∧ ((tail s).2.2.2.2 = true → (tail s).1 ≠ s) := by
  have hno := tail_no s
  constructor
  · intro h e
    have h1 : (cut 63 (cut 35 s).1).2.2 = true := h
    rw [cut_flag] at h1
    have h2 := (cut_fst_no 35 s 63 (has_mem h1)).2
    rw [e] at hno
    exact (hno 63 h2).1 rfl
  · intro h e
    have h1 : (cut 35 s).2.2 = true := h
    rw [cut_flag] at h1
    rw [e] at hno
    exact (hno 35 (has_mem h1)).2 rfl
end PM
/-! Plain: user and password. -/
namespace PM
theorem clean_ok {s : L} (h : ∀ c ∈ s, blank c = false) : clean s = s := by
  have ht : trim s = s := by
    unfold trim
    rw [dropWhile_no h, dropWhile_no (by intro c hc; exact h c (by simpa using hc)), List.reverse_reverse]
  unfold clean
  rw [ht, List.filter_eq_self]
  intro c hc
  cases he : (!isEnd c) with
  | true => rfl
  | false => have := end_blank c he; rw [h c hc] at this; cases this
def aorg : L := [97, 46, 111, 114, 103]
theorem user_gen {ui : L} (hui : ∀ c ∈ ui, blank c = false ∧ c ≠ 47 ∧ c ≠ 63 ∧ c ≠ 35) : urlParse ([104, 116, 116, 112, 115, 58, 47, 47] ++ (ui ++ [64, 97, 46, 111, 114, 103, 47, 120])) = some ⟨https, encode 4 (cut 58 ui).1, encode 4 (cut 58 ui).2.1, ⟨1, aorg, 0, noSix⟩, -1, [[120]], [], [], [], false, false⟩ := by
  have e : [104, 116, 116, 112, 115, 58, 47, 47] ++ (ui ++ [64, 97, 46, 111, 114, 103, 47, 120]) = https ++ 58 :: (47 :: 47 :: ((ui ++ 64 :: aorg) ++ [47, 120])) := by simp [https, aorg]
  rw [e]
  have hall : ∀ c ∈ https ++ 58 :: (47 :: 47 :: ((ui ++ 64 :: aorg) ++ [47, 120])), blank c = false := by
    intro c hc
    have h1 : ∀ c ∈ https, blank c = false := by decide
    have h2 : ∀ c ∈ aorg, blank c = false := by decide
    have h3 : ∀ c ∈ ([47, 120] : L), blank c = false := by decide
    rcases List.mem_append.1 hc with hc | hc
    · exact h1 c hc
    · rcases List.mem_cons.1 hc with rfl | hc
      · decide
      · rcases List.mem_cons.1 hc with rfl | hc
        · decide
        · rcases List.mem_cons.1 hc with rfl | hc
          · decide
          · rcases List.mem_append.1 hc with hc | hc
            · rcases List.mem_append.1 hc with hc | hc
              · exact (hui c hc).1
              · rcases List.mem_cons.1 hc with rfl | hc
                · decide
                · exact h2 c hc
            · exact h3 c hc
  have hno : ∀ c ∈ 47 :: 47 :: ((ui ++ 64 :: aorg) ++ [47, 120]), c ≠ 63 ∧ c ≠ 35 := by
    intro c hc
    have h2 : ∀ c ∈ aorg, c ≠ 63 ∧ c ≠ 35 := by decide
    have h3 : ∀ c ∈ ([47, 120] : L), c ≠ 63 ∧ c ≠ 35 := by decide
    rcases List.mem_cons.1 hc with rfl | hc
    · decide
    · rcases List.mem_cons.1 hc with rfl | hc
      · decide
      · rcases List.mem_append.1 hc with hc | hc
        · rcases List.mem_append.1 hc with hc | hc
          · exact (hui c hc).2.2
          · rcases List.mem_cons.1 hc with rfl | hc
            · decide
            · exact h2 c hc
        · exact h3 c hc
  have h47 : ∀ c ∈ ui ++ 64 :: aorg, c ≠ 47 := by
    intro c hc
    have h2 : ∀ c ∈ aorg, c ≠ 47 := by decide
    rcases List.mem_append.1 hc with hc | hc
    · exact (hui c hc).2.1
    · rcases List.mem_cons.1 hc with rfl | hc
      · decide
      · exact h2 c hc
  obtain ⟨w1, w2⟩ := where_of h47 (p := [47, 120]) rfl
  obtain ⟨a1, a2, a3⟩ := at_hit (a := ui) (b := aorg) (by decide)
  unfold urlParse
  rw [clean_ok hall]
  unfold parseC
  rw [scheme_of (.inr (.inl rfl))]
  dsimp only
  rw [tail_none' hno]
  have ho : opq https = false := by decide
  have hw : decide (0 < web https) = true := by decide
  rw [ho, hw]
  simp only [Bool.not_true, Bool.or_false, Bool.or_self, Bool.false_eq_true, if_false]
  unfold parseT
  rw [ho]
  simp only [Bool.false_eq_true, if_false]
  unfold parseWeb
  simp only [unslash2]
  rw [w1, w2]
  unfold userOf passOf doorOf
  rw [a1, a2, a3]
  have d1 : hostParse (doorName aorg) = some ⟨1, aorg, 0, noSix⟩ := by kernel_rfl
  have d2 : portOf https (doorPort aorg) = some (-1) := by kernel_rfl
  have d3 : pathParse [47, 120] = [[120]] := by kernel_rfl
  simp only [if_true]
  rw [d1, d2, d3]
  rfl
end PM
/-! Plain: an address put together of a host, a path, a query. -/
namespace PM
theorem hostShow_no {h : Host} {x : UInt8} (h1 : ¬ Plainb x) (h2 : x ≠ 58) (h3 : x ≠ 91) (h4 : x ≠ 93) : ∀ c ∈ hostShow h, c ≠ x := by
  intro c hc e
  subst e
  rcases hostShow_all h c hc with g | g | g | g
  · exact h1 g
  · exact h2 g
  · exact h3 g
  · exact h4 g
theorem parts_parse {h : Host} {s q : L} (hm : hostMay h = true) (hl : h.six.length = 8) (hs : ∀ c ∈ s, blank c = false ∧ c ≠ 63 ∧ c ≠ 35) (hq : ∀ c ∈ q, blank c = false ∧ c ≠ 35) :
    urlParse ([104, 116, 116, 112, 58, 47, 47] ++ (hostShow h ++ (47 :: s ++ 63 :: q))) = some ⟨[104, 116, 116, 112], [], [], h, -1, pathParse (47 :: s), [], encode 2 q, [], true, false⟩ := by
  have e : [104, 116, 116, 112, 58, 47, 47] ++ (hostShow h ++ (47 :: s ++ 63 :: q)) = http ++ 58 :: ((47 :: 47 :: (hostShow h ++ 47 :: s)) ++ 63 :: q) := by simp [http]
  rw [e]
  have hfb : ∀ c ∈ hostShow h, blank c = false := fun c hc => by
    have := (hostShow_fine h c hc).1
    unfold blank
    exact decide_eq_false (by omega)
  have hall : ∀ c ∈ http ++ 58 :: ((47 :: 47 :: (hostShow h ++ 47 :: s)) ++ 63 :: q), blank c = false := by
    intro c hc
    have h1 : ∀ c ∈ http, blank c = false := by decide
    rcases List.mem_append.1 hc with hc | hc
    · exact h1 c hc
    · rcases List.mem_cons.1 hc with rfl | hc
      · decide
      · rcases List.mem_append.1 hc with hc | hc
        · rcases List.mem_cons.1 hc with rfl | hc
          · decide
          · rcases List.mem_cons.1 hc with rfl | hc
            · decide
            · rcases List.mem_append.1 hc with hc | hc
              · exact hfb c hc
              · rcases List.mem_cons.1 hc with rfl | hc
                · decide
                · exact (hs c hc).1
        · rcases List.mem_cons.1 hc with rfl | hc
          · decide
          · exact (hq c hc).1
  have hno : ∀ c ∈ 47 :: 47 :: (hostShow h ++ 47 :: s), c ≠ 63 ∧ c ≠ 35 := by
    intro c hc
    rcases List.mem_cons.1 hc with rfl | hc
    · decide
    · rcases List.mem_cons.1 hc with rfl | hc
      · decide
      · rcases List.mem_append.1 hc with hc | hc
        · exact ⟨hostShow_no (notP _ (by decide) (by decide) (by decide)) (by decide) (by decide) (by decide) c hc, hostShow_no (notP _ (by decide) (by decide) (by decide)) (by decide) (by decide) (by decide) c hc⟩
        · rcases List.mem_cons.1 hc with rfl | hc
          · decide
          · exact (hs c hc).2
  have htl : tail ((47 :: 47 :: (hostShow h ++ 47 :: s)) ++ 63 :: q) = (47 :: 47 :: (hostShow h ++ 47 :: s), q, [], true, false) := by
    unfold tail
    rw [cut_none 35 _ (by
      intro x hx
      rcases List.mem_append.1 hx with hx | hx
      · exact (hno x hx).2
      · rcases List.mem_cons.1 hx with rfl | hx
        · decide
        · exact (hq x hx).2)]
    dsimp only
    rw [cut_hit 63 _ q (fun x hx => (hno x hx).1)]
  have h47 : ∀ c ∈ hostShow h, c ≠ 47 := hostShow_no (notP _ (by decide) (by decide) (by decide)) (by decide) (by decide) (by decide)
  have h64 : ∀ c ∈ hostShow h, c ≠ 64 := hostShow_no (notP _ (by decide) (by decide) (by decide)) (by decide) (by decide) (by decide)
  obtain ⟨w1, w2⟩ := where_of h47 (p := 47 :: s) rfl
  have hat : hasAt (hostShow h) = false := at_none h64
  obtain ⟨d1, d2⟩ := (door_parts hm).1
  unfold urlParse
  rw [clean_ok hall]
  unfold parseC
  rw [scheme_of (.inl rfl)]
  dsimp only
  rw [htl]
  have ho : opq http = false := by decide
  have hw : decide (0 < web http) = true := by decide
  rw [ho, hw]
  simp only [Bool.not_true, Bool.or_false, Bool.or_self, Bool.false_eq_true, if_false]
  unfold parseT
  rw [ho]
  simp only [Bool.false_eq_true, if_false]
  unfold parseWeb
  simp only [unslash2]
  rw [w1, w2]
  unfold userOf passOf doorOf
  rw [hat]
  simp only [Bool.false_eq_true, if_false]
  rw [d1, d2, hostParse_show _ hm hl]
  rfl
end PM
/-! The walk of UrlParts. -/
namespace Go.Proofs.YtgegnnojobmdcaaGreatDoor
open Go.RowKit
def prU (kk : Int) (nn : List UInt8) (mm s0 s1 s2 s3 s4 s5 s6 s7 : Int) (a : Option Addr) (pn pc : Nat) (xs : List (List UInt8)) (qu : List UInt8) : UV := ⟨[104, 116, 116, 112], [], [], kk, nn, mm, s0, s1, s2, s3, s4, s5, s6, s7, -1, a, pn, pc, xs, [], qu, [], true, false⟩
theorem pr_p (kk : Int) (nn : List UInt8) (mm s0 s1 s2 s3 s4 s5 s6 s7 : Int) (hm : PM.hostMay (⟨kk, nn, mm, [s0, s1, s2, s3, s4, s5, s6, s7]⟩ : PM.Host) = true) (s q : List UInt8) (hn : nn.length ≤ 100) (hsl : s.length ≤ 100) (hql : q.length ≤ 100) (hs : ∀ c ∈ s, PM.blank c = false ∧ c ≠ 63 ∧ c ≠ 35) (hq : ∀ c ∈ q, PM.blank c = false ∧ c ≠ 35) (W : World) (hg : Gl W) (hT : Lib.Utf8Tabs 1 2 W) :
    Calls Tryz.prog 14 #[.string (⟨#[104, 116, 116, 112, 58, 47, 47]⟩ ++ mkS (PM.hostShow (⟨kk, nn, mm, [s0, s1, s2, s3, s4, s5, s6, s7]⟩ : PM.Host)) ++ ⟨#[47]⟩ ++ mkS s ++ ⟨#[63]⟩ ++ mkS q)] W fun e w' => (∃ a pn pc, e = .returned (.tuple #[.agg (prU kk nn mm s0 s1 s2 s3 s4 s5 s6 s7 a pn pc (PM.pathParse (47 :: s)) (PM.encode 2 q)).cells, .bool true]) ∧ RdS w' a pn (PM.pathParse (47 :: s))) ∧ Below W.heap.size W w' := by
  have hcat : ⟨#[104, 116, 116, 112, 58, 47, 47]⟩ ++ mkS (PM.hostShow (⟨kk, nn, mm, [s0, s1, s2, s3, s4, s5, s6, s7]⟩ : PM.Host)) ++ ⟨#[47]⟩ ++ mkS s ++ ⟨#[63]⟩ ++ mkS q = mkS ([104, 116, 116, 112, 58, 47, 47] ++ (PM.hostShow (⟨kk, nn, mm, [s0, s1, s2, s3, s4, s5, s6, s7]⟩ : PM.Host) ++ (47 :: s ++ 63 :: q))) := by
    apply ByteArray.ext
    simp [mkS]
  rw [hcat]
  have hhl : (PM.hostShow (⟨kk, nn, mm, [s0, s1, s2, s3, s4, s5, s6, s7]⟩ : PM.Host)).length ≤ nn.length + 3100 := hostShow_len2 _ rfl
  have hp := PM.parts_parse hm rfl hs hq
  refine (UrlParse_c _ (by simp only [List.length_append, List.length_cons, List.length_nil]; omega) W hg hT).mono ?_
  rintro e w' ⟨⟨x, g1, g2, g3⟩, hb⟩
  rw [hp] at g1 g2
  refine ⟨?_, hb⟩
  obtain ⟨sc, us, pa, k, n, m, z0, z1, z2, z3, z4, z5, z6, z7, port, a, pn, pc, xs, op, qu, fr, hq', hf'⟩ := x
  have h2' : (⟨sc, us, pa, ⟨k, n, m, [z0, z1, z2, z3, z4, z5, z6, z7]⟩, port, xs, op, qu, fr, hq', hf'⟩ : PM.Url) = ⟨[104, 116, 116, 112], [], [], (⟨kk, nn, mm, [s0, s1, s2, s3, s4, s5, s6, s7]⟩ : PM.Host), -1, PM.pathParse (47 :: s), [], PM.encode 2 q, [], true, false⟩ := g2
  simp only [PM.Url.mk.injEq, PM.Host.mk.injEq, List.cons.injEq, and_true] at h2'
  obtain ⟨rfl, rfl, rfl, ⟨rfl, rfl, rfl, rfl, rfl, rfl, rfl, rfl, rfl, rfl, rfl⟩, rfl, rfl, rfl, rfl, rfl, rfl, rfl⟩ := h2'
  have hpl := pathParse_len (47 :: s)
  have hok := g3 (show (PM.pathParse (47 :: s)).length ≤ 10000 from by have := hpl.1; simp at this; omega)
  exact ⟨a, pn, pc, g1, hok.rd⟩
theorem nb (c : UInt8) (h : ¬ ((c.toNat : Int) ≤ 32)) : PM.blank c = false := by
  unfold PM.blank
  exact decide_eq_false (by omega)
theorem ne8 (c : UInt8) (n : Nat) (hn : n < 256) (h : ((c.toNat : Int) == (n : Int)) = false) : c ≠ UInt8.ofNat n := by
  refine (PM.u8_ne c n hn).1 fun e => ?_
  rw [e] at h
  simp at h
def okS (c : UInt8) : Prop := PM.blank c = false ∧ c ≠ 63 ∧ c ≠ 35
def okQ (c : UInt8) : Prop := PM.blank c = false ∧ c ≠ 35
theorem all_take {p : UInt8 → Prop} {d : List UInt8} {k : Nat} (hlt : k < d.length) (h : ∀ c ∈ d.take k, p c) (hc : p d[k]) : ∀ c ∈ d.take (k + 1), p c := by
  intro x hx
  rw [List.take_succ_eq_append_getElem hlt] at hx
  rcases List.mem_append.1 hx with hx | hx
  · exact h x hx
  · simp at hx
    rw [hx]
    exact hc
def PAt (W : World) (b : Nat) (kk : Int) (nn : List UInt8) (mm s0 s1 s2 s3 s4 s5 s6 s7 : Int) (a : Option Addr) (pn pc : Nat) (eq : List UInt8) : Prop :=
  W.cell? ⟨b, 0, none⟩ = some (.string (mkS [104, 116, 116, 112])) ∧ W.cell? ⟨b, 1, none⟩ = some (.string (mkS [])) ∧ W.cell? ⟨b, 3, none⟩ = some (.int .i64 kk) ∧ W.cell? ⟨b, 4, none⟩ = some (.string (mkS nn)) ∧ W.cell? ⟨b, 5, none⟩ = some (.int .i64 mm) ∧ W.cell? ⟨b, 6, none⟩ = some (.int .i64 s0) ∧ W.cell? ⟨b, 7, none⟩ = some (.int .i64 s1) ∧ W.cell? ⟨b, 8, none⟩ = some (.int .i64 s2) ∧ W.cell? ⟨b, 9, none⟩ = some (.int .i64 s3) ∧ W.cell? ⟨b, 10, none⟩ = some (.int .i64 s4) ∧ W.cell? ⟨b, 11, none⟩ = some (.int .i64 s5) ∧ W.cell? ⟨b, 12, none⟩ = some (.int .i64 s6) ∧ W.cell? ⟨b, 13, none⟩ = some (.int .i64 s7) ∧ W.cell? ⟨b, 14, none⟩ = some (.int .i64 (-1)) ∧ W.cell? ⟨b, 15, none⟩ = some (.slice a pn pc) ∧ W.cell? ⟨b, 17, none⟩ = some (.string (mkS eq)) ∧ W.cell? ⟨b, 19, none⟩ = some (.bool true) ∧ W.cell? ⟨b, 20, none⟩ = some (.bool false)
theorem PAt.of {W : World} {b : Nat} {kk : Int} {nn : List UInt8} {mm s0 s1 s2 s3 s4 s5 s6 s7 : Int} {a : Option Addr} {pn pc : Nat} {P : List (List UInt8)} {eq : List UInt8} {T : TypeId} (h : W.heap[b]? = some (.cells (prU kk nn mm s0 s1 s2 s3 s4 s5 s6 s7 a pn pc P eq).cells T (0, 0))) : PAt W b kk nn mm s0 s1 s2 s3 s4 s5 s6 s7 a pn pc eq := by
  unfold prU UV.cells at h
  refine ⟨?_, ?_, ?_, ?_, ?_, ?_, ?_, ?_, ?_, ?_, ?_, ?_, ?_, ?_, ?_, ?_, ?_, ?_⟩ <;> (rw [Lib.cell_of_heap h]; rfl)
theorem PAt.below {w W : World} {b : Nat} {kk : Int} {nn : List UInt8} {mm s0 s1 s2 s3 s4 s5 s6 s7 : Int} {a : Option Addr} {pn pc : Nat} {eq : List UInt8} (h : PAt w b kk nn mm s0 s1 s2 s3 s4 s5 s6 s7 a pn pc eq) (hb : Below w.heap.size w W) : PAt W b kk nn mm s0 s1 s2 s3 s4 s5 s6 s7 a pn pc eq := by
  obtain ⟨c0, c1, c2, c3, c4, c5, c6, c7, c8, c9, c10, c11, c12, c13, c14, c15, c16, c17⟩ := h
  exact ⟨cell_b hb c0, cell_b hb c1, cell_b hb c2, cell_b hb c3, cell_b hb c4, cell_b hb c5, cell_b hb c6, cell_b hb c7, cell_b hb c8, cell_b hb c9, cell_b hb c10, cell_b hb c11, cell_b hb c12, cell_b hb c13, cell_b hb c14, cell_b hb c15, cell_b hb c16, cell_b hb c17⟩
set_option maxRecDepth 100000 in
set_option maxHeartbeats 16000000 in
theorem UrlPartsL_c (kk : Int) (nn : List UInt8) (mm s0 s1 s2 s3 s4 s5 s6 s7 : Int) (s q : List UInt8) (w : World) (hg : Gl w) (hT : Lib.Utf8Tabs 1 2 w) : Calls Tryz.prog 10 #[.agg #[.int .i64 kk, .string (mkS nn), .int .i64 mm, .int .i64 s0, .int .i64 s1, .int .i64 s2, .int .i64 s3, .int .i64 s4, .int .i64 s5, .int .i64 s6, .int .i64 s7], .string (mkS s), .string (mkS q)] w fun e w' => e = .returned (.bool true) ∧ Below w.heap.size w w' := by
  have HH : Hid ((w.alloc (.cells #[.int .i64 kk, .string (mkS nn), .int .i64 mm, .int .i64 s0, .int .i64 s1, .int .i64 s2, .int .i64 s3, .int .i64 s4, .int .i64 s5, .int .i64 s6, .int .i64 s7] 24)).heap[w.heap.size]? = some (.cells #[.int .i64 kk, .string (mkS nn), .int .i64 mm, .int .i64 s0, .int .i64 s1, .int .i64 s2, .int .i64 s3, .int .i64 s4, .int .i64 s5, .int .i64 s6, .int .i64 s7] 24 (0, 0))) := Lib.hid (Go.heap_alloc_new _ _)
  have HB : Hid (Below w.heap.size w (w.alloc (.cells #[.int .i64 kk, .string (mkS nn), .int .i64 mm, .int .i64 s0, .int .i64 s1, .int .i64 s2, .int .i64 s3, .int .i64 s4, .int .i64 s5, .int .i64 s6, .int .i64 s7] 24))) := Lib.hid (b_alloc (Below.refl _ _) _)
  have HG := Lib.hid hg
  have HTB := Lib.hid hT
  clear hg hT
  go_enter Tryz.func10, Tryz.ntmps10
  go_upto_region 1 with fail
  generalize w.alloc (.cells #[.int .i64 kk, .string (mkS nn), .int .i64 mm, .int .i64 s0, .int .i64 s1, .int .i64 s2, .int .i64 s3, .int .i64 s4, .int .i64 s5, .int .i64 s6, .int .i64 s7] 24) = V0 at HH HB ⊢
  go_wp2_with fail
  refine (awake9_c _ (HG.out.below HB.out) (tabs_below HTB.out HB.out)).mono ?_
  rintro e V1 ⟨rfl, hb⟩
  replace HB := Lib.hid (b_then HB.out hb)
  replace HH := Lib.hid (obj_b hb HH.out)
  clear hb
  have c1 : V1.cell? ⟨w.heap.size, 1, none⟩ = some (.string (mkS nn)) := by rw [Lib.cell_of_heap HH.out]; rfl
  by_cases hl : 100 < nn.length
  · have hl2 : (100 : Int) < (nn.length : Int) := by omega
    go_wp2
    go_ret
    exact ⟨rfl, HB.out⟩
  have hl2 : decide ((100 : Int) < (nn.length : Int)) = false := decide_eq_false (by omega)
  by_cases hl3 : 100 < s.length
  · have hl4 : (100 : Int) < (s.length : Int) := by omega
    go_wp2
    go_ret
    exact ⟨rfl, HB.out⟩
  have hl4 : decide ((100 : Int) < (s.length : Int)) = false := decide_eq_false (by omega)
  by_cases hl5 : 100 < q.length
  · have hl6 : (100 : Int) < (q.length : Int) := by omega
    go_wp2
    go_ret
    exact ⟨rfl, HB.out⟩
  have hl6 : decide ((100 : Int) < (q.length : Int)) = false := decide_eq_false (by omega)
  go_wp2_with (refine wpList_load_g 24 _ rfl (by kernel_rfl) w.heap.size rfl HH.out Tryz.underlying24 rfl (by kernel_rfl) ?_)
  refine (hostMay_c kk nn mm s0 s1 s2 s3 s4 s5 s6 s7 (by omega) _ (HG.out.below HB.out)).mono ?_
  cases hm : PM.hostMay (⟨kk, nn, mm, [s0, s1, s2, s3, s4, s5, s6, s7]⟩ : PM.Host)
  · rintro e V ⟨rfl, hb⟩
    replace HB := Lib.hid (b_then HB.out hb)
    go_wp2
    go_ret
    exact ⟨rfl, HB.out⟩
  rintro e V2 ⟨rfl, hb⟩
  have HM := Lib.hid hm
  clear hm c1
  replace HB := Lib.hid (b_then HB.out hb)
  replace HH := Lib.hid (obj_b hb HH.out)
  clear hb
  go_wp2
  go_loopw [6, 8] (fun r i wr => wr = V2 ∧ r = .bool false ∧ ∃ k : Nat, k ≤ s.length ∧ i = .int .i64 k ∧ Hid (∀ c ∈ s.take k, okS c)) (fun _ i _ => s.length - (intOf i).toNat)
  case atStart => exact ⟨rfl, rfl, 0, Nat.zero_le _, rfl, Lib.hid (by intro c hc; simp at hc)⟩
  case round =>
    obtain ⟨hwr, rfl, k, hk, rfl, HQ⟩ := hrel
    have hwr' := hwr.symm
    subst hwr'
    clear hwr
    by_cases hlt : k < s.length
    · by_cases t0 : ((s[k]'hlt).toNat : Int) ≤ 32
      · go_wp2
        go_ret
        exact ⟨rfl, HB.out⟩
      cases t63 : (((s[k]'hlt).toNat : Int) == 63)
      rotate_left
      · go_wp2
        go_ret
        exact ⟨rfl, HB.out⟩
      cases t35 : (((s[k]'hlt).toNat : Int) == 35)
      rotate_left
      · go_wp2
        go_ret
        exact ⟨rfl, HB.out⟩
      have HQ2 := Lib.hid (all_take hlt HQ.out (show okS s[k] from ⟨nb _ t0, ne8 _ 63 (by decide) t63, ne8 _ 35 (by decide) t35⟩))
      go_wp2
      go_roundw
      case rel => exact ⟨trivial, rfl, k + 1, by omega, congrArg (Value.int .i64) (by omega), HQ2⟩
      case measure => simp [intOf]; omega
    · obtain rfl : k = s.length := by omega
      rw [List.take_length] at HQ
      have HQS := Lib.hid HQ.out
      clear HQ hk hlt
      go_wp2
      go_loopw [6, 9] (fun r i wr => wr = V2 ∧ r = .bool false ∧ ∃ k : Nat, k ≤ q.length ∧ i = .int .i64 k ∧ Hid (∀ c ∈ q.take k, okQ c)) (fun _ i _ => q.length - (intOf i).toNat)
      case atStart => exact ⟨rfl, rfl, 0, Nat.zero_le _, rfl, Lib.hid (by intro c hc; simp at hc)⟩
      case round =>
        obtain ⟨hwr, rfl, k, hk, rfl, HQ⟩ := hrel
        have hwr' := hwr.symm
        subst hwr'
        clear hwr
        by_cases hlt : k < q.length
        · by_cases t0 : ((q[k]'hlt).toNat : Int) ≤ 32
          · go_wp2
            go_ret
            exact ⟨rfl, HB.out⟩
          cases t35 : (((q[k]'hlt).toNat : Int) == 35)
          rotate_left
          · go_wp2
            go_ret
            exact ⟨rfl, HB.out⟩
          have HQ2 := Lib.hid (all_take hlt HQ.out (show okQ q[k] from ⟨nb _ t0, ne8 _ 35 (by decide) t35⟩))
          go_wp2
          go_roundw
          case rel => exact ⟨trivial, rfl, k + 1, by omega, congrArg (Value.int .i64) (by omega), HQ2⟩
          case measure => simp [intOf]; omega
        · obtain rfl : k = q.length := by omega
          rw [List.take_length] at HQ
          have HQQ := Lib.hid HQ.out
          clear HQ hk hlt
          have hhl : (PM.hostShow (⟨kk, nn, mm, [s0, s1, s2, s3, s4, s5, s6, s7]⟩ : PM.Host)).length ≤ nn.length + 3100 := hostShow_len2 _ rfl
          have hP := fun W hg hT => pr_p kk nn mm s0 s1 s2 s3 s4 s5 s6 s7 HM.out s q (by omega) (by omega) (by omega) HQS.out HQQ.out W hg hT
          have hHS := fun W hg => hostShow_c kk nn mm s0 s1 s2 s3 s4 s5 s6 s7 (by omega) W hg
          obtain ⟨hst, hhs⟩ : ∃ x, PM.hostShow (⟨kk, nn, mm, [s0, s1, s2, s3, s4, s5, s6, s7]⟩ : PM.Host) = x := ⟨_, rfl⟩
          rw [hhs] at hP hHS hhl
          have HHL := Lib.hid (show hst.length ≤ 3200 by omega)
          have HP := Lib.hid hP
          have HHS := Lib.hid hHS
          clear hP hHS hhl hhs
          have hA1 : ¬ 9223372036854775807 < 7 + hst.length := by have := HHL.out; omega
          have hA2 : ¬ 9223372036854775807 < 7 + hst.length + 1 := by have := HHL.out; omega
          have hA3 : ¬ 9223372036854775807 < 7 + hst.length + 1 + s.length := by have := HHL.out; omega
          have hA4 : ¬ 9223372036854775807 < 7 + hst.length + 1 + s.length + 1 := by have := HHL.out; omega
          have hA5 : ¬ 9223372036854775807 < 7 + hst.length + 1 + s.length + 1 + q.length := by have := HHL.out; omega
          go_wp2_with (refine wpList_load_g 24 _ rfl (by kernel_rfl) w.heap.size rfl HH.out Tryz.underlying24 rfl (by kernel_rfl) ?_)
          refine (HHS.out _ (HG.out.below HB.out)).mono ?_
          rintro e V3 ⟨rfl, hb⟩
          replace HB := Lib.hid (b_then HB.out hb)
          replace HH := Lib.hid (obj_b hb HH.out)
          clear hb
          go_wp2_with fail
          refine (HP.out _ (HG.out.below HB.out) (tabs_below HTB.out HB.out)).mono ?_
          rintro e V4 ⟨⟨a, pn, pc, rfl, hrd⟩, hb⟩
          clear hA1 hA2 hA3 hA4 hA5
          replace hrd := Lib.hid hrd
          replace HB := Lib.hid (b_then HB.out hb)
          replace HH := Lib.hid (obj_b hb HH.out)
          clear hb
          obtain ⟨P, hPd⟩ : ∃ x, PM.pathParse (47 :: s) = x := ⟨_, rfl⟩
          obtain ⟨eq, heqd⟩ : ∃ x, PM.encode 2 q = x := ⟨_, rfl⟩
          rw [hPd] at hrd ⊢
          rw [heqd] at ⊢
          obtain ⟨u, hu⟩ : ∃ u, u = prU kk nn mm s0 s1 s2 s3 s4 s5 s6 s7 a pn pc P eq := ⟨_, rfl⟩
          rw [← hu]
          have HUE := Lib.hid hu
          have HPD := Lib.hid hPd
          have HED := Lib.hid heqd
          clear hu hPd heqd
          have HN := Lib.hid (Go.heap_alloc_new V4 (.cells zurl 27))
          go_upto_region 15 with (refine wpList_store_row rfl 27 _ _ rfl V4.heap.size u.cells rfl rfl 27 _ HN.out (by kernel_rfl) rfl (agg_one u) ?_)
          obtain ⟨V5, hV⟩ : ∃ V5, V5 = (V4.alloc (.cells #[.string ⟨#[]⟩, .string ⟨#[]⟩, .string ⟨#[]⟩, .int .i64 0, .string ⟨#[]⟩, .int .i64 0, .int .i64 0, .int .i64 0, .int .i64 0, .int .i64 0, .int .i64 0, .int .i64 0, .int .i64 0, .int .i64 0, .int .i64 0, .slice none 0 0, .string ⟨#[]⟩, .string ⟨#[]⟩, .string ⟨#[]⟩, .bool false, .bool false] 27)).setRow V4.heap.size u.cells := ⟨_, rfl⟩
          have hN : V5.heap[V4.heap.size]? = some (.cells u.cells 27 (0, 0)) := by rw [hV]; exact heap_setRow HN.out _
          have hb : Below V4.heap.size V4 V5 := by rw [hV]; exact below_setRow (b_alloc (Below.refl _ _) _) (Nat.le_refl _) _
          rw [← hV]
          clear hV HN
          have HU := Lib.hid hN
          clear hN
          replace HB := Lib.hid (b_then HB.out hb)
          replace HH := Lib.hid (obj_b hb HH.out)
          replace hrd := Lib.hid (hrd.out.below hb)
          clear hb
          generalize V4.heap.size = bu at HU ⊢
          have hU2 := HU.out
          rw [HUE.out] at hU2
          have hS1 := PAt.of hU2
          have hS2 := HH.out
          have hS3 := hrd.out
          have hS4 := HB.out
          have hSn : (fun W' => PAt W' bu kk nn mm s0 s1 s2 s3 s4 s5 s6 s7 a pn pc eq ∧ W'.heap[w.heap.size]? = some (.cells #[.int .i64 kk, .string (mkS nn), .int .i64 mm, .int .i64 s0, .int .i64 s1, .int .i64 s2, .int .i64 s3, .int .i64 s4, .int .i64 s5, .int .i64 s6, .int .i64 s7] 24 (0, 0)) ∧ RdS W' a pn P ∧ Below w.heap.size w W') V5.drew := ⟨hS1.below (b_drew (Below.refl _ _)), hS2, hS3.below (b_drew (Below.refl _ _)), b_drew hS4⟩
          have heq : ∀ W : World, (Op.equalIn 10000 24 (.agg #[.int .i64 kk, .string (mkS nn), .int .i64 mm, .int .i64 s0, .int .i64 s1, .int .i64 s2, .int .i64 s3, .int .i64 s4, .int .i64 s5, .int .i64 s6, .int .i64 s7]) (.agg #[.int .i64 kk, .string (mkS nn), .int .i64 mm, .int .i64 s0, .int .i64 s1, .int .i64 s2, .int .i64 s3, .int .i64 s4, .int .i64 s5, .int .i64 s6, .int .i64 s7])).run Tryz.prog W = .ok true W := fun W => by
            have h := eq_host kk kk nn nn mm mm s0 s1 s2 s3 s4 s5 s6 s7 s0 s1 s2 s3 s4 s5 s6 s7 W
            simpa using h
          have hpl := pathParse_len (47 :: s)
          have hPS := fun a n c W hR => pathShow_c P (by rw [← HPD.out]; intro x hx; have := hpl.2 x hx; simp at this; omega) (by rw [← HPD.out]; have := hpl.1; simp at this; omega) a n c W hR
          have hPP := fun W hg => PathParse_c (47 :: s) (by simp; omega) W hg
          rw [HPD.out] at hPP
          have hEN := fun W => Encode_c q 2 (by simp) W (by omega)
          rw [HED.out] at hEN
          have hPlen : P.length ≤ 10000 := by rw [← HPD.out]; have := hpl.1; simp at this; omega
          have e47 : mkS (47 :: s) = ⟨#[47]⟩ ++ mkS s := by apply ByteArray.ext; simp [mkS]
          rw [e47] at hPP
          have hA1 : ¬ 9223372036854775807 < 1 + s.length := by omega
          clear hU2 hS1 hS2 hS3 hS4 hpl e47
          go_wp2_with fail
          refine wp_region_noPanic ?_
          refine wp_region_held_drew (S := fun W' => PAt W' bu kk nn mm s0 s1 s2 s3 s4 s5 s6 s7 a pn pc eq ∧ W'.heap[w.heap.size]? = some (.cells #[.int .i64 kk, .string (mkS nn), .int .i64 mm, .int .i64 s0, .int .i64 s1, .int .i64 s2, .int .i64 s3, .int .i64 s4, .int .i64 s5, .int .i64 s6, .int .i64 s7] 24 (0, 0)) ∧ RdS W' a pn P ∧ Below w.heap.size w W') (by kernel_rfl) hSn (fun hS0 => ?_)
          refine wpAnyH_take (i := 0) (v := ?_) rfl (by kernel_rfl) (by kernel_rfl) (by kernel_rfl) (fun _ _ _ h => h) (Or.inl ⟨by kernel_rfl, fun W hW => ?_⟩) (by assumption) ?_
          rotate_left
          · obtain ⟨⟨c0, c1, c2, c3, c4, c5, c6, c7, c8, c9, c10, c11, c12, c13, c14, c15, c16, c17⟩, _, _, _⟩ := hW
            go_simp
            try with_reducible rfl
          (try simp only [List.getElem_toArray, List.getElem_cons_zero, List.getElem_cons_succ, Act.put, List.setIfInBounds_toArray, List.set_cons_zero, List.set_cons_succ])
          refine wpAnyH_take (i := 1) (v := ?_) rfl (by kernel_rfl) (by kernel_rfl) (by kernel_rfl) (fun _ _ _ h => h) (Or.inl ⟨by kernel_rfl, fun W hW => ?_⟩) (by assumption) ?_
          rotate_left
          · obtain ⟨⟨c0, c1, c2, c3, c4, c5, c6, c7, c8, c9, c10, c11, c12, c13, c14, c15, c16, c17⟩, _, _, _⟩ := hW
            go_simp
            try with_reducible rfl
          (try simp only [List.getElem_toArray, List.getElem_cons_zero, List.getElem_cons_succ, Act.put, List.setIfInBounds_toArray, List.set_cons_zero, List.set_cons_succ])
          refine wpAnyH_take (i := 2) (v := ?_) rfl (by kernel_rfl) (by kernel_rfl) (by kernel_rfl) (fun _ _ _ h => h) (Or.inl ⟨by kernel_rfl, fun W hW => ?_⟩) (by assumption) ?_
          rotate_left
          · obtain ⟨⟨c0, c1, c2, c3, c4, c5, c6, c7, c8, c9, c10, c11, c12, c13, c14, c15, c16, c17⟩, _, _, _⟩ := hW
            go_simp
            try with_reducible rfl
          (try simp only [List.getElem_toArray, List.getElem_cons_zero, List.getElem_cons_succ, Act.put, List.setIfInBounds_toArray, List.set_cons_zero, List.set_cons_succ])
          refine wpAnyH_take (i := 3) (v := ?_) rfl (by kernel_rfl) (by kernel_rfl) (by kernel_rfl) (fun _ _ _ h => h) (Or.inl ⟨by kernel_rfl, fun W hW => ?_⟩) (by assumption) ?_
          rotate_left
          · obtain ⟨⟨c0, c1, c2, c3, c4, c5, c6, c7, c8, c9, c10, c11, c12, c13, c14, c15, c16, c17⟩, _, _, _⟩ := hW
            go_simp
            try with_reducible rfl
          (try simp only [List.getElem_toArray, List.getElem_cons_zero, List.getElem_cons_succ, Act.put, List.setIfInBounds_toArray, List.set_cons_zero, List.set_cons_succ])
          refine wpAnyH_take (i := 4) (v := ?_) rfl (by kernel_rfl) (by kernel_rfl) (by kernel_rfl) (fun _ _ _ h => h) (Or.inl ⟨by kernel_rfl, fun W hW => ?_⟩) (by assumption) ?_
          rotate_left
          · refine yield_row 24 (.tmp 3) ?_ (w.heap.size) ?_ hW.2.1 Tryz.underlying24 rfl (by kernel_rfl)
            · rfl
            · rfl
          (try simp only [List.getElem_toArray, List.getElem_cons_zero, List.getElem_cons_succ, Act.put, List.setIfInBounds_toArray, List.set_cons_zero, List.set_cons_succ])
          refine wpAnyH_take (i := 5) (v := ?_) rfl (by kernel_rfl) (by kernel_rfl) (by kernel_rfl) (fun _ _ _ h => h) (Or.inl ⟨by kernel_rfl, fun W hW => ?_⟩) (by assumption) ?_
          rotate_left
          · obtain ⟨⟨c0, c1, c2, c3, c4, c5, c6, c7, c8, c9, c10, c11, c12, c13, c14, c15, c16, c17⟩, _, _, _⟩ := hW
            go_simp
            try with_reducible rfl
          (try simp only [List.getElem_toArray, List.getElem_cons_zero, List.getElem_cons_succ, Act.put, List.setIfInBounds_toArray, List.set_cons_zero, List.set_cons_succ])
          refine wpAnyH_take (i := 6) (v := ?_) rfl (by kernel_rfl) (by kernel_rfl) (by kernel_rfl) (fun _ _ _ h => h) (Or.inl ⟨by kernel_rfl, fun W hW => ?_⟩) (by assumption) ?_
          rotate_left
          · obtain ⟨⟨c0, c1, c2, c3, c4, c5, c6, c7, c8, c9, c10, c11, c12, c13, c14, c15, c16, c17⟩, _, _, _⟩ := hW
            go_simp
            try with_reducible rfl
          (try simp only [List.getElem_toArray, List.getElem_cons_zero, List.getElem_cons_succ, Act.put, List.setIfInBounds_toArray, List.set_cons_zero, List.set_cons_succ])
          refine wpAnyH_take (i := 7) (v := ?_) rfl (by kernel_rfl) (by kernel_rfl) (by kernel_rfl) (fun _ _ _ h => h) (Or.inl ⟨by kernel_rfl, fun W hW => ?_⟩) (by assumption) ?_
          rotate_left
          · obtain ⟨⟨c0, c1, c2, c3, c4, c5, c6, c7, c8, c9, c10, c11, c12, c13, c14, c15, c16, c17⟩, _, _, _⟩ := hW
            go_simp
            try with_reducible rfl
          (try simp only [List.getElem_toArray, List.getElem_cons_zero, List.getElem_cons_succ, Act.put, List.setIfInBounds_toArray, List.set_cons_zero, List.set_cons_succ])
          refine wpAnyH_take (i := 8) (v := ?_) rfl (by kernel_rfl) (by kernel_rfl) (by kernel_rfl) (fun _ _ _ h => h) (Or.inl ⟨by kernel_rfl, fun W hW => ?_⟩) (by assumption) ?_
          rotate_left
          · obtain ⟨⟨c0, c1, c2, c3, c4, c5, c6, c7, c8, c9, c10, c11, c12, c13, c14, c15, c16, c17⟩, _, _, _⟩ := hW
            go_simp
            try with_reducible rfl
          (try simp only [List.getElem_toArray, List.getElem_cons_zero, List.getElem_cons_succ, Act.put, List.setIfInBounds_toArray, List.set_cons_zero, List.set_cons_succ])
          refine wpAnyH_take (i := 9) (v := ?_) rfl (by kernel_rfl) (by kernel_rfl) (by kernel_rfl) (fun _ _ _ h => h) (Or.inl ⟨by kernel_rfl, fun W hW => ?_⟩) (by assumption) ?_
          rotate_left
          · obtain ⟨⟨c0, c1, c2, c3, c4, c5, c6, c7, c8, c9, c10, c11, c12, c13, c14, c15, c16, c17⟩, _, _, _⟩ := hW
            go_simp
            try with_reducible rfl
          (try simp only [List.getElem_toArray, List.getElem_cons_zero, List.getElem_cons_succ, Act.put, List.setIfInBounds_toArray, List.set_cons_zero, List.set_cons_succ])
          refine wpAnyH_take (i := 11) (v := ?_) rfl (by kernel_rfl) (by kernel_rfl) (by kernel_rfl) (fun _ _ _ h => h) (Or.inl ⟨by kernel_rfl, fun W hW => ?_⟩) (by assumption) ?_
          rotate_left
          · obtain ⟨⟨c0, c1, c2, c3, c4, c5, c6, c7, c8, c9, c10, c11, c12, c13, c14, c15, c16, c17⟩, _, _, _⟩ := hW
            go_simp
            try with_reducible rfl
          (try simp only [List.getElem_toArray, List.getElem_cons_zero, List.getElem_cons_succ, Act.put, List.setIfInBounds_toArray, List.set_cons_zero, List.set_cons_succ])
          refine wpAnyH_take (i := 12) (v := ?_) rfl (by kernel_rfl) (by kernel_rfl) (by kernel_rfl) (fun _ _ _ h => h) (Or.inl ⟨by kernel_rfl, fun W hW => ?_⟩) (by assumption) ?_
          rotate_left
          · obtain ⟨⟨c0, c1, c2, c3, c4, c5, c6, c7, c8, c9, c10, c11, c12, c13, c14, c15, c16, c17⟩, _, _, _⟩ := hW
            go_simp
            try with_reducible rfl
          (try simp only [List.getElem_toArray, List.getElem_cons_zero, List.getElem_cons_succ, Act.put, List.setIfInBounds_toArray, List.set_cons_zero, List.set_cons_succ])
          refine wpAnyH_ready (rs := [10]) (by kernel_rfl) (by simp) ?_
          refine AllReadyH.cons rfl (fun K hK => ?_) AllReadyH.nil
          go_simp
          refine (hPS a pn pc _ hSn.2.2.1).mono ?_
          rintro e U1 ⟨rfl, hb⟩
          replace hSn := And.intro (hSn.1.below hb) (And.intro (heap_b hb hSn.2.1) (And.intro (hSn.2.2.1.below hb) (b_then hSn.2.2.2 hb)))
          clear hb
          refine hK.out _ _ hSn (fun _ => ?_)
          clear hK K
          (try simp only [List.getElem_toArray, List.getElem_cons_zero, List.getElem_cons_succ, Act.put, List.setIfInBounds_toArray, List.set_cons_zero, List.set_cons_succ])
          refine wpAnyH_ready (rs := [13]) (by kernel_rfl) (by simp) ?_
          refine AllReadyH.cons rfl (fun K hK => ?_) AllReadyH.nil
          go_simp
          refine (hPP _ (HG.out.below hSn.2.2.2)).mono ?_
          rintro e U2 ⟨v2, rfl, hown, hb⟩
          obtain ⟨a2, c2, rfl, hr2, _⟩ := own_rdS hown rfl (by omega)
          replace hSn := And.intro (hSn.1.below hb) (And.intro (heap_b hb hSn.2.1) (And.intro (hSn.2.2.1.below hb) (b_then hSn.2.2.2 hb)))
          clear hb hown
          refine hK.out _ _ hSn (fun _ => ?_)
          clear hK K
          (try simp only [List.getElem_toArray, List.getElem_cons_zero, List.getElem_cons_succ, Act.put, List.setIfInBounds_toArray, List.set_cons_zero, List.set_cons_succ])
          refine wpAnyH_ready (rs := [14]) (by kernel_rfl) (by simp) ?_
          refine AllReadyH.cons rfl (fun K hK => ?_) AllReadyH.nil
          go_simp
          refine (hPS a2 P.length c2 _ hr2).mono ?_
          rintro e U3 ⟨rfl, hb⟩
          replace hSn := And.intro (hSn.1.below hb) (And.intro (heap_b hb hSn.2.1) (And.intro (hSn.2.2.1.below hb) (b_then hSn.2.2.2 hb)))
          clear hb
          refine hK.out _ _ hSn (fun _ => ?_)
          clear hK K
          (try simp only [List.getElem_toArray, List.getElem_cons_zero, List.getElem_cons_succ, Act.put, List.setIfInBounds_toArray, List.set_cons_zero, List.set_cons_succ])
          refine wpAnyH_take (i := 15) (v := ?_) rfl (by kernel_rfl) (by kernel_rfl) (by kernel_rfl) (fun _ _ _ h => h) (Or.inl ⟨by kernel_rfl, fun W hW => ?_⟩) (by assumption) ?_
          rotate_left
          · obtain ⟨⟨c0, c1, c2, c3, c4, c5, c6, c7, c8, c9, c10, c11, c12, c13, c14, c15, c16, c17⟩, _, _, _⟩ := hW
            go_simp
            try with_reducible rfl
          (try simp only [List.getElem_toArray, List.getElem_cons_zero, List.getElem_cons_succ, Act.put, List.setIfInBounds_toArray, List.set_cons_zero, List.set_cons_succ])
          refine wpAnyH_take (i := 16) (v := ?_) rfl (by kernel_rfl) (by kernel_rfl) (by kernel_rfl) (fun _ _ _ h => h) (Or.inl ⟨by kernel_rfl, fun W hW => ?_⟩) (by assumption) ?_
          rotate_left
          · obtain ⟨⟨c0, c1, c2, c3, c4, c5, c6, c7, c8, c9, c10, c11, c12, c13, c14, c15, c16, c17⟩, _, _, _⟩ := hW
            go_simp
            try with_reducible rfl
          (try simp only [List.getElem_toArray, List.getElem_cons_zero, List.getElem_cons_succ, Act.put, List.setIfInBounds_toArray, List.set_cons_zero, List.set_cons_succ])
          refine wpAnyH_take (i := 17) (v := ?_) rfl (by kernel_rfl) (by kernel_rfl) (by kernel_rfl) (fun _ _ _ h => h) (Or.inl ⟨by kernel_rfl, fun W hW => ?_⟩) (by assumption) ?_
          rotate_left
          · obtain ⟨⟨c0, c1, c2, c3, c4, c5, c6, c7, c8, c9, c10, c11, c12, c13, c14, c15, c16, c17⟩, _, _, _⟩ := hW
            go_simp
            try with_reducible rfl
          (try simp only [List.getElem_toArray, List.getElem_cons_zero, List.getElem_cons_succ, Act.put, List.setIfInBounds_toArray, List.set_cons_zero, List.set_cons_succ])
          refine wpAnyH_take (i := 18) (v := ?_) rfl (by kernel_rfl) (by kernel_rfl) (by kernel_rfl) (fun _ _ _ h => h) (Or.inl ⟨by kernel_rfl, fun W hW => ?_⟩) (by assumption) ?_
          rotate_left
          · obtain ⟨⟨c0, c1, c2, c3, c4, c5, c6, c7, c8, c9, c10, c11, c12, c13, c14, c15, c16, c17⟩, _, _, _⟩ := hW
            go_simp
            try with_reducible rfl
          (try simp only [List.getElem_toArray, List.getElem_cons_zero, List.getElem_cons_succ, Act.put, List.setIfInBounds_toArray, List.set_cons_zero, List.set_cons_succ])
          refine wpAnyH_take (i := 19) (v := ?_) rfl (by kernel_rfl) (by kernel_rfl) (by kernel_rfl) (fun _ _ _ h => h) (Or.inl ⟨by kernel_rfl, fun W hW => ?_⟩) (by assumption) ?_
          rotate_left
          · obtain ⟨⟨c0, c1, c2, c3, c4, c5, c6, c7, c8, c9, c10, c11, c12, c13, c14, c15, c16, c17⟩, _, _, _⟩ := hW
            go_simp
            try with_reducible rfl
          (try simp only [List.getElem_toArray, List.getElem_cons_zero, List.getElem_cons_succ, Act.put, List.setIfInBounds_toArray, List.set_cons_zero, List.set_cons_succ])
          refine wpAnyH_take (i := 20) (v := ?_) rfl (by kernel_rfl) (by kernel_rfl) (by kernel_rfl) (fun _ _ _ h => h) (Or.inl ⟨by kernel_rfl, fun W hW => ?_⟩) (by assumption) ?_
          rotate_left
          · obtain ⟨⟨c0, c1, c2, c3, c4, c5, c6, c7, c8, c9, c10, c11, c12, c13, c14, c15, c16, c17⟩, _, _, _⟩ := hW
            go_simp
            try with_reducible rfl
          (try simp only [List.getElem_toArray, List.getElem_cons_zero, List.getElem_cons_succ, Act.put, List.setIfInBounds_toArray, List.set_cons_zero, List.set_cons_succ])
          refine wpAnyH_take (i := 21) (v := ?_) rfl (by kernel_rfl) (by kernel_rfl) (by kernel_rfl) (fun _ _ _ h => h) (Or.inl ⟨by kernel_rfl, fun W hW => ?_⟩) (by assumption) ?_
          rotate_left
          · obtain ⟨⟨c0, c1, c2, c3, c4, c5, c6, c7, c8, c9, c10, c11, c12, c13, c14, c15, c16, c17⟩, _, _, _⟩ := hW
            go_simp
            try with_reducible rfl
          (try simp only [List.getElem_toArray, List.getElem_cons_zero, List.getElem_cons_succ, Act.put, List.setIfInBounds_toArray, List.set_cons_zero, List.set_cons_succ])
          refine wpAnyH_take (i := 22) (v := ?_) rfl (by kernel_rfl) (by kernel_rfl) (by kernel_rfl) (fun _ _ _ h => h) (Or.inl ⟨by kernel_rfl, fun W hW => ?_⟩) (by assumption) ?_
          rotate_left
          · obtain ⟨⟨c0, c1, c2, c3, c4, c5, c6, c7, c8, c9, c10, c11, c12, c13, c14, c15, c16, c17⟩, _, _, _⟩ := hW
            go_simp
            try with_reducible rfl
          (try simp only [List.getElem_toArray, List.getElem_cons_zero, List.getElem_cons_succ, Act.put, List.setIfInBounds_toArray, List.set_cons_zero, List.set_cons_succ])
          refine wpAnyH_take (i := 23) (v := ?_) rfl (by kernel_rfl) (by kernel_rfl) (by kernel_rfl) (fun _ _ _ h => h) (Or.inl ⟨by kernel_rfl, fun W hW => ?_⟩) (by assumption) ?_
          rotate_left
          · obtain ⟨⟨c0, c1, c2, c3, c4, c5, c6, c7, c8, c9, c10, c11, c12, c13, c14, c15, c16, c17⟩, _, _, _⟩ := hW
            go_simp
            try with_reducible rfl
          (try simp only [List.getElem_toArray, List.getElem_cons_zero, List.getElem_cons_succ, Act.put, List.setIfInBounds_toArray, List.set_cons_zero, List.set_cons_succ])
          refine wpAnyH_take (i := 24) (v := ?_) rfl (by kernel_rfl) (by kernel_rfl) (by kernel_rfl) (fun _ _ _ h => h) (Or.inl ⟨by kernel_rfl, fun W hW => ?_⟩) (by assumption) ?_
          rotate_left
          · obtain ⟨⟨c0, c1, c2, c3, c4, c5, c6, c7, c8, c9, c10, c11, c12, c13, c14, c15, c16, c17⟩, _, _, _⟩ := hW
            go_simp
            try with_reducible rfl
          (try simp only [List.getElem_toArray, List.getElem_cons_zero, List.getElem_cons_succ, Act.put, List.setIfInBounds_toArray, List.set_cons_zero, List.set_cons_succ])
          refine wpAnyH_ready (rs := [25]) (by kernel_rfl) (by simp) ?_
          refine AllReadyH.cons rfl (fun K hK => ?_) AllReadyH.nil
          go_simp
          refine (hEN _).mono ?_
          rintro e U4 ⟨rfl, hb⟩
          replace hSn := And.intro (hSn.1.below hb) (And.intro (heap_b hb hSn.2.1) (And.intro (hSn.2.2.1.below hb) (b_then hSn.2.2.2 hb)))
          clear hb
          refine hK.out _ _ hSn (fun _ => ?_)
          clear hK K
          (try simp only [List.getElem_toArray, List.getElem_cons_zero, List.getElem_cons_succ, Act.put, List.setIfInBounds_toArray, List.set_cons_zero, List.set_cons_succ])
          refine wpAnyH_take (i := 26) (v := ?_) rfl (by kernel_rfl) (by kernel_rfl) (by kernel_rfl) (fun _ _ _ h => h) (Or.inl ⟨by kernel_rfl, fun W hW => ?_⟩) (by assumption) ?_
          rotate_left
          · obtain ⟨⟨c0, c1, c2, c3, c4, c5, c6, c7, c8, c9, c10, c11, c12, c13, c14, c15, c16, c17⟩, _, _, _⟩ := hW
            go_simp
            try with_reducible rfl
          (try simp only [List.getElem_toArray, List.getElem_cons_zero, List.getElem_cons_succ, Act.put, List.setIfInBounds_toArray, List.set_cons_zero, List.set_cons_succ])
          refine wpAnyH_take (i := 27) (v := ?_) rfl (by kernel_rfl) (by kernel_rfl) (by kernel_rfl) (fun _ _ _ h => h) (Or.inl ⟨by kernel_rfl, fun W hW => ?_⟩) (by assumption) ?_
          rotate_left
          · obtain ⟨⟨c0, c1, c2, c3, c4, c5, c6, c7, c8, c9, c10, c11, c12, c13, c14, c15, c16, c17⟩, _, _, _⟩ := hW
            go_simp
            try with_reducible rfl
          (try simp only [List.getElem_toArray, List.getElem_cons_zero, List.getElem_cons_succ, Act.put, List.setIfInBounds_toArray, List.set_cons_zero, List.set_cons_succ])
          refine wpAnyH_take (i := 28) (v := ?_) rfl (by kernel_rfl) (by kernel_rfl) (by kernel_rfl) (fun _ _ _ h => h) (Or.inl ⟨by kernel_rfl, fun W hW => ?_⟩) (by assumption) ?_
          rotate_left
          · obtain ⟨⟨c0, c1, c2, c3, c4, c5, c6, c7, c8, c9, c10, c11, c12, c13, c14, c15, c16, c17⟩, _, _, _⟩ := hW
            go_simp
            try with_reducible rfl
          (try simp only [List.getElem_toArray, List.getElem_cons_zero, List.getElem_cons_succ, Act.put, List.setIfInBounds_toArray, List.set_cons_zero, List.set_cons_succ])
          refine wpAnyH_take (i := 29) (v := ?_) rfl (by kernel_rfl) (by kernel_rfl) (by kernel_rfl) (fun _ _ _ h => h) (Or.inl ⟨by kernel_rfl, fun W hW => ?_⟩) (by assumption) ?_
          rotate_left
          · obtain ⟨⟨c0, c1, c2, c3, c4, c5, c6, c7, c8, c9, c10, c11, c12, c13, c14, c15, c16, c17⟩, _, _, _⟩ := hW
            go_simp
            try with_reducible rfl
          (try simp only [List.getElem_toArray, List.getElem_cons_zero, List.getElem_cons_succ, Act.put, List.setIfInBounds_toArray, List.set_cons_zero, List.set_cons_succ])
          refine wpAnyH_take (i := 30) (v := ?_) rfl (by kernel_rfl) (by kernel_rfl) (by kernel_rfl) (fun _ _ _ h => h) (Or.inl ⟨by kernel_rfl, fun W hW => ?_⟩) (by assumption) ?_
          rotate_left
          · obtain ⟨⟨c0, c1, c2, c3, c4, c5, c6, c7, c8, c9, c10, c11, c12, c13, c14, c15, c16, c17⟩, _, _, _⟩ := hW
            go_simp
            try with_reducible rfl
          (try simp only [List.getElem_toArray, List.getElem_cons_zero, List.getElem_cons_succ, Act.put, List.setIfInBounds_toArray, List.set_cons_zero, List.set_cons_succ])
          refine wpAnyH_take (i := 31) (v := ?_) rfl (by kernel_rfl) (by kernel_rfl) (by kernel_rfl) (fun _ _ _ h => h) (Or.inl ⟨by kernel_rfl, fun W hW => ?_⟩) (by assumption) ?_
          rotate_left
          · obtain ⟨⟨c0, c1, c2, c3, c4, c5, c6, c7, c8, c9, c10, c11, c12, c13, c14, c15, c16, c17⟩, _, _, _⟩ := hW
            go_simp
            try with_reducible rfl
          (try simp only [List.getElem_toArray, List.getElem_cons_zero, List.getElem_cons_succ, Act.put, List.setIfInBounds_toArray, List.set_cons_zero, List.set_cons_succ])
          refine wpAnyH_take (i := 32) (v := ?_) rfl (by kernel_rfl) (by kernel_rfl) (by kernel_rfl) (fun _ _ _ h => h) (Or.inl ⟨by kernel_rfl, fun W hW => ?_⟩) (by assumption) ?_
          rotate_left
          · obtain ⟨⟨c0, c1, c2, c3, c4, c5, c6, c7, c8, c9, c10, c11, c12, c13, c14, c15, c16, c17⟩, _, _, _⟩ := hW
            go_simp
            try with_reducible rfl
          (try simp only [List.getElem_toArray, List.getElem_cons_zero, List.getElem_cons_succ, Act.put, List.setIfInBounds_toArray, List.set_cons_zero, List.set_cons_succ])
          refine wpAnyH_take (i := 33) (v := ?_) rfl (by kernel_rfl) (by kernel_rfl) (by kernel_rfl) (fun _ _ _ h => h) (Or.inl ⟨by kernel_rfl, fun W hW => ?_⟩) (by assumption) ?_
          rotate_left
          · obtain ⟨⟨c0, c1, c2, c3, c4, c5, c6, c7, c8, c9, c10, c11, c12, c13, c14, c15, c16, c17⟩, _, _, _⟩ := hW
            go_simp
            try with_reducible rfl
          (try simp only [List.getElem_toArray, List.getElem_cons_zero, List.getElem_cons_succ, Act.put, List.setIfInBounds_toArray, List.set_cons_zero, List.set_cons_succ])
          refine wpAnyH_take (i := 34) (v := ?_) rfl (by kernel_rfl) (by kernel_rfl) (by kernel_rfl) (fun _ _ _ h => h) (Or.inl ⟨by kernel_rfl, fun W hW => ?_⟩) (by assumption) ?_
          rotate_left
          · obtain ⟨⟨c0, c1, c2, c3, c4, c5, c6, c7, c8, c9, c10, c11, c12, c13, c14, c15, c16, c17⟩, _, _, _⟩ := hW
            go_simp
            try with_reducible rfl
          (try simp only [List.getElem_toArray, List.getElem_cons_zero, List.getElem_cons_succ, Act.put, List.setIfInBounds_toArray, List.set_cons_zero, List.set_cons_succ])
          refine wpAnyH_take (i := 35) (v := ?_) rfl (by kernel_rfl) (by kernel_rfl) (by kernel_rfl) (fun _ _ _ h => h) (Or.inl ⟨by kernel_rfl, fun W hW => ?_⟩) (by assumption) ?_
          rotate_left
          · obtain ⟨⟨c0, c1, c2, c3, c4, c5, c6, c7, c8, c9, c10, c11, c12, c13, c14, c15, c16, c17⟩, _, _, _⟩ := hW
            go_simp
            try with_reducible rfl
          (try simp only [List.getElem_toArray, List.getElem_cons_zero, List.getElem_cons_succ, Act.put, List.setIfInBounds_toArray, List.set_cons_zero, List.set_cons_succ])
          refine wpAnyH_take (i := 36) (v := ?_) rfl (by kernel_rfl) (by kernel_rfl) (by kernel_rfl) (fun _ _ _ h => h) (Or.inl ⟨by kernel_rfl, fun W hW => ?_⟩) (by assumption) ?_
          rotate_left
          · obtain ⟨⟨c0, c1, c2, c3, c4, c5, c6, c7, c8, c9, c10, c11, c12, c13, c14, c15, c16, c17⟩, _, _, _⟩ := hW
            go_simp
            try with_reducible rfl
          (try simp only [List.getElem_toArray, List.getElem_cons_zero, List.getElem_cons_succ, Act.put, List.setIfInBounds_toArray, List.set_cons_zero, List.set_cons_succ])
          refine wpAnyH_take (i := 37) (v := ?_) rfl (by kernel_rfl) (by kernel_rfl) (by kernel_rfl) (fun _ _ _ h => h) (Or.inl ⟨by kernel_rfl, fun W hW => ?_⟩) (by assumption) ?_
          rotate_left
          · obtain ⟨⟨c0, c1, c2, c3, c4, c5, c6, c7, c8, c9, c10, c11, c12, c13, c14, c15, c16, c17⟩, _, _, _⟩ := hW
            go_simp
            try with_reducible rfl
          (try simp only [List.getElem_toArray, List.getElem_cons_zero, List.getElem_cons_succ, Act.put, List.setIfInBounds_toArray, List.set_cons_zero, List.set_cons_succ])
          refine wpAnyH_take (i := 38) (v := ?_) rfl (by kernel_rfl) (by kernel_rfl) (by kernel_rfl) (fun _ _ _ h => h) (Or.inl ⟨by kernel_rfl, fun W hW => ?_⟩) (by assumption) ?_
          rotate_left
          · obtain ⟨⟨c0, c1, c2, c3, c4, c5, c6, c7, c8, c9, c10, c11, c12, c13, c14, c15, c16, c17⟩, _, _, _⟩ := hW
            go_simp
            try with_reducible rfl
          (try simp only [List.getElem_toArray, List.getElem_cons_zero, List.getElem_cons_succ, Act.put, List.setIfInBounds_toArray, List.set_cons_zero, List.set_cons_succ])
          refine wpAnyH_take (i := 39) (v := ?_) rfl (by kernel_rfl) (by kernel_rfl) (by kernel_rfl) (fun _ _ _ h => h) (Or.inl ⟨by kernel_rfl, fun W hW => ?_⟩) (by assumption) ?_
          rotate_left
          · obtain ⟨⟨c0, c1, c2, c3, c4, c5, c6, c7, c8, c9, c10, c11, c12, c13, c14, c15, c16, c17⟩, _, _, _⟩ := hW
            go_simp
            try with_reducible rfl
          (try simp only [List.getElem_toArray, List.getElem_cons_zero, List.getElem_cons_succ, Act.put, List.setIfInBounds_toArray, List.set_cons_zero, List.set_cons_succ])
          refine wpAnyH_take (i := 40) (v := ?_) rfl (by kernel_rfl) (by kernel_rfl) (by kernel_rfl) (fun _ _ _ h => h) (Or.inl ⟨by kernel_rfl, fun W hW => ?_⟩) (by assumption) ?_
          rotate_left
          · obtain ⟨⟨c0, c1, c2, c3, c4, c5, c6, c7, c8, c9, c10, c11, c12, c13, c14, c15, c16, c17⟩, _, _, _⟩ := hW
            go_simp
            try with_reducible rfl
          (try simp only [List.getElem_toArray, List.getElem_cons_zero, List.getElem_cons_succ, Act.put, List.setIfInBounds_toArray, List.set_cons_zero, List.set_cons_succ])
          refine wpAnyH_take (i := 41) (v := ?_) rfl (by kernel_rfl) (by kernel_rfl) (by kernel_rfl) (fun _ _ _ h => h) (Or.inl ⟨by kernel_rfl, fun W hW => ?_⟩) (by assumption) ?_
          rotate_left
          · obtain ⟨⟨c0, c1, c2, c3, c4, c5, c6, c7, c8, c9, c10, c11, c12, c13, c14, c15, c16, c17⟩, _, _, _⟩ := hW
            go_simp
            try with_reducible rfl
          (try simp only [List.getElem_toArray, List.getElem_cons_zero, List.getElem_cons_succ, Act.put, List.setIfInBounds_toArray, List.set_cons_zero, List.set_cons_succ])
          refine wpAnyH_take (i := 42) (v := ?_) rfl (by kernel_rfl) (by kernel_rfl) (by kernel_rfl) (fun _ _ _ h => h) (Or.inl ⟨by kernel_rfl, fun W hW => ?_⟩) (by assumption) ?_
          rotate_left
          · obtain ⟨⟨c0, c1, c2, c3, c4, c5, c6, c7, c8, c9, c10, c11, c12, c13, c14, c15, c16, c17⟩, _, _, _⟩ := hW
            go_simp
            try with_reducible rfl
          (try simp only [List.getElem_toArray, List.getElem_cons_zero, List.getElem_cons_succ, Act.put, List.setIfInBounds_toArray, List.set_cons_zero, List.set_cons_succ])
          refine wpAnyH_take (i := 43) (v := ?_) rfl (by kernel_rfl) (by kernel_rfl) (by kernel_rfl) (fun _ _ _ h => h) (Or.inl ⟨by kernel_rfl, fun W hW => ?_⟩) (by assumption) ?_
          rotate_left
          · obtain ⟨⟨c0, c1, c2, c3, c4, c5, c6, c7, c8, c9, c10, c11, c12, c13, c14, c15, c16, c17⟩, _, _, _⟩ := hW
            go_simp
            try with_reducible rfl
          (try simp only [List.getElem_toArray, List.getElem_cons_zero, List.getElem_cons_succ, Act.put, List.setIfInBounds_toArray, List.set_cons_zero, List.set_cons_succ])
          refine wpAnyH_take (i := 44) (v := ?_) rfl (by kernel_rfl) (by kernel_rfl) (by kernel_rfl) (fun _ _ _ h => h) (Or.inl ⟨by kernel_rfl, fun W hW => ?_⟩) (by assumption) ?_
          rotate_left
          · obtain ⟨⟨c0, c1, c2, c3, c4, c5, c6, c7, c8, c9, c10, c11, c12, c13, c14, c15, c16, c17⟩, _, _, _⟩ := hW
            go_simp
            try with_reducible rfl
          (try simp only [List.getElem_toArray, List.getElem_cons_zero, List.getElem_cons_succ, Act.put, List.setIfInBounds_toArray, List.set_cons_zero, List.set_cons_succ])
          refine wpAnyH_take (i := 45) (v := ?_) rfl (by kernel_rfl) (by kernel_rfl) (by kernel_rfl) (fun _ _ _ h => h) (Or.inl ⟨by kernel_rfl, fun W hW => ?_⟩) (by assumption) ?_
          rotate_left
          · obtain ⟨⟨c0, c1, c2, c3, c4, c5, c6, c7, c8, c9, c10, c11, c12, c13, c14, c15, c16, c17⟩, _, _, _⟩ := hW
            go_simp
            try with_reducible rfl
          (try simp only [List.getElem_toArray, List.getElem_cons_zero, List.getElem_cons_succ, Act.put, List.setIfInBounds_toArray, List.set_cons_zero, List.set_cons_succ])
          refine wpAnyH_take (i := 46) (v := ?_) rfl (by kernel_rfl) (by kernel_rfl) (by kernel_rfl) (fun _ _ _ h => h) (Or.inl ⟨by kernel_rfl, fun W hW => ?_⟩) (by assumption) ?_
          rotate_left
          · obtain ⟨⟨c0, c1, c2, c3, c4, c5, c6, c7, c8, c9, c10, c11, c12, c13, c14, c15, c16, c17⟩, _, _, _⟩ := hW
            go_simp
            try with_reducible rfl
          (try simp only [List.getElem_toArray, List.getElem_cons_zero, List.getElem_cons_succ, Act.put, List.setIfInBounds_toArray, List.set_cons_zero, List.set_cons_succ])
          refine wpAnyH_take (i := 47) (v := ?_) rfl (by kernel_rfl) (by kernel_rfl) (by kernel_rfl) (fun _ _ _ h => h) (Or.inl ⟨by kernel_rfl, fun W hW => ?_⟩) (by assumption) ?_
          rotate_left
          · obtain ⟨⟨c0, c1, c2, c3, c4, c5, c6, c7, c8, c9, c10, c11, c12, c13, c14, c15, c16, c17⟩, _, _, _⟩ := hW
            go_simp
            try with_reducible rfl
          (try simp only [List.getElem_toArray, List.getElem_cons_zero, List.getElem_cons_succ, Act.put, List.setIfInBounds_toArray, List.set_cons_zero, List.set_cons_succ])
          refine wpAnyH_take (i := 48) (v := ?_) rfl (by kernel_rfl) (by kernel_rfl) (by kernel_rfl) (fun _ _ _ h => h) (Or.inl ⟨by kernel_rfl, fun W hW => ?_⟩) (by assumption) ?_
          rotate_left
          · obtain ⟨⟨c0, c1, c2, c3, c4, c5, c6, c7, c8, c9, c10, c11, c12, c13, c14, c15, c16, c17⟩, _, _, _⟩ := hW
            go_simp
            try with_reducible rfl
          (try simp only [List.getElem_toArray, List.getElem_cons_zero, List.getElem_cons_succ, Act.put, List.setIfInBounds_toArray, List.set_cons_zero, List.set_cons_succ])
          refine wpAnyH_done (by kernel_rfl) ?_ _
          refine NoPanic.normal ?_
          go_wp2
          go_ret
          exact ⟨rfl, hSn.2.2.2⟩
end Go.Proofs.YtgegnnojobmdcaaGreatDoor
/-! A host as an argument: opened. -/
namespace Go.Proofs.YtgegnnojobmdcaaGreatDoor
open Go.ChangeShapes Go.WideShapes Go.ChangeAt Go.RowKit
open Go.WideMaps Go.WideElems
theorem list11 {α : Type} {l : List α} (h : l.length = 11) : ∃ c0 c1 c2 c3 c4 c5 c6 c7 c8 c9 c10, l = [c0, c1, c2, c3, c4, c5, c6, c7, c8, c9, c10] := by
  match l, h with
  | [c0, c1, c2, c3, c4, c5, c6, c7, c8, c9, c10], _ => exact ⟨c0, c1, c2, c3, c4, c5, c6, c7, c8, c9, c10, rfl⟩
set_option maxRecDepth 100000 in
theorem open_host {H : Type} {enc : TypeId × Value → H} {w : World} {base : Nat} {spare : Nat → Bool} {held : Bool} {r : Reach} {b0 : Nat} {v : Value} {d : DataW H} {p : List MemPlace} (hv : Value.okWide Tryz.prog w r b0 24 v) (h : DataW.Trod enc Tryz.prog w base spare held 24 v d p) :
    ∃ (k : Int) (n : List UInt8) (m n0 n1 n2 n3 n4 n5 n6 n7 : Int), v = .agg #[.int .i64 k, .string (mkS n), .int .i64 m, .int .i64 n0, .int .i64 n1, .int .i64 n2, .int .i64 n3, .int .i64 n4, .int .i64 n5, .int .i64 n6, .int .i64 n7] := by
  have hu := Tryz.underlying24
  obtain ⟨cs, rfl, hsz⟩ := okWide_struct hu hv
  obtain ⟨fuel, hf0⟩ := h
  have hC : Tryz.prog.cellsOf 24 = 11 := by kernel_rfl
  obtain ⟨l⟩ := cs
  have hl : l.length = 11 := by simpa [hC] using hsz
  obtain ⟨c0, c1, c2, c3, c4, c5, c6, c7, c8, c9, c10, rfl⟩ := list11 hl
  obtain ⟨k, n, m', n0, n1, n2, n3, n4, n5, n6, n7, q0, q1, q2, q3, q4, q5, q6, q7, q8, q9, q10⟩ := host_cells (a0 := c0) (a1 := c1) (a2 := c2) (a3 := c3) (a4 := c4) (a5 := c5) (a6 := c6) (a7 := c7) (a8 := c8) (a9 := c9) (a10 := c10) hf0
  refine ⟨k, n, m', n0, n1, n2, n3, n4, n5, n6, n7, ?_⟩
  subst q0 q1 q2 q3 q4 q5 q6 q7 q8 q9 q10
  rfl
end Go.Proofs.YtgegnnojobmdcaaGreatDoor
/-! The row of UrlParts. -/
namespace Go.Proofs.YtgegnnojobmdcaaGreatDoor
open Go.ChangeShapes Go.WideShapes Go.ChangeAt Go.RowKit
open Go.WideMaps Go.WideElems
open Go.ChangeMaps (open_string shut_string)
theorem urlParts_reads (os : Os) {H : Type} (enc : TypeId × Value → H) : ∃ x, DataW.whole enc Tryz.prog ((laidWorld os).forCall (fun _ _ => 0) ⟨#[], #[.agg #[.int .i64 0, .string ⟨#[]⟩, .int .i64 0, .int .i64 0, .int .i64 0, .int .i64 0, .int .i64 0, .int .i64 0, .int .i64 0, .int .i64 0, .int .i64 0], .string ⟨#[]⟩, .string ⟨#[]⟩], []⟩).memory Tryz.f10.params.toList Rows.urlPartsSpec.vars false (#[.agg #[.int .i64 0, .string ⟨#[]⟩, .int .i64 0, .int .i64 0, .int .i64 0, .int .i64 0, .int .i64 0, .int .i64 0, .int .i64 0, .int .i64 0, .int .i64 0], .string ⟨#[]⟩, .string ⟨#[]⟩] : Array Value).toList 8 = some x :=
  Option.isSome_iff_exists.1 (by kernel_rfl)
set_option maxRecDepth 100000 in
theorem urlParts_lifted (os : Os) (started : os.Started) (H : Type) (enc : TypeId × Value → H) (F : Stop.Interp) :
    ReturnsInHanded {} Tryz.checked os 10 .any ((OpenSpec.ofChange Rows.urlPartsSpec).preRow enc Tryz.prog Tryz.f10 Rows.urlPartsRow.domain false Rows.urlPartsRow.laid) (((OpenSpec.ofChange Rows.urlPartsSpec).at F).post enc Tryz.prog Tryz.f10 false true false false) := by
  obtain ⟨x, hx⟩ := urlParts_reads os enc
  refine returnsInHanded_of_row (C := Tryz.checked) (s := OpenSpec.ofChange Rows.urlPartsSpec) own started (by kernel_rfl) Tryz.func10
    (witness_row_atRef (enc := enc) (C := Tryz.checked) false (laidWorld os) #[.agg #[.int .i64 0, .string ⟨#[]⟩, .int .i64 0, .int .i64 0, .int .i64 0, .int .i64 0, .int .i64 0, .int .i64 0, .int .i64 0, .int .i64 0, .int .i64 0], .string ⟨#[]⟩, .string ⟨#[]⟩] rfl (by kernel_rfl) (by kernel_rfl) (by kernel_rfl)
      (OpenSpec.preRow_of_cond 8 hx rfl (fun k hk => by cases hk) (by kernel_rfl) (laid_met os _))) ?_
  intro W base args ds gs before hval0 hW _ _ _ hL hsh _
  have hval : ∀ (j : Nat) t v, Tryz.f10.params[j]? = some t → args[j]? = some v → Value.okWide Tryz.prog W .any base t v := hval0
  have hW' := hW
  obtain ⟨p, q, hA0, hV, rfl, hfz, hnd⟩ := hW
  have hA : DataW.TrodAll enc Tryz.prog W 0 (fun _ => true) true Tryz.f10.params.toList args.toList ds p := hA0
  rw [Tryz.params10] at hA hval
  obtain ⟨v0, v1, v2, d0, d1, d2, p0, p1, p2, rfl, rfl, rfl, h0, h1, h2⟩ := trodAll_three hA
  obtain ⟨rfl, rfl⟩ := trodVars_none hV
  simp only [List.append_nil] at hfz hnd hW'
  have hlt : ∀ x ∈ p0 ++ p1 ++ p2, x.block < W.heap.size := fun x hx => hW'.lt x hx
  have h0k := h0
  obtain ⟨k0, n0, m0, a00, a01, a02, a03, a04, a05, a06, a07, rfl⟩ := open_host (hval 0 24 v0 rfl rfl) h0
  have h1k := h1
  obtain ⟨s1, e1, _, _, w1⟩ := open_string Tryz.underlying9 (hval 1 9 v1 rfl rfl) h1
  obtain ⟨l1, rfl⟩ := mkS_surj s1
  subst e1
  have h2k := h2
  obtain ⟨s2, e2, _, _, w2⟩ := open_string Tryz.underlying9 (hval 2 9 v2 rfl rfl) h2
  obtain ⟨l2, rfl⟩ := mkS_surj s2
  subst e2
  refine (UrlPartsL_c k0 n0 m0 a00 a01 a02 a03 a04 a05 a06 a07 l1 l2 W  (gl_of hsh) (tabs_laid hL)).mono fun e W' ⟨he, hb⟩ => ?_
  subst he
  refine ⟨_, rfl, _, _, _, [], p0 ++ p1 ++ p2, [], hW', ?_, ?_, ?_, hb.frame _, fun h => by cases h⟩
  · exact trodAll_mk1 (shut_bool Tryz.underlying4 _)
  · have h3 := trodAll_mk3 (Below.trod laidOut (by kernel_rfl) (of_decide_eq_true (by kernel_rfl)) h0k hb (fun x hx => hlt x (by simp [hx]))) (Below.trod laidOut (by kernel_rfl) (of_decide_eq_true (by kernel_rfl)) h1k hb (fun x hx => hlt x (by simp [hx]))) (Below.trod laidOut (by kernel_rfl) (of_decide_eq_true (by kernel_rfl)) h2k hb (fun x hx => hlt x (by simp [hx])))
    rw [← List.append_assoc] at h3
    exact h3
  · rfl
theorem urlParts_said : Rows.UrlPartsSaid :=
  OpenClaim.holds_of_cond 10 Tryz.f10 rfl rfl rfl rfl rfl rfl rfl ⟨rfl, rfl, rfl, rfl, rfl⟩ rfl rfl rfl rfl rfl (by kernel_rfl) Tryz.func10 (by kernel_rfl)
    (of_decide_eq_true (by kernel_rfl)) (by unfold Func.isWrapper; first | (rw [if_pos (by decide +kernel)]; kernel_rfl) | (rw [if_neg (by decide +kernel)]; exact ⟨rfl, rfl⟩))
    (fun os started H enc _ F => by rw [OpenClaim.pre_eq_preRow]; exact urlParts_lifted os started H enc F)
theorem urlParts_plain (f : FuncId) (fn : Func) (hf : Tryz.pinned.checked.prog.funcNamed "postmark/postmarklaw09.UrlParts" = some f) (hfn : Tryz.pinned.checked.prog.funcs[f]? = some fn) :
    true = Tryz.pinned.checked.prog.looks [] ∧ ∀ (j : Nat) t, fn.params[j]? = some t → Tryz.pinned.checked.prog.wantsStandIn t = false := by
  obtain rfl : f = 10 := Option.some.inj ((show Tryz.prog.funcNamed "postmark/postmarklaw09.UrlParts" = some 10 by kernel_rfl).symm.trans hf) |>.symm
  obtain rfl : fn = Tryz.f10 := (Option.some.inj (Tryz.func10.symm.trans hfn)).symm
  refine ⟨by kernel_rfl, fun j t ht => ?_⟩
  rw [Tryz.params10] at ht
  have hm := Array.mem_of_getElem? ht
  simp only [Array.mem_def, List.mem_cons, List.not_mem_nil, or_false] at hm
  rcases hm with rfl | rfl | rfl
  · exact (show Tryz.prog.wantsStandIn 24 = false by kernel_rfl)
  · exact (show Tryz.prog.wantsStandIn 9 = false by kernel_rfl)
  · exact (show Tryz.prog.wantsStandIn 9 = false by kernel_rfl)
theorem urlParts_holds : Rows.UrlPartsCardSaid :=
  Claim7.holds_tied_plain_at .later [] _ _ _ _ urlParts_said (fun _ h => by cases h) (by kernel_rfl) (fun _ h => by cases h) urlParts_row_tie rfl ⟨rfl, rfl⟩ (by kernel_rfl) rfl urlParts_plain (by kernel_rfl)
#print axioms urlParts_holds
end Go.Proofs.YtgegnnojobmdcaaGreatDoor
