import Derived.Test.YtppbkblnjlbnfaaGreatDoorP13
import Derived.Test.YtppbkblnjlbnfaaGreatDoorP12
/-! Contract: url.parse. -/
set_option linter.unusedVariables false
set_option linter.unusedSimpArgs false
namespace PM
theorem lower_len (s : L) : (lower s).length = s.length := by simp [lower]
theorem cut_len (c : UInt8) (s : L) : (cut c s).1.length ≤ s.length ∧ (cut c s).2.1.length ≤ s.length := by
  unfold cut
  split
  · refine ⟨(List.takeWhile_sublist _).length_le, ?_⟩
    dsimp only
    rw [List.length_drop]
    exact Nat.le_trans (Nat.sub_le _ _) (List.dropWhile_sublist _).length_le
  · exact ⟨Nat.le_refl _, Nat.zero_le _⟩
theorem scheme_len (s : L) : (scheme s).1.length ≤ s.length ∧ (scheme s).2.1.length ≤ s.length := by
  unfold scheme
  have := cut_len 58 s
  split
  · exact ⟨Nat.zero_le _, Nat.zero_le _⟩
  · exact ⟨by rw [lower_len]; exact this.1, this.2⟩
theorem tail_len (s : L) : (tail s).1.length ≤ s.length ∧ (tail s).2.1.length ≤ s.length ∧ (tail s).2.2.1.length ≤ s.length := by
  unfold tail
  have h1 := cut_len 35 s
  have h2 := cut_len 63 (cut 35 s).1
  exact ⟨Nat.le_trans h2.1 h1.1, Nat.le_trans h2.2 h1.1, h1.2⟩
theorem hostParse_len {s : L} {h : Host} (e : hostParse s = some h) : h.name.length ≤ s.length := by
  by_cases h91 : s.head? = some 91
  · obtain ⟨r, rfl⟩ : ∃ r, s = 91 :: r := by
      cases s with
      | nil => simp at h91
      | cons x r => simp at h91; exact ⟨r, by rw [h91]⟩
    have hv : hostParse (91 :: r) = if r.getLast? = some 93 then (match sixParse r.dropLast with
      | some p => some ⟨3, [], 0, p⟩
      | none => none) else none := rfl
    rw [hv] at e
    split at e
    · split at e
      · simp at e
        subst e
        exact Nat.zero_le _
      · cases e
    · cases e
  · rw [hostParse_plain h91] at e
    split at e
    · split at e
      · simp at e
        subst e
        exact Nat.zero_le _
      · cases e
    · split at e
      · simp at e
        subst e
        simp [lower_len]
      · cases e
theorem doorName_len (s : L) : (doorName s).length ≤ s.length := by
  unfold doorName
  split
  · have h1 := (List.takeWhile_sublist (l := s.drop (doorAt s)) (· != 58)).length_le
    have h2 : (s.drop (doorAt s)).length = s.length - doorAt s := List.length_drop
    have h3 : (s.take (doorAt s)).length = min (doorAt s) s.length := List.length_take
    rw [List.length_append]
    omega
  · exact Nat.le_refl _
theorem normStep_len {out : List L} {s : L} {last : Bool} {N : Nat} (ho : ∀ x ∈ out, x.length ≤ N) (h : s.length ≤ N) : (∀ x ∈ normStep out s last, x.length ≤ N) ∧ (normStep out s last).length ≤ out.length + 1 := by
  unfold normStep
  split
  · refine ⟨fun x hx => ?_, by simp⟩
    simp only [List.mem_append, List.mem_cons, List.not_mem_nil, or_false] at hx
    rcases hx with hx | rfl
    · exact ho x hx
    · exact h
  · refine ⟨fun x hx => ?_, ?_⟩
    · simp only [List.mem_append] at hx
      rcases hx with hx | hx
      · split at hx
        · exact ho x (List.dropLast_subset _ hx)
        · exact ho x hx
      · cases last
        · simp at hx
        · simp at hx
          subst hx
          exact Nat.zero_le _
    · rw [List.length_append]
      have h1 : (if dots s = 2 then out.dropLast else out).length ≤ out.length := by
        split
        · simp
        · exact Nat.le_refl _
      have h2 : (if last = true then [([] : L)] else []).length ≤ 1 := by
        cases last <;> simp
      omega
theorem normGo_len (l : List L) (N : Nat) (hl : ∀ s ∈ l, s.length ≤ N) : ∀ out, (∀ x ∈ out, x.length ≤ N) → (∀ x ∈ normGo out l, x.length ≤ N) ∧ (normGo out l).length ≤ out.length + l.length := by
  induction l with
  | nil => intro out ho; exact ⟨ho, by simp [normGo]⟩
  | cons s r ih =>
    intro out ho
    have hs := hl s (by simp)
    cases r with
    | nil => exact normStep_len (last := true) ho hs
    | cons t r =>
      have h1 := normStep_len (last := false) ho hs
      have h2 := ih (fun x hx => hl x (List.mem_cons_of_mem _ hx)) _ h1.1
      refine ⟨h2.1, ?_⟩
      have h3 := h2.2
      have h4 := h1.2
      rw [normGo]
      simp only [List.length_cons] at h3 ⊢
      omega
end PM
namespace Go.Proofs.YtppbkblnjlbnfaaGreatDoor
open Go.RowKit
theorem pathParse_len (s : List UInt8) : (PM.pathParse s).length ≤ 3 * s.length + 1 ∧ ∀ x ∈ PM.pathParse s, x.length ≤ 3 * s.length := by
  have h := pathSplit_len s
  have h1 := PM.normGo_len (PM.pathSplit s) (3 * s.length) (fun x hx => h.2 x hx) [] (by simp)
  exact ⟨by have := h1.2; unfold PM.pathParse PM.norm; simp at this; omega, h1.1⟩
@[go_sem] theorem bd_parse (a b c : ByteArray) (k : Int) (p q : Bool) (w : World) : (Instr.build 27 #[(0, .string a), (4, .int .i64 k), (7, .string b), (8, .string c), (9, .bool p), (10, .bool q)]).run Tryz.prog w = .ok (.agg #[.string a, .string ⟨#[]⟩, .string ⟨#[]⟩, .int .i64 0, .string ⟨#[]⟩, .int .i64 0, .int .i64 0, .int .i64 0, .int .i64 0, .int .i64 0, .int .i64 0, .int .i64 0, .int .i64 0, .int .i64 0, .int .i64 k, .slice none 0 0, .string ⟨#[]⟩, .string b, .string c, .bool p, .bool q]) w := run_build w 27 _ _ (by kernel_rfl)
def pu0 (sch q f : List UInt8) (hq hf : Bool) : UV := ⟨sch, [], [], 0, [], 0, 0, 0, 0, 0, 0, 0, 0, 0, -1, none, 0, 0, [], [], q, f, hq, hf⟩
theorem op_cells (u : UV) (x : List UInt8) : u.cells.setIfInBounds 16 (.string (mkS x)) = ({ u with op := x } : UV).cells := by kernel_rfl
def UV.withUser (u : UV) (x y : List UInt8) : UV := { u with us := x, pa := y }
theorem user_cells (u : UV) (x y : List UInt8) : (u.cells.setIfInBounds 1 (.string (mkS x))).setIfInBounds 2 (.string (mkS y)) = (u.withUser x y).cells := by kernel_rfl
theorem path_cells (u : UV) (a : Option Addr) (n c : Nat) (xs : List (List UInt8)) : u.cells.setIfInBounds 15 (.slice a n c) = ({ u with a := a, pn := n, pc := c, xs := xs } : UV).cells := by kernel_rfl
theorem CutPre2_c (s : List UInt8) (w : World) : Calls Tryz.prog 110 #[.string (mkS s), .string ⟨#[47, 47]⟩] w fun e w' => (∃ x, e = .returned (.tuple #[.string (mkS x), .bool (PM.unslash2 s).isSome]) ∧ ∀ r, PM.unslash2 s = some r → x = r) ∧ w' = w := by
  have h := Tryz.strings_CutPrefix (mkS s) (mkS [47, 47]) w
  rw [mkS_data, mkS_data, (prefix_two s).1] at h
  exact h.mono fun e w' h => ⟨⟨_, h.1, (prefix_two s).2⟩, h.2⟩
theorem unslash2_len {s r : List UInt8} (h : PM.unslash2 s = some r) : r.length ≤ s.length := by
  unfold PM.unslash2 at h
  split at h
  · simp at h
    subst h
    simp
    omega
  · cases h
theorem zrd (W : World) : RdS W none 0 [] := ⟨rfl, by decide, .inl rfl⟩
/-- What parse leaves. -/
def ParsePost (o : Option PM.Url) (B : Nat) (e : Ending) (w' : World) : Prop := match o with
  | some p => ∃ v : UV, e = .returned (.agg v.cells) ∧ v.pm = p ∧ From B v.a v.xs ∧ (p.path.length ≤ 10000 → v.Ok w')
  | none => e = wrongP
set_option maxRecDepth 100000 in
set_option maxHeartbeats 1000000 in
theorem Uparse_c (s : List UInt8) (hs : s.length ≤ 30000) (w : World) (hg : Gl w) : Calls Tryz.prog 81 #[.string (mkS s)] w fun e w' => ParsePost (PM.parseC s) w.heap.size e w' ∧ Below w.heap.size w w' := by
  have hC : PM.parseC s = if !(PM.scheme s).2.2 || !(decide (0 < PM.web (PM.scheme s).1) || PM.opq (PM.scheme s).1) then none else PM.parseT (PM.scheme s).1 (PM.tail (PM.scheme s).2.1) := rfl
  have hl1 := PM.scheme_len s
  have hl2 := PM.tail_len (PM.scheme s).2.1
  have hwo : PM.web (PM.scheme s).1 ≠ 0 → PM.opq (PM.scheme s).1 = false := fun h => PM.opq_of_web h
  have hwn := PM.web_nonneg (PM.scheme s).1
  obtain ⟨sch, rest, is, hsc⟩ : ∃ sch rest is, PM.scheme s = (sch, rest, is) := ⟨_, _, _, rfl⟩
  have hS := fun W hg => Scheme_c s (by omega) W hg
  rw [hsc] at hS hC hl1 hl2 hwo hwn
  dsimp only at hS hC hl1 hl2 hwo hwn
  obtain ⟨t, q, f, hq, hf, htl⟩ : ∃ t q f hq hf, PM.tail rest = (t, q, f, hq, hf) := ⟨_, _, _, _, _, rfl⟩
  have hT := fun W hg => Tail_c rest (by omega) W hg
  rw [htl] at hT hC hl2
  dsimp only at hT hl2
  have hW := fun W => Web_c sch W
  have hO := fun W => opaque_c sch W
  have hTx : PM.parseT sch (t, q, f, hq, hf) = if PM.opq sch then some (PM.parseOpq sch t q f hq hf) else PM.parseWeb sch t q f hq hf := rfl
  rw [hTx] at hC
  clear hTx
  obtain ⟨wp, hwp⟩ : ∃ wp, PM.web sch = wp := ⟨_, rfl⟩
  obtain ⟨op, hop⟩ : ∃ op, PM.opq sch = op := ⟨_, rfl⟩
  rw [hwp] at hW hC hwo hwn
  rw [hop] at hO hC hwo
  have HS := Lib.hid hS
  have HT := Lib.hid hT
  have HW := Lib.hid hW
  have HO := Lib.hid hO
  have HC := Lib.hid hC
  have hQ2 := fun W => Encode_c q 2 (by simp) W (by omega)
  have hF1 := fun W => Encode_c f 1 (by simp) W (by omega)
  obtain ⟨eq2, heq2⟩ : ∃ x, PM.encode 2 q = x := ⟨_, rfl⟩
  obtain ⟨ef1, hef1⟩ : ∃ x, PM.encode 1 f = x := ⟨_, rfl⟩
  rw [heq2] at hQ2
  rw [hef1] at hF1
  have HQ2 := Lib.hid hQ2
  have HF1 := Lib.hid hF1
  have HE2 := Lib.hid heq2
  have HE1 := Lib.hid hef1
  clear hQ2 hF1 heq2 hef1
  have HT1 := Lib.hid (fun W => Encode_c t 1 (by simp) W (by omega))
  have hR : Hid ((w.alloc (.cells zurl 27)).heap[w.heap.size]? = some (.cells zurl 27 (0, 0))) := Lib.hid (Go.heap_alloc_new _ _)
  have hB : Hid (Below w.heap.size w (w.alloc (.cells zurl 27))) := Lib.hid (b_alloc (Below.refl _ _) _)
  have HG := Lib.hid (hg.below hB.out)
  unfold zurl at hR hB HG
  have HGw := Lib.hid hg
  clear hg hS hT hW hO hC hsc htl hwp hop
  go_enter Tryz.func81, Tryz.ntmps81
  go_upto_region 1 with fail
  generalize w.alloc (.cells #[.string ⟨#[]⟩, .string ⟨#[]⟩, .string ⟨#[]⟩, .int .i64 0, .string ⟨#[]⟩, .int .i64 0, .int .i64 0, .int .i64 0, .int .i64 0, .int .i64 0, .int .i64 0, .int .i64 0, .int .i64 0, .int .i64 0, .int .i64 0, .slice none 0 0, .string ⟨#[]⟩, .string ⟨#[]⟩, .string ⟨#[]⟩, .bool false, .bool false] 27) = V0 at hR hB HG ⊢
  go_upto_region 2 with (first
    | (go_at_call 98; refine (HS.out _ HG.out).mono ?_; rintro e w1 ⟨rfl, hb1⟩))
  replace hR := Lib.hid (obj_b hb1 hR.out)
  replace hB := Lib.hid (b_then hB.out hb1)
  replace HG := Lib.hid (HG.out.below hb1)
  clear hb1
  go_cut [] (fun wr => Hid (is = true ∧ (0 < wp ∨ op = true)) ∧ Hid (Below w1.heap.size w1 wr))
  case first =>
    cases is
    · go_wp2_with (first
        | (go_at_call 109; refine (Must_f _).mono ?_; rintro e w2 ⟨rfl, rfl⟩))
      exact ⟨rfl, by rw [HC.out]; rfl, hB.out⟩
    · by_cases h0 : 0 < wp
      · go_wp2_with (first
          | (go_at_call 61; refine (HW.out _).mono ?_; rintro e w2 ⟨rfl, rfl⟩)
          | (go_at_call 109; refine (Must_t _).mono ?_; rintro e w3 ⟨rfl, rfl⟩))
        go_meet
        exact ⟨Lib.hid (by simp [h0]), Lib.hid (Below.refl _ _)⟩
      · obtain rfl : wp = 0 := by omega
        cases op
        · go_wp2_with (first
            | (go_at_call 61; refine (HW.out _).mono ?_; rintro e w2 ⟨rfl, rfl⟩)
            | (go_at_call 76; refine (HO.out _).mono ?_; rintro e w3 ⟨rfl, hb3⟩)
            | (go_at_call 109; refine (Must_f _).mono ?_; rintro e w4 ⟨rfl, rfl⟩))
          exact ⟨rfl, by rw [HC.out]; rfl, b_then hB.out hb3⟩
        · go_wp2_with (first
            | (go_at_call 61; refine (HW.out _).mono ?_; rintro e w2 ⟨rfl, rfl⟩)
            | (go_at_call 76; refine (HO.out _).mono ?_; rintro e w3 ⟨rfl, hb3⟩)
            | (go_at_call 109; refine (Must_t _).mono ?_; rintro e w4 ⟨rfl, rfl⟩))
          go_meet
          exact ⟨Lib.hid (by simp), Lib.hid hb3⟩
  case rest =>
    obtain ⟨hgo, hbc⟩ := hcut
    obtain ⟨his, hg2⟩ := hgo.out
    subst his
    have hCC : PM.parseC s = if op = true then some (PM.parseOpq sch t q f hq hf) else PM.parseWeb sch t q f hq hf := by
      rw [HC.out]
      rcases hg2 with h | h
      · simp [h]
      · simp [h]
    replace HC := Lib.hid hCC
    clear hCC
    replace hR := Lib.hid (obj_b hbc.out hR.out)
    replace hB := Lib.hid (b_then hB.out hbc.out)
    replace HG := Lib.hid (HG.out.below hbc.out)
    clear hbc
    go_upto_region 4 with (first
      | (go_at_call 34; refine (HT.out _ HG.out).mono ?_; rintro e w2 ⟨rfl, hb2⟩))
    replace hR := Lib.hid (obj_b hb2 hR.out)
    replace hB := Lib.hid (b_then hB.out hb2)
    replace HG := Lib.hid (HG.out.below hb2)
    clear hb2
    go_wp2_with fail
    refine (HQ2.out _).mono ?_
    rintro e w3 ⟨rfl, hb3⟩
    go_wp2_with fail
    refine (HF1.out _).mono ?_
    rintro e w4 ⟨rfl, hb4⟩
    have HN := Lib.hid (Go.heap_alloc_new w4 (.cells zurl 27))
    go_upto_region 5 with (refine wpList_store_row rfl 27 _ _ rfl w4.heap.size (pu0 sch eq2 ef1 hq hf).cells rfl rfl 27 _ HN.out (by kernel_rfl) rfl (agg_one _) ?_)
    obtain ⟨V1, hV1⟩ : ∃ V1, V1 = (w4.alloc (.cells #[.string ⟨#[]⟩, .string ⟨#[]⟩, .string ⟨#[]⟩, .int .i64 0, .string ⟨#[]⟩, .int .i64 0, .int .i64 0, .int .i64 0, .int .i64 0, .int .i64 0, .int .i64 0, .int .i64 0, .int .i64 0, .int .i64 0, .int .i64 0, .slice none 0 0, .string ⟨#[]⟩, .string ⟨#[]⟩, .string ⟨#[]⟩, .bool false, .bool false] 27)).setRow w4.heap.size (pu0 sch eq2 ef1 hq hf).cells := ⟨_, rfl⟩
    rw [← hV1]
    have hU : Hid (V1.heap[w4.heap.size]? = some (.cells (pu0 sch eq2 ef1 hq hf).cells 27 (0, 0))) := Lib.hid (by rw [hV1]; exact heap_setRow (Go.heap_alloc_new _ _) _)
    have hb6 : Below w4.heap.size w4 V1 := by rw [hV1]; exact below_setRow (b_alloc (Below.refl _ _) _) (Nat.le_refl _) _
    have hb7 := b_then hb3 (b_then hb4 hb6)
    have hRu : w.heap.size < w4.heap.size := by have := h_lt hR.out; have := (b_then hb3 hb4).size; omega
    replace hR := Lib.hid (obj_b hb7 hR.out)
    replace hB := Lib.hid (b_then hB.out hb7)
    replace HG := Lib.hid (HG.out.below hb7)
    clear hV1 hb3 hb4 hb6 hb7 HN
    generalize w4.heap.size = ub at hU hRu ⊢
    go_wp2_with fail
    refine (HO.out _).mono ?_
    rintro e w5 ⟨rfl, hb5⟩
    replace hR := Lib.hid (obj_b hb5 hR.out)
    replace hU := Lib.hid (obj_b hb5 hU.out)
    replace hB := Lib.hid (b_then hB.out hb5)
    replace HG := Lib.hid (HG.out.below hb5)
    clear hb5
    have hHRz : Hid (w5.heap[w.heap.size]? = some (.cells zurl 27 (0, 0))) := hR
    clear hR
    cases op
    · have hW0 : PM.parseC s = PM.parseWeb sch t q f hq hf := by rw [HC.out]; simp
      replace HC := Lib.hid hW0
      clear hW0
      have hCP := fun W => CutPre2_c t W
      obtain ⟨ou, hun⟩ : ∃ ou, PM.unslash2 t = ou := ⟨_, rfl⟩
      have htl : ∀ r, ou = some r → r.length ≤ t.length := fun r hr => unslash2_len (hun.trans hr)
      rw [hun] at hCP
      have HUN := Lib.hid hun
      have HCP := Lib.hid hCP
      have HTL := Lib.hid htl
      clear hun hCP htl HT1 HO HQ2 HF1 HT HS HW
      cases ou with
      | none =>
        go_wp2_with fail
        refine (HCP.out _).mono ?_
        rintro e w6 ⟨⟨x, rfl, _⟩, rfl⟩
        go_wp2_with (first
          | (go_at_call 109; refine (Must_f _).mono ?_; rintro e w7 ⟨rfl, rfl⟩))
        exact ⟨rfl, by rw [HC.out]; unfold PM.parseWeb; rw [HUN.out]; rfl, hB.out⟩
      | some t1 =>
        have hl3 := HTL.out _ rfl
        have hPW : PM.parseC s = match PM.hostParse (PM.doorName (PM.doorOf (PM.where_ t1))), PM.portOf sch (PM.doorPort (PM.doorOf (PM.where_ t1))) with
          | some h, some p => some ⟨sch, PM.userOf (PM.where_ t1), PM.passOf (PM.where_ t1), h, p, PM.pathParse (t1.dropWhile (· != 47)), [], eq2, ef1, hq, hf⟩
          | _, _ => none := by
          rw [HC.out, ← HE2.out, ← HE1.out]
          unfold PM.parseWeb
          rw [HUN.out]
          rfl
        replace HC := Lib.hid hPW
        clear hPW
        go_wp2_with fail
        refine (HCP.out _).mono ?_
        rintro e w6 ⟨⟨x, rfl, hx⟩, hw6⟩
        have hw6' := hw6.symm
        subst hw6'
        have hx' := (hx _ rfl).symm
        subst hx'
        clear hw6 hx HTL HCP HUN
        have hIB := fun W => IndexByte_c t1 47 W
        have HIB := Lib.hid hIB
        clear hIB
        go_upto_region 12 with (first
          | (go_at_call 109; refine (Must_t _).mono ?_; rintro e w7 ⟨rfl, hw7⟩; have hw7' := hw7.symm; subst hw7'; clear hw7)
          | (go_at_call 111; refine (HIB.out _).mono ?_; rintro e w8 ⟨rfl, hw8⟩; have hw8' := hw8.symm; subst hw8'; clear hw8))
        go_upto_if 68 with fail
        go_cut [12, 6, 13] (fun wh tt ii wr => wh = .string (mkS (PM.where_ t1)) ∧ tt = .string (mkS (t1.dropWhile (· != 47))) ∧ Hid (Below w5.heap.size w5 wr))
        case first =>
          rcases Bool.eq_false_or_eq_true (PM.has t1 47) with hh | hh
          · obtain ⟨i, h1, h2, h3, h4⟩ := (where_idx t1).1 hh
            rw [h1]
            have H3 := Lib.hid h3
            have H4 := Lib.hid h4
            have hbi : (i : Int) ≤ (t1.length : Int) := by omega
            clear h1 h3 h4
            go_wp2
            go_region
            go_wp2
            go_meet
            exact ⟨by rw [H3.out], by rw [H4.out], Lib.hid (b_drew (Below.refl _ _))⟩
          · obtain ⟨h1, h3, h4⟩ := (where_idx t1).2 hh
            rw [h1]
            have H3 := Lib.hid h3
            have H4 := Lib.hid h4
            clear h1 h3 h4
            go_wp2
            go_meet
            exact ⟨by rw [H3.out], by rw [H4.out]; rfl, Lib.hid (Below.refl _ _)⟩
        case rest =>
          obtain ⟨rfl, rfl, hbc⟩ := hcut
          replace hHRz := Lib.hid (obj_b hbc.out hHRz.out)
          replace hU := Lib.hid (obj_b hbc.out hU.out)
          replace hB := Lib.hid (b_then hB.out hbc.out)
          replace HG := Lib.hid (HG.out.below hbc.out)
          clear hbc
          have hwl : (PM.where_ t1).length ≤ t1.length := tw_le t1 47
          have hpl : (t1.dropWhile (· != 47)).length ≤ t1.length := (List.dropWhile_sublist _).length_le
          obtain ⟨wh, hwh⟩ : ∃ x, PM.where_ t1 = x := ⟨_, rfl⟩
          obtain ⟨pt, hpt⟩ : ∃ x, t1.dropWhile (· != 47) = x := ⟨_, rfl⟩
          rw [hwh] at HC hwl ⊢
          rw [hpt] at HC hpl ⊢
          clear hwh hpt HIB
          have HLI := Lib.hid (fun W => Tryz.strings_LastIndexByte (mkS wh) 64 (by rw [mkS_size]; omega) W)
          go_upto_if 78 with (first
            | (go_at_call 112; refine (HLI.out _).mono ?_; rintro e w8 ⟨rfl, hw8⟩; have hw8' := hw8.symm; subst hw8'; clear hw8))
          go_cut [12, 14, 15, 16, 17] (fun wh2 ii us pa bb wr => wh2 = .string (mkS (PM.doorOf wh)) ∧ Hid (wr.heap[ub]? = some (.cells ((pu0 sch eq2 ef1 hq hf).withUser (PM.userOf wh) (PM.passOf wh)).cells 27 (0, 0))) ∧ Hid (wr.heap[w.heap.size]? = some (.cells zurl 27 (0, 0))) ∧ Hid (Below w.heap.size w wr))
          case first =>
            rcases Bool.eq_false_or_eq_true (PM.hasAt wh) with hh | hh
            · obtain ⟨k, h1, h2, h3, h4⟩ := (last_at wh).1 hh
              rw [h1]
              have hdo : PM.doorOf wh = wh.drop (k + 1) := by unfold PM.doorOf; rw [if_pos hh, h4]
              have huo : PM.userOf wh = PM.encode 4 (PM.cut 58 (wh.take k)).1 := by unfold PM.userOf; rw [if_pos hh, h3]
              have hpo : PM.passOf wh = PM.encode 4 (PM.cut 58 (wh.take k)).2.1 := by unfold PM.passOf; rw [if_pos hh, h3]
              have hcl := PM.cut_len 58 (wh.take k)
              have htk : (wh.take k).length ≤ wh.length := by simp; omega
              have hCu := fun W hg => Cut_c (wh.take k) 58 ⟨#[58]⟩ rfl (by omega) W hg
              obtain ⟨us, pa, bb, hcu⟩ : ∃ us pa bb, PM.cut 58 (wh.take k) = (us, pa, bb) := ⟨_, _, _, rfl⟩
              rw [hcu] at hCu hcl huo hpo
              dsimp only at hCu hcl huo hpo
              have HDO := Lib.hid hdo
              have HUO := Lib.hid huo
              have HPO := Lib.hid hpo
              have HCU := Lib.hid hCu
              have HEU := Lib.hid (fun W => Encode_c us 4 (by simp) W (by omega))
              have HEP := Lib.hid (fun W => Encode_c pa 4 (by simp) W (by omega))
              have hbk : (k : Int) ≤ (wh.length : Int) := by omega
              have hbk2 : (k : Int) + 1 ≤ (wh.length : Int) := by omega
              have hwr : IntKind.i64.wrap ((k : Int) + 1) = (k : Int) + 1 := by rw [IntKind.wrap_i64]; omega
              have h01 : (0 : Int) ≤ (k : Int) + 1 := by omega
              have htn : ((k : Int) + 1).toNat = k + 1 := by omega
              clear hdo huo hpo hCu h1 h3 h4 hcu
              go_wp2_with (first
                | (go_at_call 62; refine (HCU.out _ HG.out).mono ?_; rintro e w9 ⟨rfl, hb9⟩))
              have hU9 := Lib.hid (obj_b hb9 hU.out)
              have hR9 := Lib.hid (obj_b hb9 hHRz.out)
              have hB9 := Lib.hid (b_then hB.out hb9)
              have hG9 := Lib.hid (HG.out.below hb9)
              clear hb9
              go_region_law (first
                | (go_simp; go_at_call 102; with_reducible refine (HEU.out _).mono ?_; rintro e w10 ⟨rfl, hb10⟩)
                | (go_simp; go_at_call 102; with_reducible refine (HEP.out _).mono ?_; rintro e w11 ⟨rfl, hb11⟩; have hU11 := Lib.hid (obj_b hb11 (obj_b hb10 (obj_b (b_drew (Below.refl _ _)) hU9.out))); have c1 : w11.cell? ⟨ub, 1, none⟩ = some (.string (mkS [])) := (Lib.cell_of_heap hU11.out 1).trans rfl; have c2 : w11.cell? ⟨ub, 2, none⟩ = some (.string (mkS [])) := (Lib.cell_of_heap hU11.out 2).trans rfl; have f1 := Lib.frozen_of_heap hU11.out 1; have f2 := Lib.frozen_of_heap hU11.out 2))
              have hR11 := obj_b hb11 (obj_b hb10 (obj_b (b_drew (Below.refl _ _)) hR9.out))
              have hB11 := b_then (b_drew hB9.out) (b_then hb10 hb11)
              have hG11 := hG9.out.below (b_then (b_drew (Below.refl _ _)) (b_then hb10 hb11))
              have HR11 := Lib.hid hR11
              have HB11 := Lib.hid hB11
              have HG11 := Lib.hid hG11
              clear hR11 hB11 hG11 hb10 hb11
              go_wp2
              go_meet
              refine ⟨by rw [HDO.out], Lib.hid ?_, Lib.hid ?_, Lib.hid ?_⟩
              · rw [HUO.out, HPO.out, ← user_cells]
                exact setCell_heap (setCell_heap hU11.out 1 _) 2 _
              · exact heap_set_other (heap_set_other HR11.out _ _ _ (by omega)) _ _ _ (by omega)
              · exact b_set (b_set HB11.out _ (show w.heap.size ≤ ub by omega) _) _ (show w.heap.size ≤ ub by omega) _
            · have h1 := (last_at wh).2 hh
              rw [h1]
              have hdo : PM.doorOf wh = wh := by unfold PM.doorOf; rw [if_neg (by rw [hh]; decide)]
              have huo : PM.userOf wh = [] := by unfold PM.userOf; rw [if_neg (by rw [hh]; decide)]
              have hpo : PM.passOf wh = [] := by unfold PM.passOf; rw [if_neg (by rw [hh]; decide)]
              have HDO := Lib.hid hdo
              have HUO := Lib.hid huo
              have HPO := Lib.hid hpo
              clear hdo huo hpo h1
              go_wp2
              go_meet
              exact ⟨by rw [HDO.out], by rw [HUO.out, HPO.out]; exact hU, hHRz, hB⟩
          case rest =>
            obtain ⟨rfl, hU2, hR2, hB2⟩ := hcut
            have hwd : (PM.doorOf wh).length ≤ 1000000 := by
              unfold PM.doorOf
              split
              · rename_i hh
                obtain ⟨k, _, _, _, h4⟩ := (last_at wh).1 hh
                rw [h4, List.length_drop]
                omega
              · omega
            have hD := UDoor_c ((pu0 sch eq2 ef1 hq hf).withUser (PM.userOf wh) (PM.passOf wh)) rfl ub (PM.doorOf wh) hwd wc (HGw.out.below hB2.out) hU2.out
            have hsc2 : ((pu0 sch eq2 ef1 hq hf).withUser (PM.userOf wh) (PM.passOf wh)).sc = sch := rfl
            rw [hsc2] at hD
            obtain ⟨oh, hoh⟩ : ∃ oh, PM.hostParse (PM.doorName (PM.doorOf wh)) = oh := ⟨_, rfl⟩
            obtain ⟨op2, hop2⟩ : ∃ op2, PM.portOf sch (PM.doorPort (PM.doorOf wh)) = op2 := ⟨_, rfl⟩
            have hdn := PM.doorName_len (PM.doorOf wh)
            rw [hoh, hop2] at hD HC
            have HOH := Lib.hid hoh
            clear hoh hop2
            have hnone : (oh = none ∨ op2 = none) → PM.parseC s = none ∧ ∀ e w', DoorPost ((pu0 sch eq2 ef1 hq hf).withUser (PM.userOf wh) (PM.passOf wh)) ub oh op2 e w' → e = wrongP := by
              rintro (rfl | rfl)
              · exact ⟨HC.out, fun e w' h => h⟩
              · refine ⟨?_, fun e w' h => ?_⟩
                · rw [HC.out]
                  cases oh <;> rfl
                · cases oh <;> exact h
            by_cases hno : oh = none ∨ op2 = none
            · obtain ⟨hn1, hn2⟩ := hnone hno
              have HN1 := Lib.hid hn1
              have HD : Hid (Calls Tryz.prog 113 #[.pointer (some ⟨ub, 0, none⟩), .string (mkS (PM.doorOf wh))] wc fun e w' => e = .panicked [{ v := .iface 108 (.agg #[]), recovered := false }] ∧ ∀ B, B ≤ ub → Below B wc w') := Lib.hid (hD.mono fun e w' h => ⟨hn2 e w' h.1, h.2⟩)
              clear hD hn1 hn2 hnone hno HC
              go_wp2_with (first
                | (go_at_call 113; refine HD.out.mono ?_; rintro e w9 ⟨rfl, hbd⟩))
              exact ⟨rfl, by rw [HN1.out]; rfl, hB2.out.trans (hbd _ (by omega))⟩
            · obtain ⟨h, rfl⟩ : ∃ h, oh = some h := by cases oh with
                | none => exact absurd (.inl rfl) hno
                | some h => exact ⟨h, rfl⟩
              obtain ⟨p, rfl⟩ : ∃ p, op2 = some p := by cases op2 with
                | none => exact absurd (.inr rfl) hno
                | some p => exact ⟨p, rfl⟩
              clear hnone hno
              have HD := Lib.hid hD
              clear hD
              go_wp2_with fail
              refine HD.out.mono ?_
              rintro e w9 ⟨⟨rfl, hU3⟩, hbd⟩
              have hB3 := Lib.hid (hB2.out.trans (hbd _ (Nat.le_of_lt hRu)))
              have hR3 : Hid (w9.heap[w.heap.size]? = some (.cells zurl 27 (0, 0))) := Lib.hid (((hbd ub (Nat.le_refl _)).block _ hRu).trans hR2.out)
              have HU3 := Lib.hid hU3
              clear hbd hU3 HD hU2 hR2 hB2
              have hPP := PathParse_c pt (by omega) w9 (HGw.out.below hB3.out)
              have hpp := pathParse_len pt
              have HPP := Lib.hid hPP
              clear hPP
              go_wp2_with fail
              refine HPP.out.mono ?_
              rintro e w10 ⟨v, rfl, hown, hb10⟩
              obtain ⟨a, c, rfl, hrd, hfr⟩ := own_rdS hown rfl (by omega)
              have hU4 := obj_b hb10 HU3.out
              have c15 : w10.cell? ⟨ub, 15, none⟩ = some (.slice none 0 0) := by rw [Lib.cell_of_heap hU4]; rfl
              have f15 := Lib.frozen_of_heap hU4 15
              have hub9 := h_lt HU3.out
              have HR4 := Lib.hid (obj_b hb10 hR3.out)
              have HB4 := Lib.hid (b_then hB3.out hb10)
              have HRD := Lib.hid hrd
              have HFR := Lib.hid hfr
              have HU4 := Lib.hid hU4
              clear hU4 hrd hfr hown hb10 HPP HU3 hR3 hB3
              go_upto_region 21 with fail
              obtain ⟨V7, hV7⟩ : ∃ V7, V7 = w10.setCell ⟨ub, 15, none⟩ (.slice a (PM.pathParse pt).length c) := ⟨_, rfl⟩
              rw [← hV7]
              obtain ⟨v, hv⟩ : ∃ v : UV, v = { ((pu0 sch eq2 ef1 hq hf).withUser (PM.userOf wh) (PM.passOf wh)).withDoor h p with a := a, pn := (PM.pathParse pt).length, pc := c, xs := PM.pathParse pt } := ⟨_, rfl⟩
              have hU7 : V7.heap[ub]? = some (.cells v.cells 27 (0, 0)) := by
                rw [hV7, hv, ← path_cells]
                exact setCell_heap HU4.out 15 _
              have hR7 : V7.heap[w.heap.size]? = some (.cells zurl 27 (0, 0)) := by
                rw [hV7]
                exact heap_set_other HR4.out _ _ _ (by omega)
              have hB7 : Below w.heap.size w V7 := by
                rw [hV7]
                exact b_set HB4.out _ (show w.heap.size ≤ ub by omega) _
              have hrd7 : RdS V7 a (PM.pathParse pt).length (PM.pathParse pt) := by
                rw [hV7]
                refine HRD.out.frame (by simp) fun g o e hx => ?_
                have hg := HFR.out g o e hx
                exact heap_set_other rfl _ _ _ (by omega)
              have HRD7 := Lib.hid hrd7
              clear hV7 c15 f15 hrd7
              have HV := Lib.hid hv
              clear hv
              go_wp2_with (first
                | (refine wpList_load_row rfl 27 _ rfl ub rfl 27 _ (0, 0) _ hU7 Tryz.underlying27 rfl (by kernel_rfl) ?_)
                | (refine wpList_store_row rfl 27 _ _ rfl w.heap.size v.cells rfl rfl 27 _ hR7 (by kernel_rfl) rfl (agg_one v) ?_))
              refine bodyPost_ret (results_cell_row (fr := (0, 0)) rfl _ _ w.heap.size 27 v.cells _ rfl (heap_setRow hR7 _) Tryz.underlying27 rfl (by kernel_rfl)) rfl ?_
              refine ⟨?_, below_setRow hB7 (Nat.le_refl _) _⟩
              rw [HC.out]
              refine ⟨v, rfl, ?_, by rw [HV.out]; exact fun g o e hx => Nat.le_trans (Nat.le_of_lt (Nat.lt_trans hRu hub9)) (HFR.out g o e hx), fun hlen => ?_⟩
              · rw [HV.out]
                obtain ⟨p0, p1, p2, p3, p4, p5, p6, p7, h6⟩ := eight (PM.hostParse_may HOH.out).2
                obtain ⟨hk, hn, hm, hs6⟩ := h
                dsimp only at h6
                subst h6
                rfl
              · have e1 := PM.encode_len 2 q
                have e2 := PM.encode_len 1 f
                have e3 := PM.hostParse_len HOH.out
                have e4 : (PM.userOf wh).length ≤ 1000000 ∧ (PM.passOf wh).length ≤ 1000000 := by
                  have := PM.cut_len 58 (PM.aheadAt wh)
                  have h1 : (PM.aheadAt wh).length ≤ wh.length := by
                    unfold PM.aheadAt
                    rw [List.length_reverse, List.length_drop]
                    have := (List.dropWhile_sublist (l := wh.reverse) (· != 64)).length_le
                    rw [List.length_reverse] at this
                    omega
                  have h2 := PM.encode_len 4 (PM.cut 58 (PM.aheadAt wh)).1
                  have h3 := PM.encode_len 4 (PM.cut 58 (PM.aheadAt wh)).2.1
                  unfold PM.userOf PM.passOf
                  constructor <;> split <;> first | omega | simp
                rw [HE2.out] at e1
                rw [HE1.out] at e2
                rw [HV.out]
                refine ⟨by simp [pu0, UV.withUser, UV.withDoor]; omega, by simp [pu0, UV.withUser, UV.withDoor]; omega, by simp [pu0, UV.withUser, UV.withDoor]; omega, by simp [pu0, UV.withUser, UV.withDoor]; omega, by simp [pu0, UV.withUser, UV.withDoor], by simp [pu0, UV.withUser, UV.withDoor]; omega, by simp [pu0, UV.withUser, UV.withDoor]; omega, hlen, fun x hx => by have := hpp.2 x hx; omega, ?_⟩
                refine HRD7.out.frame (by simp [World.setRow]) fun g o e hx => ?_
                have hg := HFR.out g o e hx
                simp [World.setRow, Array.getElem?_modify, show w.heap.size ≠ g by omega]
    · obtain ⟨et1, het1⟩ : ∃ x, PM.encode 1 t = x := ⟨_, rfl⟩
      rw [het1] at HT1
      have HET := Lib.hid het1
      clear het1
      go_wp2_with fail
      refine (HT1.out _).mono ?_
      rintro e w6 ⟨rfl, hb6⟩
      have hU6 := obj_b hb6 hU.out
      have c16 : w6.cell? ⟨ub, 16, none⟩ = some (.string (mkS [])) := by rw [Lib.cell_of_heap hU6]; rfl
      have f16 := Lib.frozen_of_heap hU6 16
      have hR6 := obj_b hb6 hHRz.out
      go_upto_region 7 with fail
      obtain ⟨V7, hV7⟩ : ∃ V7, V7 = w6.setCell ⟨ub, 16, none⟩ (.string (mkS et1)) := ⟨_, rfl⟩
      rw [← hV7]
      obtain ⟨v, hv⟩ : ∃ v : UV, v = { pu0 sch eq2 ef1 hq hf with op := et1 } := ⟨_, rfl⟩
      have hU7 : V7.heap[ub]? = some (.cells v.cells 27 (0, 0)) := by
        rw [hV7, hv, ← op_cells]
        exact setCell_heap hU6 16 _
      have hR7 : V7.heap[w.heap.size]? = some (.cells zurl 27 (0, 0)) := by
        rw [hV7]
        exact heap_set_other hR6 _ _ _ (by omega)
      have hB7 : Below w.heap.size w V7 := by
        rw [hV7]
        exact b_set (b_then hB.out hb6) _ (show w.heap.size ≤ ub by omega) _
      clear hV7 hU6 hR6 c16 f16 hb6
      have HV := Lib.hid hv
      clear hv
      go_wp2_with (first
        | (refine wpList_load_row rfl 27 _ rfl ub rfl 27 _ (0, 0) _ hU7 Tryz.underlying27 rfl (by kernel_rfl) ?_)
        | (refine wpList_store_row rfl 27 _ _ rfl w.heap.size v.cells rfl rfl 27 _ hR7 (by kernel_rfl) rfl (agg_one v) ?_))
      refine bodyPost_ret (results_cell_row (fr := (0, 0)) rfl _ _ w.heap.size 27 v.cells _ rfl (heap_setRow hR7 _) Tryz.underlying27 rfl (by kernel_rfl)) rfl ?_
      refine ⟨?_, below_setRow hB7 (Nat.le_refl _) _⟩
      rw [HC.out, if_pos trivial]
      refine ⟨v, rfl, ?_, by rw [HV.out]; exact fun g o e => (by cases e), fun _ => ?_⟩
      · rw [HV.out]
        unfold PM.parseOpq
        rw [HE2.out, HE1.out, HET.out]
        rfl
      · have e1 := PM.encode_len 2 q
        have e2 := PM.encode_len 1 f
        have e3 := PM.encode_len 1 t
        rw [HE2.out] at e1
        rw [HE1.out] at e2
        rw [HET.out] at e3
        rw [HV.out]
        exact ⟨by simp [pu0]; omega, by simp [pu0], by simp [pu0], by simp [pu0], by simp; omega, by simp [pu0]; omega, by simp [pu0]; omega, by simp [pu0], by simp [pu0], zrd _⟩
end Go.Proofs.YtppbkblnjlbnfaaGreatDoor
