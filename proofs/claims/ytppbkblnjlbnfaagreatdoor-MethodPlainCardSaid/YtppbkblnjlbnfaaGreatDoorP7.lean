import Derived.Test.YtppbkblnjlbnfaaGreatDoorP6
/-! Contracts: path.split, Norm, Parse. -/
set_option linter.unusedVariables false
namespace Go.Proofs.YtppbkblnjlbnfaaGreatDoor
open Go.RowKit
theorem trim_slash (s : List UInt8) : Lib.trimPrefix s [47] = PM.unslash s := by
  rw [(prefix_one 47 s).2]
  cases s with
  | nil => rfl
  | cons x r =>
    by_cases hx : x = 47
    · subst hx
      rfl
    · rw [if_neg (by simpa using hx)]
      unfold PM.unslash
      split
      · rename_i h
        injection h with h _
        exact absurd h hx
      · rfl
theorem unslash_len (s : List UInt8) : (PM.unslash s).length ≤ s.length := by
  unfold PM.unslash
  split <;> simp
theorem TrimSlash_c (s : List UInt8) (w : World) : Calls Tryz.prog 162 #[.string (mkS s), .string ⟨#[47]⟩] w fun e w' => e = .returned (.string (mkS (PM.unslash s))) ∧ w' = w := by
  have h := Tryz.strings_TrimPrefix (mkS s) (mkS [47]) w
  rw [mkS_data, mkS_data, trim_slash] at h
  exact h
set_option maxHeartbeats 1000000 in
theorem PathSplit_c (s : List UInt8) (hs : s.length ≤ 1000000) (w : World) (hg : Gl w) : Calls Tryz.prog 131 #[.string (mkS s)] w fun e w' => ∃ B, e = .returned (.slice (some ⟨B, 0, none⟩) (PM.pathSplit s).length (PM.pathSplit s).length) ∧ w.heap.size ≤ B ∧ Below w.heap.size w w' ∧ RdS w' (some ⟨B, 0, none⟩) (PM.pathSplit s).length (PM.pathSplit s) := by
  have hu := unslash_len s
  have he := PM.encode_len 3 (PM.unslash s)
  have hsl := (splitB_len 47 (PM.encode 3 (PM.unslash s))).1
  unfold PM.pathSplit
  go_enter Tryz.func131, Tryz.ntmps131
  go_wp2_with fail
  refine (TrimSlash_c s _).mono ?_
  rintro e w1 ⟨rfl, rfl⟩
  go_wp2_with fail
  refine (Encode_c _ 3 (by simp) _ (by omega)).mono ?_
  rintro e w2 ⟨rfl, hb⟩
  go_wp2_with fail
  refine (Split_c _ 47 ⟨#[47]⟩ rfl (by omega) _ (hg.below hb)).mono ?_
  rintro e w3 ⟨rfl, rfl⟩
  go_wp2_with fail
  go_ret
  refine ⟨_, rfl, hb.size, b_alloc hb _, rdS_new _ _ ?_⟩
  omega
/-- The box of what is put, and its row. -/
def NSt (b0 B : Nat) (xs : List (List UInt8)) (W : World) : Prop := ∃ v, Boxed W b0 25 v ∧ W.ownsRow B 9 1 v xs.length (strs xs)
def NFr (b0 B : Nat) (W W' : World) : Prop := KeepsOthers W W' ∧ Below B W W' ∧ ∀ k t u, k ≠ b0 → t ≠ 9 → Boxed W k t u → Boxed W' k t u
set_option maxRecDepth 100000 in
set_option maxHeartbeats 1000000 in
theorem NormPut_c (b0 B : Nat) (xs : List (List UInt8)) (W : World) (hs : NSt b0 B xs W) (hB : B ≤ b0) (hn : xs.length ≤ 10000000) (s : List UInt8) : Calls Tryz.prog 160 #[.string (mkS s), .pointer (some ⟨b0, 0, none⟩)] W fun e w' => (∃ u, e = .returned u) ∧ NSt b0 B (xs ++ [s]) w' ∧ NFr b0 B W w' := by
  obtain ⟨v, h, hown⟩ := hs
  have hc : W.cell? ⟨b0, 0, none⟩ = some v := h.cell
  have hBW : B ≤ W.heap.size := by have := h.lt; omega
  obtain ⟨i0, hi, hz0, hz1, hz2⟩ := info_parts infoText
  have HC := Lib.hid hown
  have H := Lib.hid h
  obtain ⟨va, vc, rfl⟩ := own_form hown
  clear hown h
  go_enter Tryz.func160, Tryz.ntmps160
  go_wp2_with (at_builtin; refine wpList_append_own_at _ rfl _ _ 25 rfl B 9 i0 (.string ⟨#[]⟩) 1 16 Tryz.underlying25 hi hz0 hz1 hz2 rfl (by decide) _ _ _ rfl (own_alloc HC.out _) ⟨W.heap.size, 0, none⟩ 1 1 [.string (mkS s)] rfl rfl (cell_one_new _ _ _) ?c2 ?c3 ?c4 ?c5 ?_)
  case c2 => intro u hu; simp at hu; subst hu; rfl
  case c3 => unfold maxLen; omega
  case c4 => omega
  case c5 => simp; omega
  intro v' w3 hown' hgrow _ hat
  have hap := H.out.appended (by decide) HC.out hBW hB hown' hgrow
  have hk : ∀ k t u, k ≠ b0 → t ≠ 9 → Boxed W k t u → Boxed (w3.setCell ⟨b0, 0, none⟩ v') k t u := fun k t u hne ht hbx => ((hbx.alloc _).kept hgrow (hbx.not_row ht HC.out)).other hne _
  obtain ⟨ua, uc, rfl⟩ := own_form hown'
  have hc3 := hap.1.cell
  have hc4 := hap.1.frozen
  have HA := Lib.hid hap
  have HK := Lib.hid hk
  clear hgrow hown' hat hc hap hk
  go_wp2_with fail
  go_end0
  refine ⟨⟨_, rfl⟩, ⟨_, HA.out.2.1, ?_⟩, HA.out.2.2.2.1, HA.out.2.2.2.2, HK.out⟩
  have := HA.out.2.2.1
  rw [strs_snoc] at this
  rw [List.length_append]
  exact this
open Go.Shelf
attribute [local go_sem] Oper.semAt_some
/-- One text less. -/
theorem own_cut {W : World} {B : Nat} {v : Value} {xs : List (List UInt8)} (h : W.ownsRow B 9 1 v xs.length (strs xs)) (hx : 0 < xs.length) : ∃ g cap, v = .slice (some ⟨g, 0, none⟩) xs.length cap ∧ xs.length ≤ cap ∧ W.ownsRow B 9 1 (.slice (some ⟨g, 0, none⟩) (xs.length - 1) cap) xs.dropLast.length (strs xs.dropLast) := by
  rcases h.2 with ⟨_, h0⟩ | ⟨g, cap, cur, rfl, hb, hg, h1, h2, h3, h4⟩
  · omega
  · refine ⟨g, cap, rfl, h1, by simp [strs], .inr ⟨g, cap, cur, by rw [List.length_dropLast], hb, hg, by rw [List.length_dropLast]; omega, h2, h3, ?_⟩⟩
    have h5 : strs xs.dropLast = (strs xs).dropLast := by simp [strs, List.map_dropLast]
    have h6 : (strs xs).length = xs.length := strs_len xs
    rw [h5, List.dropLast_eq_take (l := strs xs), h6, ← h4, List.take_take, List.length_dropLast]
    congr 1
    omega
theorem put_cut {b0 B : Nat} {W : World} {v : Value} (hb : Boxed W b0 25 v) (hB : B ≤ b0) {u : Value} {n : Nat} {ys : List Value} (ho : W.ownsRow B 9 1 u n ys) : Boxed (W.setCell ⟨b0, 0, none⟩ u) b0 25 u ∧ (W.setCell ⟨b0, 0, none⟩ u).ownsRow B 9 1 u n ys ∧ NFr b0 B W (W.setCell ⟨b0, 0, none⟩ u) :=
  ⟨hb.set u, ho.kept (grownBy_setCell' W b0 u) (.inr (hb.not_row (by decide) ho).symm), KeepsOthers.setCell _ _ _, (Below.refl B W).setCell (p := ⟨b0, 0, none⟩) hB u, fun k t v' hne _ h => h.other hne _⟩
theorem NFr.trans {b0 B : Nat} {W W1 W2 : World} (h : NFr b0 B W W1) (k : NFr b0 B W1 W2) : NFr b0 B W W2 := ⟨h.1.trans k.1, h.2.1.trans k.2.1, fun i t u h1 h2 h3 => k.2.2 i t u h1 h2 (h.2.2 i t u h1 h2 h3)⟩
theorem NFr.ofBelow {b0 B : Nat} {W W1 : World} (h : Below W.heap.size W W1) (hB : B ≤ W.heap.size) : NFr b0 B W W1 := ⟨⟨h.size, fun k o h1 _ => obj_b h h1⟩, h.mono hB, fun k t u _ _ h3 => obj_b h h3⟩
theorem NSt.below {b0 B : Nat} {xs : List (List UInt8)} {W W1 : World} (h : NSt b0 B xs W) (hb : Below W.heap.size W W1) : NSt b0 B xs W1 := by
  obtain ⟨v, h1, h2⟩ := h
  exact ⟨v, obj_b hb h1, own_keep h2 hb⟩
def nFold (pre : List Seg) : List (List UInt8) := pre.foldl (fun o x => PM.normStep o x.1.1 x.1.2) []
theorem nFold_snoc (pre : List Seg) (x : Seg) : nFold (pre ++ [x]) = PM.normStep (nFold pre) x.1.1 x.1.2 := by simp [nFold]
theorem normStep_len (o : List (List UInt8)) (s : List UInt8) (b : Bool) : (PM.normStep o s b).length ≤ o.length + 1 := by
  unfold PM.normStep
  split
  · simp
  · split <;> cases b <;> simp <;> omega
theorem nFold_len' (l : List Seg) (o : List (List UInt8)) : (l.foldl (fun o x => PM.normStep o x.1.1 x.1.2) o).length ≤ o.length + l.length := by
  induction l generalizing o with
  | nil => simp
  | cons x r ih =>
    have h1 := ih (PM.normStep o x.1.1 x.1.2)
    have h2 := normStep_len o x.1.1 x.1.2
    simp only [List.foldl_cons, List.length_cons]
    omega
theorem nFold_len (l : List Seg) : (nFold l).length ≤ l.length := by
  have := nFold_len' l []
  simpa [nFold] using this
def flags : List (List UInt8) → List (List UInt8 × Bool)
  | [] => []
  | [s] => [(s, true)]
  | s :: t :: r => (s, false) :: flags (t :: r)
theorem flags_len : ∀ xs : List (List UInt8), (flags xs).length = xs.length
  | [] => rfl
  | [_] => rfl
  | _ :: t :: r => by rw [flags, List.length_cons, flags_len (t :: r)]; rfl
theorem flags_at : ∀ (xs : List (List UInt8)) (k : Nat) (h : k < (flags xs).length) (h' : k < xs.length), (flags xs)[k] = (xs[k], (k : Int) == (xs.length : Int) - 1)
  | [], _, _, h' => by simp at h'
  | [s], k, _, h' => by
    obtain rfl : k = 0 := by simp at h'; omega
    rfl
  | s :: t :: r, 0, _, _ => by
    have : ((0 : Nat) : Int) ≠ (((s :: t :: r).length : Nat) : Int) - 1 := by simp only [List.length_cons]; omega
    show (s, false) = (s, _)
    rw [beq_eq_false_iff_ne.2 this]
  | s :: t :: r, k + 1, h, h' => by
    have h1 := flags_at (t :: r) k (by rw [flags_len]; simpa using h') (by simpa using h')
    show (flags (t :: r))[k]'_ = ((t :: r)[k]'_, _)
    rw [h1]
    congr 1
    rw [Bool.eq_iff_iff, beq_iff_eq, beq_iff_eq]
    simp only [List.length_cons]
    omega
theorem normGo_flags : ∀ (xs : List (List UInt8)) (o : List (List UInt8)), PM.normGo o xs = (flags xs).foldl (fun o x => PM.normStep o x.1 x.2) o
  | [], _ => rfl
  | [_], _ => rfl
  | s :: t :: r, o => by
    show PM.normGo (PM.normStep o s false) (t :: r) = _
    rw [normGo_flags (t :: r)]
    rfl
theorem nFold_full (xs : List (List UInt8)) (hM) : nFold (segL xs hM) = PM.norm xs := by
  have h : (segL xs hM).map (fun x => x.1) = flags xs := by
    apply List.ext_getElem
    · rw [List.length_map, segL_len, flags_len]
    · intro i h1 h2
      have hi : i < xs.length := by rw [flags_len] at h2; exact h2
      rw [List.getElem_map, segL_at xs hM i hi, flags_at xs i h2 hi]
  unfold PM.norm
  rw [normGo_flags, ← h, List.foldl_map]
  rfl
set_option maxRecDepth 100000 in
set_option maxHeartbeats 2000000 in
theorem segments1_inL (l Bs n₀ b o c : Nat) (xs : List (List UInt8)) (hM : ∀ s ∈ xs, s.length ≤ 1000000000) (hN : xs.length ≤ 100000) (hb : b < n₀) (J Jx : List Seg → World → Prop)
    (hY : ∀ pre (x : Seg) W, J pre W → pre.length < xs.length → YieldAt Fence.wide 1 Tryz.prog l #[.string (mkS x.1.1), .bool x.1.2] W fun e W' =>
      (e = .returned (.bool true) ∧ J (pre ++ [x]) W' ∧ KS Bs n₀ W W') ∨ (e = .returned (.bool false) ∧ Jx (pre ++ [x]) W'))
    (W : World) (hBs : W.cell? ⟨Bs, 0, none⟩ = some (.slice (some ⟨b, o, none⟩) xs.length c)) (hc : ∀ j (h : j < xs.length), W.cell? ⟨b, o + j, none⟩ = some (.string (mkS (xs[j]'h)))) (h0 : J [] W) :
    CallsIn Fence.wide 2 Tryz.prog 120 #[.func (.yield l) #[] #[], .pointer (some ⟨Bs, 0, none⟩)] W fun e W' => (∃ v, e = .returned v) ∧
      ((∃ ys, ys = segL xs hM ∧ J ys W') ∨ (∃ pre, (∃ k, k ≤ xs.length ∧ pre = (segL xs hM).take k) ∧ Jx pre W')) := by
  have Hc := Lib.hid hc
  clear hc
  refine callsIn_of_wp Tryz.func120 rfl trivial ?_ rfl
  simp only [Tryz.ntmps120, List.size_toArray, List.length_cons, List.length_nil, Nat.reduceAdd, Nat.reduceSub, Array.replicate_succ, Array.replicate_zero, List.push_toArray, List.append_toArray, List.nil_append, List.cons_append]
  gi_wp2
  gi_loopw [3, 4, 7] (fun _ _ i wr => ∃ k : Nat, k ≤ xs.length ∧ i = .int .i64 k ∧ J ((segL xs hM).take k) wr ∧ KS Bs n₀ W wr)
    (fun _ _ i _ => xs.length - (intOf i).toNat)
  case atStart => exact ⟨0, Nat.zero_le _, rfl, h0, rfl, Below.refl _ _⟩
  case round =>
    obtain ⟨k, hk, rfl, hJs, hnx⟩ := hrel
    have hcs := hnx.1.trans hBs
    by_cases hlt : k < xs.length
    · have hck := (hnx.2.cell (p := ⟨b, o + k, none⟩) hb).trans (Hc.out k hlt)
      obtain ⟨fn, tmps, assign, body, hy, hR⟩ := hY _ ⟨(xs[k], (k : Int) == (xs.length : Int) - 1), hM _ (List.getElem_mem _)⟩ wr hJs (by rw [List.length_take, segL_len]; omega)
      have hl : (segL xs hM).take k ++ [⟨(xs[k], (k : Int) == (xs.length : Int) - 1), hM _ (List.getElem_mem _)⟩] = (segL xs hM).take (k + 1) := by
        rw [List.take_succ_eq_append_getElem (by rw [segL_len]; exact hlt), segL_at xs hM k hlt]
      rw [hl] at hR
      clear hl
      dsimp only at hy
      gi_wp2
      refine hR.mono ?_
      rintro e W3 (⟨rfl, hJ3, hk3⟩ | ⟨rfl, hJx3⟩)
      · gi_wp2
        go_roundw
        case rel => exact ⟨k + 1, by omega, by simp, hJ3, hnx.trans hk3⟩
        case measure => simp [intOf]; omega
      · gi_wp2
        refine bodyPost_ret (results_none rfl _ _ _) rfl ?_
        exact ⟨⟨_, rfl⟩, .inr ⟨_, ⟨k + 1, by omega, rfl⟩, hJx3⟩⟩
    · obtain rfl : k = xs.length := by omega
      gi_wp2
      go_end0
      rw [List.take_of_length_le (by rw [segL_len]; exact Nat.le_refl _)] at hJs
      exact ⟨⟨_, rfl⟩, .inl ⟨_, rfl, hJs⟩⟩
theorem segments_stopsL (Bs n₀ c n : Nat) (a : Option Addr) (xs : List (List UInt8)) (hM : ∀ s ∈ xs, s.length ≤ 1000000000) (hN : xs.length ≤ 100000) (w0 w : World) (hR : RdS w0 a n xs) (hn : n₀ = w0.heap.size) (hb0 : Below w0.heap.size w0 w) (hBs0 : Bs < w.heap.size)
    (hBs : w.cell? ⟨Bs, 0, none⟩ = some (.slice a n c)) :
    SeqStopsK Fence.wide 2 Tryz.prog 120 #[.pointer (some ⟨Bs, 0, none⟩)] (fun x : Seg => #[Value.string (mkS x.1.1), .bool x.1.2]) (KS Bs n₀) (fun ys => ys = segL xs hM) (fun pre => ∃ k, k ≤ xs.length ∧ pre = (segL xs hM).take k) xs.length w := fun l J Jx W hW hJ _ hY h0 => by
  subst hn
  have hlen := hR.len
  subst hlen
  have hcs := (hW.cell (p := ⟨Bs, 0, none⟩) hBs0).trans hBs
  rcases hR.at_ with rfl | ⟨b, o, rfl, hlt, hc⟩
  · exact (segments1_nil_in l Bs c a J W hcs h0).mono fun e W' ⟨he, hj⟩ => ⟨he, .inl ⟨_, rfl, hj⟩⟩
  · exact segments1_inL l Bs w0.heap.size b o c xs hM hN hlt J Jx hY W hcs (fun j hj => cell_b (b_then hb0 hW) (hc j hj)) h0
set_option maxRecDepth 100000 in
set_option maxHeartbeats 2000000 in
theorem Norm_c (xs : List (List UInt8)) (hM : ∀ s ∈ xs, s.length ≤ 1000000000) (hN : xs.length ≤ 100000) (a : Option Addr) (n c : Nat) (w : World) (hR : RdS w a n xs) :
    Calls Tryz.prog 130 #[.slice a n c] w fun e w' => ∃ v, e = .returned v ∧ w'.ownsRow w.heap.size 9 1 v (PM.norm xs).length (strs (PM.norm xs)) ∧ Below w.heap.size w w' := by
  refine (callsIn_wide (n := 3)).1 ?_
  refine callsIn_of_wp_marks Tryz.func130 rfl trivial ?_ rfl
  simp only [Tryz.ntmps130, List.size_toArray, List.length_cons, List.length_nil, Nat.reduceAdd, Nat.reduceSub, Array.replicate_succ, Array.replicate_zero, List.push_toArray, List.append_toArray, List.nil_append, List.cons_append]
  gi_wp2_with (gi_at_call 94; refine (segments_in _ _ _ _).mono ?_; rintro e w' ⟨rfl, rfl⟩)
  have hB0 : Below w.heap.size w (((w.alloc (.cells #[.slice none 0 0] 25)).alloc (.cells #[.func (.func 160) #[] #[.pointer (some ⟨w.heap.size, 0, none⟩)]] 192)).alloc (.cells #[.slice a n c] 25)) := by (repeat (first | exact Below.refl _ _ | apply b_alloc | apply b_drew | apply b_drewN | assumption | (refine b_then ?_ (by assumption))))
  refine wpIn_rangeFunc_ownG rfl (by omega) (gf := 120) (lb := #[.pointer (some ⟨w.heap.size + 1 + 1, 0, none⟩)]) rfl trivial (enters_of Tryz.func120 (by kernel_rfl) rfl)
    (segments_stopsL (w.heap.size + 1 + 1) w.heap.size c n a xs hM hN w _ hR rfl hB0 (by simp) ?hs) (fun h k => KS.trans h k) ?hKb (Below.refl _ _) (fun _ => rfl)
    (fun pre W => ((NSt w.heap.size w.heap.size (nFold pre) W ∧ Boxed W (w.heap.size + 1) 192 (.func (.func 160) #[] #[.pointer (some ⟨w.heap.size, 0, none⟩)])) ∧ Boxed W (w.heap.size + 1 + 1) 25 (.slice a n c)) ∧ Below w.heap.size w W)
    (fun _ _ _ => False)
    ?hI
    (fun _ _ _ _ _ hs _ _ => hs)
    ?h0
    (fun x => { tmps := #[.slice a n c, undef, .slice none 0 0, .pointer (some ⟨w.heap.size, 0, none⟩), .pointer (some ⟨w.heap.size + 1, 0, none⟩), .string (mkS x.1.1), .bool x.1.2, undef, .func (.func 160) #[] #[.pointer (some ⟨w.heap.size, 0, none⟩)], .slice a n c, .func (.func 120) #[] #[.pointer (some ⟨w.heap.size + 1 + 1, 0, none⟩)], .string (mkS x.1.1), .bool x.1.2, undef, undef, undef, undef, undef, undef, undef, undef, undef, undef, undef, undef, undef, undef, undef, undef, undef, undef, undef, undef, undef, undef, undef], defers := [] }) ?assign ?body ?done ?stop
  case hs => go_simp
  case hKb =>
    intro W l o o' hl _ _ _
    simp at hl
    exact ⟨World.cell?_of_block (a := ⟨w.heap.size + 1 + 1, 0, none⟩) (World.putObj_heap_other (by show w.heap.size + 1 + 1 ≠ l; omega)), (belowK_b (w := w) (Nat.le_refl _) W l _ _ (by omega) (by assumption) (by assumption) (by assumption))⟩
  case hI =>
    refine OwnFrom.and (OwnFrom.and (OwnFrom.and (Own.from ?_ _) (Own.from ?_ _)) (Own.from ?_ _)) (ownFrom_below (Nat.le_refl _) (by first | omega | (simp; done) | (simp; omega)))
    · intro s W W' row hs hg hr
      obtain ⟨v, h1, h2, _⟩ := holdsRow_own w.heap.size w.heap.size 25 9 1 (fun pre : List Seg => (nFold pre).length) (fun pre => strs (nFold pre)) (fun _ _ => True) s W W' row (by obtain ⟨v, h1, h2⟩ := hs; exact ⟨v, h1, h2, trivial⟩) hg hr
      exact ⟨v, h1, h2⟩
    · exact boxed_own _ _ (fun _ => _)
    · exact boxed_own _ _ (fun _ => _)
  case h0 =>
    refine ⟨⟨⟨⟨_, ((Boxed.new w _ _).alloc _).alloc _, World.ownsRow_nil _ _ _ _⟩, ?_⟩, ?_⟩, hB0⟩
    · have h := (Boxed.new (w.alloc (.cells #[.slice none 0 0] 25)) 192 (.func (.func 160) #[] #[.pointer (some ⟨w.heap.size, 0, none⟩)])).alloc (.cells #[.slice a n c] 25)
      rw [World.size_alloc] at h
      exact h
    · have h := Boxed.new ((w.alloc (.cells #[.slice none 0 0] 25)).alloc (.cells #[.func (.func 160) #[] #[.pointer (some ⟨w.heap.size, 0, none⟩)]] 192)) 25 (.slice a n c)
      rw [World.size_alloc, World.size_alloc] at h
      exact h
  case assign =>
    intro l x W K hK
    gi_wp2
    exact hK
  case body =>
    rintro l pre x W ⟨⟨⟨hst, hpb⟩, hsb⟩, hB⟩ hlt
    have hx := x.2
    have hlen := nFold_len pre
    have hcell := hsb.cell
    have H : ∀ W', NFr w.heap.size w.heap.size W W' → NSt w.heap.size w.heap.size (nFold (pre ++ [x])) W' → KeepsFrom (((w.alloc (.cells #[.slice none 0 0] 25)).alloc (.cells #[.func (.func 160) #[] #[.pointer (some ⟨w.heap.size, 0, none⟩)]] 192)).alloc (.cells #[.slice a n c] 25)).heap.size W W' ∧ KS (w.heap.size + 1 + 1) w.heap.size W W' ∧ (((NSt w.heap.size w.heap.size (nFold (pre ++ [x])) W' ∧ Boxed W' (w.heap.size + 1) 192 (.func (.func 160) #[] #[.pointer (some ⟨w.heap.size, 0, none⟩)])) ∧ Boxed W' (w.heap.size + 1 + 1) 25 (.slice a n c)) ∧ Below w.heap.size w W') := by
      intro W' hF hst'
      have hsb' := hF.2.2 _ _ _ (by omega) (by decide) hsb
      exact ⟨hF.1.from _, ⟨hsb'.cell.trans hsb.cell.symm, hF.2.1⟩, ⟨⟨hst', hF.2.2 _ _ _ (by omega) (by decide) hpb⟩, hsb'⟩, hB.trans hF.2.1⟩
    have hns : nFold (pre ++ [x]) = if PM.dots x.1.1 = 0 then nFold pre ++ [x.1.1] else (if PM.dots x.1.1 = 2 then (nFold pre).dropLast else nFold pre) ++ (if x.1.2 = true then [[]] else []) := nFold_snoc pre x
    replace H : ∀ W' q, nFold (pre ++ [x]) = q → NFr w.heap.size w.heap.size W W' → NSt w.heap.size w.heap.size q W' → _ := fun W' q e h1 h2 => H W' h1 (e ▸ h2)
    clear hcell
    have hD := fun W => Dots_c x.1.1 (by omega) W
    have hwb : w.heap.size ≤ W.heap.size := hB.size
    obtain ⟨⟨s, last⟩, hs⟩ := x
    dsimp only at hx H hD hns ⊢
    generalize PM.dots s = d at hns hD
    have HQ := Lib.hid hns
    clear hns
    have HH := Lib.hid H
    have HD := Lib.hid hD
    have HST := Lib.hid hst
    have HPB := Lib.hid hpb
    clear H hD hst hpb hsb
    have hlen2 : (nFold pre).length ≤ 100000 := by omega
    clear hlen hlt
    generalize nFold pre = o at HQ HST hlen2
    by_cases h0 : d = 0
    · subst h0
      rw [if_pos rfl] at HQ
      gi_wp2_with (first | (gi_at_call 108; refine (CallsIn.inRound l (callsIn_wide.2 (HD.out _))).mono ?_; rintro e w1 ⟨rfl, hb1⟩; have HF1 := Lib.hid (NFr.ofBelow (b0 := w.heap.size) hb1 hwb); have HS1 := Lib.hid (HST.out.below hb1); have hpc := (HF1.out.2.2 _ _ _ (show w.heap.size + 1 ≠ w.heap.size by omega) (by decide) HPB.out).cell; clear hb1) | (gi_at_call 160; refine (CallsIn.inRound l (callsIn_wide.2 (NormPut_c _ _ _ _ (HS1.out) (Nat.le_refl _) (by first | omega | (simp; done) | (simp; omega)) s))).mono ?_; rintro e w2 ⟨⟨u, rfl⟩, hst2, hF2⟩; have HS2 := Lib.hid hst2; have HF2 := Lib.hid hF2; clear hst2 hF2))
      exact HH.out _ _ HQ.out (HF1.out.trans HF2.out) HS2.out
    · have hd0 : ((d : Int) == 0) = false := by rw [beq_eq_false_iff_ne]; omega
      rw [if_neg h0] at HQ
      by_cases h2 : d = 2 ∧ 0 < o.length
      · obtain ⟨rfl, hpos⟩ := h2
        obtain ⟨m, hm⟩ : ∃ m, o.length = m + 1 := ⟨o.length - 1, by omega⟩
        rw [if_pos rfl] at HQ
        clear h0 hd0
        cases last
        · gi_wp2_with (gi_at_call 108; refine (CallsIn.inRound l (callsIn_wide.2 (HD.out _))).mono ?_; rintro e w1 ⟨rfl, hb1⟩; have HF1 := Lib.hid (NFr.ofBelow (b0 := w.heap.size) hb1 hwb); obtain ⟨v, hbx, hown⟩ := HST.out.below hb1; obtain ⟨g, cap, rfl, hcap, hown2⟩ := own_cut hown hpos; have hp1 := HF1.out.2.2 _ _ _ (show w.heap.size + 1 ≠ w.heap.size by omega) (by decide) HPB.out; have hpc := hp1.cell; have hcc := hbx.cell; have hff := hbx.frozen; have HP2 := Lib.hid (put_cut hbx (Nat.le_refl _) hown2); have hpc2 := (HP2.out.2.2.2.2 _ _ _ (show w.heap.size + 1 ≠ w.heap.size by omega) (by decide) hp1).cell; clear hb1 hbx hown hown2 hp1; rw [hm] at hcap hcc HP2 hpc2; rw [Nat.add_sub_cancel] at HP2 hpc2)
          exact HH.out _ _ HQ.out (HF1.out.trans HP2.out.2.2) ⟨_, HP2.out.1, by simpa using HP2.out.2.1⟩
        · gi_wp2_with (first | (gi_at_call 108; refine (CallsIn.inRound l (callsIn_wide.2 (HD.out _))).mono ?_; rintro e w1 ⟨rfl, hb1⟩; have HF1 := Lib.hid (NFr.ofBelow (b0 := w.heap.size) hb1 hwb); obtain ⟨v, hbx, hown⟩ := HST.out.below hb1; obtain ⟨g, cap, rfl, hcap, hown2⟩ := own_cut hown hpos; have hp1 := HF1.out.2.2 _ _ _ (show w.heap.size + 1 ≠ w.heap.size by omega) (by decide) HPB.out; have hpc := hp1.cell; have hcc := hbx.cell; have hff := hbx.frozen; have HP2 := Lib.hid (put_cut hbx (Nat.le_refl _) hown2); have hpc2 := (HP2.out.2.2.2.2 _ _ _ (show w.heap.size + 1 ≠ w.heap.size by omega) (by decide) hp1).cell; clear hb1 hbx hown hown2 hp1; rw [hm] at hcap hcc HP2 hpc2; rw [Nat.add_sub_cancel] at HP2 hpc2) | (gi_at_call 160; refine (CallsIn.inRound l (callsIn_wide.2 (NormPut_c _ _ _ _ (⟨_, HP2.out.1, HP2.out.2.1⟩) (Nat.le_refl _) (by first | omega | (simp; done) | (simp; omega)) []))).mono ?_; rintro e w2 ⟨⟨u, rfl⟩, hst2, hF2⟩; have HS2 := Lib.hid hst2; have HF2 := Lib.hid hF2; clear hst2 hF2))
          exact HH.out _ _ HQ.out ((HF1.out.trans HP2.out.2.2).trans HF2.out) HS2.out
      · have hd2 : (if d = 2 then o.dropLast else o) = o := by
          split
          · rename_i h
            have : o = [] := by
              cases o with
              | nil => rfl
              | cons x r => exact absurd ⟨h, by simp⟩ h2
            rw [this]
            rfl
          · rfl
        rw [hd2] at HQ
        clear hd2
        by_cases h22 : d = 2
        · obtain rfl : o = [] := by
            cases o with
            | nil => rfl
            | cons x r => exact absurd ⟨h22, by simp⟩ h2
          subst h22
          clear h0 h2 hd0
          cases last
          · gi_wp2_with (gi_at_call 108; refine (CallsIn.inRound l (callsIn_wide.2 (HD.out _))).mono ?_; rintro e w1 ⟨rfl, hb1⟩; have HF1 := Lib.hid (NFr.ofBelow (b0 := w.heap.size) hb1 hwb); have HS1 := Lib.hid (HST.out.below hb1); obtain ⟨v, hbx, hown⟩ := HS1.out; obtain ⟨va, vc, rfl⟩ := own_form hown; have hcc := hbx.cell; have hpc := (HF1.out.2.2 _ _ _ (show w.heap.size + 1 ≠ w.heap.size by omega) (by decide) HPB.out).cell; clear hb1 hbx hown)
            exact HH.out _ _ HQ.out HF1.out HS1.out
          · gi_wp2_with (first | (gi_at_call 108; refine (CallsIn.inRound l (callsIn_wide.2 (HD.out _))).mono ?_; rintro e w1 ⟨rfl, hb1⟩; have HF1 := Lib.hid (NFr.ofBelow (b0 := w.heap.size) hb1 hwb); have HS1 := Lib.hid (HST.out.below hb1); obtain ⟨v, hbx, hown⟩ := HS1.out; obtain ⟨va, vc, rfl⟩ := own_form hown; have hcc := hbx.cell; have hpc := (HF1.out.2.2 _ _ _ (show w.heap.size + 1 ≠ w.heap.size by omega) (by decide) HPB.out).cell; clear hb1 hbx hown) | (gi_at_call 160; refine (CallsIn.inRound l (callsIn_wide.2 (NormPut_c _ _ _ _ (HS1.out) (Nat.le_refl _) (by first | omega | (simp; done) | (simp; omega)) []))).mono ?_; rintro e w2 ⟨⟨u, rfl⟩, hst2, hF2⟩; have HS2 := Lib.hid hst2; have HF2 := Lib.hid hF2; clear hst2 hF2))
            exact HH.out _ _ HQ.out (HF1.out.trans HF2.out) HS2.out
        · have hd3 : ((d : Int) == 2) = false := by rw [beq_eq_false_iff_ne]; omega
          clear h0 h2 h22
          cases last
          · gi_wp2_with (gi_at_call 108; refine (CallsIn.inRound l (callsIn_wide.2 (HD.out _))).mono ?_; rintro e w1 ⟨rfl, hb1⟩; have HF1 := Lib.hid (NFr.ofBelow (b0 := w.heap.size) hb1 hwb); have HS1 := Lib.hid (HST.out.below hb1); obtain ⟨v, hbx, hown⟩ := HS1.out; obtain ⟨va, vc, rfl⟩ := own_form hown; have hcc := hbx.cell; have hpc := (HF1.out.2.2 _ _ _ (show w.heap.size + 1 ≠ w.heap.size by omega) (by decide) HPB.out).cell; clear hb1 hbx hown)
            exact HH.out _ _ HQ.out HF1.out (by simpa using HS1.out)
          · gi_wp2_with (first | (gi_at_call 108; refine (CallsIn.inRound l (callsIn_wide.2 (HD.out _))).mono ?_; rintro e w1 ⟨rfl, hb1⟩; have HF1 := Lib.hid (NFr.ofBelow (b0 := w.heap.size) hb1 hwb); have HS1 := Lib.hid (HST.out.below hb1); obtain ⟨v, hbx, hown⟩ := HS1.out; obtain ⟨va, vc, rfl⟩ := own_form hown; have hcc := hbx.cell; have hpc := (HF1.out.2.2 _ _ _ (show w.heap.size + 1 ≠ w.heap.size by omega) (by decide) HPB.out).cell; clear hb1 hbx hown) | (gi_at_call 160; refine (CallsIn.inRound l (callsIn_wide.2 (NormPut_c _ _ _ _ (HS1.out) (Nat.le_refl _) (by first | omega | (simp; done) | (simp; omega)) []))).mono ?_; rintro e w2 ⟨⟨u, rfl⟩, hst2, hF2⟩; have HS2 := Lib.hid hst2; have HF2 := Lib.hid hF2; clear hst2 hF2))
            exact HH.out _ _ HQ.out (HF1.out.trans HF2.out) HS2.out
  case done =>
    rintro D ys W hD rfl ⟨⟨⟨hst, hpb⟩, hsb⟩, hB⟩ hK
    rw [nFold_full] at hst
    obtain ⟨v, hbx, hown⟩ := hst
    obtain ⟨va, vc, rfl⟩ := own_form hown
    have hcc := hbx.cell
    have HO := Lib.hid hown
    have HBX := Lib.hid hbx
    clear hown hbx hpb hsb
    gi_wp2
    refine ⟨by simp, .inl ⟨_, _, rfl, run_takeDeferred hK, ?_⟩⟩
    exact ⟨_, results_tmp rfl _ _ _, _, rfl, ownsRow_putObj HO.out _ hK rfl, hB.trans (belowK_b (w := w) (Nat.le_refl _) W D _ _ (by simp at hD; omega) hK rfl rfl)⟩
  case stop =>
    rintro D c pre W _ _ h _
    exact h.elim
theorem pathSplit_len (s : List UInt8) : (PM.pathSplit s).length ≤ 3 * s.length + 1 ∧ ∀ x ∈ PM.pathSplit s, x.length ≤ 3 * s.length := by
  have hu := unslash_len s
  have he := PM.encode_len 3 (PM.unslash s)
  have h := splitB_len 47 (PM.encode 3 (PM.unslash s))
  unfold PM.pathSplit
  exact ⟨by have := h.1; omega, fun x hx => by have : x.length ≤ _ := h.2 x hx; omega⟩
set_option maxHeartbeats 1000000 in
theorem PathParse_c (s : List UInt8) (hs : s.length ≤ 30000) (w : World) (hg : Gl w) : Calls Tryz.prog 100 #[.string (mkS s)] w fun e w' => ∃ v, e = .returned v ∧ w'.ownsRow w.heap.size 9 1 v (PM.pathParse s).length (strs (PM.pathParse s)) ∧ Below w.heap.size w w' := by
  obtain ⟨h1, h2⟩ := pathSplit_len s
  have hS := PathSplit_c s (by omega) w hg
  have hNm := fun a n c W hR => Norm_c (PM.pathSplit s) (fun x hx => by have := h2 x hx; omega) (by omega) a n c W hR
  unfold PM.pathParse
  generalize PM.pathSplit s = xs at hS hNm
  clear h1 h2
  go_enter Tryz.func100, Tryz.ntmps100
  go_wp2_with fail
  refine hS.mono ?_
  rintro e w1 ⟨B, rfl, hB, hb1, hR⟩
  go_wp2_with fail
  refine (hNm _ _ _ _ hR).mono ?_
  rintro e w2 ⟨v, rfl, ho, hb2⟩
  go_wp2_with fail
  go_ret
  exact ⟨v, rfl, ownsRow_mono ho hb1.size, b_then hb1 hb2⟩
end Go.Proofs.YtppbkblnjlbnfaaGreatDoor
