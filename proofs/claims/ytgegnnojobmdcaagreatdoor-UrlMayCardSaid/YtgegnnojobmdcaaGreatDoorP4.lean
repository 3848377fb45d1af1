import Derived.Test.YtgegnnojobmdcaaGreatDoorP3
/-! Contracts: ascii.Hex, six.split. -/
set_option linter.unusedVariables false
namespace Go.Proofs.YtgegnnojobmdcaaGreatDoor
open Go.RowKit
def hexI (c : UInt8) : Int := match PM.hexv c with
  | some d => d
  | none => -1
theorem or_val (c : UInt8) (h : (65 ≤ c.toNat ∧ c.toNat ≤ 70) ∨ (97 ≤ c.toNat ∧ c.toNat ≤ 102)) : bits .or .u8 (c.toNat : Int) 32 = if c.toNat ≤ 70 then (c.toNat : Int) + 32 else (c.toNat : Int) := by
  have hh : (List.range 256).all (fun n => !((decide (65 ≤ n) && decide (n ≤ 70)) || (decide (97 ≤ n) && decide (n ≤ 102))) || decide (bits .or .u8 (n : Int) 32 = if n ≤ 70 then (n : Int) + 32 else (n : Int))) = true := by kernel_rfl
  have := all256 hh c
  simp only [Bool.or_eq_true, Bool.not_eq_true', Bool.or_eq_false_iff, Bool.and_eq_false_iff, decide_eq_false_iff_not, decide_eq_true_eq] at this
  rcases this with h' | h'
  · omega
  · exact h'
set_option maxRecDepth 100000 in
set_option maxHeartbeats 1000000 in
theorem Hex_c (c : UInt8) (w : World) : Calls Tryz.prog 195 #[.int .u8 (c.toNat : Int)] w fun e w' => e = .returned (.int .i64 (hexI c)) ∧ w' = w := by
  have hd := Digit_c c
  have hi := in_c (bits .or .u8 (c.toNat : Int) 32) 97 102 w
  rw [or_hex] at hi
  cases h1 : PM.isDigit c
  · rw [h1] at hd
    have HD := Lib.hid hd
    clear hd
    by_cases h2 : (65 ≤ c.toNat ∧ c.toNat ≤ 70) ∨ (97 ≤ c.toNat ∧ c.toNat ≤ 102)
    · have hv := or_val c h2
      have e1 : ((decide (65 ≤ c.toNat) && decide (c.toNat ≤ 70)) || (decide (97 ≤ c.toNat) && decide (c.toNat ≤ 102))) = true := by
        simp only [Bool.or_eq_true, Bool.and_eq_true, decide_eq_true_eq]
        exact h2
      rw [e1] at hi
      have hx : ∃ d : Int, hexI c = d ∧ bits .or .u8 (c.toNat : Int) 32 = d + 87 ∧ 10 ≤ d ∧ d ≤ 15 := by
        rcases h2 with h2 | h2
        · have e2 : hexI c = ((c.toNat - 55 : Nat) : Int) := by
            unfold hexI PM.hexv
            rw [h1, if_neg (by simp), if_pos (by simp [h2])]
          rw [if_pos h2.2] at hv
          exact ⟨_, e2, by rw [hv]; omega, by omega, by omega⟩
        · have e2 : hexI c = ((c.toNat - 87 : Nat) : Int) := by
            unfold hexI PM.hexv
            rw [h1, if_neg (by simp), if_neg (by simp; omega), if_pos (by simp [h2])]
          rw [if_neg (by omega)] at hv
          exact ⟨_, e2, by rw [hv]; omega, by omega, by omega⟩
      obtain ⟨d, hd1, hd2, hd3, hd4⟩ := hx
      rw [hd2] at hi
      have HI := Lib.hid hi
      have H1 := Lib.hid hd1
      have hc65 : (65 : Int) ≤ c.toNat := by omega
      clear hi hd1 h1 h2 hv e1
      go_enter Tryz.func195, Tryz.ntmps195
      go_wp2_with fail
      refine (HD.out _).mono ?_
      rintro e w1 ⟨rfl, rfl⟩
      go_wp2_with fail
      refine HI.out.mono ?_
      rintro e w1 ⟨rfl, rfl⟩
      go_wp2
      go_ret
      exact ⟨ret_int (by rw [H1.out]; omega), rfl⟩
    · have e1 : ((decide (65 ≤ c.toNat) && decide (c.toNat ≤ 70)) || (decide (97 ≤ c.toNat) && decide (c.toNat ≤ 102))) = false := by
        rw [Bool.eq_false_iff]
        simp only [ne_eq, Bool.or_eq_true, Bool.and_eq_true, decide_eq_true_eq]
        exact h2
      rw [e1] at hi
      have hn : hexI c = -1 := by
        unfold hexI PM.hexv
        rw [h1, if_neg (by simp), if_neg (by simp; omega), if_neg (by simp; omega)]
      have HI := Lib.hid hi
      have HN := Lib.hid hn
      clear hi h1 h2 e1 hn
      go_enter Tryz.func195, Tryz.ntmps195
      go_wp2_with fail
      refine (HD.out _).mono ?_
      rintro e w1 ⟨rfl, rfl⟩
      go_wp2_with fail
      refine HI.out.mono ?_
      rintro e w1 ⟨rfl, rfl⟩
      go_wp2
      go_ret
      exact ⟨ret_int HN.out.symm, rfl⟩
  · rw [h1] at hd
    have hr : (48 : Int) ≤ c.toNat ∧ (c.toNat : Int) ≤ 57 := by
      unfold PM.isDigit at h1
      simp at h1
      omega
    have hn : hexI c = (c.toNat : Int) - 48 := by
      unfold hexI PM.hexv
      rw [h1, if_pos rfl]
      dsimp only
      omega
    have HD := Lib.hid hd
    have HN := Lib.hid hn
    obtain ⟨hr1, hr2⟩ := hr
    clear hd hi h1 hn
    go_enter Tryz.func195, Tryz.ntmps195
    go_wp2_with fail
    refine (HD.out _).mono ?_
    rintro e w1 ⟨rfl, rfl⟩
    go_wp2
    go_ret
    exact ⟨ret_int HN.out.symm, rfl⟩
theorem hexv_le {c : UInt8} {d : Nat} (h : PM.hexv c = some d) : d ≤ 15 := by
  unfold PM.hexv at h
  split at h
  · rename_i h1
    unfold PM.isDigit at h1
    simp at h h1
    omega
  · split at h
    · rename_i h1
      simp at h h1
      omega
    · split at h
      · rename_i h1
        simp at h h1
        omega
      · simp at h
theorem pieces_none {x : List UInt8} (h : PM.piece x = none) : ∀ l : List (List UInt8), x ∈ l → PM.pieces l = none := by
  intro l
  induction l with
  | nil => intro hx; simp at hx
  | cons y r ih =>
    intro hx
    unfold PM.pieces
    rcases List.mem_cons.1 hx with rfl | hx
    · rw [h]
    · rw [ih hx]
      cases PM.piece y <;> rfl
theorem pieces_snoc {a : List (List UInt8)} {l : List Int} {x : List UInt8} {n : Nat} (ha : PM.pieces a = some l) (hx : PM.piece x = some n) : PM.pieces (a ++ [x]) = some (l ++ [(n : Int)]) := by
  induction a generalizing l with
  | nil =>
    simp only [PM.pieces, Option.some.injEq] at ha
    subst ha
    simp [PM.pieces, hx]
  | cons y r ih =>
    rw [List.cons_append, PM.pieces]
    rw [PM.pieces] at ha
    cases hy : PM.piece y with
    | none => rw [hy] at ha; simp at ha
    | some m =>
      cases hr : PM.pieces r with
      | none => rw [hy, hr] at ha; simp at ha
      | some t =>
        rw [hy, hr] at ha
        rw [ih hr]
        simp at ha ⊢
        rw [← ha]
        rfl
theorem pieceFold_none (l : List UInt8) : l.foldl PM.pieceStep none = none := by
  induction l with
  | nil => rfl
  | cons x r ih => exact ih
theorem piece_bad {x : List UInt8} {j : Nat} (h : (x.take j).foldl PM.pieceStep (some 0) = none) : PM.piece x = none := by
  unfold PM.piece
  split
  · rfl
  · rw [← List.take_append_drop j x, List.foldl_append, h, pieceFold_none]
theorem piece_long {x : List UInt8} (h : 4 < x.length) : PM.piece x = none := by
  unfold PM.piece
  rw [if_pos (.inr h)]
theorem infoInt : (Tryz.prog.info? 3).map (fun i => (i.zero, i.size, i.bytes)) = some (some (.int .i64 0), 1, 8) := by kernel_rfl
def intsL (l : List Int) : List Value := l.map (Value.int .i64)
/-- What six.split hands back. -/
def SixPost (w : World) (o : Option (List Int)) (e : Ending) (w' : World) : Prop := Below w.heap.size w w' ∧ ∃ v, (match o with
      | some l => e = .returned (.tuple #[v, .bool true]) ∧ w'.ownsRow w.heap.size 3 1 v l.length (intsL l)
      | none => e = .returned (.tuple #[v, .bool false]) ∧ v = .slice none 0 0)
theorem SixPost.bad {w w' : World} {o : Option (List Int)} (h : o = none) (hb : Below w.heap.size w w') : SixPost w o (.returned (.tuple #[.slice none 0 0, .bool false])) w' := by
  subst h
  exact ⟨hb, _, rfl, rfl⟩
theorem SixPost.good {w w' : World} {o : Option (List Int)} {l : List Int} {v : Value} (h : o = some l) (hb : Below w.heap.size w w') (ho : w'.ownsRow w.heap.size 3 1 v l.length (intsL l)) : SixPost w o (.returned (.tuple #[v, .bool true])) w' := by
  subst h
  exact ⟨hb, v, rfl, ho⟩
theorem ownsRow_mono {W : World} {B B' : Nat} {e : TypeId} {sz : Nat} {v : Value} {n : Nat} {xs : List Value} (h : W.ownsRow B e sz v n xs) (hB : B' ≤ B) : W.ownsRow B' e sz v n xs := by
  refine ⟨h.1, ?_⟩
  rcases h.2 with h | ⟨g, cap, cur, h1, h2, h3⟩
  · exact .inl h
  · exact .inr ⟨g, cap, cur, h1, Nat.le_trans hB h2, h3⟩
set_option maxRecDepth 100000 in
set_option maxHeartbeats 2000000 in
theorem SixSplit_c (s : List UInt8) (hs : s.length ≤ 1000000) (w : World) (hg : Gl w) : Calls Tryz.prog 179 #[.string (mkS s)] w fun e w' => SixPost w (PM.sixSplit s) e w' := by
  by_cases hne : s = []
  · subst hne
    go_enter Tryz.func179, Tryz.ntmps179
    go_wp2
    go_ret2
    exact SixPost.good (l := []) rfl (Below.refl _ _) (World.ownsRow_nil _ _ _ _)
  · have hsp := Split_c s 58 ⟨#[58]⟩ rfl (by omega) w hg
    have hv : PM.sixSplit s = PM.pieces (PM.splitB 58 s) := by unfold PM.sixSplit; rw [if_neg hne]
    have hne' : s.isEmpty = false := by simpa using hne
    have hlen := (splitB_len 58 s).1
    have hx : ∀ x ∈ PM.splitB 58 s, x.length ≤ 1000000 := fun x h => Nat.le_trans ((splitB_len 58 s).2 x h) hs
    have hsz : Hid ((w.alloc (.cells (strs (PM.splitB 58 s)).toArray 9)).heap.size = w.heap.size + 1) := World.size_alloc _ _
    have hcl : Hid ((w.alloc (.cells (strs (PM.splitB 58 s)).toArray 9)).heap[w.heap.size]? = some (.cells (strs (PM.splitB 58 s)).toArray 9 (0, 0))) := Go.heap_alloc_new _ _
    have hbw : Hid (Below w.heap.size w (w.alloc (.cells (strs (PM.splitB 58 s)).toArray 9))) := by exact b_alloc (Below.refl _ _) _
    generalize PM.splitB 58 s = xs at hsp hv hx hsz hcl hbw hlen
    have HV := Lib.hid hv
    obtain ⟨i0, hi, hz0, hz1, hz2⟩ := info_parts infoInt
    have hnone : ∀ k (hk : k < xs.length), PM.piece (xs[k]'hk) = none → PM.sixSplit s = none := fun k hk h => by
      rw [HV.out]
      exact pieces_none h _ (List.getElem_mem hk)
    have HN := Lib.hid hnone
    clear hv hne hnone
    go_enter Tryz.func179, Tryz.ntmps179
    go_wp2_with fail
    refine hsp.mono ?_
    rintro e w1 ⟨rfl, rfl⟩
    clear hsp hg
    generalize w.alloc (.cells (strs xs).toArray 9) = V0 at hsz hcl hbw ⊢
    go_wp2
    go_loopw [4, 15] (fun v i wr => ∃ k : Nat, i = .int .i64 k ∧ k ≤ xs.length ∧ ∃ l : List Int, Hid (PM.pieces (xs.take k) = some l) ∧ Hid (wr.ownsRow V0.heap.size 3 1 v k (intsL l)) ∧ l.length = k ∧ Hid (Below V0.heap.size V0 wr)) (fun _ i _ => xs.length - (intOf i).toNat)
    case atStart => exact ⟨0, rfl, by omega, [], Lib.hid rfl, Lib.hid (World.ownsRow_nil _ _ _ _), rfl, Lib.hid (Below.refl _ _)⟩
    case round =>
      obtain ⟨k, rfl, hk, l, HP, hown, hll, HB⟩ := hrel
      by_cases hlt : k < xs.length
      · have hlt' : (k : Int) < xs.length := by omega
        have hck : wr.cell? ⟨w.heap.size, k, none⟩ = some (.string (mkS (xs[k]'hlt))) := by
          rw [Lib.cell_of_heap ((HB.out.block _ (by rw [hsz.out]; omega)).trans hcl.out)]
          simp [strs, hlt]
        have hN := HN.out k hlt
        have hxl := hx _ (List.getElem_mem hlt)
        have htk : xs.take (k + 1) = xs.take k ++ [xs[k]'hlt] := List.take_succ_eq_append_getElem hlt
        generalize xs[k]'hlt = x at hck hN hxl htk
        have HNx := Lib.hid hN
        have HTK := Lib.hid htk
        clear hN htk
        have hxp : PM.piece x = if x.length = 0 ∨ 4 < x.length then none else x.foldl PM.pieceStep (some 0) := rfl
        have HXP := Lib.hid hxp
        clear hxp
        go_wp2
        go_loop [7, 21] (fun n i => ∃ j : Nat, i = .int .i64 j ∧ j ≤ x.length ∧ ∃ m : Nat, n = .int .i64 m ∧ Hid ((x.take j).foldl PM.pieceStep (some 0) = some m) ∧ m < 16 ^ j ∧ m ≤ 65535) (fun _ i => x.length - (intOf i).toNat)
        case atStart => exact ⟨0, rfl, by omega, 0, rfl, Lib.hid rfl, by decide, by omega⟩
        case round =>
          obtain ⟨j, rfl, hj, m, rfl, HF, hm, hm2⟩ := hrel
          by_cases hjl : j < x.length
          · have hjl' : (j : Int) < x.length := by omega
            have hst : (x.take (j + 1)).foldl PM.pieceStep (some 0) = PM.pieceStep (some m) (x[j]'hjl) := by
              rw [List.take_succ_eq_append_getElem hjl, List.foldl_append, HF.out]
              rfl
            have hH := Hex_c (x[j]'hjl) wr
            cases hv : PM.hexv (x[j]'hjl) with
            | none =>
              have e1 : hexI (x[j]'hjl) = -1 := by unfold hexI; rw [hv]
              have e2 : PM.pieceStep (some m) (x[j]'hjl) = none := by unfold PM.pieceStep; rw [hv]
              rw [e1] at hH
              rw [e2] at hst
              have hbad := HNx.out (piece_bad hst)
              have HH := Lib.hid hH
              have HBAD := Lib.hid hbad
              clear e1 e2 hst hH hbad hv
              go_wp2_with fail
              refine HH.out.mono ?_
              rintro e w1 ⟨rfl, rfl⟩
              go_wp2
              go_ret2
              exact SixPost.bad HBAD.out (b_then hbw.out HB.out)
            | some d =>
              have e1 : hexI (x[j]'hjl) = (d : Int) := by unfold hexI; rw [hv]
              have e2 : PM.pieceStep (some m) (x[j]'hjl) = some (16 * m + d) := by unfold PM.pieceStep; rw [hv]
              have hd : d ≤ 15 := hexv_le hv
              rw [e1] at hH
              rw [e2] at hst
              have HH := Lib.hid hH
              have HST := Lib.hid hst
              clear e1 e2 hst hH hv
              by_cases hbig : 16 * m + d ≤ 65535
              · have hb' : ¬ ((65535 : Int) < (m : Int) * 16 + (d : Int)) := by omega
                have hd0 : ¬ ((d : Int) < 0) := by omega
                go_wp2_with fail
                refine HH.out.mono ?_
                rintro e w1 ⟨rfl, rfl⟩
                go_wp2
                refine ⟨⟨j + 1, congrArg (Value.int .i64) (by omega), by omega, 16 * m + d, congrArg (Value.int .i64) (by omega), HST, by rw [Nat.pow_succ]; omega, hbig⟩, ?_⟩
                simp only [intOf]; omega
              · have hb' : ((65535 : Int) < (m : Int) * 16 + (d : Int)) := by omega
                have hd0 : ¬ ((d : Int) < 0) := by omega
                have hlong : 4 < x.length := by
                  rcases Nat.lt_or_ge 4 x.length with h | h
                  · exact h
                  · have h1 : 16 ^ j ≤ 16 ^ 3 := Nat.pow_le_pow_right (by decide) (by omega)
                    have h2 : (16 : Nat) ^ 3 = 4096 := by decide
                    omega
                have HBAD := Lib.hid (HNx.out (piece_long hlong))
                clear hlong
                go_wp2_with fail
                refine HH.out.mono ?_
                rintro e w1 ⟨rfl, rfl⟩
                go_wp2
                go_ret2
                exact SixPost.bad HBAD.out (b_then hbw.out HB.out)
          · have hjx : j = x.length := by omega
            subst hjx
            rw [List.take_length] at HF
            by_cases h0 : x.length = 0
            · have he : x.isEmpty = true := by simpa using List.eq_nil_of_length_eq_zero h0
              have HBAD := Lib.hid (HNx.out (by rw [HXP.out, if_pos (.inl h0)]))
              clear h0
              go_wp2
              go_ret2
              exact SixPost.bad HBAD.out (b_then hbw.out HB.out)
            · have he : x.isEmpty = false := by
                cases x with
                | nil => simp at h0
                | cons _ _ => rfl
              by_cases h4 : 4 < x.length
              · have h4' : (4 : Int) < x.length := by omega
                have HBAD := Lib.hid (HNx.out (piece_long h4))
                go_wp2
                go_ret2
                exact SixPost.bad HBAD.out (b_then hbw.out HB.out)
              · have h4' : ¬ (4 : Int) < x.length := by omega
                have hpx : PM.piece x = some m := by rw [HXP.out, if_neg (by omega)]; exact HF.out
                have hnew := pieces_snoc HP.out hpx
                rw [← HTK.out] at hnew
                have HNEW := Lib.hid hnew
                have hkb : k ≤ 1000001 := by omega
                clear hnew hpx
                go_wp2_with (at_builtin; refine wpList_append_own_at _ rfl _ _ 159 rfl V0.heap.size 3 i0 (.int .i64 0) 1 8 Tryz.underlying159 hi hz0 hz1 hz2 rfl (by decide) _ _ _ rfl (own_alloc hown.out _) ⟨wr.heap.size, 0, none⟩ 1 1 [.int .i64 (m : Int)] rfl rfl (cell_one_new _ _ _) ?c2 ?c3 ?c4 ?c5 ?_)
                case c2 => first | rfl | (intro u hu; simp at hu; subst hu; rfl)
                case c3 => unfold maxLen; omega
                case c4 => omega
                case c5 => have := HB.out.size; simp; omega
                intro v' w3 hown' hgrow _ hat
                have hb3 : Below V0.heap.size V0 w3 := (b_alloc HB.out _).grown hgrow (by have := HB.out.size; simp; omega) (fun k hk => (hown.out.lt k hk).1)
                have hown3 : Hid (w3.ownsRow V0.heap.size 3 1 v' (k + 1) (intsL (l ++ [(m : Int)]))) := by
                  have e : intsL (l ++ [(m : Int)]) = intsL l ++ [.int .i64 (m : Int)] := by unfold intsL; simp
                  unfold Hid
                  rw [e]
                  exact hown'
                have HB3 := Lib.hid hb3
                clear hown' hgrow hat hb3
                go_wp2
                refine ⟨⟨k + 1, congrArg (Value.int .i64) (by omega), by omega, l ++ [(m : Int)], HNEW, hown3, by simp [hll], HB3⟩, ?_⟩
                simp only [intOf]; omega
      · have hk' : k = xs.length := by omega
        subst hk'
        rw [List.take_length] at HP
        go_wp2
        go_ret2
        refine SixPost.good (l := l) (by rw [HV.out]; exact HP.out) (b_then hbw.out HB.out) ?_
        rw [hll]
        exact ownsRow_mono hown.out (by rw [hsz.out]; omega)
end Go.Proofs.YtgegnnojobmdcaaGreatDoor
