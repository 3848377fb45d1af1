import Derived.Test.YtppbkblnjlbnfaaGreatDoorC7
import Derived.Laws.Bits64b
import Derived.Laws.BitsLemmas
/-! Contracts: four.Looks, four.Show. -/
set_option linter.unusedVariables false
namespace Go.Proofs.YtppbkblnjlbnfaaGreatDoor
open Go.RowKit
theorem bits_low (n : Int) (k : Nat) (hk : k ≤ 32) : bits .and .i64 n ((2 ^ k - 1 : Nat) : Int) = n % ((2 ^ k : Nat) : Int) := by
  have hp : 2 ^ k ≤ 2 ^ 32 := Nat.pow_le_pow_right (by decide) hk
  have hp1 : 1 ≤ 2 ^ k := Nat.one_le_two_pow
  have h1 : (BitVec.ofInt 64 n).toNat = (n % 18446744073709551616).toNat := by
    rw [BitVec.toNat_ofInt]; rfl
  have h2 : (BitVec.ofInt 64 ((2 ^ k - 1 : Nat) : Int)).toNat = 2 ^ k - 1 := by
    rw [BitVec.ofInt_natCast, BitVec.toNat_ofNat]; exact Nat.mod_eq_of_lt (by omega)
  show IntKind.i64.wrap ((BitVec.ofInt 64 n &&& BitVec.ofInt 64 ((2 ^ k - 1 : Nat) : Int)).toNat : Int) = _
  rw [BitVec.toNat_and, h1, h2, Nat.and_two_pow_sub_one_eq_mod, IntKind.wrap_i64]
  have hlt : (n % 18446744073709551616).toNat % 2 ^ k < 2 ^ k := Nat.mod_lt _ (by omega)
  have e : (((n % 18446744073709551616).toNat % 2 ^ k : Nat) : Int) = n % ((2 ^ k : Nat) : Int) := by
    rw [Int.natCast_emod, Int.toNat_of_nonneg (Int.emod_nonneg _ (by decide))]
    apply Int.emod_emod_of_dvd
    have : (18446744073709551616 : Int) = ((2 ^ 64 : Nat) : Int) := rfl
    rw [this]
    exact Int.natCast_dvd_natCast.2 (Nat.pow_dvd_pow 2 (by omega))
  rw [e] 
  have h3 : 0 ≤ n % ((2 ^ k : Nat) : Int) := Int.emod_nonneg _ (by omega)
  have h4 : n % ((2 ^ k : Nat) : Int) < ((2 ^ k : Nat) : Int) := Int.emod_lt_of_pos _ (by omega)
  omega
theorem last_dot (l : List UInt8) : ∃ k : Nat, Lib.lastIndexByte (mkS l) 46 = (k : Int) - 1 ∧ k ≤ l.length ∧ PM.afterDot l = l.drop k := by
  have hg : ∀ j, j < l.length → (mkS l).data[j]! = l.getD j 0 := by
    intro j hj
    rw [getElem!_pos _ _ (by simpa [mkS] using hj)]
    simp [mkS, List.getD_eq_getElem?_getD, List.getElem?_eq_getElem hj]
  have hne : ∀ (x : UInt8), (x.toNat : Int) ≠ 46 ↔ x ≠ 46 := fun x => by
    constructor
    · rintro h rfl; exact h rfl
    · intro h e; exact h (UInt8.toNat_inj.1 (by have : x.toNat = 46 := by omega
                                                rw [this]; rfl))
  rcases Lib.lastIndexByte_spec (mkS l) 46 with ⟨e, h⟩ | ⟨i, hi, e, hc, h⟩
  · refine ⟨0, e, Nat.zero_le _, ?_⟩
    rw [PM.afterDot_none]
    · rfl
    · intro x hx
      obtain ⟨j, hj, rfl⟩ := List.getElem_of_mem hx
      have := h j (by rw [mkS_size]; exact hj)
      rw [hg j hj, hne, List.getD_eq_getElem?_getD, List.getElem?_eq_getElem hj] at this
      exact this
  · rw [mkS_size] at hi
    refine ⟨i + 1, by omega, by omega, ?_⟩
    rw [hg i hi] at hc
    have hc' : l[i] = 46 := by
      rw [List.getD_eq_getElem?_getD, List.getElem?_eq_getElem hi] at hc
      exact Classical.byContradiction fun hx => (hne _).2 hx hc
    have hl : l = l.take i ++ 46 :: l.drop (i + 1) := by
      rw [← hc', ← List.drop_eq_getElem_cons hi, List.take_append_drop]
    conv => lhs; rw [hl]
    refine PM.afterDot_hit _ _ fun x hx => ?_
    obtain ⟨j, hj, rfl⟩ := List.getElem_of_mem hx
    simp at hj
    have := h (i + 1 + j) (by omega) (by rw [mkS_size]; omega)
    rw [hg _ (by omega), hne, List.getD_eq_getElem?_getD, List.getElem?_eq_getElem (by omega)] at this
    rw [List.getElem_drop]
    exact this
theorem Looks_c (l : List UInt8) (hl : l.length ≤ 10000000000) (w : World) : Calls Tryz.prog 172 #[.string (mkS l)] w fun e w' => e = .returned (.bool (PM.looks l)) ∧ w' = w := by
  obtain ⟨k, hk, hkl, ha⟩ := last_dot l
  unfold PM.looks
  rw [ha]
  have h1 : (k : Int) ≤ l.length := by omega
  have h2 : ((k : Int) - 1 + 1) = k := by omega
  go_enter Tryz.func172, Tryz.ntmps172
  go_wp2_with fail
  refine (Tryz.strings_LastIndexByte (mkS l) 46 (by rw [mkS_size]; omega) _).mono ?_
  rw [hk]
  clear hk
  rintro e w1 ⟨rfl, rfl⟩
  go_wp2_with fail
  refine (Plain_c (l.drop k) _ (by simp; omega)).mono ?_
  rintro e w2 ⟨rfl, rfl⟩
  go_wp2
  go_ret
  exact ⟨rfl, rfl⟩
theorem h_lt {W : World} {g : Nat} {o : Obj} (hg : W.heap[g]? = some o) : g < W.heap.size := by
  rcases Nat.lt_or_ge g W.heap.size with h' | h'
  · exact h'
  · rw [Array.getElem?_eq_none h'] at hg; cases hg
theorem infoText : (Tryz.prog.info? 9).map (fun i => (i.zero, i.size, i.bytes)) = some (some (.string ⟨#[]⟩), 1, 16) := by kernel_rfl
/-- Texts as values. -/
def strs (xs : List (List UInt8)) : List Value := xs.map fun l => .string (mkS l)
theorem strs_snoc (xs : List (List UInt8)) (x : List UInt8) : strs xs ++ [.string (mkS x)] = strs (xs ++ [x]) := by simp [strs]
theorem strs_len (xs : List (List UInt8)) : (strs xs).length = xs.length := by simp [strs]
theorem own_join (xs : List (List UInt8)) (n : Nat) (hn : xs.length = n) (sep : List UInt8) (B : Nat) (v : Value) (W : World) (h : W.ownsRow B 9 1 v n (strs xs)) (h1 : n ≤ 10000) (h2 : ∀ l ∈ xs, l.length ≤ 10000000) (h3 : sep.length ≤ 1000) :
    Calls Tryz.prog 51 #[v, .string (mkS sep)] W fun e w' => e = .returned (.string (mkS (PM.joinBy sep xs))) ∧ Below W.heap.size W w' := by
  subst hn
  rcases h.2 with ⟨rfl, h0⟩ | ⟨g, cap, cur, rfl, hB, hg, hc, hm, hsz, ht⟩
  · have : xs = [] := by simpa using h0
    subst this
    refine (Tryz.strings_Join_none none 0 (mkS sep) W).mono ?_
    rintro e w' ⟨rfl, rfl⟩
    exact ⟨rfl, Below.refl _ _⟩
  · have hjl : (PM.joinBy sep xs).length ≤ xs.length * 10001000 := by
      clear h hc hm hsz ht h1
      induction xs with
      | nil => simp [PM.joinBy, List.intercalate]
      | cons x r ih =>
        have hx := h2 x (by simp)
        rcases r with _ | ⟨y, r⟩
        · simp [PM.joinBy, List.intercalate]; omega
        · have := ih (fun l hl => h2 l (by simp at hl ⊢; exact .inr hl))
          have e : PM.joinBy sep (x :: y :: r) = x ++ sep ++ PM.joinBy sep (y :: r) := by simp [PM.joinBy, List.intercalate]
          rw [e]
          simp only [List.length_append, List.length_cons] at this ⊢
          omega
    have := Tryz.strings_Join g 0 cap (xs.map mkS) (mkS sep) W (fun j x hx => by
      have := h.cells (g := g) rfl j (.string x) (by
        rw [List.getElem?_map] at hx
        rw [strs, List.getElem?_map]
        cases hxs : xs[j]? with
        | none => rw [hxs] at hx; cases hx
        | some l => rw [hxs] at hx; simp at hx; subst hx; rfl)
      rwa [show (⟨g, 0, none⟩ : Addr).add j = ⟨g, 0 + j, none⟩ by unfold Addr.add; split <;> simp_all] at this)
      (h_lt hg) (by simp; omega) (by simpa using hc) (by
        rw [List.map_map, mkS_data]
        have e : xs.map ((fun x : ByteArray => x.data.toList) ∘ mkS) = xs := by
          conv => rhs; rw [← List.map_id xs]
          exact List.map_congr_left fun l _ => mkS_data l
        rw [e]
        have : (Lib.join xs sep).length ≤ xs.length * 10001000 := hjl
        omega)
    rw [List.length_map] at this
    refine this.mono ?_
    rintro e w' ⟨rfl, hb⟩
    refine ⟨?_, hb⟩
    rw [List.map_map, mkS_data]
    have e : xs.map ((fun x : ByteArray => x.data.toList) ∘ mkS) = xs := by
      conv => rhs; rw [← List.map_id xs]
      exact List.map_congr_left fun l _ => mkS_data l
    rw [e]
    rfl
theorem own_below {W w1 : World} {B e sz n : Nat} {v : Value} {xs : List Value} (h : W.ownsRow B e sz v n xs) (hb : Below W.heap.size W w1) : w1.ownsRow B e sz v n xs := by
  refine ⟨h.1, ?_⟩
  rcases h.2 with h | ⟨g, cap, cur, rfl, hB, hg, hr⟩
  · exact .inl h
  · exact .inr ⟨g, cap, cur, rfl, hB, by rw [hb.block g (h_lt hg)]; exact hg, hr⟩
theorem own_alloc {W : World} {B e sz n : Nat} {v : Value} {xs : List Value} (h : W.ownsRow B e sz v n xs) (o : Obj) : (W.alloc o).ownsRow B e sz v n xs := h.alloc _
theorem rdigF_len (f m : Nat) : (PM.rdigF f m).length ≤ f := by
  induction f generalizing m with
  | zero => simp [PM.rdigF]
  | succ f ih => unfold PM.rdigF; split <;> simp [ih]
theorem four_at (m k : Nat) (hk : k < 4) : (PM.fourList m).take (k + 1) = (PM.fourList m).take k ++ [PM.digs (m / 2 ^ (8 * (3 - k)) % 256)] := by
  match k, hk with
  | 0, _ => simp [PM.fourList]
  | 1, _ => simp [PM.fourList]
  | 2, _ => simp [PM.fourList]
  | 3, _ => simp [PM.fourList]
set_option maxHeartbeats 1000000 in
theorem fourShow_c (n : Int) (w : World) :
    Calls Tryz.prog 141 #[.int .i64 n] w fun e w' => e = .returned (.string (mkS (PM.fourShow n))) ∧ Below w.heap.size w w' := by
  by_cases h0 : n < 0
  · have h : PM.fourShow n = [] := by simp [PM.fourShow, h0]
    rw [h]
    go_enter Tryz.func141, Tryz.ntmps141
    go_wp2
    go_ret
    exact ⟨rfl, Below.refl _ _⟩
  · by_cases h1 : 4294967295 < n
    · have h : PM.fourShow n = [] := by simp [PM.fourShow, h1]
      rw [h]
      go_enter Tryz.func141, Tryz.ntmps141
      go_wp2
      go_ret
      exact ⟨rfl, Below.refl _ _⟩
    · obtain ⟨m, rfl⟩ : ∃ m : Nat, n = m := ⟨n.toNat, by omega⟩
      have h : PM.fourShow (m : Int) = PM.joinBy [46] (PM.fourList m) := by simp [PM.fourShow, h0, h1]
      rw [h]
      clear h
      have hm : m ≤ 4294967295 := by omega
      obtain ⟨i0, hi, hz0, hz1, hz2⟩ := info_parts infoText
      go_enter Tryz.func141, Tryz.ntmps141
      go_wp2
      go_loopw [3, 11] (fun v i wr => ∃ k : Nat, i = .int .i64 k ∧ k ≤ 4 ∧ Hid (wr.ownsRow w.heap.size 9 1 v k (strs ((PM.fourList m).take k))) ∧ Below w.heap.size w wr) (fun _ i _ => 4 - (intOf i).toNat)
      case atStart => exact ⟨0, rfl, by omega, Lib.hid (World.ownsRow_nil _ _ _ _), Below.refl _ _⟩
      case round =>
        obtain ⟨k, rfl, hk4, hown, hb⟩ := hrel
        by_cases hk : k < 4
        · have hk' : (k : Int) < 4 := by omega
          go_wp2_with fail
          have hsh : bits .and .i64 ((m : Int) / 2 ^ (8 * (3 - k))) 255 = ((m / 2 ^ (8 * (3 - k)) % 256 : Nat) : Int) := by
            have := bits_low ((m : Int) / 2 ^ (8 * (3 - k))) 8 (by omega)
            rw [show ((2 ^ 8 - 1 : Nat) : Int) = 255 by rfl] at this
            rw [this]
            rw [Int.natCast_emod, Int.natCast_ediv, Int.natCast_pow]
            rfl
          rw [hsh]
          have hdl : m / 2 ^ (8 * (3 - k)) % 256 ≤ 1000000000000 := by omega
          refine (deciShow_c _ hdl _).mono ?_
          clear hdl hsh
          rintro e w1 ⟨rfl, hb1⟩
          have hown1 : w1.ownsRow w.heap.size 9 1 u3 k (strs ((PM.fourList m).take k)) := own_below hown.out hb1
          go_wp2_with (at_builtin; refine wpList_append_own_at _ rfl _ _ 25 rfl w.heap.size 9 i0 (.string ⟨#[]⟩) 1 16 Tryz.underlying25 hi hz0 hz1 hz2 rfl (by decide) _ _ _ rfl (own_alloc hown1 _) ⟨w1.heap.size, 0, none⟩ 1 1 [.string (mkS (PM.digs (m / 2 ^ (8 * (3 - k)) % 256)))] rfl rfl (cell_one_new _ _ _) ?c2 ?c3 ?c4 ?c5 ?_)
          case c2 => intro u hu; simp at hu; subst hu; rfl
          case c3 => unfold maxLen; omega
          case c4 => omega
          case c5 => have := hb.size; have := hb1.size; simp; omega
          intro v' w3 hown' hgrow _ hat
          rw [strs_snoc, ← four_at m k hk] at hown'
          have hb3 : Below w.heap.size w w3 := (b_alloc (b_then hb hb1) _).grown hgrow (by have := hb.size; have := hb1.size; simp; omega) (fun k hk => (hown1.lt k hk).1)
          have hown3 := Lib.hid hown'
          clear hown' hgrow hat hown1
          go_wp2
          refine ⟨⟨k + 1, congrArg (Value.int .i64) (by omega), by omega, hown3, hb3⟩, ?_⟩
          simp only [intOf]; omega
        · have hk' : k = 4 := by omega
          subst hk'
          go_wp2_with fail
          refine (own_join (PM.fourList m) 4 rfl [46] w.heap.size _ _ hown.out (by omega) ?_ (by simp)).mono ?_
          · intro l hl
            have : ∀ x, (PM.digs x).length ≤ 20 := fun x => by unfold PM.digs PM.rdig; rw [List.length_reverse]; exact rdigF_len _ _
            simp only [PM.fourList, List.mem_cons, List.not_mem_nil, or_false] at hl
            rcases hl with rfl | rfl | rfl | rfl <;> exact Nat.le_trans (this _) (by decide)
          rintro e w1 ⟨rfl, hb1⟩
          go_wp2
          go_ret
          exact ⟨rfl, b_then hb hb1⟩
end Go.Proofs.YtppbkblnjlbnfaaGreatDoor
