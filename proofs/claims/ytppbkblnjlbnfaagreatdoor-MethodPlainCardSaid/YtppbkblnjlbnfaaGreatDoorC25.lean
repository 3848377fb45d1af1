import Derived.Test.YtppbkblnjlbnfaaGreatDoorC22
set_option linter.unusedVariables false
set_option linter.unusedSimpArgs false
/-! Contracts: the laws' guards. -/
namespace PM
def small (s : L) : Bool := decide (s.length ≤ 300)
/-- postmarklaw08.Few. -/
def few08 (xs : List L) : Bool := (xs.take 61).all small && decide (xs.length ≤ 60)
/-- postmarklaw09.Few. -/
def few (u : Url) : Bool := few08 u.path && (small u.scheme && (small u.user && (small u.pass && (small u.host.name && (small u.opaque_ && (small u.query && small u.frag))))))
theorem few_all {u : Url} (h : few u = true) : u.path.length ≤ 60 ∧ (∀ s ∈ u.path, s.length ≤ 300) ∧ u.scheme.length ≤ 300 ∧ u.user.length ≤ 300 ∧ u.pass.length ≤ 300 ∧ u.host.name.length ≤ 300 ∧ u.opaque_.length ≤ 300 ∧ u.query.length ≤ 300 ∧ u.frag.length ≤ 300 := by
  unfold few few08 small at h
  simp only [Bool.and_eq_true, decide_eq_true_eq, List.all_eq_true] at h
  obtain ⟨⟨a, b⟩, c, d, e, f, g, i, j⟩ := h
  refine ⟨b, fun s hs => a s ?_, c, d, e, f, g, i, j⟩
  rw [List.take_of_length_le (by omega)]
  exact hs
end PM
namespace Go.Proofs.YtppbkblnjlbnfaaGreatDoor
open Go.RowKit
/-- A slice of texts, of whatever length. -/
structure RdW (w : World) (a : Option Addr) (n : Nat) (xs : List (List UInt8)) : Prop where
  len : xs.length = n
  at_ : xs = [] ∨ ∃ b o, a = some ⟨b, o, none⟩ ∧ b < w.heap.size ∧ ∀ j (h : j < xs.length), w.cell? ⟨b, o + j, none⟩ = some (.string (mkS (xs[j]'h)))
theorem RdW.below {w W : World} {a : Option Addr} {n : Nat} {xs : List (List UInt8)} (h : RdW w a n xs) (hb : Below w.heap.size w W) : RdW W a n xs :=
  ⟨h.len, h.at_.imp id fun ⟨b, o, e, hlt, hc⟩ => ⟨b, o, e, Nat.lt_of_lt_of_le hlt hb.size, fun j hj => cell_b hb (hc j hj)⟩⟩
theorem RdW.s {w : World} {a : Option Addr} {n : Nat} {xs : List (List UInt8)} (h : RdW w a n xs) (hn : xs.length ≤ 60) : RdS w a n xs := ⟨h.len, by have := h.len; omega, h.at_⟩
set_option maxRecDepth 100000 in
set_option maxHeartbeats 1000000 in
theorem Few08_c (a : Option Addr) (n c : Nat) (xs : List (List UInt8)) (w : World) (h : RdW w a n xs) :
    Calls Tryz.prog 48 #[.slice a n c] w fun e w' => e = .returned (.bool (PM.few08 xs)) ∧ w' = w := by
  have hlen := h.len
  subst hlen
  have hcell : ∀ k (hk : k < xs.length), ∃ b o, a = some ⟨b, o, none⟩ ∧ w.cell? ⟨b, o + k, none⟩ = some (.string (mkS (xs[k]'hk))) := by
    intro k hk
    rcases h.at_ with rfl | ⟨b, o, rfl, _, hc⟩
    · simp at hk
    · exact ⟨b, o, rfl, hc k hk⟩
  have HC := Lib.hid hcell
  clear hcell h
  go_enter Tryz.func48, Tryz.ntmps48
  go_wp2
  go_loop [3] (fun i => ∃ k : Nat, i = .int .i64 k ∧ k ≤ xs.length ∧ k ≤ 61 ∧ (xs.take k).all PM.small = true) (fun i => 100 - (intOf i).toNat)
  case atStart => exact ⟨0, rfl, by omega, by omega, rfl⟩
  case round =>
    obtain ⟨k, rfl, hk, hk2, hp⟩ := hrel
    by_cases hlt : k < xs.length
    · have hlt' : (k : Int) < (xs.length : Int) := by omega
      by_cases h60 : k ≤ 60
      · have h60' : (k : Int) ≤ 60 := by omega
        obtain ⟨b, o, rfl, hcl⟩ := HC.out k hlt
        have hst : (xs.take (k + 1)).all PM.small = PM.small (xs[k]'hlt) := by
          rw [List.take_succ_eq_append_getElem hlt, List.all_append, hp]
          simp
        have HS := Lib.hid hst
        clear hst
        have hfin : PM.small (xs[k]'hlt) = false → PM.few08 xs = false := by
          intro hx
          unfold PM.few08
          have : (xs.take 61).all PM.small = false := by
            rw [List.all_eq_false]
            refine ⟨xs[k]'hlt, ?_, by simpa using hx⟩
            rw [List.mem_take_iff_getElem]
            exact ⟨k, by omega, rfl⟩
          rw [this]
          rfl
        have HF := Lib.hid hfin
        clear hfin
        generalize xs[k]'hlt = x at hcl HS HF
        by_cases hx : x.length ≤ 300
        · have hx' : (x.length : Int) ≤ 300 := by omega
          go_wp2
          refine ⟨⟨k + 1, congrArg (Value.int .i64) (by omega), by omega, by omega, ?_⟩, ?_⟩
          · rw [HS.out]
            unfold PM.small
            exact decide_eq_true hx
          · simp only [intOf]; omega
        · have hx' : ¬ (x.length : Int) ≤ 300 := by omega
          go_wp2
          go_ret
          exact ⟨ret_bool (HF.out (by unfold PM.small; exact decide_eq_false hx)).symm, rfl⟩
      · have h60' : ¬ (k : Int) ≤ 60 := by omega
        have hfin : PM.few08 xs = false := by
          unfold PM.few08
          rw [decide_eq_false (by omega), Bool.and_false]
        have h0 : ¬ (xs.length : Int) ≤ 60 := by omega
        go_wp2
        go_ret
        exact ⟨rfl, rfl⟩
    · have hlt' : ¬ (k : Int) < (xs.length : Int) := by omega
      have hk' : k = xs.length := by omega
      subst hk'
      have hfin : PM.few08 xs = decide ((xs.length : Int) ≤ 60) := by
        unfold PM.few08
        rw [List.take_of_length_le (by omega)]
        rw [List.take_of_length_le (by omega)] at hp
        rw [hp, Bool.true_and, Bool.eq_iff_iff]
        simp
        omega
      clear hp
      go_wp2
      go_ret
      exact ⟨rfl, rfl⟩
theorem few_eq (u : UV) : PM.few u.pm = (PM.few08 u.xs && (decide ((u.sc.length : Int) ≤ 300) && (decide ((u.us.length : Int) ≤ 300) && (decide ((u.pa.length : Int) ≤ 300) && (decide ((u.n.length : Int) ≤ 300) && (decide ((u.op.length : Int) ≤ 300) && (decide ((u.qu.length : Int) ≤ 300) && (decide ((u.fr.length : Int) ≤ 300))))))))) := by
  have hh : ∀ l : List UInt8, PM.small l = decide ((l.length : Int) ≤ 300) := fun l => by
    unfold PM.small
    rw [Bool.eq_iff_iff]
    simp
    omega
  unfold PM.few
  simp only [hh]
  rfl
set_option maxRecDepth 100000 in
set_option maxHeartbeats 2000000 in
theorem Few_c (u : UV) (w : World) (hr : RdW w u.a u.pn u.xs) : Calls Tryz.prog 21 #[.agg u.cells] w fun e w' => e = .returned (.bool (PM.few u.pm)) ∧ Below w.heap.size w w' := by
  have hb : Below w.heap.size w (w.alloc (.cells #[.string (mkS u.sc), .string (mkS u.us), .string (mkS u.pa), .int .i64 u.k, .string (mkS u.n), .int .i64 u.m, .int .i64 u.s0, .int .i64 u.s1, .int .i64 u.s2, .int .i64 u.s3, .int .i64 u.s4, .int .i64 u.s5, .int .i64 u.s6, .int .i64 u.s7, .int .i64 u.port, .slice u.a u.pn u.pc, .string (mkS u.op), .string (mkS u.qu), .string (mkS u.fr), .bool u.hq, .bool u.hf] 27)) := by (repeat (first | exact Below.refl _ _ | apply b_alloc | apply b_drew | apply b_drewN | assumption | (refine b_then ?_ (by assumption))))
  have ha := UrlAt.new w u
  have HR := Lib.hid hr
  clear hr
  unfold UV.cells
  go_enter Tryz.func21, Tryz.ntmps21
  go_upto_region 1 with fail
  generalize w.alloc (.cells #[.string (mkS u.sc), .string (mkS u.us), .string (mkS u.pa), .int .i64 u.k, .string (mkS u.n), .int .i64 u.m, .int .i64 u.s0, .int .i64 u.s1, .int .i64 u.s2, .int .i64 u.s3, .int .i64 u.s4, .int .i64 u.s5, .int .i64 u.s6, .int .i64 u.s7, .int .i64 u.port, .slice u.a u.pn u.pc, .string (mkS u.op), .string (mkS u.qu), .string (mkS u.fr), .bool u.hq, .bool u.hf] 27) = V0 at ha hb ⊢
  obtain ⟨c0, c1, c2, c3, c4, c5, c6, c7, c8, c9, c10, c11, c12, c13, c14, c15, c16, c17, c18, c19, c20⟩ := ha
  have he := few_eq u
  have qc := fun W h => Few08_c u.a u.pn u.pc u.xs W h
  generalize PM.few08 u.xs = B0 at he qc
  generalize e1 : decide ((u.sc.length : Int) ≤ 300) = B1 at he
  generalize e2 : decide ((u.us.length : Int) ≤ 300) = B2 at he
  generalize e3 : decide ((u.pa.length : Int) ≤ 300) = B3 at he
  generalize e4 : decide ((u.n.length : Int) ≤ 300) = B4 at he
  generalize e5 : decide ((u.op.length : Int) ≤ 300) = B5 at he
  generalize e6 : decide ((u.qu.length : Int) ≤ 300) = B6 at he
  generalize e7 : decide ((u.fr.length : Int) ≤ 300) = B7 at he
  have QC := Lib.hid qc
  have HE := Lib.hid he
  have HB := Lib.hid hb
  clear he qc hb
  go_wp2_with (go_at_call 48; refine (QC.out _ (HR.out.below HB.out)).mono ?_; rintro e V1 ⟨rfl, rfl⟩)
  all_goals go_ret
  all_goals exact ⟨ret_bool (by rw [HE.out]; simp [*]), HB.out⟩
end Go.Proofs.YtppbkblnjlbnfaaGreatDoor
/-! Contract: postmarklaw10.awake. -/
namespace Go.Proofs.YtppbkblnjlbnfaaGreatDoor
open Go.RowKit
/-- A whole address is loaded, guarded or not. -/
theorem wpList_load_g {P : Program} {ops : Array Oper} {rest : List Oper} {o : Oper} {a : Act} {w : World} {Q : Exit → Act → World → Prop} (ty : TypeId) (x : Operand) (ho : o.op = .load ty x) (hw : Region.wanted o (yielded ops a.tmps) = true)
    (g : Nat) (hx : a.eval x = .pointer (some ⟨g, 0, none⟩)) {t : TypeId} {cs : Array Value} {fr : Nat × Nat} {d : TypeDesc} (hg : w.heap[g]? = some (.cells cs t fr))
    (hu : P.underlying ty = some d) (hd : (match d with | .struct _ | .array _ _ => true | _ => false) = true) (hi : (P.info? ty).map (·.size) = some cs.size)
    (h : wpList P ops Q rest (a.put o.dst (.agg cs)) w) : wpList P ops Q (o :: rest) a w :=
  wpList_step fun _ hK => by
    rw [if_pos hw]
    exact wp_load_row ty x ho g hx _ cs _ _ hg hu hd hi (hK _ _ h)
@[go_sem] theorem field_hf (a0 a1 a2 a3 a4 a5 a6 a7 a8 a9 a10 a11 a12 a13 a14 a15 a16 a17 a18 a19 : Value) (q : Bool) (W : World) : (Instr.field 27 (.agg #[a0, a1, a2, a3, a4, a5, a6, a7, a8, a9, a10, a11, a12, a13, a14, a15, a16, a17, a18, a19, .bool q]) 10).run Tryz.prog W = .ok (.bool q) W := by kernel_rfl
end Go.Proofs.YtppbkblnjlbnfaaGreatDoor
