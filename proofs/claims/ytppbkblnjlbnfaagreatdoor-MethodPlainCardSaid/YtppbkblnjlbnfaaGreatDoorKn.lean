import Derived.Test.YtppbkblnjlbnfaaGreatDoorP15
import Derived.Test.YtppbkblnjlbnfaaGreatDoorOg
import Derived.Deep.MidRow
import Derived.Maps.Own
/-! A text whose address is known. -/
set_option linter.unusedVariables false
set_option linter.unusedSimpArgs false
namespace Go.Proofs.YtppbkblnjlbnfaaGreatDoor
open Go.RowKit
/-- A text whose address is known is parsed to it. -/
theorem known_c (s : List UInt8) (p : PM.Url) (hs : s.length ≤ 30000) (hp : PM.urlParse s = some p) (hl : p.path.length ≤ 10000) (w : World) (hg : Gl w) (hT : Lib.Utf8Tabs 2 3 w) : Calls Tryz.prog 45 #[.string (mkS s)] w fun e w' => (∃ v : UV, e = .returned (.tuple #[.agg v.cells, .bool true]) ∧ v.pm = p ∧ v.Ok w') ∧ Below w.heap.size w w' := by
  have h := UrlParse_c s hs w hg hT
  rw [hp] at h
  refine h.mono ?_
  rintro e w' ⟨⟨v, h1, h2, h3⟩, hb⟩
  have h2' : v.pm = p := h2
  have hx : v.xs = v.pm.path := rfl
  exact ⟨⟨v, h1, h2', h3 (by rw [hx, h2']; exact hl)⟩, hb⟩
/-- A struct out of the middle of a block, guarded or not. -/
theorem wpList_load_mg {P : Program} {ops : Array Oper} {rest : List Oper} {o : Oper} {a : Act} {w : World} {Q : Exit → Act → World → Prop} (ty : TypeId) (x : Operand) (ho : o.op = .load ty x) (hw : Region.wanted o (yielded ops a.tmps) = true)
    (b off : Nat) (hx : a.eval x = .pointer (some ⟨b, off, none⟩)) (cs : Array Value) (hc : w.rangeAt b off cs.toList) {d : TypeDesc} (hu : P.underlying ty = some d) (hd : d.isRow = true) (hi : (P.info? ty).map (·.size) = some cs.size)
    (h : wpList P ops Q rest (a.put o.dst (.agg cs)) w) : wpList P ops Q (o :: rest) a w :=
  wpList_step fun _ hK => by
    rw [if_pos hw]
    exact wp_load_mid ty x ho b off hx cs.toList d hc hu hd (by simpa using hi) (by simpa using hK _ _ h)
theorem yield_mid {P : Program} {o : Oper} {a : Act} {W : World} (ty : TypeId) (x : Operand) (ho : o.op = .load ty x) (b off : Nat) (hx : a.eval x = .pointer (some ⟨b, off, none⟩)) (cs : Array Value) (hc : W.rangeAt b off cs.toList) {d : TypeDesc}
    (hu : P.underlying ty = some d) (hd : d.isRow = true) (hi : (P.info? ty).map (·.size) = some cs.size) : (execOp a.eval o).run P W = .ok (.value (.agg cs)) W := by
  unfold execOp
  simp only [ho, hx, Instr.loadAt, Instr.sureAddr, Sem.run_bind, Sem.run_pure, Result.andThen_ok, run_loadVar_mid W b off ty cs.toList d hc hu hd (by simpa using hi), Array.toArray_toList]
end Go.Proofs.YtppbkblnjlbnfaaGreatDoor
