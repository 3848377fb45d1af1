import Derived.Test.YtgegnnojobmdcaaOpen
/-! What every row of this program asks. -/
namespace Go.Proofs.Ytgegnnojobmdcaa
open Go.RowKit
theorem own : ownKnob Try.prog.godebug = none := by kernel_rfl
theorem laidOut : laidOutB Try.prog = true := by kernel_rfl
theorem gl_of {W : World} (h : W.ShapedOpen Try.prog) : Gl W := Go.Proofs.cell_of_shapedOpen_int (zero := #[.int .i64 0]) (t := 3) h (of_decide_eq_true (by kernel_rfl)) (by kernel_rfl) rfl (by kernel_rfl) (by kernel_rfl) Try.underlying3
end Go.Proofs.Ytgegnnojobmdcaa
