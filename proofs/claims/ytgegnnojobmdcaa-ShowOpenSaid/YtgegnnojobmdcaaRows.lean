/-
  No cell of these rows narrows 'for every input' (looked for: loops, veiled, ifaces, maps, wideKeys, modest, calm, conditions, laid).
  DERIVED. THE GIVEN ROWS OF THIS SEAT. 4 by the template 'for every input the law returns true; each argument reads behind the call as it read before'; 0 by the template 'total and deterministic' (their statements: YtgegnnojobmdcaaTotals.lean).
  GIVEN WITH THE SEED: the statements are not yours to turn. If you find one false, say at which input.
  Laid BY PROGRAM, IN A SANDBOX (cutbox-rows.mjs): the forced cells as the released guide's own fill.sh prints them over the translation 8b1399fa30f1e6d5… (all of the seat's roots in one cut). By AI agents, Wed Nov 11 2026. No macro, syntax, notation, axiom, sorry.
-/
import Derived.Test.YtgegnnojobmdcaaChecked
import GoSem.Claim
import GoSem.ClaimJoined
import GoSem.ClaimMapViews
import Derived.JoinedTies
import Derived.KernelRfl
namespace Go.Proofs.Ytgegnnojobmdcaa
/- THE CELL 'sum', in the pinned program and in every row, IS THE sha256 OF THE DUMP (.gsa) THAT YtgegnnojobmdcaaProg.lean LOADS. Nothing in Lean hashes anything: it is a label: what it is worth is what the hold of that sum in a sandbox is worth. -/
noncomputable def Try.pinned : Pinned := { name := "ytgegnnojobmdcaa", sum := "8b1399fa30f1e6d55cd5e25d6208328b804d0189fa18a5f9cf3aa7b43a568841", checked := Try.checked }
namespace Rows
def none {H : Type} : Left H := { results := [], args := [] }

/-- 'postmarklaw10.ShowParts': WHATEVER THE INPUT: true; the input reads as it did. -/
def showPartsSpec : ChangeSpec := { name := "showParts", fn := fun _ => fun
  | [d] => { results := [.lit (.bool true)], args := [d] }
  | _ => none }
def showPartsRow : OpenClaim := { program := "ytgegnnojobmdcaa", sum := "8b1399fa30f1e6d55cd5e25d6208328b804d0189fa18a5f9cf3aa7b43a568841", func := "postmark/postmarklaw10.ShowParts", spec := "showParts", inPlace := ["internal/bytealg.IndexByteString", "internal/abi.NoEscape", "internal/bytealg.IndexString", "internal/bytealg.MakeNoZero"], unfollowed := true, recurses := true, named := ["internal/bytealg.MaxLen"], apart := false }
def ShowPartsSaid : Prop := showPartsRow.holds Try.pinned (OpenSpec.ofChange showPartsSpec)

/-- ITS FALSE NEIGHBOUR: 'it returns false'. Refute it at one input. -/
def showPartsWrong : ChangeSpec := { name := "showParts", fn := fun _ => fun
  | [d] => { results := [.lit (.bool false)], args := [d] }
  | _ => none }
def ShowPartsWrongFalsely : Prop := showPartsRow.holds Try.pinned (OpenSpec.ofChange showPartsWrong)

/-- 'postmarklaw10.ShowDoor': WHATEVER THE INPUT: true; the input reads as it did. -/
def showDoorSpec : ChangeSpec := { name := "showDoor", fn := fun _ => fun
  | [d1, d2] => { results := [.lit (.bool true)], args := [d1, d2] }
  | _ => none }
def showDoorRow : OpenClaim := { program := "ytgegnnojobmdcaa", sum := "8b1399fa30f1e6d55cd5e25d6208328b804d0189fa18a5f9cf3aa7b43a568841", func := "postmark/postmarklaw10.ShowDoor", spec := "showDoor", inPlace := ["internal/bytealg.IndexByteString", "internal/abi.NoEscape", "internal/bytealg.IndexString", "internal/bytealg.MakeNoZero"], unfollowed := true, recurses := true, named := ["internal/bytealg.MaxLen"], apart := false }
def ShowDoorSaid : Prop := showDoorRow.holds Try.pinned (OpenSpec.ofChange showDoorSpec)

/-- ITS FALSE NEIGHBOUR: 'it returns false'. Refute it at one input. -/
def showDoorWrong : ChangeSpec := { name := "showDoor", fn := fun _ => fun
  | [d1, d2] => { results := [.lit (.bool false)], args := [d1, d2] }
  | _ => none }
def ShowDoorWrongFalsely : Prop := showDoorRow.holds Try.pinned (OpenSpec.ofChange showDoorWrong)

/-- 'postmarklaw10.ShowApart': WHATEVER THE INPUT: true; the input reads as it did. -/
def showApartSpec : ChangeSpec := { name := "showApart", fn := fun _ => fun
  | [d1, d2] => { results := [.lit (.bool true)], args := [d1, d2] }
  | _ => none }
def showApartRow : OpenClaim := { program := "ytgegnnojobmdcaa", sum := "8b1399fa30f1e6d55cd5e25d6208328b804d0189fa18a5f9cf3aa7b43a568841", func := "postmark/postmarklaw10.ShowApart", spec := "showApart", inPlace := ["internal/bytealg.IndexByteString", "internal/abi.NoEscape", "internal/bytealg.IndexString", "internal/bytealg.MakeNoZero"], unfollowed := true, recurses := true, named := ["internal/bytealg.MaxLen"], apart := false }
def ShowApartSaid : Prop := showApartRow.holds Try.pinned (OpenSpec.ofChange showApartSpec)

/-- ITS FALSE NEIGHBOUR: 'it returns false'. Refute it at one input. -/
def showApartWrong : ChangeSpec := { name := "showApart", fn := fun _ => fun
  | [d1, d2] => { results := [.lit (.bool false)], args := [d1, d2] }
  | _ => none }
def ShowApartWrongFalsely : Prop := showApartRow.holds Try.pinned (OpenSpec.ofChange showApartWrong)

/-- 'postmarklaw10.ShowOpen': WHATEVER THE INPUT: true; the input reads as it did. -/
def showOpenSpec : ChangeSpec := { name := "showOpen", fn := fun _ => fun
  | [d1, d2] => { results := [.lit (.bool true)], args := [d1, d2] }
  | _ => none }
def showOpenRow : OpenClaim := { program := "ytgegnnojobmdcaa", sum := "8b1399fa30f1e6d55cd5e25d6208328b804d0189fa18a5f9cf3aa7b43a568841", func := "postmark/postmarklaw10.ShowOpen", spec := "showOpen", inPlace := ["internal/bytealg.IndexByteString", "internal/abi.NoEscape", "internal/bytealg.IndexString", "internal/bytealg.MakeNoZero"], unfollowed := true, recurses := true, named := ["internal/bytealg.MaxLen"], apart := false }
def ShowOpenSaid : Prop := showOpenRow.holds Try.pinned (OpenSpec.ofChange showOpenSpec)

/-- ITS FALSE NEIGHBOUR: 'it returns false'. Refute it at one input. -/
def showOpenWrong : ChangeSpec := { name := "showOpen", fn := fun _ => fun
  | [d1, d2] => { results := [.lit (.bool false)], args := [d1, d2] }
  | _ => none }
def ShowOpenWrongFalsely : Prop := showOpenRow.holds Try.pinned (OpenSpec.ofChange showOpenWrong)

/- THE SECOND FORM. 'bulk': how many values and letters a reading holds, each counted each time it is reached (what is shared counts as often as it is met; a slice's spare places count too). A statement '..UptoSaid' is the law's where the arguments, and the package variables that the reading takes, are together of bulk at most 1048576: NARROWER than '..Said'. Prove '..Said' where nothing that the law and all that it calls make is longer than what came in: it says more and counts as full. Else prove '..UptoSaid'. A law counts once. -/
mutual
def uptoBulk {H : Type} : DataW H → Nat
  | .lit (.string bytes) => bytes.length + 1
  | .lit _ => 1
  | .nil => 1
  | .ptr d => uptoBulk d + 1
  | .slice elems spare => uptoBulkAll elems + uptoBulkAll spare + 1
  | .agg parts => uptoBulkAll parts + 1
  | .iface _ d => uptoBulk d + 1
  | .map entries => uptoBulkEntries entries + 1
  | .held _ => 1
def uptoBulkAll {H : Type} : List (DataW H) → Nat
  | [] => 0
  | d :: r => uptoBulk d + uptoBulkAll r
def uptoBulkEntries {H : Type} : List (Lit × DataW H) → Nat
  | [] => 0
  | x :: r => uptoBulkEntry x + uptoBulkEntries r
def uptoBulkEntry {H : Type} : Lit × DataW H → Nat
  | (.string bytes, d) => bytes.length + uptoBulk d + 1
  | (_, d) => uptoBulk d + 1
 end
def uptoSmall : (H : Type) → List (DataW H) → Bool := fun _ ds => decide (uptoBulkAll ds ≤ 1048576)
def OpenSpec.upto (s : _root_.Go.ChangeSpec) : _root_.Go.OpenSpec := { _root_.Go.OpenSpec.ofChange s with cond := some uptoSmall }

/-- 'postmarklaw10.ShowParts', WHERE WHAT IT READS IS OF BULK AT MOST 1048576: true; the input reads as it did. -/
def showPartsUptoRow : OpenClaim := { program := "ytgegnnojobmdcaa", sum := "8b1399fa30f1e6d55cd5e25d6208328b804d0189fa18a5f9cf3aa7b43a568841", func := "postmark/postmarklaw10.ShowParts", spec := "showParts", inPlace := ["internal/bytealg.IndexByteString", "internal/abi.NoEscape", "internal/bytealg.IndexString", "internal/bytealg.MakeNoZero"], unfollowed := true, recurses := true, named := ["internal/bytealg.MaxLen"], apart := false, narrowed := true }
def ShowPartsUptoSaid : Prop := showPartsUptoRow.holds Try.pinned (OpenSpec.upto showPartsSpec)

/-- 'postmarklaw10.ShowDoor', WHERE WHAT IT READS IS OF BULK AT MOST 1048576: true; the input reads as it did. -/
def showDoorUptoRow : OpenClaim := { program := "ytgegnnojobmdcaa", sum := "8b1399fa30f1e6d55cd5e25d6208328b804d0189fa18a5f9cf3aa7b43a568841", func := "postmark/postmarklaw10.ShowDoor", spec := "showDoor", inPlace := ["internal/bytealg.IndexByteString", "internal/abi.NoEscape", "internal/bytealg.IndexString", "internal/bytealg.MakeNoZero"], unfollowed := true, recurses := true, named := ["internal/bytealg.MaxLen"], apart := false, narrowed := true }
def ShowDoorUptoSaid : Prop := showDoorUptoRow.holds Try.pinned (OpenSpec.upto showDoorSpec)

/-- 'postmarklaw10.ShowApart', WHERE WHAT IT READS IS OF BULK AT MOST 1048576: true; the input reads as it did. -/
def showApartUptoRow : OpenClaim := { program := "ytgegnnojobmdcaa", sum := "8b1399fa30f1e6d55cd5e25d6208328b804d0189fa18a5f9cf3aa7b43a568841", func := "postmark/postmarklaw10.ShowApart", spec := "showApart", inPlace := ["internal/bytealg.IndexByteString", "internal/abi.NoEscape", "internal/bytealg.IndexString", "internal/bytealg.MakeNoZero"], unfollowed := true, recurses := true, named := ["internal/bytealg.MaxLen"], apart := false, narrowed := true }
def ShowApartUptoSaid : Prop := showApartUptoRow.holds Try.pinned (OpenSpec.upto showApartSpec)

/-- 'postmarklaw10.ShowOpen', WHERE WHAT IT READS IS OF BULK AT MOST 1048576: true; the input reads as it did. -/
def showOpenUptoRow : OpenClaim := { program := "ytgegnnojobmdcaa", sum := "8b1399fa30f1e6d55cd5e25d6208328b804d0189fa18a5f9cf3aa7b43a568841", func := "postmark/postmarklaw10.ShowOpen", spec := "showOpen", inPlace := ["internal/bytealg.IndexByteString", "internal/abi.NoEscape", "internal/bytealg.IndexString", "internal/bytealg.MakeNoZero"], unfollowed := true, recurses := true, named := ["internal/bytealg.MaxLen"], apart := false, narrowed := true }
def ShowOpenUptoSaid : Prop := showOpenUptoRow.holds Try.pinned (OpenSpec.upto showOpenSpec)

end Rows
end Go.Proofs.Ytgegnnojobmdcaa
