/-
  DERIVED. GIVEN WITH THE SEED: THE CARDS: each row of YtphigjogeejdjaaGreatDoorRows.lean that lists a variable, with what it lists TIED to the program's text (the seventh form; the later family's looks); each row that meets fmt, with fmt's text TOLD by the authors' own Lean function (tested against real Go, not proved from fmt's source: count such statements apart). THE CARD IS WHAT COUNTS. Prove the row's statement (the work); the ties are given (YtphigjogeejdjaaGreatDoorTie.lean); close each card by the builder's one call (the guide's Derived/Test/ToyasCard.lean, 'card_holds'). Laid BY PROGRAM, IN A SANDBOX (cutbox-door.mjs). By AI agents, Wed Nov 11 2026. No macro, syntax, notation, axiom, sorry.
-/
import Derived.Test.YtphigjogeejdjaaGreatDoorRows
import GoSem.ClaimSeven
namespace Go.Proofs.YtphigjogeejdjaaGreatDoor
namespace Rows

/-- THE TIED CARD OF 'postmarklaw19.TaintCors'. -/
def taintCorsCard : Claim7 := { stood := { row := taintCorsRow, standIns := [], harness := (true, "bca6b582628201c18c38fbc42daed081293be64dd2ebf3f720212854caad50aa"), looks := true }, kinds := [], alts := [], laidByText := true, laidKinds := [.data, .pinned], laidTests := true, laidLooks := .later }
def TaintCorsCardSaid : Prop := Claim7.holds Tryz.pinned (.plain (OpenSpec.ofChange taintCorsSpec)) taintCorsCard

/-- THE TIED CARD OF 'postmarklaw19.TaintCreds'. -/
def taintCredsCard : Claim7 := { stood := { row := taintCredsRow, standIns := [], harness := (true, "bca6b582628201c18c38fbc42daed081293be64dd2ebf3f720212854caad50aa"), looks := true }, kinds := [], alts := [], laidByText := true, laidKinds := [.data, .pinned], laidTests := true, laidLooks := .later }
def TaintCredsCardSaid : Prop := Claim7.holds Tryz.pinned (.plain (OpenSpec.ofChange taintCredsSpec)) taintCredsCard

/-- THE TIED CARD OF 'postmarklaw11.JoinMay'. -/
def joinMayCard : Claim7 := { stood := { row := joinMayRow, standIns := [], harness := (true, "bca6b582628201c18c38fbc42daed081293be64dd2ebf3f720212854caad50aa"), looks := true }, kinds := [], alts := [], laidByText := true, laidKinds := [.data, .pinned], laidTests := true, laidLooks := .later }
def JoinMayCardSaid : Prop := Claim7.holds Tryz.pinned (.plain (OpenSpec.ofChange joinMaySpec)) joinMayCard

/-- THE TIED CARD OF 'postmarklaw11.JoinSelf'. -/
def joinSelfCard : Claim7 := { stood := { row := joinSelfRow, standIns := [], harness := (true, "bca6b582628201c18c38fbc42daed081293be64dd2ebf3f720212854caad50aa"), looks := true }, kinds := [], alts := [], laidByText := true, laidKinds := [.data, .pinned], laidTests := true, laidLooks := .later }
def JoinSelfCardSaid : Prop := Claim7.holds Tryz.pinned (.plain (OpenSpec.ofChange joinSelfSpec)) joinSelfCard

/-- THE TIED CARD OF 'postmarklaw11.JoinPath'. -/
def joinPathCard : Claim7 := { stood := { row := joinPathRow, standIns := [], harness := (true, "bca6b582628201c18c38fbc42daed081293be64dd2ebf3f720212854caad50aa"), looks := true }, kinds := [], alts := [], laidByText := true, laidKinds := [.data, .pinned], laidTests := true, laidLooks := .later }
def JoinPathCardSaid : Prop := Claim7.holds Tryz.pinned (.plain (OpenSpec.ofChange joinPathSpec)) joinPathCard

/-- THE TIED CARD OF 'postmarklaw11.JoinQuery'. -/
def joinQueryCard : Claim7 := { stood := { row := joinQueryRow, standIns := [], harness := (true, "bca6b582628201c18c38fbc42daed081293be64dd2ebf3f720212854caad50aa"), looks := true }, kinds := [], alts := [], laidByText := true, laidKinds := [.data, .pinned], laidTests := true, laidLooks := .later }
def JoinQueryCardSaid : Prop := Claim7.holds Tryz.pinned (.plain (OpenSpec.ofChange joinQuerySpec)) joinQueryCard

/-- THE TIED CARD OF 'postmarklaw11.JoinInherit'. -/
def joinInheritCard : Claim7 := { stood := { row := joinInheritRow, standIns := [], harness := (true, "bca6b582628201c18c38fbc42daed081293be64dd2ebf3f720212854caad50aa"), looks := true }, kinds := [], alts := [], laidByText := true, laidKinds := [.data, .pinned], laidTests := true, laidLooks := .later }
def JoinInheritCardSaid : Prop := Claim7.holds Tryz.pinned (.plain (OpenSpec.ofChange joinInheritSpec)) joinInheritCard

/-- THE TIED CARD OF 'postmarklaw17.ReferBlind'. -/
def referBlindCard : Claim7 := { stood := { row := referBlindRow, standIns := [], harness := (true, "bca6b582628201c18c38fbc42daed081293be64dd2ebf3f720212854caad50aa"), looks := true }, kinds := [], alts := [], laidByText := true, laidKinds := [.data, .pinned], laidTests := true, laidLooks := .later }
def ReferBlindCardSaid : Prop := Claim7.holds Tryz.pinned (.plain (OpenSpec.ofChange referBlindSpec)) referBlindCard

/-- THE TIED CARD OF 'postmarklaw17.ReferDown'. -/
def referDownCard : Claim7 := { stood := { row := referDownRow, standIns := [], harness := (true, "bca6b582628201c18c38fbc42daed081293be64dd2ebf3f720212854caad50aa"), looks := true }, kinds := [], alts := [], laidByText := true, laidKinds := [.data, .pinned], laidTests := true, laidLooks := .later }
def ReferDownCardSaid : Prop := Claim7.holds Tryz.pinned (.plain (OpenSpec.ofChange referDownSpec)) referDownCard

/-- THE TIED CARD OF 'postmarklaw17.ReferSelf'. -/
def referSelfCard : Claim7 := { stood := { row := referSelfRow, standIns := [], harness := (true, "bca6b582628201c18c38fbc42daed081293be64dd2ebf3f720212854caad50aa"), looks := true }, kinds := [], alts := [], laidByText := true, laidKinds := [.data, .pinned], laidTests := true, laidLooks := .later }
def ReferSelfCardSaid : Prop := Claim7.holds Tryz.pinned (.plain (OpenSpec.ofChange referSelfSpec)) referSelfCard

/-- THE TIED CARD OF 'postmarklaw17.ReferMost'. -/
def referMostCard : Claim7 := { stood := { row := referMostRow, standIns := [], harness := (true, "bca6b582628201c18c38fbc42daed081293be64dd2ebf3f720212854caad50aa"), looks := true }, kinds := [], alts := [], laidByText := true, laidKinds := [.data, .pinned], laidTests := true, laidLooks := .later }
def ReferMostCardSaid : Prop := Claim7.holds Tryz.pinned (.plain (OpenSpec.ofChange referMostSpec)) referMostCard

/-- THE TIED CARD OF 'postmarklaw17.ReferStrict'. -/
def referStrictCard : Claim7 := { stood := { row := referStrictRow, standIns := [], harness := (true, "bca6b582628201c18c38fbc42daed081293be64dd2ebf3f720212854caad50aa"), looks := true }, kinds := [], alts := [], laidByText := true, laidKinds := [.data, .pinned], laidTests := true, laidLooks := .later }
def ReferStrictCardSaid : Prop := Claim7.holds Tryz.pinned (.plain (OpenSpec.ofChange referStrictSpec)) referStrictCard

/-- THE SECOND FORM's CARD OF 'postmarklaw19.TaintCors'. -/
def taintCorsUptoCard : Claim7 := { stood := { row := taintCorsUptoRow, standIns := [], harness := (true, "bca6b582628201c18c38fbc42daed081293be64dd2ebf3f720212854caad50aa"), looks := true }, kinds := [], alts := [], laidByText := true, laidKinds := [.data, .pinned], laidTests := true, laidLooks := .later }
def TaintCorsUptoCardSaid : Prop := Claim7.holds Tryz.pinned (.plain (OpenSpec.upto taintCorsSpec)) taintCorsUptoCard

/-- THE SECOND FORM's CARD OF 'postmarklaw19.TaintCreds'. -/
def taintCredsUptoCard : Claim7 := { stood := { row := taintCredsUptoRow, standIns := [], harness := (true, "bca6b582628201c18c38fbc42daed081293be64dd2ebf3f720212854caad50aa"), looks := true }, kinds := [], alts := [], laidByText := true, laidKinds := [.data, .pinned], laidTests := true, laidLooks := .later }
def TaintCredsUptoCardSaid : Prop := Claim7.holds Tryz.pinned (.plain (OpenSpec.upto taintCredsSpec)) taintCredsUptoCard

/-- THE SECOND FORM's CARD OF 'postmarklaw11.JoinMay'. -/
def joinMayUptoCard : Claim7 := { stood := { row := joinMayUptoRow, standIns := [], harness := (true, "bca6b582628201c18c38fbc42daed081293be64dd2ebf3f720212854caad50aa"), looks := true }, kinds := [], alts := [], laidByText := true, laidKinds := [.data, .pinned], laidTests := true, laidLooks := .later }
def JoinMayUptoCardSaid : Prop := Claim7.holds Tryz.pinned (.plain (OpenSpec.upto joinMaySpec)) joinMayUptoCard

/-- THE SECOND FORM's CARD OF 'postmarklaw11.JoinSelf'. -/
def joinSelfUptoCard : Claim7 := { stood := { row := joinSelfUptoRow, standIns := [], harness := (true, "bca6b582628201c18c38fbc42daed081293be64dd2ebf3f720212854caad50aa"), looks := true }, kinds := [], alts := [], laidByText := true, laidKinds := [.data, .pinned], laidTests := true, laidLooks := .later }
def JoinSelfUptoCardSaid : Prop := Claim7.holds Tryz.pinned (.plain (OpenSpec.upto joinSelfSpec)) joinSelfUptoCard

/-- THE SECOND FORM's CARD OF 'postmarklaw11.JoinPath'. -/
def joinPathUptoCard : Claim7 := { stood := { row := joinPathUptoRow, standIns := [], harness := (true, "bca6b582628201c18c38fbc42daed081293be64dd2ebf3f720212854caad50aa"), looks := true }, kinds := [], alts := [], laidByText := true, laidKinds := [.data, .pinned], laidTests := true, laidLooks := .later }
def JoinPathUptoCardSaid : Prop := Claim7.holds Tryz.pinned (.plain (OpenSpec.upto joinPathSpec)) joinPathUptoCard

/-- THE SECOND FORM's CARD OF 'postmarklaw11.JoinQuery'. -/
def joinQueryUptoCard : Claim7 := { stood := { row := joinQueryUptoRow, standIns := [], harness := (true, "bca6b582628201c18c38fbc42daed081293be64dd2ebf3f720212854caad50aa"), looks := true }, kinds := [], alts := [], laidByText := true, laidKinds := [.data, .pinned], laidTests := true, laidLooks := .later }
def JoinQueryUptoCardSaid : Prop := Claim7.holds Tryz.pinned (.plain (OpenSpec.upto joinQuerySpec)) joinQueryUptoCard

/-- THE SECOND FORM's CARD OF 'postmarklaw11.JoinInherit'. -/
def joinInheritUptoCard : Claim7 := { stood := { row := joinInheritUptoRow, standIns := [], harness := (true, "bca6b582628201c18c38fbc42daed081293be64dd2ebf3f720212854caad50aa"), looks := true }, kinds := [], alts := [], laidByText := true, laidKinds := [.data, .pinned], laidTests := true, laidLooks := .later }
def JoinInheritUptoCardSaid : Prop := Claim7.holds Tryz.pinned (.plain (OpenSpec.upto joinInheritSpec)) joinInheritUptoCard

/-- THE SECOND FORM's CARD OF 'postmarklaw17.ReferBlind'. -/
def referBlindUptoCard : Claim7 := { stood := { row := referBlindUptoRow, standIns := [], harness := (true, "bca6b582628201c18c38fbc42daed081293be64dd2ebf3f720212854caad50aa"), looks := true }, kinds := [], alts := [], laidByText := true, laidKinds := [.data, .pinned], laidTests := true, laidLooks := .later }
def ReferBlindUptoCardSaid : Prop := Claim7.holds Tryz.pinned (.plain (OpenSpec.upto referBlindSpec)) referBlindUptoCard

/-- THE SECOND FORM's CARD OF 'postmarklaw17.ReferDown'. -/
def referDownUptoCard : Claim7 := { stood := { row := referDownUptoRow, standIns := [], harness := (true, "bca6b582628201c18c38fbc42daed081293be64dd2ebf3f720212854caad50aa"), looks := true }, kinds := [], alts := [], laidByText := true, laidKinds := [.data, .pinned], laidTests := true, laidLooks := .later }
def ReferDownUptoCardSaid : Prop := Claim7.holds Tryz.pinned (.plain (OpenSpec.upto referDownSpec)) referDownUptoCard

/-- THE SECOND FORM's CARD OF 'postmarklaw17.ReferSelf'. -/
def referSelfUptoCard : Claim7 := { stood := { row := referSelfUptoRow, standIns := [], harness := (true, "bca6b582628201c18c38fbc42daed081293be64dd2ebf3f720212854caad50aa"), looks := true }, kinds := [], alts := [], laidByText := true, laidKinds := [.data, .pinned], laidTests := true, laidLooks := .later }
def ReferSelfUptoCardSaid : Prop := Claim7.holds Tryz.pinned (.plain (OpenSpec.upto referSelfSpec)) referSelfUptoCard

/-- THE SECOND FORM's CARD OF 'postmarklaw17.ReferMost'. -/
def referMostUptoCard : Claim7 := { stood := { row := referMostUptoRow, standIns := [], harness := (true, "bca6b582628201c18c38fbc42daed081293be64dd2ebf3f720212854caad50aa"), looks := true }, kinds := [], alts := [], laidByText := true, laidKinds := [.data, .pinned], laidTests := true, laidLooks := .later }
def ReferMostUptoCardSaid : Prop := Claim7.holds Tryz.pinned (.plain (OpenSpec.upto referMostSpec)) referMostUptoCard

/-- THE SECOND FORM's CARD OF 'postmarklaw17.ReferStrict'. -/
def referStrictUptoCard : Claim7 := { stood := { row := referStrictUptoRow, standIns := [], harness := (true, "bca6b582628201c18c38fbc42daed081293be64dd2ebf3f720212854caad50aa"), looks := true }, kinds := [], alts := [], laidByText := true, laidKinds := [.data, .pinned], laidTests := true, laidLooks := .later }
def ReferStrictUptoCardSaid : Prop := Claim7.holds Tryz.pinned (.plain (OpenSpec.upto referStrictSpec)) referStrictUptoCard
end Rows
end Go.Proofs.YtphigjogeejdjaaGreatDoor
