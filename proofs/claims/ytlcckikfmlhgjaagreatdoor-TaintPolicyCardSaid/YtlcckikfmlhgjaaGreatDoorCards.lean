/-
  DERIVED. GIVEN WITH THE SEED: THE CARDS: each row of YtlcckikfmlhgjaaGreatDoorRows.lean that lists a variable, with what it lists TIED to the program's text (the seventh form; the later family's looks); each row that meets fmt, with fmt's text TOLD by the authors' own Lean function (tested against real Go, not proved from fmt's source: count such statements apart). THE CARD IS WHAT COUNTS. Prove the row's statement (the work); the ties are given (YtlcckikfmlhgjaaGreatDoorTie.lean); close each card by the builder's one call (the guide's Derived/Test/ToyasCard.lean, 'card_holds'). Laid BY PROGRAM, IN A SANDBOX (cutbox-door.mjs). By AI agents, Wed Nov 11 2026. No macro, syntax, notation, axiom, sorry.
-/
import Derived.Test.YtlcckikfmlhgjaaGreatDoorRows
import GoSem.ClaimSeven
namespace Go.Proofs.YtlcckikfmlhgjaaGreatDoor
namespace Rows

/-- THE TIED CARD OF 'postmarklaw09.UrlSame'. -/
def urlSameCard : Claim7 := { stood := { row := urlSameRow, standIns := [], harness := (true, "61e10304ac1112083faa6fe44f78d3ef8f0ba3c61bb25c585c7ddaac8c9b2171"), looks := true }, kinds := [], alts := [], laidByText := true, laidKinds := [.pinned, .data], laidTests := true, laidLooks := .later }
def UrlSameCardSaid : Prop := Claim7.holds Tryz.pinned (.plain (OpenSpec.ofChange urlSameSpec)) urlSameCard

/-- THE TIED CARD OF 'postmarklaw12.OriginEach'. -/
def originEachCard : Claim7 := { stood := { row := originEachRow, standIns := [], harness := (true, "61e10304ac1112083faa6fe44f78d3ef8f0ba3c61bb25c585c7ddaac8c9b2171"), looks := true }, kinds := [], alts := [], laidByText := true, laidKinds := [.pinned, .data], laidTests := true, laidLooks := .later }
def OriginEachCardSaid : Prop := Claim7.holds Tryz.pinned (.plain (OpenSpec.ofChange originEachSpec)) originEachCard

/-- THE TIED CARD OF 'postmarklaw12.OriginTrust'. -/
def originTrustCard : Claim7 := { stood := { row := originTrustRow, standIns := [], harness := (true, "61e10304ac1112083faa6fe44f78d3ef8f0ba3c61bb25c585c7ddaac8c9b2171"), looks := true }, kinds := [], alts := [], laidByText := true, laidKinds := [.pinned, .data], laidTests := true, laidLooks := .later }
def OriginTrustCardSaid : Prop := Claim7.holds Tryz.pinned (.plain (OpenSpec.ofChange originTrustSpec)) originTrustCard

/-- THE TIED CARD OF 'postmarklaw12.OriginPort'. -/
def originPortCard : Claim7 := { stood := { row := originPortRow, standIns := [], harness := (true, "61e10304ac1112083faa6fe44f78d3ef8f0ba3c61bb25c585c7ddaac8c9b2171"), looks := true }, kinds := [], alts := [], laidByText := true, laidKinds := [.pinned, .data], laidTests := true, laidLooks := .later }
def OriginPortCardSaid : Prop := Claim7.holds Tryz.pinned (.plain (OpenSpec.ofChange originPortSpec)) originPortCard

/-- THE TIED CARD OF 'postmarklaw12.OriginNull'. -/
def originNullCard : Claim7 := { stood := { row := originNullRow, standIns := [], harness := (true, "61e10304ac1112083faa6fe44f78d3ef8f0ba3c61bb25c585c7ddaac8c9b2171"), looks := true }, kinds := [], alts := [], laidByText := true, laidKinds := [.pinned, .data], laidTests := true, laidLooks := .later }
def OriginNullCardSaid : Prop := Claim7.holds Tryz.pinned (.plain (OpenSpec.ofChange originNullSpec)) originNullCard

/-- THE TIED CARD OF 'postmarklaw19.TaintStays'. -/
def taintStaysCard : Claim7 := { stood := { row := taintStaysRow, standIns := [], harness := (true, "61e10304ac1112083faa6fe44f78d3ef8f0ba3c61bb25c585c7ddaac8c9b2171"), looks := true }, kinds := [], alts := [], laidByText := true, laidKinds := [.pinned, .data], laidTests := true, laidLooks := .later }
def TaintStaysCardSaid : Prop := Claim7.holds Tryz.pinned (.plain (OpenSpec.ofChange taintStaysSpec)) taintStaysCard

/-- THE TIED CARD OF 'postmarklaw19.TaintNull'. -/
def taintNullCard : Claim7 := { stood := { row := taintNullRow, standIns := [], harness := (true, "61e10304ac1112083faa6fe44f78d3ef8f0ba3c61bb25c585c7ddaac8c9b2171"), looks := true }, kinds := [], alts := [], laidByText := true, laidKinds := [.pinned, .data], laidTests := true, laidLooks := .later }
def TaintNullCardSaid : Prop := Claim7.holds Tryz.pinned (.plain (OpenSpec.ofChange taintNullSpec)) taintNullCard

/-- THE TIED CARD OF 'postmarklaw19.TaintCors'. -/
def taintCorsCard : Claim7 := { stood := { row := taintCorsRow, standIns := [], harness := (true, "61e10304ac1112083faa6fe44f78d3ef8f0ba3c61bb25c585c7ddaac8c9b2171"), looks := true }, kinds := [], alts := [], laidByText := true, laidKinds := [.pinned, .data], laidTests := true, laidLooks := .later }
def TaintCorsCardSaid : Prop := Claim7.holds Tryz.pinned (.plain (OpenSpec.ofChange taintCorsSpec)) taintCorsCard

/-- THE TIED CARD OF 'postmarklaw19.TaintPolicy'. -/
def taintPolicyCard : Claim7 := { stood := { row := taintPolicyRow, standIns := [], harness := (true, "61e10304ac1112083faa6fe44f78d3ef8f0ba3c61bb25c585c7ddaac8c9b2171"), looks := true }, kinds := [], alts := [], laidByText := true, laidKinds := [.pinned, .data], laidTests := true, laidLooks := .later }
def TaintPolicyCardSaid : Prop := Claim7.holds Tryz.pinned (.plain (OpenSpec.ofChange taintPolicySpec)) taintPolicyCard

/-- THE TIED CARD OF 'postmarklaw19.TaintCreds'. -/
def taintCredsCard : Claim7 := { stood := { row := taintCredsRow, standIns := [], harness := (true, "61e10304ac1112083faa6fe44f78d3ef8f0ba3c61bb25c585c7ddaac8c9b2171"), looks := true }, kinds := [], alts := [], laidByText := true, laidKinds := [.pinned, .data], laidTests := true, laidLooks := .later }
def TaintCredsCardSaid : Prop := Claim7.holds Tryz.pinned (.plain (OpenSpec.ofChange taintCredsSpec)) taintCredsCard

/-- THE TIED CARD OF 'postmarklaw12.OriginShow'. -/
def originShowCard : Claim7 := { stood := { row := originShowRow, standIns := [], harness := (true, "61e10304ac1112083faa6fe44f78d3ef8f0ba3c61bb25c585c7ddaac8c9b2171"), looks := true }, kinds := [], alts := [], laidByText := true, laidKinds := [.pinned, .data], laidTests := true, laidLooks := .later }
def OriginShowCardSaid : Prop := Claim7.holds Tryz.pinned (.plain (OpenSpec.ofChange originShowSpec)) originShowCard

/-- THE TIED CARD OF 'postmarklaw16.StripCap'. -/
def stripCapCard : Claim7 := { stood := { row := stripCapRow, standIns := [], harness := (true, "61e10304ac1112083faa6fe44f78d3ef8f0ba3c61bb25c585c7ddaac8c9b2171"), looks := true }, kinds := [], alts := [], laidByText := true, laidKinds := [.pinned, .data], laidTests := true, laidLooks := .later }
def StripCapCardSaid : Prop := Claim7.holds Tryz.pinned (.plain (OpenSpec.ofChange stripCapSpec)) stripCapCard

/-- THE TIED CARD OF 'postmarklaw16.StripQuery'. -/
def stripQueryCard : Claim7 := { stood := { row := stripQueryRow, standIns := [], harness := (true, "61e10304ac1112083faa6fe44f78d3ef8f0ba3c61bb25c585c7ddaac8c9b2171"), looks := true }, kinds := [], alts := [], laidByText := true, laidKinds := [.pinned, .data], laidTests := true, laidLooks := .later }
def StripQueryCardSaid : Prop := Claim7.holds Tryz.pinned (.plain (OpenSpec.ofChange stripQuerySpec)) stripQueryCard

/-- THE TIED CARD OF 'postmarklaw16.StripSafe'. -/
def stripSafeCard : Claim7 := { stood := { row := stripSafeRow, standIns := [], harness := (true, "61e10304ac1112083faa6fe44f78d3ef8f0ba3c61bb25c585c7ddaac8c9b2171"), looks := true }, kinds := [], alts := [], laidByText := true, laidKinds := [.pinned, .data], laidTests := true, laidLooks := .later }
def StripSafeCardSaid : Prop := Claim7.holds Tryz.pinned (.plain (OpenSpec.ofChange stripSafeSpec)) stripSafeCard

/-- THE TIED CARD OF 'postmarklaw16.StripBlind'. -/
def stripBlindCard : Claim7 := { stood := { row := stripBlindRow, standIns := [], harness := (true, "61e10304ac1112083faa6fe44f78d3ef8f0ba3c61bb25c585c7ddaac8c9b2171"), looks := true }, kinds := [], alts := [], laidByText := true, laidKinds := [.pinned, .data], laidTests := true, laidLooks := .later }
def StripBlindCardSaid : Prop := Claim7.holds Tryz.pinned (.plain (OpenSpec.ofChange stripBlindSpec)) stripBlindCard

/-- THE TIED CARD OF 'postmarklaw16.StripMeet'. -/
def stripMeetCard : Claim7 := { stood := { row := stripMeetRow, standIns := [], harness := (true, "61e10304ac1112083faa6fe44f78d3ef8f0ba3c61bb25c585c7ddaac8c9b2171"), looks := true }, kinds := [], alts := [], laidByText := true, laidKinds := [.pinned, .data], laidTests := true, laidLooks := .later }
def StripMeetCardSaid : Prop := Claim7.holds Tryz.pinned (.plain (OpenSpec.ofChange stripMeetSpec)) stripMeetCard

/-- THE SECOND FORM's CARD OF 'postmarklaw09.UrlSame'. -/
def urlSameUptoCard : Claim7 := { stood := { row := urlSameUptoRow, standIns := [], harness := (true, "61e10304ac1112083faa6fe44f78d3ef8f0ba3c61bb25c585c7ddaac8c9b2171"), looks := true }, kinds := [], alts := [], laidByText := true, laidKinds := [.pinned, .data], laidTests := true, laidLooks := .later }
def UrlSameUptoCardSaid : Prop := Claim7.holds Tryz.pinned (.plain (OpenSpec.upto urlSameSpec)) urlSameUptoCard

/-- THE SECOND FORM's CARD OF 'postmarklaw12.OriginEach'. -/
def originEachUptoCard : Claim7 := { stood := { row := originEachUptoRow, standIns := [], harness := (true, "61e10304ac1112083faa6fe44f78d3ef8f0ba3c61bb25c585c7ddaac8c9b2171"), looks := true }, kinds := [], alts := [], laidByText := true, laidKinds := [.pinned, .data], laidTests := true, laidLooks := .later }
def OriginEachUptoCardSaid : Prop := Claim7.holds Tryz.pinned (.plain (OpenSpec.upto originEachSpec)) originEachUptoCard

/-- THE SECOND FORM's CARD OF 'postmarklaw12.OriginTrust'. -/
def originTrustUptoCard : Claim7 := { stood := { row := originTrustUptoRow, standIns := [], harness := (true, "61e10304ac1112083faa6fe44f78d3ef8f0ba3c61bb25c585c7ddaac8c9b2171"), looks := true }, kinds := [], alts := [], laidByText := true, laidKinds := [.pinned, .data], laidTests := true, laidLooks := .later }
def OriginTrustUptoCardSaid : Prop := Claim7.holds Tryz.pinned (.plain (OpenSpec.upto originTrustSpec)) originTrustUptoCard

/-- THE SECOND FORM's CARD OF 'postmarklaw12.OriginPort'. -/
def originPortUptoCard : Claim7 := { stood := { row := originPortUptoRow, standIns := [], harness := (true, "61e10304ac1112083faa6fe44f78d3ef8f0ba3c61bb25c585c7ddaac8c9b2171"), looks := true }, kinds := [], alts := [], laidByText := true, laidKinds := [.pinned, .data], laidTests := true, laidLooks := .later }
def OriginPortUptoCardSaid : Prop := Claim7.holds Tryz.pinned (.plain (OpenSpec.upto originPortSpec)) originPortUptoCard

/-- THE SECOND FORM's CARD OF 'postmarklaw12.OriginNull'. -/
def originNullUptoCard : Claim7 := { stood := { row := originNullUptoRow, standIns := [], harness := (true, "61e10304ac1112083faa6fe44f78d3ef8f0ba3c61bb25c585c7ddaac8c9b2171"), looks := true }, kinds := [], alts := [], laidByText := true, laidKinds := [.pinned, .data], laidTests := true, laidLooks := .later }
def OriginNullUptoCardSaid : Prop := Claim7.holds Tryz.pinned (.plain (OpenSpec.upto originNullSpec)) originNullUptoCard

/-- THE SECOND FORM's CARD OF 'postmarklaw19.TaintStays'. -/
def taintStaysUptoCard : Claim7 := { stood := { row := taintStaysUptoRow, standIns := [], harness := (true, "61e10304ac1112083faa6fe44f78d3ef8f0ba3c61bb25c585c7ddaac8c9b2171"), looks := true }, kinds := [], alts := [], laidByText := true, laidKinds := [.pinned, .data], laidTests := true, laidLooks := .later }
def TaintStaysUptoCardSaid : Prop := Claim7.holds Tryz.pinned (.plain (OpenSpec.upto taintStaysSpec)) taintStaysUptoCard

/-- THE SECOND FORM's CARD OF 'postmarklaw19.TaintNull'. -/
def taintNullUptoCard : Claim7 := { stood := { row := taintNullUptoRow, standIns := [], harness := (true, "61e10304ac1112083faa6fe44f78d3ef8f0ba3c61bb25c585c7ddaac8c9b2171"), looks := true }, kinds := [], alts := [], laidByText := true, laidKinds := [.pinned, .data], laidTests := true, laidLooks := .later }
def TaintNullUptoCardSaid : Prop := Claim7.holds Tryz.pinned (.plain (OpenSpec.upto taintNullSpec)) taintNullUptoCard

/-- THE SECOND FORM's CARD OF 'postmarklaw19.TaintCors'. -/
def taintCorsUptoCard : Claim7 := { stood := { row := taintCorsUptoRow, standIns := [], harness := (true, "61e10304ac1112083faa6fe44f78d3ef8f0ba3c61bb25c585c7ddaac8c9b2171"), looks := true }, kinds := [], alts := [], laidByText := true, laidKinds := [.pinned, .data], laidTests := true, laidLooks := .later }
def TaintCorsUptoCardSaid : Prop := Claim7.holds Tryz.pinned (.plain (OpenSpec.upto taintCorsSpec)) taintCorsUptoCard

/-- THE SECOND FORM's CARD OF 'postmarklaw19.TaintPolicy'. -/
def taintPolicyUptoCard : Claim7 := { stood := { row := taintPolicyUptoRow, standIns := [], harness := (true, "61e10304ac1112083faa6fe44f78d3ef8f0ba3c61bb25c585c7ddaac8c9b2171"), looks := true }, kinds := [], alts := [], laidByText := true, laidKinds := [.pinned, .data], laidTests := true, laidLooks := .later }
def TaintPolicyUptoCardSaid : Prop := Claim7.holds Tryz.pinned (.plain (OpenSpec.upto taintPolicySpec)) taintPolicyUptoCard

/-- THE SECOND FORM's CARD OF 'postmarklaw19.TaintCreds'. -/
def taintCredsUptoCard : Claim7 := { stood := { row := taintCredsUptoRow, standIns := [], harness := (true, "61e10304ac1112083faa6fe44f78d3ef8f0ba3c61bb25c585c7ddaac8c9b2171"), looks := true }, kinds := [], alts := [], laidByText := true, laidKinds := [.pinned, .data], laidTests := true, laidLooks := .later }
def TaintCredsUptoCardSaid : Prop := Claim7.holds Tryz.pinned (.plain (OpenSpec.upto taintCredsSpec)) taintCredsUptoCard

/-- THE SECOND FORM's CARD OF 'postmarklaw12.OriginShow'. -/
def originShowUptoCard : Claim7 := { stood := { row := originShowUptoRow, standIns := [], harness := (true, "61e10304ac1112083faa6fe44f78d3ef8f0ba3c61bb25c585c7ddaac8c9b2171"), looks := true }, kinds := [], alts := [], laidByText := true, laidKinds := [.pinned, .data], laidTests := true, laidLooks := .later }
def OriginShowUptoCardSaid : Prop := Claim7.holds Tryz.pinned (.plain (OpenSpec.upto originShowSpec)) originShowUptoCard

/-- THE SECOND FORM's CARD OF 'postmarklaw16.StripCap'. -/
def stripCapUptoCard : Claim7 := { stood := { row := stripCapUptoRow, standIns := [], harness := (true, "61e10304ac1112083faa6fe44f78d3ef8f0ba3c61bb25c585c7ddaac8c9b2171"), looks := true }, kinds := [], alts := [], laidByText := true, laidKinds := [.pinned, .data], laidTests := true, laidLooks := .later }
def StripCapUptoCardSaid : Prop := Claim7.holds Tryz.pinned (.plain (OpenSpec.upto stripCapSpec)) stripCapUptoCard

/-- THE SECOND FORM's CARD OF 'postmarklaw16.StripQuery'. -/
def stripQueryUptoCard : Claim7 := { stood := { row := stripQueryUptoRow, standIns := [], harness := (true, "61e10304ac1112083faa6fe44f78d3ef8f0ba3c61bb25c585c7ddaac8c9b2171"), looks := true }, kinds := [], alts := [], laidByText := true, laidKinds := [.pinned, .data], laidTests := true, laidLooks := .later }
def StripQueryUptoCardSaid : Prop := Claim7.holds Tryz.pinned (.plain (OpenSpec.upto stripQuerySpec)) stripQueryUptoCard

/-- THE SECOND FORM's CARD OF 'postmarklaw16.StripSafe'. -/
def stripSafeUptoCard : Claim7 := { stood := { row := stripSafeUptoRow, standIns := [], harness := (true, "61e10304ac1112083faa6fe44f78d3ef8f0ba3c61bb25c585c7ddaac8c9b2171"), looks := true }, kinds := [], alts := [], laidByText := true, laidKinds := [.pinned, .data], laidTests := true, laidLooks := .later }
def StripSafeUptoCardSaid : Prop := Claim7.holds Tryz.pinned (.plain (OpenSpec.upto stripSafeSpec)) stripSafeUptoCard

/-- THE SECOND FORM's CARD OF 'postmarklaw16.StripBlind'. -/
def stripBlindUptoCard : Claim7 := { stood := { row := stripBlindUptoRow, standIns := [], harness := (true, "61e10304ac1112083faa6fe44f78d3ef8f0ba3c61bb25c585c7ddaac8c9b2171"), looks := true }, kinds := [], alts := [], laidByText := true, laidKinds := [.pinned, .data], laidTests := true, laidLooks := .later }
def StripBlindUptoCardSaid : Prop := Claim7.holds Tryz.pinned (.plain (OpenSpec.upto stripBlindSpec)) stripBlindUptoCard

/-- THE SECOND FORM's CARD OF 'postmarklaw16.StripMeet'. -/
def stripMeetUptoCard : Claim7 := { stood := { row := stripMeetUptoRow, standIns := [], harness := (true, "61e10304ac1112083faa6fe44f78d3ef8f0ba3c61bb25c585c7ddaac8c9b2171"), looks := true }, kinds := [], alts := [], laidByText := true, laidKinds := [.pinned, .data], laidTests := true, laidLooks := .later }
def StripMeetUptoCardSaid : Prop := Claim7.holds Tryz.pinned (.plain (OpenSpec.upto stripMeetSpec)) stripMeetUptoCard
end Rows
end Go.Proofs.YtlcckikfmlhgjaaGreatDoor
