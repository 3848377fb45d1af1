/-
  DERIVED. GIVEN WITH THE SEED: THE CARDS: each row of YtppbkblnjlbnfaaGreatDoorRows.lean that lists a variable, with what it lists TIED to the program's text (the seventh form; the later family's looks); each row that meets fmt, with fmt's text TOLD by the authors' own Lean function (tested against real Go, not proved from fmt's source: count such statements apart). THE CARD IS WHAT COUNTS. Prove the row's statement (the work); the ties are given (YtppbkblnjlbnfaaGreatDoorTie.lean); close each card by the builder's one call (the guide's Derived/Test/ToyasCard.lean, 'card_holds'). Laid BY PROGRAM, IN A SANDBOX (cutbox-door.mjs). By AI agents, Wed Nov 11 2026. No macro, syntax, notation, axiom, sorry.
-/
import Derived.Test.YtppbkblnjlbnfaaGreatDoorRows
import GoSem.ClaimSeven
namespace Go.Proofs.YtppbkblnjlbnfaaGreatDoor
namespace Rows

/-- THE TIED CARD OF 'postmarklaw20.MethodLost'. -/
def methodLostCard : Claim7 := { stood := { row := methodLostRow, standIns := [], harness := (true, "28cce16a472e7e03e858f77af349615e0df07c5a0da7fedcebbd974adf86be3b"), looks := true }, kinds := [], alts := [], laidByText := true, laidKinds := [.data, .widerDeep, .pinned], laidTests := true, laidLooks := .later }
def MethodLostCardSaid : Prop := Claim7.holds Tryz.pinned (.plain (OpenSpec.ofChange methodLostSpec)) methodLostCard

/-- THE TIED CARD OF 'postmarklaw20.MethodAway'. -/
def methodAwayCard : Claim7 := { stood := { row := methodAwayRow, standIns := [], harness := (true, "28cce16a472e7e03e858f77af349615e0df07c5a0da7fedcebbd974adf86be3b"), looks := true }, kinds := [], alts := [], laidByText := true, laidKinds := [.data, .widerDeep, .pinned], laidTests := true, laidLooks := .later }
def MethodAwayCardSaid : Prop := Claim7.holds Tryz.pinned (.plain (OpenSpec.ofChange methodAwaySpec)) methodAwayCard

/-- THE TIED CARD OF 'postmarklaw20.MethodTaint'. -/
def methodTaintCard : Claim7 := { stood := { row := methodTaintRow, standIns := [], harness := (true, "28cce16a472e7e03e858f77af349615e0df07c5a0da7fedcebbd974adf86be3b"), looks := true }, kinds := [], alts := [], laidByText := true, laidKinds := [.data, .widerDeep, .pinned], laidTests := true, laidLooks := .later }
def MethodTaintCardSaid : Prop := Claim7.holds Tryz.pinned (.plain (OpenSpec.ofChange methodTaintSpec)) methodTaintCard

/-- THE TIED CARD OF 'postmarklaw20.MethodRewrites'. -/
def methodRewritesCard : Claim7 := { stood := { row := methodRewritesRow, standIns := [], harness := (true, "28cce16a472e7e03e858f77af349615e0df07c5a0da7fedcebbd974adf86be3b"), looks := true }, kinds := [], alts := [], laidByText := true, laidKinds := [.data, .widerDeep, .pinned], laidTests := true, laidLooks := .later }
def MethodRewritesCardSaid : Prop := Claim7.holds Tryz.pinned (.plain (OpenSpec.ofChange methodRewritesSpec)) methodRewritesCard

/-- THE TIED CARD OF 'postmarklaw20.MethodNamed'. -/
def methodNamedCard : Claim7 := { stood := { row := methodNamedRow, standIns := [], harness := (true, "28cce16a472e7e03e858f77af349615e0df07c5a0da7fedcebbd974adf86be3b"), looks := true }, kinds := [], alts := [], laidByText := true, laidKinds := [.data, .widerDeep, .pinned], laidTests := true, laidLooks := .later }
def MethodNamedCardSaid : Prop := Claim7.holds Tryz.pinned (.plain (OpenSpec.ofChange methodNamedSpec)) methodNamedCard

/-- THE TIED CARD OF 'postmarklaw20.MethodPlain'. -/
def methodPlainCard : Claim7 := { stood := { row := methodPlainRow, standIns := [], harness := (true, "28cce16a472e7e03e858f77af349615e0df07c5a0da7fedcebbd974adf86be3b"), looks := true }, kinds := [], alts := [], laidByText := true, laidKinds := [.data, .widerDeep, .pinned], laidTests := true, laidLooks := .later }
def MethodPlainCardSaid : Prop := Claim7.holds Tryz.pinned (.plain (OpenSpec.ofChange methodPlainSpec)) methodPlainCard

/-- THE TIED CARD OF 'postmarklaw18.PlaceStatus'. -/
def placeStatusCard : Claim7 := { stood := { row := placeStatusRow, standIns := [], harness := (true, "28cce16a472e7e03e858f77af349615e0df07c5a0da7fedcebbd974adf86be3b"), looks := true }, kinds := [], alts := [], laidByText := true, laidKinds := [.data, .pinned], laidTests := true, laidLooks := .later }
def PlaceStatusCardSaid : Prop := Claim7.holds Tryz.pinned (.plain (OpenSpec.ofChange placeStatusSpec)) placeStatusCard

/-- THE TIED CARD OF 'postmarklaw18.PlaceFragment'. -/
def placeFragmentCard : Claim7 := { stood := { row := placeFragmentRow, standIns := [], harness := (true, "28cce16a472e7e03e858f77af349615e0df07c5a0da7fedcebbd974adf86be3b"), looks := true }, kinds := [], alts := [], laidByText := true, laidKinds := [.data, .pinned], laidTests := true, laidLooks := .later }
def PlaceFragmentCardSaid : Prop := Claim7.holds Tryz.pinned (.plain (OpenSpec.ofChange placeFragmentSpec)) placeFragmentCard

/-- THE TIED CARD OF 'postmarklaw18.PlaceOther'. -/
def placeOtherCard : Claim7 := { stood := { row := placeOtherRow, standIns := [], harness := (true, "28cce16a472e7e03e858f77af349615e0df07c5a0da7fedcebbd974adf86be3b"), looks := true }, kinds := [], alts := [], laidByText := true, laidKinds := [.data, .pinned], laidTests := true, laidLooks := .later }
def PlaceOtherCardSaid : Prop := Claim7.holds Tryz.pinned (.plain (OpenSpec.ofChange placeOtherSpec)) placeOtherCard

/-- THE TIED CARD OF 'postmarklaw18.PlaceSelf'. -/
def placeSelfCard : Claim7 := { stood := { row := placeSelfRow, standIns := [], harness := (true, "28cce16a472e7e03e858f77af349615e0df07c5a0da7fedcebbd974adf86be3b"), looks := true }, kinds := [], alts := [], laidByText := true, laidKinds := [.data, .pinned], laidTests := true, laidLooks := .later }
def PlaceSelfCardSaid : Prop := Claim7.holds Tryz.pinned (.plain (OpenSpec.ofChange placeSelfSpec)) placeSelfCard

/-- THE TIED CARD OF 'postmarklaw18.PlaceBytes'. -/
def placeBytesCard : Claim7 := { stood := { row := placeBytesRow, standIns := [], harness := (true, "28cce16a472e7e03e858f77af349615e0df07c5a0da7fedcebbd974adf86be3b"), looks := true }, kinds := [], alts := [], laidByText := true, laidKinds := [.data, .pinned], laidTests := true, laidLooks := .later }
def PlaceBytesCardSaid : Prop := Claim7.holds Tryz.pinned (.plain (OpenSpec.ofChange placeBytesSpec)) placeBytesCard

/-- THE TIED CARD OF 'postmarklaw18.PlaceMay'. -/
def placeMayCard : Claim7 := { stood := { row := placeMayRow, standIns := [], harness := (true, "28cce16a472e7e03e858f77af349615e0df07c5a0da7fedcebbd974adf86be3b"), looks := true }, kinds := [], alts := [], laidByText := true, laidKinds := [.data, .pinned], laidTests := true, laidLooks := .later }
def PlaceMayCardSaid : Prop := Claim7.holds Tryz.pinned (.plain (OpenSpec.ofChange placeMaySpec)) placeMayCard

/-- THE SECOND FORM's CARD OF 'postmarklaw20.MethodLost'. -/
def methodLostUptoCard : Claim7 := { stood := { row := methodLostUptoRow, standIns := [], harness := (true, "28cce16a472e7e03e858f77af349615e0df07c5a0da7fedcebbd974adf86be3b"), looks := true }, kinds := [], alts := [], laidByText := true, laidKinds := [.data, .widerDeep, .pinned], laidTests := true, laidLooks := .later }
def MethodLostUptoCardSaid : Prop := Claim7.holds Tryz.pinned (.plain (OpenSpec.upto methodLostSpec)) methodLostUptoCard

/-- THE SECOND FORM's CARD OF 'postmarklaw20.MethodAway'. -/
def methodAwayUptoCard : Claim7 := { stood := { row := methodAwayUptoRow, standIns := [], harness := (true, "28cce16a472e7e03e858f77af349615e0df07c5a0da7fedcebbd974adf86be3b"), looks := true }, kinds := [], alts := [], laidByText := true, laidKinds := [.data, .widerDeep, .pinned], laidTests := true, laidLooks := .later }
def MethodAwayUptoCardSaid : Prop := Claim7.holds Tryz.pinned (.plain (OpenSpec.upto methodAwaySpec)) methodAwayUptoCard

/-- THE SECOND FORM's CARD OF 'postmarklaw20.MethodTaint'. -/
def methodTaintUptoCard : Claim7 := { stood := { row := methodTaintUptoRow, standIns := [], harness := (true, "28cce16a472e7e03e858f77af349615e0df07c5a0da7fedcebbd974adf86be3b"), looks := true }, kinds := [], alts := [], laidByText := true, laidKinds := [.data, .widerDeep, .pinned], laidTests := true, laidLooks := .later }
def MethodTaintUptoCardSaid : Prop := Claim7.holds Tryz.pinned (.plain (OpenSpec.upto methodTaintSpec)) methodTaintUptoCard

/-- THE SECOND FORM's CARD OF 'postmarklaw20.MethodRewrites'. -/
def methodRewritesUptoCard : Claim7 := { stood := { row := methodRewritesUptoRow, standIns := [], harness := (true, "28cce16a472e7e03e858f77af349615e0df07c5a0da7fedcebbd974adf86be3b"), looks := true }, kinds := [], alts := [], laidByText := true, laidKinds := [.data, .widerDeep, .pinned], laidTests := true, laidLooks := .later }
def MethodRewritesUptoCardSaid : Prop := Claim7.holds Tryz.pinned (.plain (OpenSpec.upto methodRewritesSpec)) methodRewritesUptoCard

/-- THE SECOND FORM's CARD OF 'postmarklaw20.MethodNamed'. -/
def methodNamedUptoCard : Claim7 := { stood := { row := methodNamedUptoRow, standIns := [], harness := (true, "28cce16a472e7e03e858f77af349615e0df07c5a0da7fedcebbd974adf86be3b"), looks := true }, kinds := [], alts := [], laidByText := true, laidKinds := [.data, .widerDeep, .pinned], laidTests := true, laidLooks := .later }
def MethodNamedUptoCardSaid : Prop := Claim7.holds Tryz.pinned (.plain (OpenSpec.upto methodNamedSpec)) methodNamedUptoCard

/-- THE SECOND FORM's CARD OF 'postmarklaw20.MethodPlain'. -/
def methodPlainUptoCard : Claim7 := { stood := { row := methodPlainUptoRow, standIns := [], harness := (true, "28cce16a472e7e03e858f77af349615e0df07c5a0da7fedcebbd974adf86be3b"), looks := true }, kinds := [], alts := [], laidByText := true, laidKinds := [.data, .widerDeep, .pinned], laidTests := true, laidLooks := .later }
def MethodPlainUptoCardSaid : Prop := Claim7.holds Tryz.pinned (.plain (OpenSpec.upto methodPlainSpec)) methodPlainUptoCard

/-- THE SECOND FORM's CARD OF 'postmarklaw18.PlaceStatus'. -/
def placeStatusUptoCard : Claim7 := { stood := { row := placeStatusUptoRow, standIns := [], harness := (true, "28cce16a472e7e03e858f77af349615e0df07c5a0da7fedcebbd974adf86be3b"), looks := true }, kinds := [], alts := [], laidByText := true, laidKinds := [.data, .pinned], laidTests := true, laidLooks := .later }
def PlaceStatusUptoCardSaid : Prop := Claim7.holds Tryz.pinned (.plain (OpenSpec.upto placeStatusSpec)) placeStatusUptoCard

/-- THE SECOND FORM's CARD OF 'postmarklaw18.PlaceFragment'. -/
def placeFragmentUptoCard : Claim7 := { stood := { row := placeFragmentUptoRow, standIns := [], harness := (true, "28cce16a472e7e03e858f77af349615e0df07c5a0da7fedcebbd974adf86be3b"), looks := true }, kinds := [], alts := [], laidByText := true, laidKinds := [.data, .pinned], laidTests := true, laidLooks := .later }
def PlaceFragmentUptoCardSaid : Prop := Claim7.holds Tryz.pinned (.plain (OpenSpec.upto placeFragmentSpec)) placeFragmentUptoCard

/-- THE SECOND FORM's CARD OF 'postmarklaw18.PlaceOther'. -/
def placeOtherUptoCard : Claim7 := { stood := { row := placeOtherUptoRow, standIns := [], harness := (true, "28cce16a472e7e03e858f77af349615e0df07c5a0da7fedcebbd974adf86be3b"), looks := true }, kinds := [], alts := [], laidByText := true, laidKinds := [.data, .pinned], laidTests := true, laidLooks := .later }
def PlaceOtherUptoCardSaid : Prop := Claim7.holds Tryz.pinned (.plain (OpenSpec.upto placeOtherSpec)) placeOtherUptoCard

/-- THE SECOND FORM's CARD OF 'postmarklaw18.PlaceSelf'. -/
def placeSelfUptoCard : Claim7 := { stood := { row := placeSelfUptoRow, standIns := [], harness := (true, "28cce16a472e7e03e858f77af349615e0df07c5a0da7fedcebbd974adf86be3b"), looks := true }, kinds := [], alts := [], laidByText := true, laidKinds := [.data, .pinned], laidTests := true, laidLooks := .later }
def PlaceSelfUptoCardSaid : Prop := Claim7.holds Tryz.pinned (.plain (OpenSpec.upto placeSelfSpec)) placeSelfUptoCard

/-- THE SECOND FORM's CARD OF 'postmarklaw18.PlaceBytes'. -/
def placeBytesUptoCard : Claim7 := { stood := { row := placeBytesUptoRow, standIns := [], harness := (true, "28cce16a472e7e03e858f77af349615e0df07c5a0da7fedcebbd974adf86be3b"), looks := true }, kinds := [], alts := [], laidByText := true, laidKinds := [.data, .pinned], laidTests := true, laidLooks := .later }
def PlaceBytesUptoCardSaid : Prop := Claim7.holds Tryz.pinned (.plain (OpenSpec.upto placeBytesSpec)) placeBytesUptoCard

/-- THE SECOND FORM's CARD OF 'postmarklaw18.PlaceMay'. -/
def placeMayUptoCard : Claim7 := { stood := { row := placeMayUptoRow, standIns := [], harness := (true, "28cce16a472e7e03e858f77af349615e0df07c5a0da7fedcebbd974adf86be3b"), looks := true }, kinds := [], alts := [], laidByText := true, laidKinds := [.data, .pinned], laidTests := true, laidLooks := .later }
def PlaceMayUptoCardSaid : Prop := Claim7.holds Tryz.pinned (.plain (OpenSpec.upto placeMaySpec)) placeMayUptoCard
end Rows
end Go.Proofs.YtppbkblnjlbnfaaGreatDoor
