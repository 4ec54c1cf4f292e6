/-
  DERIVED. GIVEN WITH THE SEED: THE CARDS: each row of YtdlgnhefpoalnaaGreatDoorRows.lean that lists a variable, with what it lists TIED to the program's text (the seventh form; the later family's looks); each row that meets fmt, with fmt's text TOLD by the authors' own Lean function (tested against real Go, not proved from fmt's source: count such statements apart). THE CARD IS WHAT COUNTS. Prove the row's statement (the work); the ties are given (YtdlgnhefpoalnaaGreatDoorTie.lean); close each card by the builder's one call (the guide's Derived/Test/ToyasCard.lean, 'card_holds'). Laid BY PROGRAM, IN A SANDBOX (cutbox-door.mjs). By AI agents, Wed Nov 11 2026. No macro, syntax, notation, axiom, sorry.
-/
import Derived.Test.YtdlgnhefpoalnaaGreatDoorRows
import GoSem.ClaimSeven
namespace Go.Proofs.YtdlgnhefpoalnaaGreatDoor
namespace Rows

/-- THE TIED CARD OF 'netverifylaw10.BetaParses'. -/
def betaParsesCard : Claim7 := { stood := { row := betaParsesRow, standIns := [], harness := (true, "2cdd519f57e647b5003858c1760181b5014727e80b5dccbd369870e40bd14aab"), looks := false }, kinds := [], alts := [], laidByText := true, laidKinds := [.data, .data, .data, .data, .pinned], laidTests := true, laidLooks := .later }
def BetaParsesCardSaid : Prop := Claim7.holds Tryz.pinned (.plain (OpenSpec.ofChange betaParsesSpec)) betaParsesCard

/-- THE TIED CARD OF 'netverifylaw10.BetaFormats'. -/
def betaFormatsCard : Claim7 := { stood := { row := betaFormatsRow, standIns := [], harness := (true, "2cdd519f57e647b5003858c1760181b5014727e80b5dccbd369870e40bd14aab"), looks := false }, kinds := [], alts := [], laidByText := true, laidKinds := [.data, .data, .data, .data, .pinned], laidTests := true, laidLooks := .later }
def BetaFormatsCardSaid : Prop := Claim7.holds Tryz.pinned (.plain (OpenSpec.ofChange betaFormatsSpec)) betaFormatsCard

/-- THE TIED CARD OF 'netverifylaw10.BetaRoundTrip'. -/
def betaRoundTripCard : Claim7 := { stood := { row := betaRoundTripRow, standIns := [], harness := (true, "2cdd519f57e647b5003858c1760181b5014727e80b5dccbd369870e40bd14aab"), looks := false }, kinds := [], alts := [], laidByText := true, laidKinds := [.data, .data, .data, .data, .pinned], laidTests := true, laidLooks := .later }
def BetaRoundTripCardSaid : Prop := Claim7.holds Tryz.pinned (.plain (OpenSpec.ofChange betaRoundTripSpec)) betaRoundTripCard

/-- THE TIED CARD OF 'netverifylaw10.BetaCanonical'. -/
def betaCanonicalCard : Claim7 := { stood := { row := betaCanonicalRow, standIns := [], harness := (true, "2cdd519f57e647b5003858c1760181b5014727e80b5dccbd369870e40bd14aab"), looks := false }, kinds := [], alts := [], laidByText := true, laidKinds := [.data, .data, .data, .data, .pinned], laidTests := true, laidLooks := .later }
def BetaCanonicalCardSaid : Prop := Claim7.holds Tryz.pinned (.plain (OpenSpec.ofChange betaCanonicalSpec)) betaCanonicalCard

/-- THE TIED CARD OF 'netverifylaw10.BetaOrder'. -/
def betaOrderCard : Claim7 := { stood := { row := betaOrderRow, standIns := [], harness := (true, "2cdd519f57e647b5003858c1760181b5014727e80b5dccbd369870e40bd14aab"), looks := false }, kinds := [], alts := [], laidByText := true, laidKinds := [.data, .data, .data, .data, .pinned], laidTests := true, laidLooks := .later }
def BetaOrderCardSaid : Prop := Claim7.holds Tryz.pinned (.plain (OpenSpec.ofChange betaOrderSpec)) betaOrderCard

/-- THE TIED CARD OF 'netverifylaw10.BetaDuplicate'. -/
def betaDuplicateCard : Claim7 := { stood := { row := betaDuplicateRow, standIns := [], harness := (true, "2cdd519f57e647b5003858c1760181b5014727e80b5dccbd369870e40bd14aab"), looks := false }, kinds := [], alts := [], laidByText := true, laidKinds := [.data, .data, .data, .data, .pinned], laidTests := true, laidLooks := .later }
def BetaDuplicateCardSaid : Prop := Claim7.holds Tryz.pinned (.plain (OpenSpec.ofChange betaDuplicateSpec)) betaDuplicateCard

/-- THE SECOND FORM's CARD OF 'netverifylaw10.BetaParses'. -/
def betaParsesUptoCard : Claim7 := { stood := { row := betaParsesUptoRow, standIns := [], harness := (true, "2cdd519f57e647b5003858c1760181b5014727e80b5dccbd369870e40bd14aab"), looks := false }, kinds := [], alts := [], laidByText := true, laidKinds := [.data, .data, .data, .data, .pinned], laidTests := true, laidLooks := .later }
def BetaParsesUptoCardSaid : Prop := Claim7.holds Tryz.pinned (.plain (OpenSpec.upto betaParsesSpec)) betaParsesUptoCard

/-- THE SECOND FORM's CARD OF 'netverifylaw10.BetaFormats'. -/
def betaFormatsUptoCard : Claim7 := { stood := { row := betaFormatsUptoRow, standIns := [], harness := (true, "2cdd519f57e647b5003858c1760181b5014727e80b5dccbd369870e40bd14aab"), looks := false }, kinds := [], alts := [], laidByText := true, laidKinds := [.data, .data, .data, .data, .pinned], laidTests := true, laidLooks := .later }
def BetaFormatsUptoCardSaid : Prop := Claim7.holds Tryz.pinned (.plain (OpenSpec.upto betaFormatsSpec)) betaFormatsUptoCard

/-- THE SECOND FORM's CARD OF 'netverifylaw10.BetaRoundTrip'. -/
def betaRoundTripUptoCard : Claim7 := { stood := { row := betaRoundTripUptoRow, standIns := [], harness := (true, "2cdd519f57e647b5003858c1760181b5014727e80b5dccbd369870e40bd14aab"), looks := false }, kinds := [], alts := [], laidByText := true, laidKinds := [.data, .data, .data, .data, .pinned], laidTests := true, laidLooks := .later }
def BetaRoundTripUptoCardSaid : Prop := Claim7.holds Tryz.pinned (.plain (OpenSpec.upto betaRoundTripSpec)) betaRoundTripUptoCard

/-- THE SECOND FORM's CARD OF 'netverifylaw10.BetaCanonical'. -/
def betaCanonicalUptoCard : Claim7 := { stood := { row := betaCanonicalUptoRow, standIns := [], harness := (true, "2cdd519f57e647b5003858c1760181b5014727e80b5dccbd369870e40bd14aab"), looks := false }, kinds := [], alts := [], laidByText := true, laidKinds := [.data, .data, .data, .data, .pinned], laidTests := true, laidLooks := .later }
def BetaCanonicalUptoCardSaid : Prop := Claim7.holds Tryz.pinned (.plain (OpenSpec.upto betaCanonicalSpec)) betaCanonicalUptoCard

/-- THE SECOND FORM's CARD OF 'netverifylaw10.BetaOrder'. -/
def betaOrderUptoCard : Claim7 := { stood := { row := betaOrderUptoRow, standIns := [], harness := (true, "2cdd519f57e647b5003858c1760181b5014727e80b5dccbd369870e40bd14aab"), looks := false }, kinds := [], alts := [], laidByText := true, laidKinds := [.data, .data, .data, .data, .pinned], laidTests := true, laidLooks := .later }
def BetaOrderUptoCardSaid : Prop := Claim7.holds Tryz.pinned (.plain (OpenSpec.upto betaOrderSpec)) betaOrderUptoCard

/-- THE SECOND FORM's CARD OF 'netverifylaw10.BetaDuplicate'. -/
def betaDuplicateUptoCard : Claim7 := { stood := { row := betaDuplicateUptoRow, standIns := [], harness := (true, "2cdd519f57e647b5003858c1760181b5014727e80b5dccbd369870e40bd14aab"), looks := false }, kinds := [], alts := [], laidByText := true, laidKinds := [.data, .data, .data, .data, .pinned], laidTests := true, laidLooks := .later }
def BetaDuplicateUptoCardSaid : Prop := Claim7.holds Tryz.pinned (.plain (OpenSpec.upto betaDuplicateSpec)) betaDuplicateUptoCard
end Rows
end Go.Proofs.YtdlgnhefpoalnaaGreatDoor
