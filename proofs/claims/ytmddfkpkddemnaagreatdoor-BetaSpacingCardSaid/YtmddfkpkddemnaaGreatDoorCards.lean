/-
  DERIVED. GIVEN WITH THE SEED: THE CARDS: each row of YtmddfkpkddemnaaGreatDoorRows.lean that lists a variable, with what it lists TIED to the program's text (the seventh form; the later family's looks); each row that meets fmt, with fmt's text TOLD by the authors' own Lean function (tested against real Go, not proved from fmt's source: count such statements apart). THE CARD IS WHAT COUNTS. Prove the row's statement (the work); the ties are given (YtmddfkpkddemnaaGreatDoorTie.lean); close each card by the builder's one call (the guide's Derived/Test/ToyasCard.lean, 'card_holds'). Laid BY PROGRAM, IN A SANDBOX (cutbox-door.mjs). By AI agents, Wed Nov 11 2026. No macro, syntax, notation, axiom, sorry.
-/
import Derived.Test.YtmddfkpkddemnaaGreatDoorRows
import GoSem.ClaimSeven
namespace Go.Proofs.YtmddfkpkddemnaaGreatDoor
namespace Rows

/-- THE TIED CARD OF 'netverifylaw10.BetaParses'. -/
def betaParsesCard : Claim7 := { stood := { row := betaParsesRow, standIns := [], harness := (true, "65da922698f76c2f6f01ba8c50656123131f63e52b973231bf532d67a403929d"), looks := false }, kinds := [], alts := [], laidByText := true, laidKinds := [.data, .data, .data, .data, .pinned], laidTests := true, laidLooks := .later }
def BetaParsesCardSaid : Prop := Claim7.holds Tryz.pinned (.plain (OpenSpec.ofChange betaParsesSpec)) betaParsesCard

/-- THE TIED CARD OF 'netverifylaw10.BetaValid'. -/
def betaValidCard : Claim7 := { stood := { row := betaValidRow, standIns := [], harness := (true, "65da922698f76c2f6f01ba8c50656123131f63e52b973231bf532d67a403929d"), looks := false }, kinds := [], alts := [], laidByText := true, laidKinds := [.data, .data, .data, .data, .pinned], laidTests := true, laidLooks := .later }
def BetaValidCardSaid : Prop := Claim7.holds Tryz.pinned (.plain (OpenSpec.ofChange betaValidSpec)) betaValidCard

/-- THE TIED CARD OF 'netverifylaw10.BetaSpacing'. -/
def betaSpacingCard : Claim7 := { stood := { row := betaSpacingRow, standIns := [], harness := (true, "65da922698f76c2f6f01ba8c50656123131f63e52b973231bf532d67a403929d"), looks := false }, kinds := [], alts := [], laidByText := true, laidKinds := [.data, .data, .data, .data, .pinned], laidTests := true, laidLooks := .later }
def BetaSpacingCardSaid : Prop := Claim7.holds Tryz.pinned (.plain (OpenSpec.ofChange betaSpacingSpec)) betaSpacingCard

/-- THE SECOND FORM's CARD OF 'netverifylaw10.BetaParses'. -/
def betaParsesUptoCard : Claim7 := { stood := { row := betaParsesUptoRow, standIns := [], harness := (true, "65da922698f76c2f6f01ba8c50656123131f63e52b973231bf532d67a403929d"), looks := false }, kinds := [], alts := [], laidByText := true, laidKinds := [.data, .data, .data, .data, .pinned], laidTests := true, laidLooks := .later }
def BetaParsesUptoCardSaid : Prop := Claim7.holds Tryz.pinned (.plain (OpenSpec.upto betaParsesSpec)) betaParsesUptoCard

/-- THE SECOND FORM's CARD OF 'netverifylaw10.BetaValid'. -/
def betaValidUptoCard : Claim7 := { stood := { row := betaValidUptoRow, standIns := [], harness := (true, "65da922698f76c2f6f01ba8c50656123131f63e52b973231bf532d67a403929d"), looks := false }, kinds := [], alts := [], laidByText := true, laidKinds := [.data, .data, .data, .data, .pinned], laidTests := true, laidLooks := .later }
def BetaValidUptoCardSaid : Prop := Claim7.holds Tryz.pinned (.plain (OpenSpec.upto betaValidSpec)) betaValidUptoCard

/-- THE SECOND FORM's CARD OF 'netverifylaw10.BetaSpacing'. -/
def betaSpacingUptoCard : Claim7 := { stood := { row := betaSpacingUptoRow, standIns := [], harness := (true, "65da922698f76c2f6f01ba8c50656123131f63e52b973231bf532d67a403929d"), looks := false }, kinds := [], alts := [], laidByText := true, laidKinds := [.data, .data, .data, .data, .pinned], laidTests := true, laidLooks := .later }
def BetaSpacingUptoCardSaid : Prop := Claim7.holds Tryz.pinned (.plain (OpenSpec.upto betaSpacingSpec)) betaSpacingUptoCard
end Rows
end Go.Proofs.YtmddfkpkddemnaaGreatDoor
