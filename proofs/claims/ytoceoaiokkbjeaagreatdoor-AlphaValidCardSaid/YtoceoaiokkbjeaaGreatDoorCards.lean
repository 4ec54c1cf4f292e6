/-
  DERIVED. GIVEN WITH THE SEED: THE CARDS: each row of YtoceoaiokkbjeaaGreatDoorRows.lean that lists a variable, with what it lists TIED to the program's text (the seventh form; the later family's looks); each row that meets fmt, with fmt's text TOLD by the authors' own Lean function (tested against real Go, not proved from fmt's source: count such statements apart). THE CARD IS WHAT COUNTS. Prove the row's statement (the work); the ties are given (YtoceoaiokkbjeaaGreatDoorTie.lean); close each card by the builder's one call (the guide's Derived/Test/ToyasCard.lean, 'card_holds'). Laid BY PROGRAM, IN A SANDBOX (cutbox-door.mjs). By AI agents, Wed Nov 11 2026. No macro, syntax, notation, axiom, sorry.
-/
import Derived.Test.YtoceoaiokkbjeaaGreatDoorRows
import GoSem.ClaimSeven
namespace Go.Proofs.YtoceoaiokkbjeaaGreatDoor
namespace Rows

/-- THE TIED CARD OF 'netverifylaw9.AlphaParses'. -/
def alphaParsesCard : Claim7 := { stood := { row := alphaParsesRow, standIns := [], harness := (true, "699e64078a8e926f6244b4c52e22382ff2527d62beebf8d00726cf01f021d2fb"), looks := false }, kinds := [], alts := [], laidByText := true, laidKinds := [.data, .pinned], laidTests := true, laidLooks := .later }
def AlphaParsesCardSaid : Prop := Claim7.holds Tryz.pinned (.plain (OpenSpec.ofChange alphaParsesSpec)) alphaParsesCard

/-- THE TIED CARD OF 'netverifylaw9.AlphaValid'. -/
def alphaValidCard : Claim7 := { stood := { row := alphaValidRow, standIns := [], harness := (true, "699e64078a8e926f6244b4c52e22382ff2527d62beebf8d00726cf01f021d2fb"), looks := false }, kinds := [], alts := [], laidByText := true, laidKinds := [.data, .pinned], laidTests := true, laidLooks := .later }
def AlphaValidCardSaid : Prop := Claim7.holds Tryz.pinned (.plain (OpenSpec.ofChange alphaValidSpec)) alphaValidCard

/-- THE TIED CARD OF 'netverifylaw9.AlphaComments'. -/
def alphaCommentsCard : Claim7 := { stood := { row := alphaCommentsRow, standIns := [], harness := (true, "699e64078a8e926f6244b4c52e22382ff2527d62beebf8d00726cf01f021d2fb"), looks := false }, kinds := [], alts := [], laidByText := true, laidKinds := [.data, .pinned], laidTests := true, laidLooks := .later }
def AlphaCommentsCardSaid : Prop := Claim7.holds Tryz.pinned (.plain (OpenSpec.ofChange alphaCommentsSpec)) alphaCommentsCard

/-- THE TIED CARD OF 'netverifylaw9.AlphaLater'. -/
def alphaLaterCard : Claim7 := { stood := { row := alphaLaterRow, standIns := [], harness := (true, "699e64078a8e926f6244b4c52e22382ff2527d62beebf8d00726cf01f021d2fb"), looks := false }, kinds := [], alts := [], laidByText := true, laidKinds := [.data, .pinned], laidTests := true, laidLooks := .later }
def AlphaLaterCardSaid : Prop := Claim7.holds Tryz.pinned (.plain (OpenSpec.ofChange alphaLaterSpec)) alphaLaterCard

/-- THE SECOND FORM's CARD OF 'netverifylaw9.AlphaParses'. -/
def alphaParsesUptoCard : Claim7 := { stood := { row := alphaParsesUptoRow, standIns := [], harness := (true, "699e64078a8e926f6244b4c52e22382ff2527d62beebf8d00726cf01f021d2fb"), looks := false }, kinds := [], alts := [], laidByText := true, laidKinds := [.data, .pinned], laidTests := true, laidLooks := .later }
def AlphaParsesUptoCardSaid : Prop := Claim7.holds Tryz.pinned (.plain (OpenSpec.upto alphaParsesSpec)) alphaParsesUptoCard

/-- THE SECOND FORM's CARD OF 'netverifylaw9.AlphaValid'. -/
def alphaValidUptoCard : Claim7 := { stood := { row := alphaValidUptoRow, standIns := [], harness := (true, "699e64078a8e926f6244b4c52e22382ff2527d62beebf8d00726cf01f021d2fb"), looks := false }, kinds := [], alts := [], laidByText := true, laidKinds := [.data, .pinned], laidTests := true, laidLooks := .later }
def AlphaValidUptoCardSaid : Prop := Claim7.holds Tryz.pinned (.plain (OpenSpec.upto alphaValidSpec)) alphaValidUptoCard

/-- THE SECOND FORM's CARD OF 'netverifylaw9.AlphaComments'. -/
def alphaCommentsUptoCard : Claim7 := { stood := { row := alphaCommentsUptoRow, standIns := [], harness := (true, "699e64078a8e926f6244b4c52e22382ff2527d62beebf8d00726cf01f021d2fb"), looks := false }, kinds := [], alts := [], laidByText := true, laidKinds := [.data, .pinned], laidTests := true, laidLooks := .later }
def AlphaCommentsUptoCardSaid : Prop := Claim7.holds Tryz.pinned (.plain (OpenSpec.upto alphaCommentsSpec)) alphaCommentsUptoCard

/-- THE SECOND FORM's CARD OF 'netverifylaw9.AlphaLater'. -/
def alphaLaterUptoCard : Claim7 := { stood := { row := alphaLaterUptoRow, standIns := [], harness := (true, "699e64078a8e926f6244b4c52e22382ff2527d62beebf8d00726cf01f021d2fb"), looks := false }, kinds := [], alts := [], laidByText := true, laidKinds := [.data, .pinned], laidTests := true, laidLooks := .later }
def AlphaLaterUptoCardSaid : Prop := Claim7.holds Tryz.pinned (.plain (OpenSpec.upto alphaLaterSpec)) alphaLaterUptoCard
end Rows
end Go.Proofs.YtoceoaiokkbjeaaGreatDoor
