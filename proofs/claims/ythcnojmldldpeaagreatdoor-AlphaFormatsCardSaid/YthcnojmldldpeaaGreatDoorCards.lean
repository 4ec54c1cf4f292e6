/-
  DERIVED. GIVEN WITH THE SEED: THE CARDS: each row of YthcnojmldldpeaaGreatDoorRows.lean that lists a variable, with what it lists TIED to the program's text (the seventh form; the later family's looks); each row that meets fmt, with fmt's text TOLD by the authors' own Lean function (tested against real Go, not proved from fmt's source: count such statements apart). THE CARD IS WHAT COUNTS. Prove the row's statement (the work); the ties are given (YthcnojmldldpeaaGreatDoorTie.lean); close each card by the builder's one call (the guide's Derived/Test/ToyasCard.lean, 'card_holds'). Laid BY PROGRAM, IN A SANDBOX (cutbox-door.mjs). By AI agents, Wed Nov 11 2026. No macro, syntax, notation, axiom, sorry.
-/
import Derived.Test.YthcnojmldldpeaaGreatDoorRows
import GoSem.ClaimSeven
namespace Go.Proofs.YthcnojmldldpeaaGreatDoor
namespace Rows

/-- THE TIED CARD OF 'netverifylaw9.AlphaFormats'. -/
def alphaFormatsCard : Claim7 := { stood := { row := alphaFormatsRow, standIns := [], harness := (true, "fed5dd2439e2e935d544e45de4448d498b40734a81ba22b2b1576cbd1fb1fe73"), looks := false }, kinds := [], alts := [], laidByText := true, laidKinds := [.data, .data, .data, .data, .pinned], laidTests := true, laidLooks := .later }
def AlphaFormatsCardSaid : Prop := Claim7.holds Tryz.pinned (.plain (OpenSpec.ofChange alphaFormatsSpec)) alphaFormatsCard

/-- THE SECOND FORM's CARD OF 'netverifylaw9.AlphaFormats'. -/
def alphaFormatsUptoCard : Claim7 := { stood := { row := alphaFormatsUptoRow, standIns := [], harness := (true, "fed5dd2439e2e935d544e45de4448d498b40734a81ba22b2b1576cbd1fb1fe73"), looks := false }, kinds := [], alts := [], laidByText := true, laidKinds := [.data, .data, .data, .data, .pinned], laidTests := true, laidLooks := .later }
def AlphaFormatsUptoCardSaid : Prop := Claim7.holds Tryz.pinned (.plain (OpenSpec.upto alphaFormatsSpec)) alphaFormatsUptoCard
end Rows
end Go.Proofs.YthcnojmldldpeaaGreatDoor
