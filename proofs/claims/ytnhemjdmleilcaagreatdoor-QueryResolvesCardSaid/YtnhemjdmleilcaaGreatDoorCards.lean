/-
  DERIVED. GIVEN WITH THE SEED: THE CARDS: each row of YtnhemjdmleilcaaGreatDoorRows.lean that lists a variable, with what it lists TIED to the program's text (the seventh form; the later family's looks); each row that meets fmt, with fmt's text TOLD by the authors' own Lean function (tested against real Go, not proved from fmt's source: count such statements apart). THE CARD IS WHAT COUNTS. Prove the row's statement (the work); the ties are given (YtnhemjdmleilcaaGreatDoorTie.lean); close each card by the builder's one call (the guide's Derived/Test/ToyasCard.lean, 'card_holds'). Laid BY PROGRAM, IN A SANDBOX (cutbox-door.mjs). By AI agents, Wed Nov 11 2026. No macro, syntax, notation, axiom, sorry.
-/
import Derived.Test.YtnhemjdmleilcaaGreatDoorRows
import GoSem.ClaimSeven
namespace Go.Proofs.YtnhemjdmleilcaaGreatDoor
namespace Rows

/-- THE TIED CARD OF 'netverifylaw36.QueryResolves'. -/
def queryResolvesCard : Claim7 := { stood := { row := queryResolvesRow, standIns := [], harness := (true, "b03c9f8c16c44959e27793563f8625db0dd88aeffc2cf5a30f9286b368e40a24"), looks := false }, kinds := [], alts := [], laidByText := true, laidKinds := [.data, .data, .data, .data, .data, .pinned], laidTests := true, laidLooks := .later }
def QueryResolvesCardSaid : Prop := Claim7.holds Tryz.pinned (.plain (OpenSpec.ofChange queryResolvesSpec)) queryResolvesCard

/-- THE SECOND FORM's CARD OF 'netverifylaw36.QueryResolves'. -/
def queryResolvesUptoCard : Claim7 := { stood := { row := queryResolvesUptoRow, standIns := [], harness := (true, "b03c9f8c16c44959e27793563f8625db0dd88aeffc2cf5a30f9286b368e40a24"), looks := false }, kinds := [], alts := [], laidByText := true, laidKinds := [.data, .data, .data, .data, .data, .pinned], laidTests := true, laidLooks := .later }
def QueryResolvesUptoCardSaid : Prop := Claim7.holds Tryz.pinned (.plain (OpenSpec.upto queryResolvesSpec)) queryResolvesUptoCard
end Rows
end Go.Proofs.YtnhemjdmleilcaaGreatDoor
