/-
  DERIVED. GIVEN WITH THE SEED: THE CARDS: each row of YtnhemjdmleilcaaDoorRows.lean that lists a variable, with what it lists TIED to the program's text (the seventh form; the later family's looks); each row that meets fmt, with fmt's text TOLD by the authors' own Lean function (tested against real Go, not proved from fmt's source: count such statements apart). THE CARD IS WHAT COUNTS. Prove the row's statement (the work); the ties are given (YtnhemjdmleilcaaDoorTie.lean); close each card by the builder's one call (the guide's Derived/Test/ToyasCard.lean, 'card_holds'). Laid BY PROGRAM, IN A SANDBOX (cutbox-door.mjs). By AI agents, Wed Nov 11 2026. No macro, syntax, notation, axiom, sorry.
-/
import Derived.Test.YtnhemjdmleilcaaDoorRows
import GoSem.ClaimSeven
namespace Go.Proofs.YtnhemjdmleilcaaDoor
namespace Rows

/-- THE TIED CARD OF 'netverifylaw36.QueryValidity'. -/
def queryValidityCard : Claim7 := { stood := { row := queryValidityRow, standIns := [], harness := (true, "8b2e942dc11a558748e0dd74a791cc487401c3a6713991a69219788c33dae4da"), looks := false }, kinds := [], alts := [], laidByText := true, laidKinds := [.data, .data, .data, .data, .data, .pinned], laidTests := true, laidLooks := .later }
def QueryValidityCardSaid : Prop := Claim7.holds Tryd.pinned (.plain (OpenSpec.ofChange queryValiditySpec)) queryValidityCard

/-- THE TIED CARD OF 'netverifylaw36.QueryTexts'. -/
def queryTextsCard : Claim7 := { stood := { row := queryTextsRow, standIns := [], harness := (true, "8b2e942dc11a558748e0dd74a791cc487401c3a6713991a69219788c33dae4da"), looks := false }, kinds := [], alts := [], laidByText := true, laidKinds := [.data, .data, .data, .data, .data, .pinned], laidTests := true, laidLooks := .later }
def QueryTextsCardSaid : Prop := Claim7.holds Tryd.pinned (.plain (OpenSpec.ofChange queryTextsSpec)) queryTextsCard

/-- THE TIED CARD OF 'netverifylaw36.QueryFormats'. -/
def queryFormatsCard : Claim7 := { stood := { row := queryFormatsRow, standIns := [], harness := (true, "8b2e942dc11a558748e0dd74a791cc487401c3a6713991a69219788c33dae4da"), looks := false }, kinds := [], alts := [], laidByText := true, laidKinds := [.data, .data, .data, .data, .data, .pinned], laidTests := true, laidLooks := .later }
def QueryFormatsCardSaid : Prop := Claim7.holds Tryd.pinned (.plain (OpenSpec.ofChange queryFormatsSpec)) queryFormatsCard

/-- THE TIED CARD OF 'netverifylaw36.QueryFields'. -/
def queryFieldsCard : Claim7 := { stood := { row := queryFieldsRow, standIns := [], harness := (true, "8b2e942dc11a558748e0dd74a791cc487401c3a6713991a69219788c33dae4da"), looks := false }, kinds := [], alts := [], laidByText := true, laidKinds := [.data, .data, .data, .data, .data, .pinned], laidTests := true, laidLooks := .later }
def QueryFieldsCardSaid : Prop := Claim7.holds Tryd.pinned (.plain (OpenSpec.ofChange queryFieldsSpec)) queryFieldsCard

/-- THE TIED CARD OF 'netverifylaw36.QueryLists'. -/
def queryListsCard : Claim7 := { stood := { row := queryListsRow, standIns := [], harness := (true, "8b2e942dc11a558748e0dd74a791cc487401c3a6713991a69219788c33dae4da"), looks := false }, kinds := [], alts := [], laidByText := true, laidKinds := [.data, .data, .data, .data, .data, .pinned], laidTests := true, laidLooks := .later }
def QueryListsCardSaid : Prop := Claim7.holds Tryd.pinned (.plain (OpenSpec.ofChange queryListsSpec)) queryListsCard

/-- THE TIED CARD OF 'netverifylaw36.QueryManyLines'. -/
def queryManyLinesCard : Claim7 := { stood := { row := queryManyLinesRow, standIns := [], harness := (true, "8b2e942dc11a558748e0dd74a791cc487401c3a6713991a69219788c33dae4da"), looks := false }, kinds := [], alts := [], laidByText := true, laidKinds := [.data, .data, .data, .data, .data, .pinned], laidTests := true, laidLooks := .later }
def QueryManyLinesCardSaid : Prop := Claim7.holds Tryd.pinned (.plain (OpenSpec.ofChange queryManyLinesSpec)) queryManyLinesCard

/-- THE TIED CARD OF 'netverifylaw36.QueryPartners'. -/
def queryPartnersCard : Claim7 := { stood := { row := queryPartnersRow, standIns := [], harness := (true, "8b2e942dc11a558748e0dd74a791cc487401c3a6713991a69219788c33dae4da"), looks := false }, kinds := [], alts := [], laidByText := true, laidKinds := [.data, .data, .data, .data, .data, .pinned], laidTests := true, laidLooks := .later }
def QueryPartnersCardSaid : Prop := Claim7.holds Tryd.pinned (.plain (OpenSpec.ofChange queryPartnersSpec)) queryPartnersCard

/-- THE SECOND FORM's CARD OF 'netverifylaw36.QueryValidity'. -/
def queryValidityUptoCard : Claim7 := { stood := { row := queryValidityUptoRow, standIns := [], harness := (true, "8b2e942dc11a558748e0dd74a791cc487401c3a6713991a69219788c33dae4da"), looks := false }, kinds := [], alts := [], laidByText := true, laidKinds := [.data, .data, .data, .data, .data, .pinned], laidTests := true, laidLooks := .later }
def QueryValidityUptoCardSaid : Prop := Claim7.holds Tryd.pinned (.plain (OpenSpec.upto queryValiditySpec)) queryValidityUptoCard

/-- THE SECOND FORM's CARD OF 'netverifylaw36.QueryTexts'. -/
def queryTextsUptoCard : Claim7 := { stood := { row := queryTextsUptoRow, standIns := [], harness := (true, "8b2e942dc11a558748e0dd74a791cc487401c3a6713991a69219788c33dae4da"), looks := false }, kinds := [], alts := [], laidByText := true, laidKinds := [.data, .data, .data, .data, .data, .pinned], laidTests := true, laidLooks := .later }
def QueryTextsUptoCardSaid : Prop := Claim7.holds Tryd.pinned (.plain (OpenSpec.upto queryTextsSpec)) queryTextsUptoCard

/-- THE SECOND FORM's CARD OF 'netverifylaw36.QueryFormats'. -/
def queryFormatsUptoCard : Claim7 := { stood := { row := queryFormatsUptoRow, standIns := [], harness := (true, "8b2e942dc11a558748e0dd74a791cc487401c3a6713991a69219788c33dae4da"), looks := false }, kinds := [], alts := [], laidByText := true, laidKinds := [.data, .data, .data, .data, .data, .pinned], laidTests := true, laidLooks := .later }
def QueryFormatsUptoCardSaid : Prop := Claim7.holds Tryd.pinned (.plain (OpenSpec.upto queryFormatsSpec)) queryFormatsUptoCard

/-- THE SECOND FORM's CARD OF 'netverifylaw36.QueryFields'. -/
def queryFieldsUptoCard : Claim7 := { stood := { row := queryFieldsUptoRow, standIns := [], harness := (true, "8b2e942dc11a558748e0dd74a791cc487401c3a6713991a69219788c33dae4da"), looks := false }, kinds := [], alts := [], laidByText := true, laidKinds := [.data, .data, .data, .data, .data, .pinned], laidTests := true, laidLooks := .later }
def QueryFieldsUptoCardSaid : Prop := Claim7.holds Tryd.pinned (.plain (OpenSpec.upto queryFieldsSpec)) queryFieldsUptoCard

/-- THE SECOND FORM's CARD OF 'netverifylaw36.QueryLists'. -/
def queryListsUptoCard : Claim7 := { stood := { row := queryListsUptoRow, standIns := [], harness := (true, "8b2e942dc11a558748e0dd74a791cc487401c3a6713991a69219788c33dae4da"), looks := false }, kinds := [], alts := [], laidByText := true, laidKinds := [.data, .data, .data, .data, .data, .pinned], laidTests := true, laidLooks := .later }
def QueryListsUptoCardSaid : Prop := Claim7.holds Tryd.pinned (.plain (OpenSpec.upto queryListsSpec)) queryListsUptoCard

/-- THE SECOND FORM's CARD OF 'netverifylaw36.QueryManyLines'. -/
def queryManyLinesUptoCard : Claim7 := { stood := { row := queryManyLinesUptoRow, standIns := [], harness := (true, "8b2e942dc11a558748e0dd74a791cc487401c3a6713991a69219788c33dae4da"), looks := false }, kinds := [], alts := [], laidByText := true, laidKinds := [.data, .data, .data, .data, .data, .pinned], laidTests := true, laidLooks := .later }
def QueryManyLinesUptoCardSaid : Prop := Claim7.holds Tryd.pinned (.plain (OpenSpec.upto queryManyLinesSpec)) queryManyLinesUptoCard

/-- THE SECOND FORM's CARD OF 'netverifylaw36.QueryPartners'. -/
def queryPartnersUptoCard : Claim7 := { stood := { row := queryPartnersUptoRow, standIns := [], harness := (true, "8b2e942dc11a558748e0dd74a791cc487401c3a6713991a69219788c33dae4da"), looks := false }, kinds := [], alts := [], laidByText := true, laidKinds := [.data, .data, .data, .data, .data, .pinned], laidTests := true, laidLooks := .later }
def QueryPartnersUptoCardSaid : Prop := Claim7.holds Tryd.pinned (.plain (OpenSpec.upto queryPartnersSpec)) queryPartnersUptoCard
end Rows
end Go.Proofs.YtnhemjdmleilcaaDoor
