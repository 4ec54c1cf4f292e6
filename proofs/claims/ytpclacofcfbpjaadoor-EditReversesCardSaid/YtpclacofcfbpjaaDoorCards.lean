/-
  DERIVED. GIVEN WITH THE SEED: THE CARDS: each row of YtpclacofcfbpjaaDoorRows.lean that lists a variable, with what it lists TIED to the program's text (the seventh form; the later family's looks); each row that meets fmt, with fmt's text TOLD by the authors' own Lean function (tested against real Go, not proved from fmt's source: count such statements apart). THE CARD IS WHAT COUNTS. Prove the row's statement (the work); the ties are given (YtpclacofcfbpjaaDoorTie.lean); close each card by the builder's one call (the guide's Derived/Test/ToyasCard.lean, 'card_holds'). Laid BY PROGRAM, IN A SANDBOX (cutbox-door.mjs). By AI agents, Wed Nov 11 2026. No macro, syntax, notation, axiom, sorry.
-/
import Derived.Test.YtpclacofcfbpjaaDoorRows
import GoSem.ClaimSeven
namespace Go.Proofs.YtpclacofcfbpjaaDoor
namespace Rows

/-- THE TIED CARD OF 'netverifylaw42.EditFlips'. -/
def editFlipsCard : Claim7 := { stood := { row := editFlipsRow, standIns := [], harness := (true, "56edaca612cc8a0df0311200fc7cb5f7b9cefd0a135c3400cce5f08655014e6a"), looks := false }, kinds := [], alts := [], laidByText := true, laidKinds := [.data, .pinned], laidTests := true, laidLooks := .later }
def EditFlipsCardSaid : Prop := Claim7.holds Tryd.pinned (.plain (OpenSpec.ofChange editFlipsSpec)) editFlipsCard

/-- THE TIED CARD OF 'netverifylaw42.EditFlipsWords'. -/
def editFlipsWordsCard : Claim7 := { stood := { row := editFlipsWordsRow, standIns := [], harness := (true, "56edaca612cc8a0df0311200fc7cb5f7b9cefd0a135c3400cce5f08655014e6a"), looks := false }, kinds := [], alts := [], laidByText := true, laidKinds := [.data, .pinned], laidTests := true, laidLooks := .later }
def EditFlipsWordsCardSaid : Prop := Claim7.holds Tryd.pinned (.plain (OpenSpec.ofChange editFlipsWordsSpec)) editFlipsWordsCard

/-- THE TIED CARD OF 'netverifylaw42.EditApplies'. -/
def editAppliesCard : Claim7 := { stood := { row := editAppliesRow, standIns := [], harness := (true, "56edaca612cc8a0df0311200fc7cb5f7b9cefd0a135c3400cce5f08655014e6a"), looks := false }, kinds := [], alts := [], laidByText := true, laidKinds := [.data, .pinned], laidTests := true, laidLooks := .later }
def EditAppliesCardSaid : Prop := Claim7.holds Tryd.pinned (.plain (OpenSpec.ofChange editAppliesSpec)) editAppliesCard

/-- THE TIED CARD OF 'netverifylaw42.EditLines'. -/
def editLinesCard : Claim7 := { stood := { row := editLinesRow, standIns := [], harness := (true, "56edaca612cc8a0df0311200fc7cb5f7b9cefd0a135c3400cce5f08655014e6a"), looks := false }, kinds := [], alts := [], laidByText := true, laidKinds := [.data, .pinned], laidTests := true, laidLooks := .later }
def EditLinesCardSaid : Prop := Claim7.holds Tryd.pinned (.plain (OpenSpec.ofChange editLinesSpec)) editLinesCard

/-- THE TIED CARD OF 'netverifylaw42.EditReverses'. -/
def editReversesCard : Claim7 := { stood := { row := editReversesRow, standIns := [], harness := (true, "56edaca612cc8a0df0311200fc7cb5f7b9cefd0a135c3400cce5f08655014e6a"), looks := false }, kinds := [], alts := [], laidByText := true, laidKinds := [.data, .pinned], laidTests := true, laidLooks := .later }
def EditReversesCardSaid : Prop := Claim7.holds Tryd.pinned (.plain (OpenSpec.ofChange editReversesSpec)) editReversesCard

/-- THE SECOND FORM's CARD OF 'netverifylaw42.EditFlips'. -/
def editFlipsUptoCard : Claim7 := { stood := { row := editFlipsUptoRow, standIns := [], harness := (true, "56edaca612cc8a0df0311200fc7cb5f7b9cefd0a135c3400cce5f08655014e6a"), looks := false }, kinds := [], alts := [], laidByText := true, laidKinds := [.data, .pinned], laidTests := true, laidLooks := .later }
def EditFlipsUptoCardSaid : Prop := Claim7.holds Tryd.pinned (.plain (OpenSpec.upto editFlipsSpec)) editFlipsUptoCard

/-- THE SECOND FORM's CARD OF 'netverifylaw42.EditFlipsWords'. -/
def editFlipsWordsUptoCard : Claim7 := { stood := { row := editFlipsWordsUptoRow, standIns := [], harness := (true, "56edaca612cc8a0df0311200fc7cb5f7b9cefd0a135c3400cce5f08655014e6a"), looks := false }, kinds := [], alts := [], laidByText := true, laidKinds := [.data, .pinned], laidTests := true, laidLooks := .later }
def EditFlipsWordsUptoCardSaid : Prop := Claim7.holds Tryd.pinned (.plain (OpenSpec.upto editFlipsWordsSpec)) editFlipsWordsUptoCard

/-- THE SECOND FORM's CARD OF 'netverifylaw42.EditApplies'. -/
def editAppliesUptoCard : Claim7 := { stood := { row := editAppliesUptoRow, standIns := [], harness := (true, "56edaca612cc8a0df0311200fc7cb5f7b9cefd0a135c3400cce5f08655014e6a"), looks := false }, kinds := [], alts := [], laidByText := true, laidKinds := [.data, .pinned], laidTests := true, laidLooks := .later }
def EditAppliesUptoCardSaid : Prop := Claim7.holds Tryd.pinned (.plain (OpenSpec.upto editAppliesSpec)) editAppliesUptoCard

/-- THE SECOND FORM's CARD OF 'netverifylaw42.EditLines'. -/
def editLinesUptoCard : Claim7 := { stood := { row := editLinesUptoRow, standIns := [], harness := (true, "56edaca612cc8a0df0311200fc7cb5f7b9cefd0a135c3400cce5f08655014e6a"), looks := false }, kinds := [], alts := [], laidByText := true, laidKinds := [.data, .pinned], laidTests := true, laidLooks := .later }
def EditLinesUptoCardSaid : Prop := Claim7.holds Tryd.pinned (.plain (OpenSpec.upto editLinesSpec)) editLinesUptoCard

/-- THE SECOND FORM's CARD OF 'netverifylaw42.EditReverses'. -/
def editReversesUptoCard : Claim7 := { stood := { row := editReversesUptoRow, standIns := [], harness := (true, "56edaca612cc8a0df0311200fc7cb5f7b9cefd0a135c3400cce5f08655014e6a"), looks := false }, kinds := [], alts := [], laidByText := true, laidKinds := [.data, .pinned], laidTests := true, laidLooks := .later }
def EditReversesUptoCardSaid : Prop := Claim7.holds Tryd.pinned (.plain (OpenSpec.upto editReversesSpec)) editReversesUptoCard
end Rows
end Go.Proofs.YtpclacofcfbpjaaDoor
