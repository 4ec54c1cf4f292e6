/-
  DERIVED. GIVEN WITH THE SEED: THE CARDS: each row of YtaabmekdnkcdaaaDoorRows.lean that lists a variable, with what it lists TIED to the program's text (the seventh form; the later family's looks); each row that meets fmt, with fmt's text TOLD by the authors' own Lean function (tested against real Go, not proved from fmt's source: count such statements apart). THE CARD IS WHAT COUNTS. Prove the row's statement (the work); the ties are given (YtaabmekdnkcdaaaDoorTie.lean); close each card by the builder's one call (the guide's Derived/Test/ToyasCard.lean, 'card_holds'). Laid BY PROGRAM, IN A SANDBOX (cutbox-door.mjs). By AI agents, Wed Nov 11 2026. No macro, syntax, notation, axiom, sorry.
-/
import Derived.Test.YtaabmekdnkcdaaaDoorRows
import GoSem.ClaimSeven
namespace Go.Proofs.YtaabmekdnkcdaaaDoor
namespace Rows

/-- THE TIED CARD OF 'netverifylaw2.AddrParses'. -/
def addrParsesCard : Claim7 := { stood := { row := addrParsesRow, standIns := [], harness := (true, "7e8f8a552b191a1afe85c5ac755a58efaad01f5dc58ef7f16d4b06ce75a7546d"), looks := false }, kinds := [], alts := [], laidByText := true, laidKinds := [.data, .data, .data, .data, .pinned], laidTests := true, laidLooks := .later }
def AddrParsesCardSaid : Prop := Claim7.holds Tryd.pinned (.plain (OpenSpec.ofChange addrParsesSpec)) addrParsesCard

/-- THE TIED CARD OF 'netverifylaw2.AddrRoundTrip'. -/
def addrRoundTripCard : Claim7 := { stood := { row := addrRoundTripRow, standIns := [], harness := (true, "7e8f8a552b191a1afe85c5ac755a58efaad01f5dc58ef7f16d4b06ce75a7546d"), looks := false }, kinds := [], alts := [], laidByText := true, laidKinds := [.data, .data, .data, .data, .pinned], laidTests := true, laidLooks := .later }
def AddrRoundTripCardSaid : Prop := Claim7.holds Tryd.pinned (.plain (OpenSpec.ofChange addrRoundTripSpec)) addrRoundTripCard

/-- THE TIED CARD OF 'netverifylaw2.AddrTexts'. -/
def addrTextsCard : Claim7 := { stood := { row := addrTextsRow, standIns := [], harness := (true, "7e8f8a552b191a1afe85c5ac755a58efaad01f5dc58ef7f16d4b06ce75a7546d"), looks := false }, kinds := [], alts := [], laidByText := true, laidKinds := [.data, .data, .data, .data, .pinned], laidTests := true, laidLooks := .later }
def AddrTextsCardSaid : Prop := Claim7.holds Tryd.pinned (.plain (OpenSpec.ofChange addrTextsSpec)) addrTextsCard

/-- THE TIED CARD OF 'netverifylaw2.AddrNetworks'. -/
def addrNetworksCard : Claim7 := { stood := { row := addrNetworksRow, standIns := [], harness := (true, "7e8f8a552b191a1afe85c5ac755a58efaad01f5dc58ef7f16d4b06ce75a7546d"), looks := false }, kinds := [], alts := [], laidByText := true, laidKinds := [.data, .data, .data, .data, .pinned], laidTests := true, laidLooks := .later }
def AddrNetworksCardSaid : Prop := Claim7.holds Tryd.pinned (.plain (OpenSpec.ofChange addrNetworksSpec)) addrNetworksCard

/-- THE TIED CARD OF 'netverifylaw2.AddrContains'. -/
def addrContainsCard : Claim7 := { stood := { row := addrContainsRow, standIns := [], harness := (true, "7e8f8a552b191a1afe85c5ac755a58efaad01f5dc58ef7f16d4b06ce75a7546d"), looks := false }, kinds := [], alts := [], laidByText := true, laidKinds := [.data, .data, .data, .data, .pinned], laidTests := true, laidLooks := .later }
def AddrContainsCardSaid : Prop := Claim7.holds Tryd.pinned (.plain (OpenSpec.ofChange addrContainsSpec)) addrContainsCard

/-- THE TIED CARD OF 'netverifylaw2.AddrNested'. -/
def addrNestedCard : Claim7 := { stood := { row := addrNestedRow, standIns := [], harness := (true, "7e8f8a552b191a1afe85c5ac755a58efaad01f5dc58ef7f16d4b06ce75a7546d"), looks := false }, kinds := [], alts := [], laidByText := true, laidKinds := [.data, .data, .data, .data, .pinned], laidTests := true, laidLooks := .later }
def AddrNestedCardSaid : Prop := Claim7.holds Tryd.pinned (.plain (OpenSpec.ofChange addrNestedSpec)) addrNestedCard

/-- THE TIED CARD OF 'netverifylaw2.AddrMasks'. -/
def addrMasksCard : Claim7 := { stood := { row := addrMasksRow, standIns := [], harness := (true, "7e8f8a552b191a1afe85c5ac755a58efaad01f5dc58ef7f16d4b06ce75a7546d"), looks := false }, kinds := [], alts := [], laidByText := true, laidKinds := [.data, .data, .data, .data, .pinned], laidTests := true, laidLooks := .later }
def AddrMasksCardSaid : Prop := Claim7.holds Tryd.pinned (.plain (OpenSpec.ofChange addrMasksSpec)) addrMasksCard

/-- THE TIED CARD OF 'netverifylaw2.AddrHalves'. -/
def addrHalvesCard : Claim7 := { stood := { row := addrHalvesRow, standIns := [], harness := (true, "7e8f8a552b191a1afe85c5ac755a58efaad01f5dc58ef7f16d4b06ce75a7546d"), looks := false }, kinds := [], alts := [], laidByText := true, laidKinds := [.data, .data, .data, .data, .pinned], laidTests := true, laidLooks := .later }
def AddrHalvesCardSaid : Prop := Claim7.holds Tryd.pinned (.plain (OpenSpec.ofChange addrHalvesSpec)) addrHalvesCard

/-- THE TIED CARD OF 'netverifylaw2.AddrOrder'. -/
def addrOrderCard : Claim7 := { stood := { row := addrOrderRow, standIns := [], harness := (true, "7e8f8a552b191a1afe85c5ac755a58efaad01f5dc58ef7f16d4b06ce75a7546d"), looks := false }, kinds := [], alts := [], laidByText := true, laidKinds := [.data, .data, .data, .data, .pinned], laidTests := true, laidLooks := .later }
def AddrOrderCardSaid : Prop := Claim7.holds Tryd.pinned (.plain (OpenSpec.ofChange addrOrderSpec)) addrOrderCard

/-- THE TIED CARD OF 'netverifylaw2.AddrPrefixRoundTrip'. -/
def addrPrefixRoundTripCard : Claim7 := { stood := { row := addrPrefixRoundTripRow, standIns := [], harness := (true, "7e8f8a552b191a1afe85c5ac755a58efaad01f5dc58ef7f16d4b06ce75a7546d"), looks := false }, kinds := [], alts := [], laidByText := true, laidKinds := [.data, .data, .data, .data, .pinned], laidTests := true, laidLooks := .later }
def AddrPrefixRoundTripCardSaid : Prop := Claim7.holds Tryd.pinned (.plain (OpenSpec.ofChange addrPrefixRoundTripSpec)) addrPrefixRoundTripCard

/-- THE SECOND FORM's CARD OF 'netverifylaw2.AddrParses'. -/
def addrParsesUptoCard : Claim7 := { stood := { row := addrParsesUptoRow, standIns := [], harness := (true, "7e8f8a552b191a1afe85c5ac755a58efaad01f5dc58ef7f16d4b06ce75a7546d"), looks := false }, kinds := [], alts := [], laidByText := true, laidKinds := [.data, .data, .data, .data, .pinned], laidTests := true, laidLooks := .later }
def AddrParsesUptoCardSaid : Prop := Claim7.holds Tryd.pinned (.plain (OpenSpec.upto addrParsesSpec)) addrParsesUptoCard

/-- THE SECOND FORM's CARD OF 'netverifylaw2.AddrRoundTrip'. -/
def addrRoundTripUptoCard : Claim7 := { stood := { row := addrRoundTripUptoRow, standIns := [], harness := (true, "7e8f8a552b191a1afe85c5ac755a58efaad01f5dc58ef7f16d4b06ce75a7546d"), looks := false }, kinds := [], alts := [], laidByText := true, laidKinds := [.data, .data, .data, .data, .pinned], laidTests := true, laidLooks := .later }
def AddrRoundTripUptoCardSaid : Prop := Claim7.holds Tryd.pinned (.plain (OpenSpec.upto addrRoundTripSpec)) addrRoundTripUptoCard

/-- THE SECOND FORM's CARD OF 'netverifylaw2.AddrTexts'. -/
def addrTextsUptoCard : Claim7 := { stood := { row := addrTextsUptoRow, standIns := [], harness := (true, "7e8f8a552b191a1afe85c5ac755a58efaad01f5dc58ef7f16d4b06ce75a7546d"), looks := false }, kinds := [], alts := [], laidByText := true, laidKinds := [.data, .data, .data, .data, .pinned], laidTests := true, laidLooks := .later }
def AddrTextsUptoCardSaid : Prop := Claim7.holds Tryd.pinned (.plain (OpenSpec.upto addrTextsSpec)) addrTextsUptoCard

/-- THE SECOND FORM's CARD OF 'netverifylaw2.AddrNetworks'. -/
def addrNetworksUptoCard : Claim7 := { stood := { row := addrNetworksUptoRow, standIns := [], harness := (true, "7e8f8a552b191a1afe85c5ac755a58efaad01f5dc58ef7f16d4b06ce75a7546d"), looks := false }, kinds := [], alts := [], laidByText := true, laidKinds := [.data, .data, .data, .data, .pinned], laidTests := true, laidLooks := .later }
def AddrNetworksUptoCardSaid : Prop := Claim7.holds Tryd.pinned (.plain (OpenSpec.upto addrNetworksSpec)) addrNetworksUptoCard

/-- THE SECOND FORM's CARD OF 'netverifylaw2.AddrContains'. -/
def addrContainsUptoCard : Claim7 := { stood := { row := addrContainsUptoRow, standIns := [], harness := (true, "7e8f8a552b191a1afe85c5ac755a58efaad01f5dc58ef7f16d4b06ce75a7546d"), looks := false }, kinds := [], alts := [], laidByText := true, laidKinds := [.data, .data, .data, .data, .pinned], laidTests := true, laidLooks := .later }
def AddrContainsUptoCardSaid : Prop := Claim7.holds Tryd.pinned (.plain (OpenSpec.upto addrContainsSpec)) addrContainsUptoCard

/-- THE SECOND FORM's CARD OF 'netverifylaw2.AddrNested'. -/
def addrNestedUptoCard : Claim7 := { stood := { row := addrNestedUptoRow, standIns := [], harness := (true, "7e8f8a552b191a1afe85c5ac755a58efaad01f5dc58ef7f16d4b06ce75a7546d"), looks := false }, kinds := [], alts := [], laidByText := true, laidKinds := [.data, .data, .data, .data, .pinned], laidTests := true, laidLooks := .later }
def AddrNestedUptoCardSaid : Prop := Claim7.holds Tryd.pinned (.plain (OpenSpec.upto addrNestedSpec)) addrNestedUptoCard

/-- THE SECOND FORM's CARD OF 'netverifylaw2.AddrMasks'. -/
def addrMasksUptoCard : Claim7 := { stood := { row := addrMasksUptoRow, standIns := [], harness := (true, "7e8f8a552b191a1afe85c5ac755a58efaad01f5dc58ef7f16d4b06ce75a7546d"), looks := false }, kinds := [], alts := [], laidByText := true, laidKinds := [.data, .data, .data, .data, .pinned], laidTests := true, laidLooks := .later }
def AddrMasksUptoCardSaid : Prop := Claim7.holds Tryd.pinned (.plain (OpenSpec.upto addrMasksSpec)) addrMasksUptoCard

/-- THE SECOND FORM's CARD OF 'netverifylaw2.AddrHalves'. -/
def addrHalvesUptoCard : Claim7 := { stood := { row := addrHalvesUptoRow, standIns := [], harness := (true, "7e8f8a552b191a1afe85c5ac755a58efaad01f5dc58ef7f16d4b06ce75a7546d"), looks := false }, kinds := [], alts := [], laidByText := true, laidKinds := [.data, .data, .data, .data, .pinned], laidTests := true, laidLooks := .later }
def AddrHalvesUptoCardSaid : Prop := Claim7.holds Tryd.pinned (.plain (OpenSpec.upto addrHalvesSpec)) addrHalvesUptoCard

/-- THE SECOND FORM's CARD OF 'netverifylaw2.AddrOrder'. -/
def addrOrderUptoCard : Claim7 := { stood := { row := addrOrderUptoRow, standIns := [], harness := (true, "7e8f8a552b191a1afe85c5ac755a58efaad01f5dc58ef7f16d4b06ce75a7546d"), looks := false }, kinds := [], alts := [], laidByText := true, laidKinds := [.data, .data, .data, .data, .pinned], laidTests := true, laidLooks := .later }
def AddrOrderUptoCardSaid : Prop := Claim7.holds Tryd.pinned (.plain (OpenSpec.upto addrOrderSpec)) addrOrderUptoCard

/-- THE SECOND FORM's CARD OF 'netverifylaw2.AddrPrefixRoundTrip'. -/
def addrPrefixRoundTripUptoCard : Claim7 := { stood := { row := addrPrefixRoundTripUptoRow, standIns := [], harness := (true, "7e8f8a552b191a1afe85c5ac755a58efaad01f5dc58ef7f16d4b06ce75a7546d"), looks := false }, kinds := [], alts := [], laidByText := true, laidKinds := [.data, .data, .data, .data, .pinned], laidTests := true, laidLooks := .later }
def AddrPrefixRoundTripUptoCardSaid : Prop := Claim7.holds Tryd.pinned (.plain (OpenSpec.upto addrPrefixRoundTripSpec)) addrPrefixRoundTripUptoCard
end Rows
end Go.Proofs.YtaabmekdnkcdaaaDoor
