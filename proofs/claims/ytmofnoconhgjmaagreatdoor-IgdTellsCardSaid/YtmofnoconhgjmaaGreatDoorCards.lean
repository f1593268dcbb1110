/-
  DERIVED. GIVEN WITH THE SEED: THE CARDS: each row of YtmofnoconhgjmaaGreatDoorRows.lean that lists a variable, with what it lists TIED to the program's text (the seventh form; the later family's looks); each row that meets fmt, with fmt's text TOLD by the authors' own Lean function (tested against real Go, not proved from fmt's source: count such statements apart). THE CARD IS WHAT COUNTS. Prove the row's statement (the work); the ties are given (YtmofnoconhgjmaaGreatDoorTie.lean); close each card by the builder's one call (the guide's Derived/Test/ToyasCard.lean, 'card_holds'). Laid BY PROGRAM, IN A SANDBOX (cutbox-door.mjs). By AI agents, Wed Nov 11 2026. No macro, syntax, notation, axiom, sorry.
-/
import Derived.Test.YtmofnoconhgjmaaGreatDoorRows
import GoSem.ClaimSeven
namespace Go.Proofs.YtmofnoconhgjmaaGreatDoor
namespace Rows

/-- THE TIED CARD OF 'hearthlaw17.XmlTurned'. -/
def xmlTurnedCard : Claim7 := { stood := { row := xmlTurnedRow, standIns := [], harness := (true, "50746e21e8af1b0c8a82b079e4f81a6a3681f34f8de7560e6132ffc33bb98e39"), looks := true }, kinds := [], alts := [], laidByText := true, laidKinds := [.data, .data, .data, .data, .pinned], laidTests := true, laidLooks := .later }
def XmlTurnedCardSaid : Prop := Claim7.holds Tryz.pinned (.plain (OpenSpec.ofChange xmlTurnedSpec)) xmlTurnedCard

/-- THE TIED CARD OF 'hearthlaw21.IgdBack'. -/
def igdBackCard : Claim7 := { stood := { row := igdBackRow, standIns := [], harness := (true, "50746e21e8af1b0c8a82b079e4f81a6a3681f34f8de7560e6132ffc33bb98e39"), looks := true }, kinds := [], alts := [], laidByText := true, laidKinds := [.data, .data, .data, .data, .pinned], laidTests := true, laidLooks := .later }
def IgdBackCardSaid : Prop := Claim7.holds Tryz.pinned (.plain (OpenSpec.ofChange igdBackSpec)) igdBackCard

/-- THE TIED CARD OF 'hearthlaw21.IgdOrder'. -/
def igdOrderCard : Claim7 := { stood := { row := igdOrderRow, standIns := [], harness := (true, "50746e21e8af1b0c8a82b079e4f81a6a3681f34f8de7560e6132ffc33bb98e39"), looks := true }, kinds := [], alts := [], laidByText := true, laidKinds := [.data, .data, .data, .data, .pinned], laidTests := true, laidLooks := .later }
def IgdOrderCardSaid : Prop := Claim7.holds Tryz.pinned (.plain (OpenSpec.ofChange igdOrderSpec)) igdOrderCard

/-- THE TIED CARD OF 'hearthlaw21.IgdRefused'. -/
def igdRefusedCard : Claim7 := { stood := { row := igdRefusedRow, standIns := [], harness := (true, "50746e21e8af1b0c8a82b079e4f81a6a3681f34f8de7560e6132ffc33bb98e39"), looks := true }, kinds := [], alts := [], laidByText := true, laidKinds := [.data, .data, .data, .data, .pinned], laidTests := true, laidLooks := .later }
def IgdRefusedCardSaid : Prop := Claim7.holds Tryz.pinned (.plain (OpenSpec.ofChange igdRefusedSpec)) igdRefusedCard

/-- THE TIED CARD OF 'hearthlaw18.SoapFinds'. -/
def soapFindsCard : Claim7 := { stood := { row := soapFindsRow, standIns := [], harness := (true, "50746e21e8af1b0c8a82b079e4f81a6a3681f34f8de7560e6132ffc33bb98e39"), looks := true }, kinds := [], alts := [], laidByText := true, laidKinds := [.data, .data, .data, .data, .pinned], laidTests := true, laidLooks := .later }
def SoapFindsCardSaid : Prop := Claim7.holds Tryz.pinned (.plain (OpenSpec.ofChange soapFindsSpec)) soapFindsCard

/-- THE TIED CARD OF 'hearthlaw21.IgdTells'. -/
def igdTellsCard : Claim7 := { stood := { row := igdTellsRow, standIns := [], harness := (true, "50746e21e8af1b0c8a82b079e4f81a6a3681f34f8de7560e6132ffc33bb98e39"), looks := true }, kinds := [], alts := [], laidByText := true, laidKinds := [.data, .data, .data, .data, .pinned], laidTests := true, laidLooks := .later }
def IgdTellsCardSaid : Prop := Claim7.holds Tryz.pinned (.plain (OpenSpec.ofChange igdTellsSpec)) igdTellsCard

/-- THE TIED CARD OF 'hearthlaw21.IgdWords'. -/
def igdWordsCard : Claim7 := { stood := { row := igdWordsRow, standIns := [], harness := (true, "50746e21e8af1b0c8a82b079e4f81a6a3681f34f8de7560e6132ffc33bb98e39"), looks := true }, kinds := [], alts := [], laidByText := true, laidKinds := [.data, .data, .data, .data, .pinned], laidTests := true, laidLooks := .later }
def IgdWordsCardSaid : Prop := Claim7.holds Tryz.pinned (.plain (OpenSpec.ofChange igdWordsSpec)) igdWordsCard

/-- THE TIED CARD OF 'hearthlaw21.IgdPlays'. -/
def igdPlaysCard : Claim7 := { stood := { row := igdPlaysRow, standIns := [], harness := (true, "50746e21e8af1b0c8a82b079e4f81a6a3681f34f8de7560e6132ffc33bb98e39"), looks := true }, kinds := [], alts := [], laidByText := true, laidKinds := [.data, .data, .data, .data, .pinned], laidTests := true, laidLooks := .later }
def IgdPlaysCardSaid : Prop := Claim7.holds Tryz.pinned (.plain (OpenSpec.ofChange igdPlaysSpec)) igdPlaysCard

/-- THE SECOND FORM's CARD OF 'hearthlaw17.XmlTurned'. -/
def xmlTurnedUptoCard : Claim7 := { stood := { row := xmlTurnedUptoRow, standIns := [], harness := (true, "50746e21e8af1b0c8a82b079e4f81a6a3681f34f8de7560e6132ffc33bb98e39"), looks := true }, kinds := [], alts := [], laidByText := true, laidKinds := [.data, .data, .data, .data, .pinned], laidTests := true, laidLooks := .later }
def XmlTurnedUptoCardSaid : Prop := Claim7.holds Tryz.pinned (.plain (OpenSpec.upto xmlTurnedSpec)) xmlTurnedUptoCard

/-- THE SECOND FORM's CARD OF 'hearthlaw21.IgdBack'. -/
def igdBackUptoCard : Claim7 := { stood := { row := igdBackUptoRow, standIns := [], harness := (true, "50746e21e8af1b0c8a82b079e4f81a6a3681f34f8de7560e6132ffc33bb98e39"), looks := true }, kinds := [], alts := [], laidByText := true, laidKinds := [.data, .data, .data, .data, .pinned], laidTests := true, laidLooks := .later }
def IgdBackUptoCardSaid : Prop := Claim7.holds Tryz.pinned (.plain (OpenSpec.upto igdBackSpec)) igdBackUptoCard

/-- THE SECOND FORM's CARD OF 'hearthlaw21.IgdOrder'. -/
def igdOrderUptoCard : Claim7 := { stood := { row := igdOrderUptoRow, standIns := [], harness := (true, "50746e21e8af1b0c8a82b079e4f81a6a3681f34f8de7560e6132ffc33bb98e39"), looks := true }, kinds := [], alts := [], laidByText := true, laidKinds := [.data, .data, .data, .data, .pinned], laidTests := true, laidLooks := .later }
def IgdOrderUptoCardSaid : Prop := Claim7.holds Tryz.pinned (.plain (OpenSpec.upto igdOrderSpec)) igdOrderUptoCard

/-- THE SECOND FORM's CARD OF 'hearthlaw21.IgdRefused'. -/
def igdRefusedUptoCard : Claim7 := { stood := { row := igdRefusedUptoRow, standIns := [], harness := (true, "50746e21e8af1b0c8a82b079e4f81a6a3681f34f8de7560e6132ffc33bb98e39"), looks := true }, kinds := [], alts := [], laidByText := true, laidKinds := [.data, .data, .data, .data, .pinned], laidTests := true, laidLooks := .later }
def IgdRefusedUptoCardSaid : Prop := Claim7.holds Tryz.pinned (.plain (OpenSpec.upto igdRefusedSpec)) igdRefusedUptoCard

/-- THE SECOND FORM's CARD OF 'hearthlaw18.SoapFinds'. -/
def soapFindsUptoCard : Claim7 := { stood := { row := soapFindsUptoRow, standIns := [], harness := (true, "50746e21e8af1b0c8a82b079e4f81a6a3681f34f8de7560e6132ffc33bb98e39"), looks := true }, kinds := [], alts := [], laidByText := true, laidKinds := [.data, .data, .data, .data, .pinned], laidTests := true, laidLooks := .later }
def SoapFindsUptoCardSaid : Prop := Claim7.holds Tryz.pinned (.plain (OpenSpec.upto soapFindsSpec)) soapFindsUptoCard

/-- THE SECOND FORM's CARD OF 'hearthlaw21.IgdTells'. -/
def igdTellsUptoCard : Claim7 := { stood := { row := igdTellsUptoRow, standIns := [], harness := (true, "50746e21e8af1b0c8a82b079e4f81a6a3681f34f8de7560e6132ffc33bb98e39"), looks := true }, kinds := [], alts := [], laidByText := true, laidKinds := [.data, .data, .data, .data, .pinned], laidTests := true, laidLooks := .later }
def IgdTellsUptoCardSaid : Prop := Claim7.holds Tryz.pinned (.plain (OpenSpec.upto igdTellsSpec)) igdTellsUptoCard

/-- THE SECOND FORM's CARD OF 'hearthlaw21.IgdWords'. -/
def igdWordsUptoCard : Claim7 := { stood := { row := igdWordsUptoRow, standIns := [], harness := (true, "50746e21e8af1b0c8a82b079e4f81a6a3681f34f8de7560e6132ffc33bb98e39"), looks := true }, kinds := [], alts := [], laidByText := true, laidKinds := [.data, .data, .data, .data, .pinned], laidTests := true, laidLooks := .later }
def IgdWordsUptoCardSaid : Prop := Claim7.holds Tryz.pinned (.plain (OpenSpec.upto igdWordsSpec)) igdWordsUptoCard

/-- THE SECOND FORM's CARD OF 'hearthlaw21.IgdPlays'. -/
def igdPlaysUptoCard : Claim7 := { stood := { row := igdPlaysUptoRow, standIns := [], harness := (true, "50746e21e8af1b0c8a82b079e4f81a6a3681f34f8de7560e6132ffc33bb98e39"), looks := true }, kinds := [], alts := [], laidByText := true, laidKinds := [.data, .data, .data, .data, .pinned], laidTests := true, laidLooks := .later }
def IgdPlaysUptoCardSaid : Prop := Claim7.holds Tryz.pinned (.plain (OpenSpec.upto igdPlaysSpec)) igdPlaysUptoCard
end Rows
end Go.Proofs.YtmofnoconhgjmaaGreatDoor
