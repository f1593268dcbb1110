/-
  DERIVED. GIVEN WITH THE SEED: THE CARDS: each row of YtjpkmbgpkdomnaaDoorRows.lean that lists a variable, with what it lists TIED to the program's text (the seventh form; the later family's looks); each row that meets fmt, with fmt's text TOLD by the authors' own Lean function (tested against real Go, not proved from fmt's source: count such statements apart). THE CARD IS WHAT COUNTS. Prove the row's statement (the work); the ties are given (YtjpkmbgpkdomnaaDoorTie.lean); close each card by the builder's one call (the guide's Derived/Test/ToyasCard.lean, 'card_holds'). Laid BY PROGRAM, IN A SANDBOX (cutbox-door.mjs). By AI agents, Wed Nov 11 2026. No macro, syntax, notation, axiom, sorry.
-/
import Derived.Test.YtjpkmbgpkdomnaaDoorRows
import GoSem.ClaimSeven
namespace Go.Proofs.YtjpkmbgpkdomnaaDoor
namespace Rows

/-- THE TIED CARD OF 'hearthlaw19.ValueWrites'. -/
def valueWritesCard : Claim7 := { stood := { row := valueWritesRow, standIns := [], harness := (true, "bd7124cb956c8a0b0e96d6d93b6b0304523cf92fdd41b2e002ee5ef5fa257c0e"), looks := false }, kinds := [], alts := [], laidByText := true, laidKinds := [.data, .data, .data], laidTests := true, laidLooks := .later }
def ValueWritesCardSaid : Prop := Claim7.holds Tryd.pinned (.plain (OpenSpec.ofChange valueWritesSpec)) valueWritesCard

/-- THE TIED CARD OF 'hearthlaw04.InetTexts'. -/
def inetTextsCard : Claim7 := { stood := { row := inetTextsRow, standIns := [], harness := (true, "bd7124cb956c8a0b0e96d6d93b6b0304523cf92fdd41b2e002ee5ef5fa257c0e"), looks := false }, kinds := [], alts := [], laidByText := true, laidKinds := [.data, .data, .data, .data, .pinned], laidTests := true, laidLooks := .later }
def InetTextsCardSaid : Prop := Claim7.holds Tryd.pinned (.plain (OpenSpec.ofChange inetTextsSpec)) inetTextsCard

/-- THE TIED CARD OF 'hearthlaw04.InetWithin'. -/
def inetWithinCard : Claim7 := { stood := { row := inetWithinRow, standIns := [], harness := (true, "bd7124cb956c8a0b0e96d6d93b6b0304523cf92fdd41b2e002ee5ef5fa257c0e"), looks := false }, kinds := [], alts := [], laidByText := true, laidKinds := [.data, .data, .data, .data, .pinned], laidTests := true, laidLooks := .later }
def InetWithinCardSaid : Prop := Claim7.holds Tryd.pinned (.plain (OpenSpec.ofChange inetWithinSpec)) inetWithinCard

/-- THE TIED CARD OF 'hearthlaw19.ValueReads'. -/
def valueReadsCard : Claim7 := { stood := { row := valueReadsRow, standIns := [], harness := (true, "bd7124cb956c8a0b0e96d6d93b6b0304523cf92fdd41b2e002ee5ef5fa257c0e"), looks := false }, kinds := [], alts := [], laidByText := true, laidKinds := [.data, .data, .data, .data, .pinned], laidTests := true, laidLooks := .later }
def ValueReadsCardSaid : Prop := Claim7.holds Tryd.pinned (.plain (OpenSpec.ofChange valueReadsSpec)) valueReadsCard

/-- THE TIED CARD OF 'hearthlaw19.ValueAddrs'. -/
def valueAddrsCard : Claim7 := { stood := { row := valueAddrsRow, standIns := [], harness := (true, "bd7124cb956c8a0b0e96d6d93b6b0304523cf92fdd41b2e002ee5ef5fa257c0e"), looks := false }, kinds := [], alts := [], laidByText := true, laidKinds := [.data, .data, .data, .data, .pinned], laidTests := true, laidLooks := .later }
def ValueAddrsCardSaid : Prop := Claim7.holds Tryd.pinned (.plain (OpenSpec.ofChange valueAddrsSpec)) valueAddrsCard

/-- THE TIED CARD OF 'hearthlaw04.InetReads'. -/
def inetReadsCard : Claim7 := { stood := { row := inetReadsRow, standIns := [], harness := (true, "bd7124cb956c8a0b0e96d6d93b6b0304523cf92fdd41b2e002ee5ef5fa257c0e"), looks := false }, kinds := [], alts := [], laidByText := true, laidKinds := [.data, .data, .data, .data, .pinned], laidTests := true, laidLooks := .later }
def InetReadsCardSaid : Prop := Claim7.holds Tryd.pinned (.plain (OpenSpec.ofChange inetReadsSpec)) inetReadsCard

/-- THE TIED CARD OF 'hearthlaw04.InetWrites'. -/
def inetWritesCard : Claim7 := { stood := { row := inetWritesRow, standIns := [], harness := (true, "bd7124cb956c8a0b0e96d6d93b6b0304523cf92fdd41b2e002ee5ef5fa257c0e"), looks := false }, kinds := [], alts := [], laidByText := true, laidKinds := [.data, .data, .data, .data, .pinned], laidTests := true, laidLooks := .later }
def InetWritesCardSaid : Prop := Claim7.holds Tryd.pinned (.plain (OpenSpec.ofChange inetWritesSpec)) inetWritesCard

/-- THE TIED CARD OF 'hearthlaw04.InetTurned'. -/
def inetTurnedCard : Claim7 := { stood := { row := inetTurnedRow, standIns := [], harness := (true, "bd7124cb956c8a0b0e96d6d93b6b0304523cf92fdd41b2e002ee5ef5fa257c0e"), looks := false }, kinds := [], alts := [], laidByText := true, laidKinds := [.data, .data, .data, .data, .pinned], laidTests := true, laidLooks := .later }
def InetTurnedCardSaid : Prop := Claim7.holds Tryd.pinned (.plain (OpenSpec.ofChange inetTurnedSpec)) inetTurnedCard

/-- THE TIED CARD OF 'hearthlaw04.InetApart'. -/
def inetApartCard : Claim7 := { stood := { row := inetApartRow, standIns := [], harness := (true, "bd7124cb956c8a0b0e96d6d93b6b0304523cf92fdd41b2e002ee5ef5fa257c0e"), looks := false }, kinds := [], alts := [], laidByText := true, laidKinds := [.data, .data, .data, .data, .pinned], laidTests := true, laidLooks := .later }
def InetApartCardSaid : Prop := Claim7.holds Tryd.pinned (.plain (OpenSpec.ofChange inetApartSpec)) inetApartCard

/-- THE TIED CARD OF 'hearthlaw04.InetParts'. -/
def inetPartsCard : Claim7 := { stood := { row := inetPartsRow, standIns := [], harness := (true, "bd7124cb956c8a0b0e96d6d93b6b0304523cf92fdd41b2e002ee5ef5fa257c0e"), looks := false }, kinds := [], alts := [], laidByText := true, laidKinds := [.data, .data, .data, .data, .pinned], laidTests := true, laidLooks := .later }
def InetPartsCardSaid : Prop := Claim7.holds Tryd.pinned (.plain (OpenSpec.ofChange inetPartsSpec)) inetPartsCard

/-- THE SECOND FORM's CARD OF 'hearthlaw19.ValueWrites'. -/
def valueWritesUptoCard : Claim7 := { stood := { row := valueWritesUptoRow, standIns := [], harness := (true, "bd7124cb956c8a0b0e96d6d93b6b0304523cf92fdd41b2e002ee5ef5fa257c0e"), looks := false }, kinds := [], alts := [], laidByText := true, laidKinds := [.data, .data, .data], laidTests := true, laidLooks := .later }
def ValueWritesUptoCardSaid : Prop := Claim7.holds Tryd.pinned (.plain (OpenSpec.upto valueWritesSpec)) valueWritesUptoCard

/-- THE SECOND FORM's CARD OF 'hearthlaw04.InetTexts'. -/
def inetTextsUptoCard : Claim7 := { stood := { row := inetTextsUptoRow, standIns := [], harness := (true, "bd7124cb956c8a0b0e96d6d93b6b0304523cf92fdd41b2e002ee5ef5fa257c0e"), looks := false }, kinds := [], alts := [], laidByText := true, laidKinds := [.data, .data, .data, .data, .pinned], laidTests := true, laidLooks := .later }
def InetTextsUptoCardSaid : Prop := Claim7.holds Tryd.pinned (.plain (OpenSpec.upto inetTextsSpec)) inetTextsUptoCard

/-- THE SECOND FORM's CARD OF 'hearthlaw04.InetWithin'. -/
def inetWithinUptoCard : Claim7 := { stood := { row := inetWithinUptoRow, standIns := [], harness := (true, "bd7124cb956c8a0b0e96d6d93b6b0304523cf92fdd41b2e002ee5ef5fa257c0e"), looks := false }, kinds := [], alts := [], laidByText := true, laidKinds := [.data, .data, .data, .data, .pinned], laidTests := true, laidLooks := .later }
def InetWithinUptoCardSaid : Prop := Claim7.holds Tryd.pinned (.plain (OpenSpec.upto inetWithinSpec)) inetWithinUptoCard

/-- THE SECOND FORM's CARD OF 'hearthlaw19.ValueReads'. -/
def valueReadsUptoCard : Claim7 := { stood := { row := valueReadsUptoRow, standIns := [], harness := (true, "bd7124cb956c8a0b0e96d6d93b6b0304523cf92fdd41b2e002ee5ef5fa257c0e"), looks := false }, kinds := [], alts := [], laidByText := true, laidKinds := [.data, .data, .data, .data, .pinned], laidTests := true, laidLooks := .later }
def ValueReadsUptoCardSaid : Prop := Claim7.holds Tryd.pinned (.plain (OpenSpec.upto valueReadsSpec)) valueReadsUptoCard

/-- THE SECOND FORM's CARD OF 'hearthlaw19.ValueAddrs'. -/
def valueAddrsUptoCard : Claim7 := { stood := { row := valueAddrsUptoRow, standIns := [], harness := (true, "bd7124cb956c8a0b0e96d6d93b6b0304523cf92fdd41b2e002ee5ef5fa257c0e"), looks := false }, kinds := [], alts := [], laidByText := true, laidKinds := [.data, .data, .data, .data, .pinned], laidTests := true, laidLooks := .later }
def ValueAddrsUptoCardSaid : Prop := Claim7.holds Tryd.pinned (.plain (OpenSpec.upto valueAddrsSpec)) valueAddrsUptoCard

/-- THE SECOND FORM's CARD OF 'hearthlaw04.InetReads'. -/
def inetReadsUptoCard : Claim7 := { stood := { row := inetReadsUptoRow, standIns := [], harness := (true, "bd7124cb956c8a0b0e96d6d93b6b0304523cf92fdd41b2e002ee5ef5fa257c0e"), looks := false }, kinds := [], alts := [], laidByText := true, laidKinds := [.data, .data, .data, .data, .pinned], laidTests := true, laidLooks := .later }
def InetReadsUptoCardSaid : Prop := Claim7.holds Tryd.pinned (.plain (OpenSpec.upto inetReadsSpec)) inetReadsUptoCard

/-- THE SECOND FORM's CARD OF 'hearthlaw04.InetWrites'. -/
def inetWritesUptoCard : Claim7 := { stood := { row := inetWritesUptoRow, standIns := [], harness := (true, "bd7124cb956c8a0b0e96d6d93b6b0304523cf92fdd41b2e002ee5ef5fa257c0e"), looks := false }, kinds := [], alts := [], laidByText := true, laidKinds := [.data, .data, .data, .data, .pinned], laidTests := true, laidLooks := .later }
def InetWritesUptoCardSaid : Prop := Claim7.holds Tryd.pinned (.plain (OpenSpec.upto inetWritesSpec)) inetWritesUptoCard

/-- THE SECOND FORM's CARD OF 'hearthlaw04.InetTurned'. -/
def inetTurnedUptoCard : Claim7 := { stood := { row := inetTurnedUptoRow, standIns := [], harness := (true, "bd7124cb956c8a0b0e96d6d93b6b0304523cf92fdd41b2e002ee5ef5fa257c0e"), looks := false }, kinds := [], alts := [], laidByText := true, laidKinds := [.data, .data, .data, .data, .pinned], laidTests := true, laidLooks := .later }
def InetTurnedUptoCardSaid : Prop := Claim7.holds Tryd.pinned (.plain (OpenSpec.upto inetTurnedSpec)) inetTurnedUptoCard

/-- THE SECOND FORM's CARD OF 'hearthlaw04.InetApart'. -/
def inetApartUptoCard : Claim7 := { stood := { row := inetApartUptoRow, standIns := [], harness := (true, "bd7124cb956c8a0b0e96d6d93b6b0304523cf92fdd41b2e002ee5ef5fa257c0e"), looks := false }, kinds := [], alts := [], laidByText := true, laidKinds := [.data, .data, .data, .data, .pinned], laidTests := true, laidLooks := .later }
def InetApartUptoCardSaid : Prop := Claim7.holds Tryd.pinned (.plain (OpenSpec.upto inetApartSpec)) inetApartUptoCard

/-- THE SECOND FORM's CARD OF 'hearthlaw04.InetParts'. -/
def inetPartsUptoCard : Claim7 := { stood := { row := inetPartsUptoRow, standIns := [], harness := (true, "bd7124cb956c8a0b0e96d6d93b6b0304523cf92fdd41b2e002ee5ef5fa257c0e"), looks := false }, kinds := [], alts := [], laidByText := true, laidKinds := [.data, .data, .data, .data, .pinned], laidTests := true, laidLooks := .later }
def InetPartsUptoCardSaid : Prop := Claim7.holds Tryd.pinned (.plain (OpenSpec.upto inetPartsSpec)) inetPartsUptoCard
end Rows
end Go.Proofs.YtjpkmbgpkdomnaaDoor
