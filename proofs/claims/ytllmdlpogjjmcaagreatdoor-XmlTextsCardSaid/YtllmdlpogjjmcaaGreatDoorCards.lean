/-
  DERIVED. GIVEN WITH THE SEED: THE CARDS: each row of YtllmdlpogjjmcaaGreatDoorRows.lean that lists a variable, with what it lists TIED to the program's text (the seventh form; the later family's looks); each row that meets fmt, with fmt's text TOLD by the authors' own Lean function (tested against real Go, not proved from fmt's source: count such statements apart). THE CARD IS WHAT COUNTS. Prove the row's statement (the work); the ties are given (YtllmdlpogjjmcaaGreatDoorTie.lean); close each card by the builder's one call (the guide's Derived/Test/ToyasCard.lean, 'card_holds'). Laid BY PROGRAM, IN A SANDBOX (cutbox-door.mjs). By AI agents, Wed Nov 11 2026. No macro, syntax, notation, axiom, sorry.
-/
import Derived.Test.YtllmdlpogjjmcaaGreatDoorRows
import GoSem.ClaimSeven
namespace Go.Proofs.YtllmdlpogjjmcaaGreatDoor
namespace Rows

/-- THE TIED CARD OF 'hearthlaw17.XmlTexts'. -/
def xmlTextsCard : Claim7 := { stood := { row := xmlTextsRow, standIns := [], harness := (true, "1a741adf60c8e5127eb1443e198dd0cd801ba88d3fb56333030944766272c7b0"), looks := true }, kinds := [], alts := [], laidByText := true, laidKinds := [.data, .pinned], laidTests := true, laidLooks := .later }
def XmlTextsCardSaid : Prop := Claim7.holds Tryz.pinned (.plain (OpenSpec.ofChange xmlTextsSpec)) xmlTextsCard

/-- THE TIED CARD OF 'hearthlaw17.XmlTurned'. -/
def xmlTurnedCard : Claim7 := { stood := { row := xmlTurnedRow, standIns := [], harness := (true, "1a741adf60c8e5127eb1443e198dd0cd801ba88d3fb56333030944766272c7b0"), looks := true }, kinds := [], alts := [], laidByText := true, laidKinds := [.data, .data, .data, .data, .pinned], laidTests := true, laidLooks := .later }
def XmlTurnedCardSaid : Prop := Claim7.holds Tryz.pinned (.plain (OpenSpec.ofChange xmlTurnedSpec)) xmlTurnedCard

/-- THE SECOND FORM's CARD OF 'hearthlaw17.XmlTexts'. -/
def xmlTextsUptoCard : Claim7 := { stood := { row := xmlTextsUptoRow, standIns := [], harness := (true, "1a741adf60c8e5127eb1443e198dd0cd801ba88d3fb56333030944766272c7b0"), looks := true }, kinds := [], alts := [], laidByText := true, laidKinds := [.data, .pinned], laidTests := true, laidLooks := .later }
def XmlTextsUptoCardSaid : Prop := Claim7.holds Tryz.pinned (.plain (OpenSpec.upto xmlTextsSpec)) xmlTextsUptoCard

/-- THE SECOND FORM's CARD OF 'hearthlaw17.XmlTurned'. -/
def xmlTurnedUptoCard : Claim7 := { stood := { row := xmlTurnedUptoRow, standIns := [], harness := (true, "1a741adf60c8e5127eb1443e198dd0cd801ba88d3fb56333030944766272c7b0"), looks := true }, kinds := [], alts := [], laidByText := true, laidKinds := [.data, .data, .data, .data, .pinned], laidTests := true, laidLooks := .later }
def XmlTurnedUptoCardSaid : Prop := Claim7.holds Tryz.pinned (.plain (OpenSpec.upto xmlTurnedSpec)) xmlTurnedUptoCard
end Rows
end Go.Proofs.YtllmdlpogjjmcaaGreatDoor
