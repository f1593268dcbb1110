/-
  DERIVED. GIVEN WITH THE SEED: THE CARDS: each row of YtfceodbpkghkaaaGreatDoorRows.lean that lists a variable, with what it lists TIED to the program's text (the seventh form; the later family's looks); each row that meets fmt, with fmt's text TOLD by the authors' own Lean function (tested against real Go, not proved from fmt's source: count such statements apart). THE CARD IS WHAT COUNTS. Prove the row's statement (the work); the ties are given (YtfceodbpkghkaaaGreatDoorTie.lean); close each card by the builder's one call (the guide's Derived/Test/ToyasCard.lean, 'card_holds'). Laid BY PROGRAM, IN A SANDBOX (cutbox-door.mjs). By AI agents, Wed Nov 11 2026. No macro, syntax, notation, axiom, sorry.
-/
import Derived.Test.YtfceodbpkghkaaaGreatDoorRows
import GoSem.ClaimSeven
namespace Go.Proofs.YtfceodbpkghkaaaGreatDoor
namespace Rows

/-- THE TIED CARD OF 'hearthlaw22.GenaTexts'. -/
def genaTextsCard : Claim7 := { stood := { row := genaTextsRow, standIns := [], harness := (true, "00b02b42cc2dc46864f2296461e9c3c774065a527ba4110533702d107af483e7"), looks := true }, kinds := [], alts := [], laidByText := true, laidKinds := [.data, .data, .data, .data, .pinned], laidTests := true, laidLooks := .later }
def GenaTextsCardSaid : Prop := Claim7.holds Tryz.pinned (.plain (OpenSpec.ofChange genaTextsSpec)) genaTextsCard

/-- THE TIED CARD OF 'hearthlaw22.GenaTells'. -/
def genaTellsCard : Claim7 := { stood := { row := genaTellsRow, standIns := [], harness := (true, "00b02b42cc2dc46864f2296461e9c3c774065a527ba4110533702d107af483e7"), looks := true }, kinds := [], alts := [], laidByText := true, laidKinds := [.data, .data, .data, .data, .pinned], laidTests := true, laidLooks := .later }
def GenaTellsCardSaid : Prop := Claim7.holds Tryz.pinned (.plain (OpenSpec.ofChange genaTellsSpec)) genaTellsCard

/-- THE TIED CARD OF 'hearthlaw22.GenaPlays'. -/
def genaPlaysCard : Claim7 := { stood := { row := genaPlaysRow, standIns := [], harness := (true, "00b02b42cc2dc46864f2296461e9c3c774065a527ba4110533702d107af483e7"), looks := true }, kinds := [], alts := [], laidByText := true, laidKinds := [.data, .data, .data, .data, .pinned], laidTests := true, laidLooks := .later }
def GenaPlaysCardSaid : Prop := Claim7.holds Tryz.pinned (.plain (OpenSpec.ofChange genaPlaysSpec)) genaPlaysCard

/-- THE SECOND FORM's CARD OF 'hearthlaw22.GenaTexts'. -/
def genaTextsUptoCard : Claim7 := { stood := { row := genaTextsUptoRow, standIns := [], harness := (true, "00b02b42cc2dc46864f2296461e9c3c774065a527ba4110533702d107af483e7"), looks := true }, kinds := [], alts := [], laidByText := true, laidKinds := [.data, .data, .data, .data, .pinned], laidTests := true, laidLooks := .later }
def GenaTextsUptoCardSaid : Prop := Claim7.holds Tryz.pinned (.plain (OpenSpec.upto genaTextsSpec)) genaTextsUptoCard

/-- THE SECOND FORM's CARD OF 'hearthlaw22.GenaTells'. -/
def genaTellsUptoCard : Claim7 := { stood := { row := genaTellsUptoRow, standIns := [], harness := (true, "00b02b42cc2dc46864f2296461e9c3c774065a527ba4110533702d107af483e7"), looks := true }, kinds := [], alts := [], laidByText := true, laidKinds := [.data, .data, .data, .data, .pinned], laidTests := true, laidLooks := .later }
def GenaTellsUptoCardSaid : Prop := Claim7.holds Tryz.pinned (.plain (OpenSpec.upto genaTellsSpec)) genaTellsUptoCard

/-- THE SECOND FORM's CARD OF 'hearthlaw22.GenaPlays'. -/
def genaPlaysUptoCard : Claim7 := { stood := { row := genaPlaysUptoRow, standIns := [], harness := (true, "00b02b42cc2dc46864f2296461e9c3c774065a527ba4110533702d107af483e7"), looks := true }, kinds := [], alts := [], laidByText := true, laidKinds := [.data, .data, .data, .data, .pinned], laidTests := true, laidLooks := .later }
def GenaPlaysUptoCardSaid : Prop := Claim7.holds Tryz.pinned (.plain (OpenSpec.upto genaPlaysSpec)) genaPlaysUptoCard
end Rows
end Go.Proofs.YtfceodbpkghkaaaGreatDoor
