/-
  DERIVED. GIVEN WITH THE SEED: THE CARDS: each row of YtfceodbpkghkaaaDoorRows.lean that lists a variable, with what it lists TIED to the program's text (the seventh form; the later family's looks); each row that meets fmt, with fmt's text TOLD by the authors' own Lean function (tested against real Go, not proved from fmt's source: count such statements apart). THE CARD IS WHAT COUNTS. Prove the row's statement (the work); the ties are given (YtfceodbpkghkaaaDoorTie.lean); close each card by the builder's one call (the guide's Derived/Test/ToyasCard.lean, 'card_holds'). Laid BY PROGRAM, IN A SANDBOX (cutbox-door.mjs). By AI agents, Wed Nov 11 2026. No macro, syntax, notation, axiom, sorry.
-/
import Derived.Test.YtfceodbpkghkaaaDoorRows
import GoSem.ClaimSeven
namespace Go.Proofs.YtfceodbpkghkaaaDoor
namespace Rows

/-- THE TIED CARD OF 'hearthlaw22.GenaFull'. -/
def genaFullCard : Claim7 := { stood := { row := genaFullRow, standIns := [], harness := (true, "d196b2cc2a21c4ea78adc681baa651feef8bc07bdca6cf29247bdba12c41cca4"), looks := false }, kinds := [], alts := [], laidByText := true, laidKinds := [.data, .data, .data, .data, .pinned], laidTests := true, laidLooks := .later }
def GenaFullCardSaid : Prop := Claim7.holds Tryd.pinned (.plain (OpenSpec.ofChange genaFullSpec)) genaFullCard

/-- THE SECOND FORM's CARD OF 'hearthlaw22.GenaFull'. -/
def genaFullUptoCard : Claim7 := { stood := { row := genaFullUptoRow, standIns := [], harness := (true, "d196b2cc2a21c4ea78adc681baa651feef8bc07bdca6cf29247bdba12c41cca4"), looks := false }, kinds := [], alts := [], laidByText := true, laidKinds := [.data, .data, .data, .data, .pinned], laidTests := true, laidLooks := .later }
def GenaFullUptoCardSaid : Prop := Claim7.holds Tryd.pinned (.plain (OpenSpec.upto genaFullSpec)) genaFullUptoCard
end Rows
end Go.Proofs.YtfceodbpkghkaaaDoor
