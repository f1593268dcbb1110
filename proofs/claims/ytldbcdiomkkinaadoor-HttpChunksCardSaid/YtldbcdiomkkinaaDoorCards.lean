/-
  DERIVED. GIVEN WITH THE SEED: THE CARDS: each row of YtldbcdiomkkinaaDoorRows.lean that lists a variable, with what it lists TIED to the program's text (the seventh form; the later family's looks); each row that meets fmt, with fmt's text TOLD by the authors' own Lean function (tested against real Go, not proved from fmt's source: count such statements apart). THE CARD IS WHAT COUNTS. Prove the row's statement (the work); the ties are given (YtldbcdiomkkinaaDoorTie.lean); close each card by the builder's one call (the guide's Derived/Test/ToyasCard.lean, 'card_holds'). Laid BY PROGRAM, IN A SANDBOX (cutbox-door.mjs). By AI agents, Wed Nov 11 2026. No macro, syntax, notation, axiom, sorry.
-/
import Derived.Test.YtldbcdiomkkinaaDoorRows
import GoSem.ClaimSeven
namespace Go.Proofs.YtldbcdiomkkinaaDoor
namespace Rows

/-- THE TIED CARD OF 'hearthlaw16.HttpWhole'. -/
def httpWholeCard : Claim7 := { stood := { row := httpWholeRow, standIns := [], harness := (true, "7532c6074571f364497c345c3c333bc31c9f1be4bfb18ab603cbdd9d71cd0e6a"), looks := false }, kinds := [], alts := [], laidByText := true, laidKinds := [.data, .pinned], laidTests := true, laidLooks := .later }
def HttpWholeCardSaid : Prop := Claim7.holds Tryd.pinned (.plain (OpenSpec.ofChange httpWholeSpec)) httpWholeCard

/-- THE TIED CARD OF 'hearthlaw16.HttpEnds'. -/
def httpEndsCard : Claim7 := { stood := { row := httpEndsRow, standIns := [], harness := (true, "7532c6074571f364497c345c3c333bc31c9f1be4bfb18ab603cbdd9d71cd0e6a"), looks := false }, kinds := [], alts := [], laidByText := true, laidKinds := [.data, .pinned], laidTests := true, laidLooks := .later }
def HttpEndsCardSaid : Prop := Claim7.holds Tryd.pinned (.plain (OpenSpec.ofChange httpEndsSpec)) httpEndsCard

/-- THE TIED CARD OF 'hearthlaw16.HttpChunks'. -/
def httpChunksCard : Claim7 := { stood := { row := httpChunksRow, standIns := [], harness := (true, "7532c6074571f364497c345c3c333bc31c9f1be4bfb18ab603cbdd9d71cd0e6a"), looks := false }, kinds := [], alts := [], laidByText := true, laidKinds := [.data, .data, .data, .data, .pinned], laidTests := true, laidLooks := .later }
def HttpChunksCardSaid : Prop := Claim7.holds Tryd.pinned (.plain (OpenSpec.ofChange httpChunksSpec)) httpChunksCard

/-- THE SECOND FORM's CARD OF 'hearthlaw16.HttpWhole'. -/
def httpWholeUptoCard : Claim7 := { stood := { row := httpWholeUptoRow, standIns := [], harness := (true, "7532c6074571f364497c345c3c333bc31c9f1be4bfb18ab603cbdd9d71cd0e6a"), looks := false }, kinds := [], alts := [], laidByText := true, laidKinds := [.data, .pinned], laidTests := true, laidLooks := .later }
def HttpWholeUptoCardSaid : Prop := Claim7.holds Tryd.pinned (.plain (OpenSpec.upto httpWholeSpec)) httpWholeUptoCard

/-- THE SECOND FORM's CARD OF 'hearthlaw16.HttpEnds'. -/
def httpEndsUptoCard : Claim7 := { stood := { row := httpEndsUptoRow, standIns := [], harness := (true, "7532c6074571f364497c345c3c333bc31c9f1be4bfb18ab603cbdd9d71cd0e6a"), looks := false }, kinds := [], alts := [], laidByText := true, laidKinds := [.data, .pinned], laidTests := true, laidLooks := .later }
def HttpEndsUptoCardSaid : Prop := Claim7.holds Tryd.pinned (.plain (OpenSpec.upto httpEndsSpec)) httpEndsUptoCard

/-- THE SECOND FORM's CARD OF 'hearthlaw16.HttpChunks'. -/
def httpChunksUptoCard : Claim7 := { stood := { row := httpChunksUptoRow, standIns := [], harness := (true, "7532c6074571f364497c345c3c333bc31c9f1be4bfb18ab603cbdd9d71cd0e6a"), looks := false }, kinds := [], alts := [], laidByText := true, laidKinds := [.data, .data, .data, .data, .pinned], laidTests := true, laidLooks := .later }
def HttpChunksUptoCardSaid : Prop := Claim7.holds Tryd.pinned (.plain (OpenSpec.upto httpChunksSpec)) httpChunksUptoCard
end Rows
end Go.Proofs.YtldbcdiomkkinaaDoor
