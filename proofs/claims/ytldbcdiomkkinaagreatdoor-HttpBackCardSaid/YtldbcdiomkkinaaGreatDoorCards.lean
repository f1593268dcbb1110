/-
  DERIVED. GIVEN WITH THE SEED: THE CARDS: each row of YtldbcdiomkkinaaGreatDoorRows.lean that lists a variable, with what it lists TIED to the program's text (the seventh form; the later family's looks); each row that meets fmt, with fmt's text TOLD by the authors' own Lean function (tested against real Go, not proved from fmt's source: count such statements apart). THE CARD IS WHAT COUNTS. Prove the row's statement (the work); the ties are given (YtldbcdiomkkinaaGreatDoorTie.lean); close each card by the builder's one call (the guide's Derived/Test/ToyasCard.lean, 'card_holds'). Laid BY PROGRAM, IN A SANDBOX (cutbox-door.mjs). By AI agents, Wed Nov 11 2026. No macro, syntax, notation, axiom, sorry.
-/
import Derived.Test.YtldbcdiomkkinaaGreatDoorRows
import GoSem.ClaimSeven
namespace Go.Proofs.YtldbcdiomkkinaaGreatDoor
namespace Rows

/-- THE TIED CARD OF 'hearthlaw16.HttpStatus'. -/
def httpStatusCard : Claim7 := { stood := { row := httpStatusRow, standIns := [], harness := (true, "bdca45c23dc748d789797b7e0748879c211fbd2eb8074593c9b6fb2ca43f5900"), looks := false }, kinds := [], alts := [], laidByText := true, laidKinds := [.data, .data, .data, .data, .pinned], laidTests := true, laidLooks := .later }
def HttpStatusCardSaid : Prop := Claim7.holds Tryz.pinned (.plain (OpenSpec.ofChange httpStatusSpec)) httpStatusCard

/-- THE TIED CARD OF 'hearthlaw16.HttpWrites'. -/
def httpWritesCard : Claim7 := { stood := { row := httpWritesRow, standIns := [], harness := (true, "bdca45c23dc748d789797b7e0748879c211fbd2eb8074593c9b6fb2ca43f5900"), looks := false }, kinds := [], alts := [], laidByText := true, laidKinds := [.data, .data, .data, .data, .pinned], laidTests := true, laidLooks := .later }
def HttpWritesCardSaid : Prop := Claim7.holds Tryz.pinned (.plain (OpenSpec.ofChange httpWritesSpec)) httpWritesCard

/-- THE TIED CARD OF 'hearthlaw16.HttpBack'. -/
def httpBackCard : Claim7 := { stood := { row := httpBackRow, standIns := [], harness := (true, "bdca45c23dc748d789797b7e0748879c211fbd2eb8074593c9b6fb2ca43f5900"), looks := false }, kinds := [], alts := [], laidByText := true, laidKinds := [.data, .data, .data, .data, .pinned], laidTests := true, laidLooks := .later }
def HttpBackCardSaid : Prop := Claim7.holds Tryz.pinned (.plain (OpenSpec.ofChange httpBackSpec)) httpBackCard

/-- THE SECOND FORM's CARD OF 'hearthlaw16.HttpStatus'. -/
def httpStatusUptoCard : Claim7 := { stood := { row := httpStatusUptoRow, standIns := [], harness := (true, "bdca45c23dc748d789797b7e0748879c211fbd2eb8074593c9b6fb2ca43f5900"), looks := false }, kinds := [], alts := [], laidByText := true, laidKinds := [.data, .data, .data, .data, .pinned], laidTests := true, laidLooks := .later }
def HttpStatusUptoCardSaid : Prop := Claim7.holds Tryz.pinned (.plain (OpenSpec.upto httpStatusSpec)) httpStatusUptoCard

/-- THE SECOND FORM's CARD OF 'hearthlaw16.HttpWrites'. -/
def httpWritesUptoCard : Claim7 := { stood := { row := httpWritesUptoRow, standIns := [], harness := (true, "bdca45c23dc748d789797b7e0748879c211fbd2eb8074593c9b6fb2ca43f5900"), looks := false }, kinds := [], alts := [], laidByText := true, laidKinds := [.data, .data, .data, .data, .pinned], laidTests := true, laidLooks := .later }
def HttpWritesUptoCardSaid : Prop := Claim7.holds Tryz.pinned (.plain (OpenSpec.upto httpWritesSpec)) httpWritesUptoCard

/-- THE SECOND FORM's CARD OF 'hearthlaw16.HttpBack'. -/
def httpBackUptoCard : Claim7 := { stood := { row := httpBackUptoRow, standIns := [], harness := (true, "bdca45c23dc748d789797b7e0748879c211fbd2eb8074593c9b6fb2ca43f5900"), looks := false }, kinds := [], alts := [], laidByText := true, laidKinds := [.data, .data, .data, .data, .pinned], laidTests := true, laidLooks := .later }
def HttpBackUptoCardSaid : Prop := Claim7.holds Tryz.pinned (.plain (OpenSpec.upto httpBackSpec)) httpBackUptoCard
end Rows
end Go.Proofs.YtldbcdiomkkinaaGreatDoor
