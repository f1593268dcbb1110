/-
  DERIVED. GIVEN WITH THE SEED: THE CARDS: each row of YtdfhdnnkpeodhaaDoorRows.lean that lists a variable, with what it lists TIED to the program's text (the seventh form; the later family's looks); each row that meets fmt, with fmt's text TOLD by the authors' own Lean function (tested against real Go, not proved from fmt's source: count such statements apart). THE CARD IS WHAT COUNTS. Prove the row's statement (the work); the ties are given (YtdfhdnnkpeodhaaDoorTie.lean); close each card by the builder's one call (the guide's Derived/Test/ToyasCard.lean, 'card_holds'). Laid BY PROGRAM, IN A SANDBOX (cutbox-door.mjs). By AI agents, Wed Nov 11 2026. No macro, syntax, notation, axiom, sorry.
-/
import Derived.Test.YtdfhdnnkpeodhaaDoorRows
import GoSem.ClaimSeven
namespace Go.Proofs.YtdfhdnnkpeodhaaDoor
namespace Rows

/-- THE TIED CARD OF 'hearthlaw15.HeadNumbers'. -/
def headNumbersCard : Claim7 := { stood := { row := headNumbersRow, standIns := [], harness := (true, "0a12052146ec73e7d64da5f41de82a5eed86f6f31e407fecc7481fb7953a0a3d"), looks := false }, kinds := [], alts := [], laidByText := true, laidKinds := [.data, .pinned], laidTests := true, laidLooks := .later }
def HeadNumbersCardSaid : Prop := Claim7.holds Tryd.pinned (.plain (OpenSpec.ofChange headNumbersSpec)) headNumbersCard

/-- THE TIED CARD OF 'hearthlaw15.HeadValues'. -/
def headValuesCard : Claim7 := { stood := { row := headValuesRow, standIns := [], harness := (true, "0a12052146ec73e7d64da5f41de82a5eed86f6f31e407fecc7481fb7953a0a3d"), looks := false }, kinds := [], alts := [], laidByText := true, laidKinds := [.data, .pinned], laidTests := true, laidLooks := .later }
def HeadValuesCardSaid : Prop := Claim7.holds Tryd.pinned (.plain (OpenSpec.ofChange headValuesSpec)) headValuesCard

/-- THE TIED CARD OF 'hearthlaw15.HeadLines'. -/
def headLinesCard : Claim7 := { stood := { row := headLinesRow, standIns := [], harness := (true, "0a12052146ec73e7d64da5f41de82a5eed86f6f31e407fecc7481fb7953a0a3d"), looks := false }, kinds := [], alts := [], laidByText := true, laidKinds := [.data, .pinned], laidTests := true, laidLooks := .later }
def HeadLinesCardSaid : Prop := Claim7.holds Tryd.pinned (.plain (OpenSpec.ofChange headLinesSpec)) headLinesCard

/-- THE TIED CARD OF 'hearthlaw15.HeadMade'. -/
def headMadeCard : Claim7 := { stood := { row := headMadeRow, standIns := [], harness := (true, "0a12052146ec73e7d64da5f41de82a5eed86f6f31e407fecc7481fb7953a0a3d"), looks := false }, kinds := [], alts := [], laidByText := true, laidKinds := [.data, .pinned], laidTests := true, laidLooks := .later }
def HeadMadeCardSaid : Prop := Claim7.holds Tryd.pinned (.plain (OpenSpec.ofChange headMadeSpec)) headMadeCard

/-- THE TIED CARD OF 'hearthlaw15.HeadParts'. -/
def headPartsCard : Claim7 := { stood := { row := headPartsRow, standIns := [], harness := (true, "0a12052146ec73e7d64da5f41de82a5eed86f6f31e407fecc7481fb7953a0a3d"), looks := false }, kinds := [], alts := [], laidByText := true, laidKinds := [.data, .pinned], laidTests := true, laidLooks := .later }
def HeadPartsCardSaid : Prop := Claim7.holds Tryd.pinned (.plain (OpenSpec.ofChange headPartsSpec)) headPartsCard

/-- THE SECOND FORM's CARD OF 'hearthlaw15.HeadNumbers'. -/
def headNumbersUptoCard : Claim7 := { stood := { row := headNumbersUptoRow, standIns := [], harness := (true, "0a12052146ec73e7d64da5f41de82a5eed86f6f31e407fecc7481fb7953a0a3d"), looks := false }, kinds := [], alts := [], laidByText := true, laidKinds := [.data, .pinned], laidTests := true, laidLooks := .later }
def HeadNumbersUptoCardSaid : Prop := Claim7.holds Tryd.pinned (.plain (OpenSpec.upto headNumbersSpec)) headNumbersUptoCard

/-- THE SECOND FORM's CARD OF 'hearthlaw15.HeadValues'. -/
def headValuesUptoCard : Claim7 := { stood := { row := headValuesUptoRow, standIns := [], harness := (true, "0a12052146ec73e7d64da5f41de82a5eed86f6f31e407fecc7481fb7953a0a3d"), looks := false }, kinds := [], alts := [], laidByText := true, laidKinds := [.data, .pinned], laidTests := true, laidLooks := .later }
def HeadValuesUptoCardSaid : Prop := Claim7.holds Tryd.pinned (.plain (OpenSpec.upto headValuesSpec)) headValuesUptoCard

/-- THE SECOND FORM's CARD OF 'hearthlaw15.HeadLines'. -/
def headLinesUptoCard : Claim7 := { stood := { row := headLinesUptoRow, standIns := [], harness := (true, "0a12052146ec73e7d64da5f41de82a5eed86f6f31e407fecc7481fb7953a0a3d"), looks := false }, kinds := [], alts := [], laidByText := true, laidKinds := [.data, .pinned], laidTests := true, laidLooks := .later }
def HeadLinesUptoCardSaid : Prop := Claim7.holds Tryd.pinned (.plain (OpenSpec.upto headLinesSpec)) headLinesUptoCard

/-- THE SECOND FORM's CARD OF 'hearthlaw15.HeadMade'. -/
def headMadeUptoCard : Claim7 := { stood := { row := headMadeUptoRow, standIns := [], harness := (true, "0a12052146ec73e7d64da5f41de82a5eed86f6f31e407fecc7481fb7953a0a3d"), looks := false }, kinds := [], alts := [], laidByText := true, laidKinds := [.data, .pinned], laidTests := true, laidLooks := .later }
def HeadMadeUptoCardSaid : Prop := Claim7.holds Tryd.pinned (.plain (OpenSpec.upto headMadeSpec)) headMadeUptoCard

/-- THE SECOND FORM's CARD OF 'hearthlaw15.HeadParts'. -/
def headPartsUptoCard : Claim7 := { stood := { row := headPartsUptoRow, standIns := [], harness := (true, "0a12052146ec73e7d64da5f41de82a5eed86f6f31e407fecc7481fb7953a0a3d"), looks := false }, kinds := [], alts := [], laidByText := true, laidKinds := [.data, .pinned], laidTests := true, laidLooks := .later }
def HeadPartsUptoCardSaid : Prop := Claim7.holds Tryd.pinned (.plain (OpenSpec.upto headPartsSpec)) headPartsUptoCard
end Rows
end Go.Proofs.YtdfhdnnkpeodhaaDoor
