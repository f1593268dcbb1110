/-
  DERIVED. GIVEN WITH THE SEED: THE CARDS: each row of YtnapfecalckajaaDoorRows.lean that lists a variable, with what it lists TIED to the program's text (the seventh form; the later family's looks); each row that meets fmt, with fmt's text TOLD by the authors' own Lean function (tested against real Go, not proved from fmt's source: count such statements apart). THE CARD IS WHAT COUNTS. Prove the row's statement (the work); the ties are given (YtnapfecalckajaaDoorTie.lean); close each card by the builder's one call (the guide's Derived/Test/ToyasCard.lean, 'card_holds'). Laid BY PROGRAM, IN A SANDBOX (cutbox-door.mjs). By AI agents, Wed Nov 11 2026. No macro, syntax, notation, axiom, sorry.
-/
import Derived.Test.YtnapfecalckajaaDoorRows
import GoSem.ClaimSeven
namespace Go.Proofs.YtnapfecalckajaaDoor
namespace Rows

/-- THE TIED CARD OF 'hearthlaw23.SsdpFinds'. -/
def ssdpFindsCard : Claim7 := { stood := { row := ssdpFindsRow, standIns := [], harness := (true, "6ffdfa3108e1711e2d45219f58666b4fb475832f227b7fa79f5c0293be5d08ea"), looks := false }, kinds := [], alts := [], laidByText := true, laidKinds := [.data, .data, .data, .data, .pinned], laidTests := true, laidLooks := .later }
def SsdpFindsCardSaid : Prop := Claim7.holds Tryd.pinned (.plain (OpenSpec.ofChange ssdpFindsSpec)) ssdpFindsCard

/-- THE TIED CARD OF 'hearthlaw23.SsdpOwn'. -/
def ssdpOwnCard : Claim7 := { stood := { row := ssdpOwnRow, standIns := [], harness := (true, "6ffdfa3108e1711e2d45219f58666b4fb475832f227b7fa79f5c0293be5d08ea"), looks := false }, kinds := [], alts := [], laidByText := true, laidKinds := [.data, .data, .data, .data, .pinned], laidTests := true, laidLooks := .later }
def SsdpOwnCardSaid : Prop := Claim7.holds Tryd.pinned (.plain (OpenSpec.ofChange ssdpOwnSpec)) ssdpOwnCard

/-- THE SECOND FORM's CARD OF 'hearthlaw23.SsdpFinds'. -/
def ssdpFindsUptoCard : Claim7 := { stood := { row := ssdpFindsUptoRow, standIns := [], harness := (true, "6ffdfa3108e1711e2d45219f58666b4fb475832f227b7fa79f5c0293be5d08ea"), looks := false }, kinds := [], alts := [], laidByText := true, laidKinds := [.data, .data, .data, .data, .pinned], laidTests := true, laidLooks := .later }
def SsdpFindsUptoCardSaid : Prop := Claim7.holds Tryd.pinned (.plain (OpenSpec.upto ssdpFindsSpec)) ssdpFindsUptoCard

/-- THE SECOND FORM's CARD OF 'hearthlaw23.SsdpOwn'. -/
def ssdpOwnUptoCard : Claim7 := { stood := { row := ssdpOwnUptoRow, standIns := [], harness := (true, "6ffdfa3108e1711e2d45219f58666b4fb475832f227b7fa79f5c0293be5d08ea"), looks := false }, kinds := [], alts := [], laidByText := true, laidKinds := [.data, .data, .data, .data, .pinned], laidTests := true, laidLooks := .later }
def SsdpOwnUptoCardSaid : Prop := Claim7.holds Tryd.pinned (.plain (OpenSpec.upto ssdpOwnSpec)) ssdpOwnUptoCard
end Rows
end Go.Proofs.YtnapfecalckajaaDoor
