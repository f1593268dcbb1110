/-
  DERIVED. GIVEN WITH THE SEED: THE CARDS: each row of YtllmdlpogjjmcaaDoorRows.lean that lists a variable, with what it lists TIED to the program's text (the seventh form; the later family's looks); each row that meets fmt, with fmt's text TOLD by the authors' own Lean function (tested against real Go, not proved from fmt's source: count such statements apart). THE CARD IS WHAT COUNTS. Prove the row's statement (the work); the ties are given (YtllmdlpogjjmcaaDoorTie.lean); close each card by the builder's one call (the guide's Derived/Test/ToyasCard.lean, 'card_holds'). Laid BY PROGRAM, IN A SANDBOX (cutbox-door.mjs). By AI agents, Wed Nov 11 2026. No macro, syntax, notation, axiom, sorry.
-/
import Derived.Test.YtllmdlpogjjmcaaDoorRows
import GoSem.ClaimSeven
namespace Go.Proofs.YtllmdlpogjjmcaaDoor
namespace Rows

/-- THE TIED CARD OF 'hearthlaw17.XmlReads'. -/
def xmlReadsCard : Claim7 := { stood := { row := xmlReadsRow, standIns := [], harness := (true, "fdb3e219428c7d6d3bf299d1ecbb3dc320af3926f8f601c1a06c757e281bcae6"), looks := false }, kinds := [], alts := [], laidByText := true, laidKinds := [.data, .pinned], laidTests := true, laidLooks := .later }
def XmlReadsCardSaid : Prop := Claim7.holds Tryd.pinned (.plain (OpenSpec.ofChange xmlReadsSpec)) xmlReadsCard

/-- THE TIED CARD OF 'hearthlaw17.XmlWalks'. -/
def xmlWalksCard : Claim7 := { stood := { row := xmlWalksRow, standIns := [], harness := (true, "fdb3e219428c7d6d3bf299d1ecbb3dc320af3926f8f601c1a06c757e281bcae6"), looks := false }, kinds := [], alts := [], laidByText := true, laidKinds := [.data, .pinned], laidTests := true, laidLooks := .later }
def XmlWalksCardSaid : Prop := Claim7.holds Tryd.pinned (.plain (OpenSpec.ofChange xmlWalksSpec)) xmlWalksCard

/-- THE TIED CARD OF 'hearthlaw17.XmlDeep'. -/
def xmlDeepCard : Claim7 := { stood := { row := xmlDeepRow, standIns := [], harness := (true, "fdb3e219428c7d6d3bf299d1ecbb3dc320af3926f8f601c1a06c757e281bcae6"), looks := false }, kinds := [], alts := [], laidByText := true, laidKinds := [.data, .pinned], laidTests := true, laidLooks := .later }
def XmlDeepCardSaid : Prop := Claim7.holds Tryd.pinned (.plain (OpenSpec.ofChange xmlDeepSpec)) xmlDeepCard

/-- THE SECOND FORM's CARD OF 'hearthlaw17.XmlReads'. -/
def xmlReadsUptoCard : Claim7 := { stood := { row := xmlReadsUptoRow, standIns := [], harness := (true, "fdb3e219428c7d6d3bf299d1ecbb3dc320af3926f8f601c1a06c757e281bcae6"), looks := false }, kinds := [], alts := [], laidByText := true, laidKinds := [.data, .pinned], laidTests := true, laidLooks := .later }
def XmlReadsUptoCardSaid : Prop := Claim7.holds Tryd.pinned (.plain (OpenSpec.upto xmlReadsSpec)) xmlReadsUptoCard

/-- THE SECOND FORM's CARD OF 'hearthlaw17.XmlWalks'. -/
def xmlWalksUptoCard : Claim7 := { stood := { row := xmlWalksUptoRow, standIns := [], harness := (true, "fdb3e219428c7d6d3bf299d1ecbb3dc320af3926f8f601c1a06c757e281bcae6"), looks := false }, kinds := [], alts := [], laidByText := true, laidKinds := [.data, .pinned], laidTests := true, laidLooks := .later }
def XmlWalksUptoCardSaid : Prop := Claim7.holds Tryd.pinned (.plain (OpenSpec.upto xmlWalksSpec)) xmlWalksUptoCard

/-- THE SECOND FORM's CARD OF 'hearthlaw17.XmlDeep'. -/
def xmlDeepUptoCard : Claim7 := { stood := { row := xmlDeepUptoRow, standIns := [], harness := (true, "fdb3e219428c7d6d3bf299d1ecbb3dc320af3926f8f601c1a06c757e281bcae6"), looks := false }, kinds := [], alts := [], laidByText := true, laidKinds := [.data, .pinned], laidTests := true, laidLooks := .later }
def XmlDeepUptoCardSaid : Prop := Claim7.holds Tryd.pinned (.plain (OpenSpec.upto xmlDeepSpec)) xmlDeepUptoCard
end Rows
end Go.Proofs.YtllmdlpogjjmcaaDoor
