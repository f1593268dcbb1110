/-
  NARROWER THAN 'FOR EVERY INPUT', by the rows' own cells (each row's printed sentence says how): HeadNumbers: laid · HeadValues: laid · HeadLines: laid · HeadMade: laid · HeadParts: laid.
  DERIVED. THE GIVEN ROWS OF THIS SEAT. 5 by the template 'for every input the law returns true; each argument reads behind the call as it read before'; 0 by the template 'total and deterministic' (their statements: YtdfhdnnkpeodhaaDoorTotals.lean).
  GIVEN WITH THE SEED: the statements are not yours to turn. If you find one false, say at which input.
  Laid BY PROGRAM, IN A SANDBOX (cutbox-rows.mjs): the forced cells as the released guide's own fill.sh prints them over the translation 973ca45c3632b158… (all of the seat's roots in one cut). By AI agents, Wed Nov 11 2026. No macro, syntax, notation, axiom, sorry.
-/
import Derived.Test.YtdfhdnnkpeodhaaDoorChecked
import GoSem.PinnedTables
import GoSem.Claim
import GoSem.ClaimJoined
import GoSem.ClaimMapViews
import Derived.JoinedTies
import Derived.KernelRfl
namespace Go.Proofs.YtdfhdnnkpeodhaaDoor
/- THE CELL 'sum', in the pinned program and in every row, IS THE sha256 OF THE DUMP (.gsa) THAT YtdfhdnnkpeodhaaDoorProg.lean LOADS. Nothing in Lean hashes anything: it is a label: what it is worth is what the hold of that sum in a sandbox is worth. -/
noncomputable def Tryd.pinned : Pinned := { name := "ytdfhdnnkpeodhaadoor", sum := "973ca45c3632b158aa9c372a44535432576c5e821e5b6df3c29582490cbdbbb1", checked := Tryd.checked }
namespace Rows
def none {H : Type} : Left H := { results := [], args := [] }

/- WHAT THE LISTED PACKAGE-LEVEL VARIABLES READ AS WHEN THE CALL BEGINS. Each datum BY PROGRAM (the guide's laid-datum.mjs) off the statement by which the dump's own 'gosem.cut.vars' lays the variable. In a bare row this is a premise. The card (YtdfhdnnkpeodhaaDoorCards.lean) ties it to the program's text. -/
def laid_unicode_utf8_acceptRanges {H : Type} : DataW H := .agg [.agg [.lit (.int .u8 128), .lit (.int .u8 191)], .agg [.lit (.int .u8 160), .lit (.int .u8 191)], .agg [.lit (.int .u8 128), .lit (.int .u8 159)], .agg [.lit (.int .u8 144), .lit (.int .u8 191)], .agg [.lit (.int .u8 128), .lit (.int .u8 143)], .agg [.lit (.int .u8 0), .lit (.int .u8 0)], .agg [.lit (.int .u8 0), .lit (.int .u8 0)], .agg [.lit (.int .u8 0), .lit (.int .u8 0)], .agg [.lit (.int .u8 0), .lit (.int .u8 0)], .agg [.lit (.int .u8 0), .lit (.int .u8 0)], .agg [.lit (.int .u8 0), .lit (.int .u8 0)], .agg [.lit (.int .u8 0), .lit (.int .u8 0)], .agg [.lit (.int .u8 0), .lit (.int .u8 0)], .agg [.lit (.int .u8 0), .lit (.int .u8 0)], .agg [.lit (.int .u8 0), .lit (.int .u8 0)], .agg [.lit (.int .u8 0), .lit (.int .u8 0)]]
/-- One of Go's own tables, pinned by name: the form's constant. -/
def laid_unicode_utf8_first : DataW Unit := Go.Pinned.utf8First

/-- 'hearthlaw15.HeadNumbers': WHATEVER THE INPUT: true; the input reads as it did. -/
def headNumbersSpec : ChangeSpec := { name := "headNumbers", fn := fun _ => fun
  | [d1, d2, d3] => { results := [.lit (.bool true)], args := [d1, d2, d3] }
  | _ => none }
def headNumbersRow : OpenClaim := { program := "ytdfhdnnkpeodhaadoor", sum := "973ca45c3632b158aa9c372a44535432576c5e821e5b6df3c29582490cbdbbb1", func := "hearth/hearthlaw15.HeadNumbers", spec := "headNumbers", inPlace := ["internal/bytealg.IndexByteString", "internal/bytealg.IndexString"], named := ["internal/bytealg.MaxLen", "unicode/utf8.first", "unicode/utf8.acceptRanges"], apart := false, laid := [("unicode/utf8.acceptRanges", laid_unicode_utf8_acceptRanges), ("unicode/utf8.first", laid_unicode_utf8_first)] }
def HeadNumbersSaid : Prop := headNumbersRow.holds Tryd.pinned (OpenSpec.ofChange headNumbersSpec)

/-- ITS FALSE NEIGHBOUR: 'it returns false'. Refute it at one input. -/
def headNumbersWrong : ChangeSpec := { name := "headNumbers", fn := fun _ => fun
  | [d1, d2, d3] => { results := [.lit (.bool false)], args := [d1, d2, d3] }
  | _ => none }
def HeadNumbersWrongFalsely : Prop := headNumbersRow.holds Tryd.pinned (OpenSpec.ofChange headNumbersWrong)

/-- 'hearthlaw15.HeadValues': WHATEVER THE INPUT: true; the input reads as it did. -/
def headValuesSpec : ChangeSpec := { name := "headValues", fn := fun _ => fun
  | [d1, d2, d3] => { results := [.lit (.bool true)], args := [d1, d2, d3] }
  | _ => none }
def headValuesRow : OpenClaim := { program := "ytdfhdnnkpeodhaadoor", sum := "973ca45c3632b158aa9c372a44535432576c5e821e5b6df3c29582490cbdbbb1", func := "hearth/hearthlaw15.HeadValues", spec := "headValues", inPlace := ["internal/bytealg.IndexByteString", "internal/bytealg.IndexString"], named := ["internal/bytealg.MaxLen", "unicode/utf8.first", "unicode/utf8.acceptRanges"], apart := false, laid := [("unicode/utf8.acceptRanges", laid_unicode_utf8_acceptRanges), ("unicode/utf8.first", laid_unicode_utf8_first)] }
def HeadValuesSaid : Prop := headValuesRow.holds Tryd.pinned (OpenSpec.ofChange headValuesSpec)

/-- ITS FALSE NEIGHBOUR: 'it returns false'. Refute it at one input. -/
def headValuesWrong : ChangeSpec := { name := "headValues", fn := fun _ => fun
  | [d1, d2, d3] => { results := [.lit (.bool false)], args := [d1, d2, d3] }
  | _ => none }
def HeadValuesWrongFalsely : Prop := headValuesRow.holds Tryd.pinned (OpenSpec.ofChange headValuesWrong)

/-- 'hearthlaw15.HeadLines': WHATEVER THE INPUT: true; the input reads as it did. -/
def headLinesSpec : ChangeSpec := { name := "headLines", fn := fun _ => fun
  | [d] => { results := [.lit (.bool true)], args := [d] }
  | _ => none }
def headLinesRow : OpenClaim := { program := "ytdfhdnnkpeodhaadoor", sum := "973ca45c3632b158aa9c372a44535432576c5e821e5b6df3c29582490cbdbbb1", func := "hearth/hearthlaw15.HeadLines", spec := "headLines", inPlace := ["internal/bytealg.IndexByteString", "internal/bytealg.IndexString", "internal/bytealg.CountString"], named := ["internal/bytealg.MaxLen", "unicode/utf8.first", "unicode/utf8.acceptRanges"], apart := false, laid := [("unicode/utf8.acceptRanges", laid_unicode_utf8_acceptRanges), ("unicode/utf8.first", laid_unicode_utf8_first)] }
def HeadLinesSaid : Prop := headLinesRow.holds Tryd.pinned (OpenSpec.ofChange headLinesSpec)

/-- ITS FALSE NEIGHBOUR: 'it returns false'. Refute it at one input. -/
def headLinesWrong : ChangeSpec := { name := "headLines", fn := fun _ => fun
  | [d] => { results := [.lit (.bool false)], args := [d] }
  | _ => none }
def HeadLinesWrongFalsely : Prop := headLinesRow.holds Tryd.pinned (OpenSpec.ofChange headLinesWrong)

/-- 'hearthlaw15.HeadMade': WHATEVER THE INPUT: true; the input reads as it did. -/
def headMadeSpec : ChangeSpec := { name := "headMade", fn := fun _ => fun
  | [d1, d2, d3] => { results := [.lit (.bool true)], args := [d1, d2, d3] }
  | _ => none }
def headMadeRow : OpenClaim := { program := "ytdfhdnnkpeodhaadoor", sum := "973ca45c3632b158aa9c372a44535432576c5e821e5b6df3c29582490cbdbbb1", func := "hearth/hearthlaw15.HeadMade", spec := "headMade", inPlace := ["internal/bytealg.IndexByteString", "internal/bytealg.IndexString", "internal/bytealg.CountString"], named := ["internal/bytealg.MaxLen", "unicode/utf8.first", "unicode/utf8.acceptRanges"], apart := false, laid := [("unicode/utf8.acceptRanges", laid_unicode_utf8_acceptRanges), ("unicode/utf8.first", laid_unicode_utf8_first)] }
def HeadMadeSaid : Prop := headMadeRow.holds Tryd.pinned (OpenSpec.ofChange headMadeSpec)

/-- ITS FALSE NEIGHBOUR: 'it returns false'. Refute it at one input. -/
def headMadeWrong : ChangeSpec := { name := "headMade", fn := fun _ => fun
  | [d1, d2, d3] => { results := [.lit (.bool false)], args := [d1, d2, d3] }
  | _ => none }
def HeadMadeWrongFalsely : Prop := headMadeRow.holds Tryd.pinned (OpenSpec.ofChange headMadeWrong)

/-- 'hearthlaw15.HeadParts': WHATEVER THE INPUT: true; the input reads as it did. -/
def headPartsSpec : ChangeSpec := { name := "headParts", fn := fun _ => fun
  | [d1, d2, d3] => { results := [.lit (.bool true)], args := [d1, d2, d3] }
  | _ => none }
def headPartsRow : OpenClaim := { program := "ytdfhdnnkpeodhaadoor", sum := "973ca45c3632b158aa9c372a44535432576c5e821e5b6df3c29582490cbdbbb1", func := "hearth/hearthlaw15.HeadParts", spec := "headParts", inPlace := ["internal/bytealg.IndexByteString", "internal/bytealg.IndexString", "internal/bytealg.CountString"], named := ["internal/bytealg.MaxLen", "unicode/utf8.first", "unicode/utf8.acceptRanges"], apart := false, laid := [("unicode/utf8.acceptRanges", laid_unicode_utf8_acceptRanges), ("unicode/utf8.first", laid_unicode_utf8_first)] }
def HeadPartsSaid : Prop := headPartsRow.holds Tryd.pinned (OpenSpec.ofChange headPartsSpec)

/-- ITS FALSE NEIGHBOUR: 'it returns false'. Refute it at one input. -/
def headPartsWrong : ChangeSpec := { name := "headParts", fn := fun _ => fun
  | [d1, d2, d3] => { results := [.lit (.bool false)], args := [d1, d2, d3] }
  | _ => none }
def HeadPartsWrongFalsely : Prop := headPartsRow.holds Tryd.pinned (OpenSpec.ofChange headPartsWrong)

/- THE SECOND FORM. 'bulk': how many values and letters a reading holds, each counted each time it is reached (what is shared counts as often as it is met; a slice's spare places count too). A statement '..UptoSaid' is the law's where the arguments, and the package variables that the reading takes, are together of bulk at most 1048576: NARROWER than '..Said'. Prove '..Said' where nothing that the law and all that it calls make is longer than what came in: it says more and counts as full. Else prove '..UptoSaid'. A law counts once. -/
mutual
def uptoBulk {H : Type} : DataW H → Nat
  | .lit (.string bytes) => bytes.length + 1
  | .lit _ => 1
  | .nil => 1
  | .ptr d => uptoBulk d + 1
  | .slice elems spare => uptoBulkAll elems + uptoBulkAll spare + 1
  | .agg parts => uptoBulkAll parts + 1
  | .iface _ d => uptoBulk d + 1
  | .map entries => uptoBulkEntries entries + 1
  | .held _ => 1
def uptoBulkAll {H : Type} : List (DataW H) → Nat
  | [] => 0
  | d :: r => uptoBulk d + uptoBulkAll r
def uptoBulkEntries {H : Type} : List (Lit × DataW H) → Nat
  | [] => 0
  | x :: r => uptoBulkEntry x + uptoBulkEntries r
def uptoBulkEntry {H : Type} : Lit × DataW H → Nat
  | (.string bytes, d) => bytes.length + uptoBulk d + 1
  | (_, d) => uptoBulk d + 1
 end
def uptoSmall : (H : Type) → List (DataW H) → Bool := fun _ ds => decide (uptoBulkAll ds ≤ 1048576)
def OpenSpec.upto (s : _root_.Go.ChangeSpec) : _root_.Go.OpenSpec := { _root_.Go.OpenSpec.ofChange s with cond := some uptoSmall }

/-- 'hearthlaw15.HeadNumbers', WHERE WHAT IT READS IS OF BULK AT MOST 1048576: true; the input reads as it did. -/
def headNumbersUptoRow : OpenClaim := { program := "ytdfhdnnkpeodhaadoor", sum := "973ca45c3632b158aa9c372a44535432576c5e821e5b6df3c29582490cbdbbb1", func := "hearth/hearthlaw15.HeadNumbers", spec := "headNumbers", inPlace := ["internal/bytealg.IndexByteString", "internal/bytealg.IndexString"], named := ["internal/bytealg.MaxLen", "unicode/utf8.first", "unicode/utf8.acceptRanges"], apart := false, laid := [("unicode/utf8.acceptRanges", laid_unicode_utf8_acceptRanges), ("unicode/utf8.first", laid_unicode_utf8_first)], narrowed := true }
def HeadNumbersUptoSaid : Prop := headNumbersUptoRow.holds Tryd.pinned (OpenSpec.upto headNumbersSpec)

/-- 'hearthlaw15.HeadValues', WHERE WHAT IT READS IS OF BULK AT MOST 1048576: true; the input reads as it did. -/
def headValuesUptoRow : OpenClaim := { program := "ytdfhdnnkpeodhaadoor", sum := "973ca45c3632b158aa9c372a44535432576c5e821e5b6df3c29582490cbdbbb1", func := "hearth/hearthlaw15.HeadValues", spec := "headValues", inPlace := ["internal/bytealg.IndexByteString", "internal/bytealg.IndexString"], named := ["internal/bytealg.MaxLen", "unicode/utf8.first", "unicode/utf8.acceptRanges"], apart := false, laid := [("unicode/utf8.acceptRanges", laid_unicode_utf8_acceptRanges), ("unicode/utf8.first", laid_unicode_utf8_first)], narrowed := true }
def HeadValuesUptoSaid : Prop := headValuesUptoRow.holds Tryd.pinned (OpenSpec.upto headValuesSpec)

/-- 'hearthlaw15.HeadLines', WHERE WHAT IT READS IS OF BULK AT MOST 1048576: true; the input reads as it did. -/
def headLinesUptoRow : OpenClaim := { program := "ytdfhdnnkpeodhaadoor", sum := "973ca45c3632b158aa9c372a44535432576c5e821e5b6df3c29582490cbdbbb1", func := "hearth/hearthlaw15.HeadLines", spec := "headLines", inPlace := ["internal/bytealg.IndexByteString", "internal/bytealg.IndexString", "internal/bytealg.CountString"], named := ["internal/bytealg.MaxLen", "unicode/utf8.first", "unicode/utf8.acceptRanges"], apart := false, laid := [("unicode/utf8.acceptRanges", laid_unicode_utf8_acceptRanges), ("unicode/utf8.first", laid_unicode_utf8_first)], narrowed := true }
def HeadLinesUptoSaid : Prop := headLinesUptoRow.holds Tryd.pinned (OpenSpec.upto headLinesSpec)

/-- 'hearthlaw15.HeadMade', WHERE WHAT IT READS IS OF BULK AT MOST 1048576: true; the input reads as it did. -/
def headMadeUptoRow : OpenClaim := { program := "ytdfhdnnkpeodhaadoor", sum := "973ca45c3632b158aa9c372a44535432576c5e821e5b6df3c29582490cbdbbb1", func := "hearth/hearthlaw15.HeadMade", spec := "headMade", inPlace := ["internal/bytealg.IndexByteString", "internal/bytealg.IndexString", "internal/bytealg.CountString"], named := ["internal/bytealg.MaxLen", "unicode/utf8.first", "unicode/utf8.acceptRanges"], apart := false, laid := [("unicode/utf8.acceptRanges", laid_unicode_utf8_acceptRanges), ("unicode/utf8.first", laid_unicode_utf8_first)], narrowed := true }
def HeadMadeUptoSaid : Prop := headMadeUptoRow.holds Tryd.pinned (OpenSpec.upto headMadeSpec)

/-- 'hearthlaw15.HeadParts', WHERE WHAT IT READS IS OF BULK AT MOST 1048576: true; the input reads as it did. -/
def headPartsUptoRow : OpenClaim := { program := "ytdfhdnnkpeodhaadoor", sum := "973ca45c3632b158aa9c372a44535432576c5e821e5b6df3c29582490cbdbbb1", func := "hearth/hearthlaw15.HeadParts", spec := "headParts", inPlace := ["internal/bytealg.IndexByteString", "internal/bytealg.IndexString", "internal/bytealg.CountString"], named := ["internal/bytealg.MaxLen", "unicode/utf8.first", "unicode/utf8.acceptRanges"], apart := false, laid := [("unicode/utf8.acceptRanges", laid_unicode_utf8_acceptRanges), ("unicode/utf8.first", laid_unicode_utf8_first)], narrowed := true }
def HeadPartsUptoSaid : Prop := headPartsUptoRow.holds Tryd.pinned (OpenSpec.upto headPartsSpec)

end Rows
end Go.Proofs.YtdfhdnnkpeodhaaDoor
