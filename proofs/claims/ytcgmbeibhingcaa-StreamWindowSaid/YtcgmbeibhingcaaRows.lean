/-
  No cell of these rows narrows 'for every input' (looked for: loops, veiled, ifaces, maps, wideKeys, modest, calm, conditions, laid).
  DERIVED. THE GIVEN ROWS OF THIS SEAT. 4 by the template 'for every input the law returns true; each argument reads behind the call as it read before'; 0 by the template 'total and deterministic' (their statements: YtcgmbeibhingcaaTotals.lean).
  GIVEN WITH THE SEED: the statements are not yours to turn. If you find one false, say at which input.
  Laid BY PROGRAM, IN A SANDBOX (cutbox-rows.mjs): the forced cells as the released guide's own fill.sh prints them over the translation e80364168f4256a6… (all of the seat's roots in one cut). By AI agents, Wed Nov 11 2026. No macro, syntax, notation, axiom, sorry.
-/
import Derived.Test.YtcgmbeibhingcaaChecked
import GoSem.Claim
import GoSem.ClaimJoined
import GoSem.ClaimMapViews
import Derived.JoinedTies
import Derived.KernelRfl
namespace Go.Proofs.Ytcgmbeibhingcaa
/- THE CELL 'sum', in the pinned program and in every row, IS THE sha256 OF THE DUMP (.gsa) THAT YtcgmbeibhingcaaProg.lean LOADS. Nothing in Lean hashes anything: it is a label: what it is worth is what the hold of that sum in a sandbox is worth. -/
noncomputable def Try.pinned : Pinned := { name := "ytcgmbeibhingcaa", sum := "e80364168f4256a6ede5dd1714a6e4dbd2c8d774fe46210e2c999ef3143f481d", checked := Try.checked }
namespace Rows
def none {H : Type} : Left H := { results := [], args := [] }

/-- 'hearthlaw14.StreamGivesUp': WHATEVER THE INPUT: true; the input reads as it did. -/
def streamGivesUpSpec : ChangeSpec := { name := "streamGivesUp", fn := fun _ => fun
  | [d1, d2] => { results := [.lit (.bool true)], args := [d1, d2] }
  | _ => none }
def streamGivesUpRow : OpenClaim := { program := "ytcgmbeibhingcaa", sum := "e80364168f4256a6ede5dd1714a6e4dbd2c8d774fe46210e2c999ef3143f481d", func := "hearth/hearthlaw14.StreamGivesUp", spec := "streamGivesUp", apart := false }
def StreamGivesUpSaid : Prop := streamGivesUpRow.holds Try.pinned (OpenSpec.ofChange streamGivesUpSpec)

/-- ITS FALSE NEIGHBOUR: 'it returns false'. Refute it at one input. -/
def streamGivesUpWrong : ChangeSpec := { name := "streamGivesUp", fn := fun _ => fun
  | [d1, d2] => { results := [.lit (.bool false)], args := [d1, d2] }
  | _ => none }
def StreamGivesUpWrongFalsely : Prop := streamGivesUpRow.holds Try.pinned (OpenSpec.ofChange streamGivesUpWrong)

/-- 'hearthlaw14.StreamWindow': WHATEVER THE INPUT: true; the input reads as it did. -/
def streamWindowSpec : ChangeSpec := { name := "streamWindow", fn := fun _ => fun
  | [d1, d2, d3] => { results := [.lit (.bool true)], args := [d1, d2, d3] }
  | _ => none }
def streamWindowRow : OpenClaim := { program := "ytcgmbeibhingcaa", sum := "e80364168f4256a6ede5dd1714a6e4dbd2c8d774fe46210e2c999ef3143f481d", func := "hearth/hearthlaw14.StreamWindow", spec := "streamWindow", unfollowed := true, recurses := true, apart := false }
def StreamWindowSaid : Prop := streamWindowRow.holds Try.pinned (OpenSpec.ofChange streamWindowSpec)

/-- ITS FALSE NEIGHBOUR: 'it returns false'. Refute it at one input. -/
def streamWindowWrong : ChangeSpec := { name := "streamWindow", fn := fun _ => fun
  | [d1, d2, d3] => { results := [.lit (.bool false)], args := [d1, d2, d3] }
  | _ => none }
def StreamWindowWrongFalsely : Prop := streamWindowRow.holds Try.pinned (OpenSpec.ofChange streamWindowWrong)

/-- 'hearthlaw14.StreamReset': WHATEVER THE INPUT: true; the input reads as it did. -/
def streamResetSpec : ChangeSpec := { name := "streamReset", fn := fun _ => fun
  | [d1, d2, d3] => { results := [.lit (.bool true)], args := [d1, d2, d3] }
  | _ => none }
def streamResetRow : OpenClaim := { program := "ytcgmbeibhingcaa", sum := "e80364168f4256a6ede5dd1714a6e4dbd2c8d774fe46210e2c999ef3143f481d", func := "hearth/hearthlaw14.StreamReset", spec := "streamReset", unfollowed := true, recurses := true, apart := false }
def StreamResetSaid : Prop := streamResetRow.holds Try.pinned (OpenSpec.ofChange streamResetSpec)

/-- ITS FALSE NEIGHBOUR: 'it returns false'. Refute it at one input. -/
def streamResetWrong : ChangeSpec := { name := "streamReset", fn := fun _ => fun
  | [d1, d2, d3] => { results := [.lit (.bool false)], args := [d1, d2, d3] }
  | _ => none }
def StreamResetWrongFalsely : Prop := streamResetRow.holds Try.pinned (OpenSpec.ofChange streamResetWrong)

/-- 'hearthlaw14.StreamPipe': WHATEVER THE INPUT: true; the input reads as it did. -/
def streamPipeSpec : ChangeSpec := { name := "streamPipe", fn := fun _ => fun
  | [d1, d2] => { results := [.lit (.bool true)], args := [d1, d2] }
  | _ => none }
def streamPipeRow : OpenClaim := { program := "ytcgmbeibhingcaa", sum := "e80364168f4256a6ede5dd1714a6e4dbd2c8d774fe46210e2c999ef3143f481d", func := "hearth/hearthlaw14.StreamPipe", spec := "streamPipe", unfollowed := true, recurses := true, apart := false }
def StreamPipeSaid : Prop := streamPipeRow.holds Try.pinned (OpenSpec.ofChange streamPipeSpec)

/-- ITS FALSE NEIGHBOUR: 'it returns false'. Refute it at one input. -/
def streamPipeWrong : ChangeSpec := { name := "streamPipe", fn := fun _ => fun
  | [d1, d2] => { results := [.lit (.bool false)], args := [d1, d2] }
  | _ => none }
def StreamPipeWrongFalsely : Prop := streamPipeRow.holds Try.pinned (OpenSpec.ofChange streamPipeWrong)

/- THE SECOND FORM. 'bulk': how many values and letters a reading holds, each counted each time it is reached (what is shared counts as often as it is met; a slice's spare places count too). A statement '..UptoSaid' is the law's where the arguments, and the package variables that the reading takes, are together of bulk at most 1048576: NARROWER than '..Said'. Prove '..Said' where nothing that the law and all that it calls make is longer than what came in: it says more and counts as full. Else prove '..UptoSaid'. A law counts once. -/
mutual
def uptoBulk {H : Type} : DataW H → Nat
  | .lit (.string bytes) => bytes.length + 1
  | .lit _ => 1
  | .nil => 1
  | .ptr d => uptoBulk d + 1
  | .slice elems spare => uptoBulkAll elems + uptoBulkAll spare + 1
  | .agg parts => uptoBulkAll parts + 1
  | .iface _ d => uptoBulk d + 1
  | .map entries => uptoBulkEntries entries + 1
  | .held _ => 1
def uptoBulkAll {H : Type} : List (DataW H) → Nat
  | [] => 0
  | d :: r => uptoBulk d + uptoBulkAll r
def uptoBulkEntries {H : Type} : List (Lit × DataW H) → Nat
  | [] => 0
  | x :: r => uptoBulkEntry x + uptoBulkEntries r
def uptoBulkEntry {H : Type} : Lit × DataW H → Nat
  | (.string bytes, d) => bytes.length + uptoBulk d + 1
  | (_, d) => uptoBulk d + 1
 end
def uptoSmall : (H : Type) → List (DataW H) → Bool := fun _ ds => decide (uptoBulkAll ds ≤ 1048576)
def OpenSpec.upto (s : _root_.Go.ChangeSpec) : _root_.Go.OpenSpec := { _root_.Go.OpenSpec.ofChange s with cond := some uptoSmall }

/-- 'hearthlaw14.StreamGivesUp', WHERE WHAT IT READS IS OF BULK AT MOST 1048576: true; the input reads as it did. -/
def streamGivesUpUptoRow : OpenClaim := { program := "ytcgmbeibhingcaa", sum := "e80364168f4256a6ede5dd1714a6e4dbd2c8d774fe46210e2c999ef3143f481d", func := "hearth/hearthlaw14.StreamGivesUp", spec := "streamGivesUp", apart := false, narrowed := true }
def StreamGivesUpUptoSaid : Prop := streamGivesUpUptoRow.holds Try.pinned (OpenSpec.upto streamGivesUpSpec)

/-- 'hearthlaw14.StreamWindow', WHERE WHAT IT READS IS OF BULK AT MOST 1048576: true; the input reads as it did. -/
def streamWindowUptoRow : OpenClaim := { program := "ytcgmbeibhingcaa", sum := "e80364168f4256a6ede5dd1714a6e4dbd2c8d774fe46210e2c999ef3143f481d", func := "hearth/hearthlaw14.StreamWindow", spec := "streamWindow", unfollowed := true, recurses := true, apart := false, narrowed := true }
def StreamWindowUptoSaid : Prop := streamWindowUptoRow.holds Try.pinned (OpenSpec.upto streamWindowSpec)

/-- 'hearthlaw14.StreamReset', WHERE WHAT IT READS IS OF BULK AT MOST 1048576: true; the input reads as it did. -/
def streamResetUptoRow : OpenClaim := { program := "ytcgmbeibhingcaa", sum := "e80364168f4256a6ede5dd1714a6e4dbd2c8d774fe46210e2c999ef3143f481d", func := "hearth/hearthlaw14.StreamReset", spec := "streamReset", unfollowed := true, recurses := true, apart := false, narrowed := true }
def StreamResetUptoSaid : Prop := streamResetUptoRow.holds Try.pinned (OpenSpec.upto streamResetSpec)

/-- 'hearthlaw14.StreamPipe', WHERE WHAT IT READS IS OF BULK AT MOST 1048576: true; the input reads as it did. -/
def streamPipeUptoRow : OpenClaim := { program := "ytcgmbeibhingcaa", sum := "e80364168f4256a6ede5dd1714a6e4dbd2c8d774fe46210e2c999ef3143f481d", func := "hearth/hearthlaw14.StreamPipe", spec := "streamPipe", unfollowed := true, recurses := true, apart := false, narrowed := true }
def StreamPipeUptoSaid : Prop := streamPipeUptoRow.holds Try.pinned (OpenSpec.upto streamPipeSpec)

end Rows
end Go.Proofs.Ytcgmbeibhingcaa
