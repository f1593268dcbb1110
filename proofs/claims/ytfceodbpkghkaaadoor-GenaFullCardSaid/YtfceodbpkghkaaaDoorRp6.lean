/- strings.NewReplacer(..).Replace(..); xml.Escape. -/
import Derived.Test.YtfceodbpkghkaaaDoorRp5
namespace Go.Proofs.YtfceodbpkghkaaaDoor
open Go.RowKit
set_option linter.unusedVariables false
set_option linter.unusedSimpArgs false

def rpoV (prs : Prs) : List Value := (rpoL prs).map fun x => .string ⟨x.toArray⟩
/-- How a text stands in an element. -/
def escP : Prs := [(38, [38, 97, 109, 112, 59]), (60, [38, 108, 116, 59]), (62, [38, 103, 116, 59]), (34, [38, 113, 117, 111, 116, 59])]
end Go.Proofs.YtfceodbpkghkaaaDoor
