/- The parser's value. -/
import Derived.Test.YtmofnoconhgjmaaGreatDoorMP
namespace Go.Proofs.YtmofnoconhgjmaaGreatDoor
open Go.RowKit
set_option linter.unusedVariables false
set_option linter.unusedSimpArgs false

end Go.Proofs.YtmofnoconhgjmaaGreatDoor
