/- The parser's end. -/
import Derived.Test.YtmofnoconhgjmaaGreatDoorMQ
import Derived.Deep.QuietTactic
import Derived.BigQuiet
namespace Go.Proofs.YtmofnoconhgjmaaGreatDoor
open Go.RowKit
set_option linter.unusedVariables false
set_option linter.unusedSimpArgs false

end Go.Proofs.YtmofnoconhgjmaaGreatDoor
