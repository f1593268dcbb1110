/- sync.Once in one goroutine, not yet done: its parts (after the kit's worked example of sync.Once). -/
import Derived.Test.YtfceodbpkghkaaaDoorLib
import Derived.Test.YtfceodbpkghkaaaDoorProg
import Derived.Tactics
import Derived.Tactics2
import Derived.Defers
import Derived.Laws.Pointers
import Derived.Laws.LoneSync
import Derived.RegionTactic
import Derived.RegionCalls
import Derived.ChangeAlike
namespace Go.Proofs.YtfceodbpkghkaaaDoor
open Go.RowKit
set_option linter.unusedVariables false
set_option linter.unusedSimpArgs false

end Go.Proofs.YtfceodbpkghkaaaDoor
