/- hearthref17.Doc: one, full, around. -/
import Derived.Test.YtllmdlpogjjmcaaGreatDoorXm7
namespace Go.Proofs.YtllmdlpogjjmcaaGreatDoor
open Go.RowKit
set_option linter.unusedVariables false

end Go.Proofs.YtllmdlpogjjmcaaGreatDoor
