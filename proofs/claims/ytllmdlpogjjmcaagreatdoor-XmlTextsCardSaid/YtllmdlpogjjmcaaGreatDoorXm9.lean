/- hearthref17.Doc: full, around; the parser's misc. -/
import Derived.Test.YtllmdlpogjjmcaaGreatDoorXm8
namespace Go.Proofs.YtllmdlpogjjmcaaGreatDoor
open Go.RowKit
set_option linter.unusedVariables false

end Go.Proofs.YtllmdlpogjjmcaaGreatDoor
