/- The document's example; the walk of HeadNumbers. -/
import Derived.Test.YtnapfecalckajaaDoorHead7
namespace Go.Proofs.YtnapfecalckajaaDoor
open Go.RowKit

def exL : List UInt8 := [83, 79, 65, 80, 65, 99, 116, 105, 111, 110, 58, 32, 32, 97, 32]
theorem exL_R : lnR exL = ([115, 111, 97, 112, 97, 99, 116, 105, 111, 110], [97], true) := by decide +kernel
end Go.Proofs.YtnapfecalckajaaDoor
