/- The walk of HeadLines. -/
import Derived.Test.YtldbcdiomkkinaaDoorMC
namespace Go.Proofs.YtldbcdiomkkinaaDoor
open Go.RowKit

end Go.Proofs.YtldbcdiomkkinaaDoor
