/- The walk of HeadLines. -/
import Derived.Test.YtldbcdiomkkinaaGreatDoorMC
namespace Go.Proofs.YtldbcdiomkkinaaGreatDoor
open Go.RowKit

end Go.Proofs.YtldbcdiomkkinaaGreatDoor
