/- strings.Builder: copyCheck, WriteString at this program (the library's laid contracts lack them). -/
import Derived.Test.YtmofnoconhgjmaaGreatDoorMC
import Derived.Shelf.Strings.Builder1
import Derived.Lib.Builder
import Derived.Lib.AppendStr
import Derived.Lib.UnsafeStr
import Derived.Laws.Externs
namespace Go.Proofs.YtmofnoconhgjmaaGreatDoor
open Go.RowKit

abbrev IsBld (B b : Nat) (l : List UInt8) (w : World) : Prop := Lib.IsBuilder 108 5 B b (Lib.byteCells l) w
abbrev BldAt (B b : Nat) (l : List UInt8) (w : World) : Prop := Lib.BuilderAt 108 5 B b (.pointer (some ⟨b, 0, none⟩)) (Lib.byteCells l) w
end Go.Proofs.YtmofnoconhgjmaaGreatDoor
