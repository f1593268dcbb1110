/- value.Flag, Proto, Yes, Way and the references' kin. -/
import Derived.Test.YtfceodbpkghkaaaGreatDoorVal1
namespace Go.Proofs.YtfceodbpkghkaaaGreatDoor
open Go.RowKit

def flagR (l : List UInt8) : Bool × Bool :=
  if l = [49] ∨ l = [116, 114, 117, 101] ∨ l = [121, 101, 115] then (true, true) else if l = [48] ∨ l = [102, 97, 108, 115, 101] ∨ l = [110, 111] then (false, true) else (false, false)
def protoR (l : List UInt8) : Int × Bool := if l = [84, 67, 80] then (6, true) else if l = [85, 68, 80] then (17, true) else (0, false)
def yesR (b : Bool) : List UInt8 := if b then [49] else [48]
def wayR (p : Int) : List UInt8 := if p = 6 then [84, 67, 80] else if p = 17 then [85, 68, 80] else []
end Go.Proofs.YtfceodbpkghkaaaGreatDoor
