/- The walk of InetTexts. -/
import Derived.Test.YtfceodbpkghkaaaGreatDoorIn7
namespace Go.Proofs.YtfceodbpkghkaaaGreatDoor
open Go.RowKit

def ex1 : List UInt8 := [49, 57, 50, 46, 49, 54, 56, 46, 48, 49, 46, 49]
def ex2 : List UInt8 := [49, 57, 50, 46, 49, 54, 56, 46, 49, 46, 49]
theorem ex1_no : parseB ⟨ex1.toArray⟩ = (0, false) := by rw [parse_same]; decide
theorem ex2_is : textL 3232235777 = ex2 := (text_prs ex2 3232235777 (by decide)).2.symm
abbrev MaxCell (m : Int) (w : World) : Prop := w.cell? ⟨0, 0, none⟩ = some (.int .i64 m)
end Go.Proofs.YtfceodbpkghkaaaGreatDoor
