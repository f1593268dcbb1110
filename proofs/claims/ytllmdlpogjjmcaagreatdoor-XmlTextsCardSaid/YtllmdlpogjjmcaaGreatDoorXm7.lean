/- hearthref17.Doc: blanks. -/
import Derived.Test.YtllmdlpogjjmcaaGreatDoorXm6
namespace Go.Proofs.YtllmdlpogjjmcaaGreatDoor
open Go.RowKit
set_option linter.unusedVariables false

theorem blk_has (c : UInt8) : blkL.contains c = (decide ((c.toNat : Int) = 32) || decide ((c.toNat : Int) = 9) || decide ((c.toNat : Int) = 10) || decide ((c.toNat : Int) = 13)) := by
  revert c; exact all_bytes (by decide +kernel)
theorem blk_cases (c : UInt8) : (c = 32 ∨ c = 9 ∨ c = 10 ∨ c = 13) ∨ (blkL.contains c = false ∧ ((c.toNat : Int) == 32) = false ∧ ((c.toNat : Int) == 9) = false ∧ ((c.toNat : Int) == 10) = false ∧ ((c.toNat : Int) == 13) = false) := by
  revert c; exact all_bytes (by decide +kernel)
theorem trimS_tw (l : List UInt8) (k : Nat) (hk : k ≤ l.length) (h1 : (l.take k).all (blkL.contains ·) = true) (h2 : k < l.length → blkL.contains (l.getD k 0) = false) : Lib.trimLeftS l blkL = l.drop k :=
  (tw_take (blkL.contains ·) l k hk h1 h2).2
end Go.Proofs.YtllmdlpogjjmcaaGreatDoor
