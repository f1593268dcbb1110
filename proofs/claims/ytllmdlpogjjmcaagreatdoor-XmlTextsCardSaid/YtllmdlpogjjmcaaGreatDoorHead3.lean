/- hearthref15.Number: it computes numR too. -/
import Derived.Test.YtllmdlpogjjmcaaGreatDoorHead2
namespace Go.Proofs.YtllmdlpogjjmcaaGreatDoor
open Go.RowKit

/-- A byte as a small letter. -/
def smI (c : UInt8) : Int := if (65 : Int) ≤ (c.toNat : Int) ∧ (c.toNat : Int) ≤ 90 then (c.toNat : Int) + 32 else (c.toNat : Int)
theorem smI_bd : ∀ c, 0 ≤ smI c ∧ smI c ≤ 255 := all_bytes (by decide +kernel)
theorem val10 : ∀ c, (48 ≤ smI c ∧ smI c ≤ 57 ∧ valN c = smI c - 48) ∨ (¬ (48 ≤ smI c ∧ smI c ≤ 57) ∧ 10 ≤ valN c) := all_bytes (by decide +kernel)
theorem val16 : ∀ c, (48 ≤ smI c ∧ smI c ≤ 57 ∧ valN c = smI c - 48) ∨ (97 ≤ smI c ∧ smI c ≤ 102 ∧ valN c = smI c - 87) ∨ (¬ (48 ≤ smI c ∧ smI c ≤ 57) ∧ ¬ (97 ≤ smI c ∧ smI c ≤ 102) ∧ 16 ≤ valN c) := all_bytes (by decide +kernel)
end Go.Proofs.YtllmdlpogjjmcaaGreatDoor
