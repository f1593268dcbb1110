/- hearthref19.Num, Flag, Addr, Proto, Words; value.Addr, Words. -/
import Derived.Test.YtfceodbpkghkaaaDoorMI
namespace Go.Proofs.YtfceodbpkghkaaaDoor
open Go.RowKit

/-- What the digits make, the last one first. -/
def vD : List UInt8 → Int
  | [] => 0
  | c :: l => ((c.toNat : Int) - 48) * pt l.length + vD l
theorem dgo_val : ∀ (l : List UInt8) (n : Int), l.all dgB = true → dgo n l = some (n * pt l.length + vD l)
  | [], n, _ => by simp [dgo, pt, vD]
  | c :: l, n, h => by
    simp only [List.all_cons, Bool.and_eq_true] at h
    rw [dgo, if_pos h.1, dgo_val l _ h.2]
    show some ((n * 10 + ((c.toNat : Int) - 48)) * pt l.length + vD l) = some (n * (10 * pt l.length) + (((c.toNat : Int) - 48) * pt l.length + vD l))
    congr 1
    rw [Int.add_mul, Int.mul_assoc, Int.add_assoc]
theorem dgo_none : ∀ (l : List UInt8) (n : Int), l.all dgB = false → dgo n l = none
  | [], n, h => by simp at h
  | c :: l, n, h => by
    rw [dgo]
    cases hc : dgB c
    · rw [if_neg (by simp)]
    · rw [if_pos rfl]
      exact dgo_none l _ (by simpa [hc] using h)
theorem vD_bd : ∀ (l : List UInt8), l.all dgB = true → 0 ≤ vD l ∧ vD l + 1 ≤ pt l.length
  | [], _ => by decide
  | c :: l, h => by
    simp only [List.all_cons, Bool.and_eq_true] at h
    have ih := vD_bd l h.2
    have hc : (48 : Int) ≤ (c.toNat : Int) ∧ (c.toNat : Int) ≤ 57 := by have := h.1; unfold dgB at this; simpa using this
    show 0 ≤ ((c.toNat : Int) - 48) * pt l.length + vD l ∧ ((c.toNat : Int) - 48) * pt l.length + vD l + 1 ≤ 10 * pt l.length
    have h1 : 0 ≤ ((c.toNat : Int) - 48) * pt l.length := Int.mul_nonneg (by omega) (by omega)
    have h2 : ((c.toNat : Int) - 48) * pt l.length ≤ 9 * pt l.length := Int.mul_le_mul_of_nonneg_right (by omega) (by omega)
    omega
theorem toList_nil (s : ByteArray) (l : List UInt8) (h : l = s.data.toList) : (s.toList == [] ) = decide (l = []) ∧ s.toList.isEmpty = decide (l = []) := by
  rw [Lib.toList_data, ← h]; cases l <;> exact ⟨rfl, rfl⟩
def addrR (l : List UInt8) : Nat × Bool := if l = [] then (0, true) else prsR l
end Go.Proofs.YtfceodbpkghkaaaDoor
