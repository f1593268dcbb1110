/- The walk of ValueWrites. -/
import Derived.Test.YtfceodbpkghkaaaGreatDoorVal3
import Derived.Lib.ItoaLen
namespace Go.Proofs.YtfceodbpkghkaaaGreatDoor
open Go.RowKit

theorem flag_yes (b : Bool) : flagR (yesR b) = (b, true) := by cases b <;> decide
theorem proto_way (p : Int) : protoR (wayR p) = (if p = 6 then (6, true) else if p = 17 then (17, true) else (0, false)) := by
  unfold wayR
  split
  · decide
  · split <;> decide
def P10 (w : World) : Prop := Lib.TabIs Tryz.prog w "internal/strconv.uint64pow10" .u64 Lib.pow10Tab
theorem P10.grown {w w' : World} (h : P10 w) (g : w.grownBy w' none) : P10 w' := by
  unfold P10 Lib.TabIs World.var? at *
  cases hg : Tryz.prog.globalNamed "internal/strconv.uint64pow10" with
  | none => simp [hg] at h
  | some i =>
    simp only [hg, Option.bind_some] at h ⊢
    have hlt : i < w.heap.size := by
      rcases Nat.lt_or_ge i w.heap.size with h' | h'
      · exact h'
      · simp [Array.getElem?_eq_none h'] at h
    rw [g.block i hlt (by simp)]
    exact h
theorem bnat (n : Nat) (hn : n < 18446744073709551616) : (n : Int) ≤ mostI := by unfold mostI; omega
theorem pow_nd (n : Nat) : 1 ≤ n → 10 ^ (Lib.nDigits n - 1) ≤ n := by
  induction n using Nat.strongRecOn with
  | _ n ih =>
    intro h
    by_cases h10 : n < 10
    · rw [Lib.nDigits_small h10]; exact h
    · have := ih (n / 10) (by omega) (by omega)
      have hp := Lib.nDigits_pos (n / 10)
      rw [Lib.nDigits_big h10, Nat.add_sub_cancel]
      obtain ⟨j, hj⟩ : ∃ j, Lib.nDigits (n / 10) = j + 1 := ⟨Lib.nDigits (n / 10) - 1, by omega⟩
      rw [hj] at this ⊢
      rw [Nat.add_sub_cancel] at this
      rw [Nat.pow_succ]; omega
theorem vnum_own (n : Nat) (hn : n < 18446744073709551616) : vnum mostI (Lib.decDigits n) = if n < 10000000000 then ((n : Int), true) else (0, false) := by
  have hne : Lib.decDigits n ≠ [] := by
    by_cases h : n < 10
    · rw [dd_small h]; simp
    · rw [dd_big h]; simp
  have hlen : (Lib.decDigits n).length ≤ 10 ↔ n < 10000000000 := by
    rw [Lib.decDigits_length]
    constructor
    · intro h
      have h2 := Lib.lt_pow_nDigits n
      have h3 : 10 ^ Lib.nDigits n ≤ 10 ^ 10 := Nat.pow_le_pow_right (by omega) h
      omega
    · intro h
      by_cases h1 : 1 ≤ n
      · have := pow_nd n h1
        rcases Nat.lt_or_ge 10 (Lib.nDigits n) with h4 | h4
        · have h3 : 10 ^ 10 ≤ 10 ^ (Lib.nDigits n - 1) := Nat.pow_le_pow_right (by omega) (by omega)
          omega
        · exact h4
      · obtain rfl : n = 0 := by omega
        decide +kernel
  unfold vnum
  by_cases h : n < 10000000000
  · rw [if_neg (by rintro (h' | h'); exact hne h'; have := hlen.2 h; omega), dgo_digits, if_pos h, dFin, if_neg (by have := bnat n hn; omega)]
  · rw [if_pos (.inr (by rcases Nat.lt_or_ge 10 (Lib.decDigits n).length with h' | h'; exact h'; exact absurd (hlen.1 h') h)), if_neg h]
end Go.Proofs.YtfceodbpkghkaaaGreatDoor
