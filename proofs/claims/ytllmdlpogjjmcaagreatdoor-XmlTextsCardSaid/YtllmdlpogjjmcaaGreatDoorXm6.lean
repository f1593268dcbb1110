/- hearthref17.Doc: upTo, blanks. -/
import Derived.Test.YtllmdlpogjjmcaaGreatDoorXm5
namespace Go.Proofs.YtllmdlpogjjmcaaGreatDoor
open Go.RowKit
set_option linter.unusedVariables false

theorem index_at (s : List UInt8) : ∀ (l : List UInt8) (k : Nat), k ≤ l.length → (∀ m, m < k → Lib.hasPrefix (l.drop m) s = false) → Lib.hasPrefix (l.drop k) s = true → Lib.index l s = k := by
  intro l
  induction l with
  | nil =>
    intro k hk _ hp
    obtain rfl : k = 0 := by simpa using hk
    have : s = [] := by simpa using List.isPrefixOf_iff_prefix.1 hp
    subst this
    rfl
  | cons x l ih =>
    intro k hk h hp
    cases k with
    | zero =>
      have : s.isPrefixOf (x :: l) = true := hp
      simp [Lib.index, this]
    | succ k =>
      have h0 : s.isPrefixOf (x :: l) = false := h 0 (by omega)
      have := ih k (by simpa using hk) (fun m hm => h (m + 1) (by omega)) hp
      simp only [Lib.index, h0, this, Bool.false_eq_true, if_false]
      rw [if_neg (by simp)]
      omega
theorem index_no (s : List UInt8) : ∀ (l : List UInt8), (∀ m, m ≤ l.length → Lib.hasPrefix (l.drop m) s = false) → Lib.index l s = -1 := by
  intro l
  induction l with
  | nil =>
    intro h
    have : s.isPrefixOf [] = false := h 0 (Nat.le_refl _)
    cases s with
    | nil => cases this
    | cons _ _ => rfl
  | cons x l ih =>
    intro h
    have h0 : s.isPrefixOf (x :: l) = false := h 0 (by omega)
    have := ih (fun m hm => h (m + 1) (by simpa using hm))
    simp [Lib.index, h0, this]
theorem cut_at (l s : List UInt8) (k : Nat) (hk : k ≤ l.length) (h : ∀ m, m < k → Lib.hasPrefix (l.drop m) s = false) (hp : Lib.hasPrefix (l.drop k) s = true) : Lib.cut l s = (l.take k, l.drop (k + s.length), true) := by
  have := index_at s l k hk h hp
  unfold Lib.cut
  rw [this, if_pos (by omega)]
  rfl
theorem cut_no (l s : List UInt8) (h : ∀ m, m ≤ l.length → Lib.hasPrefix (l.drop m) s = false) : Lib.cut l s = (l, [], false) := by
  unfold Lib.cut
  rw [index_no s l h, if_neg (by omega)]
theorem ext_at (S : List UInt8) (i k : Nat) : (ByteArray.mk S.toArray).extract i (i + k) = ⟨((S.drop i).take k).toArray⟩ := by
  apply ByteArray.ext
  rw [ByteArray.data_extract, List.extract_toArray, List.extract_eq_take_drop, Nat.add_sub_cancel_left]
def upJ (wr : World) (b : Nat) : Nat := (intOf ((wr.cell? ⟨b, 1, none⟩).getD (.int .i64 0))).toNat
end Go.Proofs.YtllmdlpogjjmcaaGreatDoor
