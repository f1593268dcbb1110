/- hearthref17.Doc: at, pass, upTo. -/
import Derived.Test.YtllmdlpogjjmcaaGreatDoorXm4
import Derived.BigQuiet
namespace Go.Proofs.YtllmdlpogjjmcaaGreatDoor
open Go.RowKit
set_option linter.unusedVariables false

theorem pre_take (l s : List UInt8) (h : s.length ≤ l.length) : Lib.hasPrefix l s = decide (l.take s.length = s) := by
  unfold Lib.hasPrefix
  rw [Bool.eq_iff_iff, List.isPrefixOf_iff_prefix, decide_eq_true_eq, List.prefix_iff_eq_take]
  exact eq_comm
theorem pre_short (l s : List UInt8) (h : l.length < s.length) : Lib.hasPrefix l s = false := by
  unfold Lib.hasPrefix
  rw [Bool.eq_false_iff]
  intro e
  have := (List.isPrefixOf_iff_prefix.1 e).length_le
  omega
theorem ext_list (S : List UInt8) (i j : Nat) : ((ByteArray.mk S.toArray).extract i j).toList = (S.drop i).take (j - i) := by
  rw [Lib.toList_data, ByteArray.data_extract, List.extract_toArray, List.extract_eq_take_drop]
theorem beq_dec (a b : List UInt8) : (a == b) = decide (a = b) := by
  rw [Bool.eq_iff_iff, beq_iff_eq, decide_eq_true_eq]
theorem drop_trim (S s : List UInt8) (i : Nat) (hi : i ≤ S.length) : ∃ j, j ≤ S.length ∧ S.drop j = Lib.trimPrefix (S.drop i) s ∧ j = if Lib.hasPrefix (S.drop i) s then i + s.length else i := by
  unfold Lib.trimPrefix
  cases hp : Lib.hasPrefix (S.drop i) s
  · exact ⟨i, hi, by simp, by simp⟩
  · refine ⟨i + s.length, ?_, by rw [if_pos rfl, List.drop_drop], by simp⟩
    have := (List.isPrefixOf_iff_prefix.1 hp).length_le
    rw [List.length_drop] at this
    omega
end Go.Proofs.YtllmdlpogjjmcaaGreatDoor
