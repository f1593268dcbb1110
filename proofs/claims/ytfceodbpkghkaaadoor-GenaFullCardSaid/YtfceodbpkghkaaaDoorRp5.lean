/- (*strings.byteStringReplacer).Replace: the walk. -/
import Derived.Test.YtfceodbpkghkaaaDoorRp4
import Derived.Test.YtfceodbpkghkaaaDoorShelf
import Derived.Deep.RegionLaw
import Derived.Laws.CopyOwn
import Derived.Deep.DeepCutAuto
namespace Go.Proofs.YtfceodbpkghkaaaDoor
open Go.RowKit
set_option linter.unusedVariables false
set_option linter.unusedSimpArgs false

theorem infoU8 : (Tryd.prog.info? 5).map (fun i => (i.zero, i.size, i.bytes)) = some (some (.int .u8 0), 1, 1) := by kernel_rfl
theorem take_set1 (l : List Value) (j : Nat) (v : Value) (h : j < l.length) : (l.set j v).take (j + 1) = l.take j ++ [v] := by
  rw [List.take_add_one, List.take_set_of_le (Nat.le_refl _), List.getElem?_set_self h]
  rfl
theorem take_splice (l : List Value) (j n : Nat) {cs : List Value} (h : j ≤ l.length) (hn : cs.length = n) : (splice l j cs).take (j + n) = l.take j ++ cs := by
  unfold splice
  rw [← List.append_assoc, List.take_append_of_le_length (by simp; omega), List.take_of_length_le (by simp; omega)]
/-- How great it is, and whether anything becomes something else. -/
def SzAt (prs : Prs) (s : List UInt8) (v5 v6 : Value) : Prop := v5 = .int .i64 ((repL prs s).length : Int) ∧ v6 = .bool (s.any (hitC prs))
end Go.Proofs.YtfceodbpkghkaaaDoor
