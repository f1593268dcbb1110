/- hearthref22.Callback, walked. -/
import Derived.Test.YtfceodbpkghkaaaDoorGn3
namespace Go.Proofs.YtfceodbpkghkaaaDoor
open Go.RowKit
set_option linter.unusedVariables false
set_option linter.unusedSimpArgs false

theorem all_no (l : Gs) (p : UInt8 → Bool) (k : Nat) (hk : k < l.length) (h : p (l.getD k 0) = false) : l.all p = false := by
  have := gall_snoc l p k hk
  rw [h, Bool.and_false] at this
  rw [← List.take_append_drop (k + 1) l, List.all_append, this, Bool.false_and]
end Go.Proofs.YtfceodbpkghkaaaDoor
