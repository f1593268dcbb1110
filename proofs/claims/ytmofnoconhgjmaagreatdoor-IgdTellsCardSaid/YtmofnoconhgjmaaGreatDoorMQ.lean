/- Texts of one proof, put together: Xmq, Xmr. -/
import Derived.Test.YtmofnoconhgjmaaGreatDoorMK
import Derived.Test.YtmofnoconhgjmaaGreatDoorMP
import Derived.Maps.AppendAt
import Derived.Test.YtmofnoconhgjmaaGreatDoorXmo
/- The parser's begin: a frame more. -/
namespace Go.Proofs.YtmofnoconhgjmaaGreatDoor
open Go.RowKit
set_option linter.unusedVariables false
set_option linter.unusedSimpArgs false

end Go.Proofs.YtmofnoconhgjmaaGreatDoor
/- The parser's begin: its walk. -/
namespace Go.Proofs.YtmofnoconhgjmaaGreatDoor
open Go.RowKit
set_option linter.unusedVariables false
set_option linter.unusedSimpArgs false

theorem OutP.gr {w0 w : World} {b : Nat} {x : Ma ⊕ Res} {v : Value} (h : OutP w0 b x v w) : w0.grownBy w none := by
  cases x with
  | inl m => obtain ⟨X, sv, l, h1, _⟩ := h.2; exact h1
  | inr y => obtain ⟨fb, sv, -, h1, _⟩ := h; exact h1
theorem MP.lt {w0 w : World} {X : Nat → Prop} {b : Nat} {sv : Value} {l : List (Nat × Value)} {m : Ma} (h : MP w0 w X b sv l m) : b < w.heap.size := lt_of_block h.pr
end Go.Proofs.YtmofnoconhgjmaaGreatDoor
