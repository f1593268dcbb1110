/- The parser's pop: its walk. -/
import Derived.Test.YtmofnoconhgjmaaGreatDoorMK
namespace Go.Proofs.YtmofnoconhgjmaaGreatDoor
open Go.RowKit
set_option linter.unusedVariables false
set_option linter.unusedSimpArgs false

/-- The element that was the document's, in the block of its frame. -/
def RootAt (w0 w : World) (b fb : Nat) (e : El) : Prop := ∃ p n av kv sp, FrB w fb p n e.s e.n av e.tx kv sp ∧ AtsAt w (fun k => k = b ∨ k < w0.heap.size) av e.ats ∧ KidV w (fun k => k = b ∨ k < w0.heap.size) kv e.kids ∧ w0.heap.size ≤ fb
/-- What a step leaves. -/
def OutP (w0 : World) (b : Nat) (x : Ma ⊕ Res) (v : Value) (w' : World) : Prop := match x with
  | .inl m => v = .pointer none ∧ MAt w0 w' b m
  | .inr y => ∃ fb sv, v = .pointer (some ⟨fb, 2, none⟩) ∧ w0.grownBy w' none ∧ w0.heap.size ≤ b ∧ PrAt w' b y.2.1 sv (y.2.2.1 : Int) y.2.2.2 ∧ RootAt w0 w' b fb y.1
end Go.Proofs.YtmofnoconhgjmaaGreatDoor
