/- xml: names, find. -/
import Derived.Test.YtmofnoconhgjmaaGreatDoorXmh
namespace Go.Proofs.YtmofnoconhgjmaaGreatDoor
open Go.RowKit
set_option linter.unusedVariables false
set_option linter.unusedSimpArgs false

/-- Prefixes' spaces in memory, the later ones ahead. -/
def SpAt (w : World) : Value → List (Bs × Bs) → Prop
  | v, [] => v = .pointer none
  | v, x :: l => ∃ b u, v = .pointer (some ⟨b, 0, none⟩) ∧ w.heap[b]? = some (.cells #[str x.1, str x.2, u] 245 (0, 0)) ∧ SpAt w u l
theorem SpAt.grow {w w' : World} {v : Value} {l : List (Bs × Bs)} (h : SpAt w v l) (g : w.grownBy w' none) : SpAt w' v l := by
  induction l generalizing v with
  | nil => exact h
  | cons x l ih =>
    obtain ⟨b, u, rfl, hb, hu⟩ := h
    exact ⟨b, u, rfl, gr_keep g hb (by simp), ih hu⟩
theorem SpAt.kept {w w' : World} {v : Value} {l : List (Bs × Bs)} {k : Nat} {cs : Array Value} {T : TypeId} {r : Nat × Nat} (h : SpAt w v l) (g : w.grownBy w' (some k)) (hk : w.heap[k]? = some (.cells cs T r)) (hT : 245 ≠ T) : SpAt w' v l := by
  induction l generalizing v with
  | nil => exact h
  | cons x l ih =>
    obtain ⟨b, u, rfl, hb, hu⟩ := h
    exact ⟨b, u, rfl, gr_keep g hb (blk_ne hb hk hT), ih hu⟩
theorem spcL_cons (x : Bs × Bs) (l : List (Bs × Bs)) (p : Bs) : spcL (x :: l) p = if x.1 = p then (x.2, true) else spcL l p := by
  unfold spcL
  by_cases h : x.1 = p
  · simp [List.find?_cons, h]
  · simp [List.find?_cons, h]
end Go.Proofs.YtmofnoconhgjmaaGreatDoor
