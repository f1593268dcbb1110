/- strings.Replacer: sync.Once lays what build gives; NewReplacer. -/
import Derived.Test.YtfceodbpkghkaaaDoorRp2
namespace Go.Proofs.YtfceodbpkghkaaaDoor
open Go.RowKit
set_option linter.unusedVariables false
set_option linter.unusedSimpArgs false

/-- What is told of a replacer's rows is kept by a write to a block of another type. -/
theorem bsc_keep {w w' : World} {b : Nat} {T : TypeId} {cs' cs : Array Value} {r : Nat × Nat} {prs : Prs} (h : BsC w cs prs) (hb : w.heap[b]? = some (.cells cs' T r)) (g : w.grownBy w' (some b)) (hT : 5 ≠ T) : BsC w' cs prs := by
  refine ⟨h.1, fun c => ?_⟩
  rcases h.2 c with h1 | ⟨y, hy, e, g', cap, h2, hr⟩
  · exact .inl h1
  · exact .inr ⟨y, hy, e, g', cap, h2, row8_ne hr hb g hT⟩
theorem own_ne {w w' : World} {b base size n : Nat} {e T : TypeId} {v : Value} {xs : List Value} {cs' : Array Value} {r : Nat × Nat} (h : w.ownsRow base e size v n xs) (hb : w.heap[b]? = some (.cells cs' T r)) (g : w.grownBy w' (some b)) (hT : e ≠ T) : w'.ownsRow base e size v n xs := by
  refine ⟨h.1, ?_⟩
  rcases h.2 with h0 | ⟨k, cap, cur, rfl, hk, hh, r'⟩
  · exact .inl h0
  · refine .inr ⟨k, cap, cur, rfl, hk, gr_keep g hh (fun e' => ?_), r'⟩
    have : k = b := by simpa using e'
    subst this
    rw [hh] at hb
    simp only [Option.some.injEq, Obj.cells.injEq] at hb
    exact hT hb.2.1
theorem blk_keep {w w' : World} {b k : Nat} {cs' cs : Array Value} {T T' : TypeId} {r r' : Nat × Nat} (h : w.heap[k]? = some (.cells cs T' r')) (hb : w.heap[b]? = some (.cells cs' T r)) (g : w.grownBy w' (some b)) (hT : T' ≠ T) : w'.heap[k]? = some (.cells cs T' r') := by
  refine gr_keep g h (fun e' => ?_)
  have : k = b := by simpa using e'
  subst this
  rw [h] at hb
  simp only [Option.some.injEq, Obj.cells.injEq] at hb
  exact hT hb.2.1
end Go.Proofs.YtfceodbpkghkaaaDoor
