/- An argument that is a slice of ints. -/
import Derived.Test.YtldbcdiomkkinaaDoorMA
import Derived.Test.YtldbcdiomkkinaaDoorHc1
namespace Go.Proofs.YtldbcdiomkkinaaDoor
open Go.RowKit Go.Deep Go.ChangeShapes Go.WideShapes

theorem ints_of_isRow {W : World} {a : Option Addr} {len cap : Nat} {zs : List Int} (h : IsRow .i64 W a len cap zs) : IntsAt W a len ∧ len ≤ cap := by
  rcases h with ⟨rfl, rfl, rfl, rfl⟩ | ⟨x, rfl, h1, h2, h3, h4, h5⟩
  · exact ⟨.inl rfl, Nat.le_refl _⟩
  · refine ⟨?_, by omega⟩
    rcases Nat.eq_zero_or_pos len with h0 | hp
    · exact .inl h0
    · obtain ⟨b, off, spot⟩ := x
      obtain rfl : spot = none := by simpa [Addr.add] using World.cell?_spot (h4 0 (by omega))
      refine .inr ⟨b, off, rfl, fun i hi => ?_⟩
      have := h4 i (by omega)
      rw [Go.WideShapes.add_plain] at this
      exact ⟨_, this⟩
end Go.Proofs.YtldbcdiomkkinaaDoor
