/- An argument that is [][]byte. -/
import Derived.Test.YtldbcdiomkkinaaGreatDoorHk2
import Derived.Test.YtldbcdiomkkinaaGreatDoorArB
import Derived.Deep.Slices
namespace Go.Proofs.YtldbcdiomkkinaaGreatDoor
open Go.RowKit Go.Deep Go.ChangeShapes Go.WideShapes

theorem bods_of_trod {H : Type} {enc : TypeId × Value → H} {P : Program} {W : World} {t s e : TypeId} {a : Option Addr} {len cap : Nat} {d : DataW H} {p : List MemPlace}
    (ht : P.underlying t = some (.slice s)) (hs : P.underlying s = some (.slice e)) (he : P.underlying e = some (.int .u8)) (h1 : P.cellsOf s = 1) (he1 : P.cellsOf e = 1)
    (h : DataW.Trod enc P W 0 (fun _ => true) true t (.slice a len cap) d p) : ∃ ls : List (List UInt8), ls.length = len ∧ BodsAt W a ls ∧ len ≤ cap := by
  obtain ⟨m, hm⟩ := h
  rcases open_slice1 ht h1 hm with ⟨h0, _⟩ | ⟨x, l, c, m', n, V, D, Pl, hcs, _, hl, _, hmm, _, hx⟩
  · have : (Value.slice a len cap) = .slice none 0 0 := by simpa [Value.cells] using h0
    simp only [Value.slice.injEq] at this
    obtain ⟨rfl, rfl, rfl⟩ := this
    exact ⟨[], rfl, .inl rfl, Nat.le_refl _⟩
  · have : (Value.slice a len cap) = .slice (some x) l c := by simpa [Value.cells] using hcs
    simp only [Value.slice.injEq] at this
    obtain ⟨rfl, rfl, rfl⟩ := this
    have hlm : len ≤ m' := by rw [hmm]; split <;> omega
    rcases Nat.eq_zero_or_pos len with h0 | hp
    · subst h0
      exact ⟨[], rfl, .inl rfl, hl⟩
    · have hb : ∀ i : Fin len, ∃ L : List UInt8, Bytes W (V i.val) L := fun i => by
        have g := (hx i.val (by omega)).2
        obtain ⟨ai, ni, qi, e0, ti⟩ := fld_slice hs g
        obtain ⟨L, _, hL⟩ := bytes_of_trod hs he he1 ti
        exact ⟨L, by rw [e0]; exact hL⟩
      obtain ⟨b, off, spot⟩ := x
      obtain rfl : spot = none := by simpa [Addr.add] using World.cell?_spot ((hx 0 (by omega)).1)
      refine ⟨List.ofFn fun i : Fin len => (hb i).choose, by simp, .inr ⟨b, off, rfl, fun i hi => ?_⟩, hl⟩
      have hi' : i < len := by simpa using hi
      have := (hx i (by omega)).1
      rw [Go.WideShapes.add_plain] at this
      refine ⟨_, this, ?_⟩
      rw [List.getD_eq_getElem?_getD, List.getElem?_eq_getElem hi, List.getElem_ofFn]
      exact (hb ⟨i, hi'⟩).choose_spec
end Go.Proofs.YtldbcdiomkkinaaGreatDoor
