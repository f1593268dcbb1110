/- Arguments that are slices of structs: what is known of their cells. -/
import Derived.Test.YtfceodbpkghkaaaGreatDoorLib
import Derived.ProofKit
import Derived.OpenShut
import Derived.Deep.Slices
import Derived.Deep.Fields
namespace Go.Proofs.YtfceodbpkghkaaaGreatDoor
open Go.RowKit Go.Deep Go.ChangeShapes Go.WideShapes

section
variable {H : Type} {enc : TypeId × Value → H} {P : Program} {W : World} {base : Nat} {spare : Nat → Bool} {held : Bool}
/-- Of each element below the length, each field of one cell: its cell, and its own reading. -/
theorem struct_slice {t e : TypeId} {fs : Array Field} {a : Option Addr} {len cap : Nat} {d : DataW H} {p : List MemPlace} (ht : P.underlying t = some (.slice e)) (he : P.underlying e = some (.struct fs))
    (hone : oneCellFields P fs = true) (hC : P.cellsOf e = fs.size) (h : DataW.Trod enc P W base spare held t (.slice a len cap) d p) :
    (a = none ∧ len = 0 ∧ cap = 0) ∨
    ∃ x, a = some x ∧ len ≤ cap ∧ cap ≤ maxLen ∧ ∀ i, i < len → ∀ j f, fs[j]? = some f → ∃ v d' p' n, W.cell? (x.add (i * fs.size + j)) = some v ∧ DataW.trod enc P W base spare held n f.type [v] = some (d', p') := by
  obtain ⟨fuel, hf⟩ := h
  rcases open_slice ht hf with ⟨h0, _⟩ | ⟨x, l, c, m, n, D, Pl, hcs, hb, hl, hm, hmm, _, hi⟩
  · simp [Value.cells] at h0
    exact .inl h0
  · simp [Value.cells] at hcs
    obtain ⟨rfl, rfl, rfl⟩ := hcs
    refine .inr ⟨x, rfl, hl, hm, fun i hil j f hj => ?_⟩
    have him : i < m := by rw [hmm]; split <;> omega
    obtain ⟨cs', hc, ht'⟩ := hi i him
    obtain ⟨_, hlen, hcell⟩ := World.cells?_some hc
    obtain ⟨ys, n', _, _, _, hyl, hfld⟩ := DataW.trod_struct he ht'
    have hjs : j < fs.size := (Array.getElem?_eq_some_iff.1 hj).1
    obtain ⟨ho, h1⟩ := hone_of hone j f hj
    have hjl : j < cs'.length := by omega
    have hr := hfld j f hj
    rw [ho, h1, List.drop_eq_getElem_cons hjl, List.take_succ_cons, List.take_zero, List.getElem?_eq_getElem (by omega)] at hr
    refine ⟨cs'[j], _, _, n', ?_, hr⟩
    have := hcell j (by omega)
    rw [add_add, hC] at this
    rw [this, List.getElem?_eq_getElem hjl]
/-- Fields by their kinds. -/
theorem fld_int {t : TypeId} {k : IntKind} {n : Nat} {v : Value} {y : DataW H × List MemPlace} (ht : P.underlying t = some (.int k)) (h : DataW.trod enc P W base spare held n t [v] = some y) :
    ∃ x, v = .int k x ∧ (Lit.int k x).wf = true := by
  obtain ⟨x, hv, _, hw⟩ := DataW.trod_int ht h
  exact ⟨x, by simpa using hv, hw⟩
theorem fld_bool {t : TypeId} {n : Nat} {v : Value} {y : DataW H × List MemPlace} (ht : P.underlying t = some .bool) (h : DataW.trod enc P W base spare held n t [v] = some y) :
    ∃ x, v = .bool x := by
  obtain ⟨x, hv, _⟩ := DataW.trod_bool ht h
  exact ⟨x, by simpa using hv⟩
theorem fld_string {t : TypeId} {n : Nat} {v : Value} {y : DataW H × List MemPlace} (ht : P.underlying t = some .string) (h : DataW.trod enc P W base spare held n t [v] = some y) :
    ∃ x : ByteArray, v = .string x ∧ x.size ≤ maxLen := by
  obtain ⟨x, hv, _, hw⟩ := DataW.trod_string ht h
  exact ⟨x, by simpa using hv, hw⟩
theorem fld_slice {t e : TypeId} {n : Nat} {v : Value} {y : DataW H × List MemPlace} (ht : P.underlying t = some (.slice e)) (h : DataW.trod enc P W base spare held n t [v] = some y) :
    ∃ a len cap, v = .slice a len cap ∧ DataW.Trod enc P W base spare held t (.slice a len cap) y.1 y.2 := by
  rcases open_slice ht h with ⟨h0, _⟩ | ⟨x, l, c, _, _, _, _, hcs, _⟩
  · obtain rfl : v = .slice none 0 0 := by simpa using h0
    exact ⟨_, _, _, rfl, n, h⟩
  · obtain rfl : v = .slice (some x) l c := by simpa using hcs
    exact ⟨_, _, _, rfl, n, h⟩
end

/-- A slice of numbers that came in: nil, or a row of 'cap' cells, the numbers 'zs'. -/
def IsRow (k : IntKind) (w : World) (a : Option Addr) (len cap : Nat) (zs : List Int) : Prop :=
  (a = none ∧ len = 0 ∧ cap = 0 ∧ zs = []) ∨
  ∃ x, a = some x ∧ len ≤ cap ∧ cap ≤ maxLen ∧ zs.length = cap ∧ (∀ i, i < zs.length → w.cell? (x.add i) = some (.int k (zs.getD i 0))) ∧ ∀ n ∈ zs, (Lit.int k n).wf = true
theorem IsRow.grown {k : IntKind} {w w' : World} {a : Option Addr} {len cap : Nat} {zs : List Int} (h : IsRow k w a len cap zs) (g : w.grownBy w' none) : IsRow k w' a len cap zs := by
  rcases h with h | ⟨x, rfl, h1, h2, h3, h4, h5⟩
  · exact .inl h
  · exact .inr ⟨x, rfl, h1, h2, h3, fun i hi => g.cell (h4 i hi) (by simp), h5⟩
theorem IsRow.bounds {k : IntKind} {w : World} {a : Option Addr} {len cap : Nat} {zs : List Int} (h : IsRow k w a len cap zs) : len ≤ cap ∧ cap ≤ maxLen ∧ zs.length = cap := by
  rcases h with ⟨_, rfl, rfl, rfl⟩ | ⟨x, rfl, h1, h2, h3, _⟩
  · exact ⟨Nat.le_refl _, Nat.zero_le _, rfl⟩
  · exact ⟨h1, h2, h3⟩
theorem isRow_of_trod {H : Type} {enc : TypeId × Value → H} {P : Program} {W : World} {t e : TypeId} {k : IntKind} {a : Option Addr} {len cap : Nat} {d : DataW H} {p : List MemPlace}
    (ht : P.underlying t = some (.slice e)) (he : P.underlying e = some (.int k)) (hC : P.cellsOf e = 1) (h : DataW.Trod enc P W 0 (fun _ => true) true t (.slice a len cap) d p) :
    ∃ zs, IsRow k W a len cap zs := by
  obtain ⟨fuel, hf⟩ := h
  rcases open_ints ht he hC hf with ⟨hcs, _⟩ | ⟨x, l, c, zs, hcs, _, hl, hm, hz, _, hcell, hwz⟩
  · simp [Value.cells] at hcs
    obtain ⟨rfl, rfl, rfl⟩ := hcs
    exact ⟨[], .inl ⟨rfl, rfl, rfl, rfl⟩⟩
  · simp [Value.cells] at hcs
    obtain ⟨rfl, rfl, rfl⟩ := hcs
    exact ⟨zs, .inr ⟨_, rfl, hl, hm, by simpa using hz, hcell, hwz⟩⟩
end Go.Proofs.YtfceodbpkghkaaaGreatDoor
