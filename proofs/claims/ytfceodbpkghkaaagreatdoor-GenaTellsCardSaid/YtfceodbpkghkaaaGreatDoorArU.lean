/- Arguments: an array of two numbers; a slice of strings; the tables below the bound. -/
import Derived.Test.YtfceodbpkghkaaaGreatDoorGmi
import Derived.OpenShut
import Derived.Deep.Strs
namespace Go.Proofs.YtfceodbpkghkaaaGreatDoor
open Go.RowKit Go.Deep Go.ChangeShapes Go.WideShapes

theorem okWide_array {P : Program} {w : World} {r : Reach} {base : Nat} {t e : TypeId} {n : Nat} {v : Value} (ht : P.underlying t = some (.array n e)) (h : Value.okWide P w r base t v) : ∃ cs, v = .agg cs ∧ cs.size = P.cellsOf t := by
  unfold Value.okWide at h
  rw [ht] at h
  obtain ⟨cs, h1, h2, _⟩ := h
  exact ⟨cs, h1, h2⟩
theorem two_u64 {P : Program} {H : Type} {enc : TypeId × Value → H} {W : World} {base : Nat} {t e : TypeId} {v : Value} {d : DataW H} {p : List MemPlace} (ht : P.underlying t = some (.array 2 e)) (he : P.underlying e = some (.int .u64)) (h2 : P.cellsOf t = 2) (h1 : P.cellsOf e = 1)
    (hval : Value.okWide P W .any base t v) (h : DataW.Trod enc P W 0 (fun _ => true) true t v d p) : ∃ x y : Nat, v = .agg #[.int .u64 (x : Int), .int .u64 (y : Int)] ∧ x < 18446744073709551616 ∧ y < 18446744073709551616 := by
  obtain ⟨cs, rfl, hsz⟩ := okWide_array ht hval
  obtain ⟨m, hm⟩ := h
  rw [h2] at hsz
  obtain ⟨l⟩ := cs
  match l, hsz with
  | [c0, c1], _ =>
    obtain ⟨ys, n', rfl, -, -, hyl, hfld⟩ := DataW.trod_array ht hm
    have f0 := hfld 0 (by omega)
    have f1 := hfld 1 (by omega)
    rw [List.getElem?_eq_getElem (by omega), h1] at f0 f1
    have g0 : DataW.trod enc P W 0 (fun _ => true) true n' e [c0] = some _ := f0
    have g1 : DataW.trod enc P W 0 (fun _ => true) true n' e [c1] = some _ := f1
    obtain ⟨a, rfl, w0⟩ := fld_int he g0
    obtain ⟨b, rfl, w1⟩ := fld_int he g1
    have b0 := bounds_u64 w0
    have b1 := bounds_u64 w1
    refine ⟨a.toNat, b.toNat, ?_, by omega, by omega⟩
    have e0 : ((a.toNat : Nat) : Int) = a := by omega
    have e1 : ((b.toNat : Nat) : Int) = b := by omega
    rw [e0, e1]
theorem strs_of_trod {P : Program} {H : Type} {enc : TypeId × Value → H} {W : World} {t e : TypeId} {a : Option Addr} {len cap : Nat} {d : DataW H} {p : List MemPlace}
    (ht : P.underlying t = some (.slice e)) (he : P.underlying e = some .string) (hC : P.cellsOf e = 1) (h : DataW.Trod enc P W 0 (fun _ => true) true t (.slice a len cap) d p) : ∃ vs, StrsAt W a len vs := by
  obtain ⟨fuel, hf⟩ := h
  rcases open_strs ht he hC hf with ⟨hcs, _⟩ | ⟨x, l, c, m, Sx, hcs, _, hl, hm, hmm, _, hcell⟩
  · simp [Value.cells] at hcs
    obtain ⟨rfl, rfl, rfl⟩ := hcs
    exact ⟨fun _ => ByteArray.empty, .inl rfl⟩
  · simp [Value.cells] at hcs
    obtain ⟨rfl, rfl, rfl⟩ := hcs
    refine ⟨Sx, ?_⟩
    rcases Nat.eq_zero_or_pos len with h0 | hp
    · exact .inl h0
    · obtain ⟨b, o, sp⟩ := x
      have h0 := (hcell 0 (by rw [hmm]; simp; omega)).1
      obtain rfl : sp = none := by simpa [Addr.add] using World.cell?_spot h0
      refine .inr ⟨b, o, rfl, fun i hi => ?_⟩
      have := (hcell i (by rw [hmm]; simp; omega)).1
      rwa [Go.WideShapes.add_plain] at this
theorem tabs_of {W : World} {m : Int} (h10 : P10 W) (hm : MaxCell m W) : Tabs W.heap.size m W := by
  refine ⟨h10, fun i hi => ?_, hm, ?_⟩
  · unfold P10 Lib.TabIs World.var? at h10
    rw [hi] at h10
    simp only [Option.bind_some] at h10
    rcases Nat.lt_or_ge i W.heap.size with h' | h'
    · exact h'
    · simp [Array.getElem?_eq_none h'] at h10
  · exact World.block_lt_of_cell? W _ hm
end Go.Proofs.YtfceodbpkghkaaaGreatDoor
