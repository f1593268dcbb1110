/- An argument that is a slice of bytes. -/
import Derived.Test.YtnapfecalckajaaDoorArg
import Derived.Test.YtnapfecalckajaaDoorBytes
namespace Go.Proofs.YtnapfecalckajaaDoor
open Go.RowKit Go.Deep Go.ChangeShapes Go.WideShapes

theorem bytes_of_isRow {W : World} {a : Option Addr} {len cap : Nat} {zs : List Int} (h : IsRow .u8 W a len cap zs) : ∃ l : List UInt8, l.length = len ∧ Bytes W (.slice a len cap) l := by
  rcases h with ⟨rfl, rfl, rfl, rfl⟩ | ⟨x, rfl, h1, h2, h3, h4, h5⟩
  · exact ⟨[], rfl, Bytes.nil W⟩
  · have hl : ((zs.take len).map fun z => UInt8.ofNat z.toNat).length = len := by simp; omega
    refine ⟨(zs.take len).map fun z => UInt8.ofNat z.toNat, hl, some x, cap, by rw [hl], by omega, h2, fun hne => ?_⟩
    have hp : 0 < len := by rw [← hl]; exact List.length_pos_iff.2 hne
    obtain ⟨b, off, spot⟩ := x
    obtain rfl : spot = none := by simpa [Addr.add] using World.cell?_spot (h4 0 (by omega))
    refine ⟨b, off, rfl, fun i hi => ?_⟩
    rw [hl] at hi
    have := h4 i (by omega)
    rw [Go.WideShapes.add_plain] at this
    rw [this]
    have hm : zs[i] ∈ zs := List.getElem_mem (by omega)
    have hb := bounds_u8 (h5 _ hm)
    have e1 : zs.getD i 0 = zs[i] := by rw [List.getD_eq_getElem?_getD, List.getElem?_eq_getElem (by omega)]; rfl
    have e2 : ((zs.take len).map fun z => UInt8.ofNat z.toNat).getD i 0 = UInt8.ofNat (zs[i]).toNat := by
      rw [List.getD_eq_getElem?_getD, List.getElem?_map, List.getElem?_take, if_pos hi, List.getElem?_eq_getElem (by omega)]; rfl
    rw [e1, e2]
    simp
    omega
theorem bytes_of_trod {H : Type} {enc : TypeId × Value → H} {P : Program} {W : World} {t e : TypeId} {a : Option Addr} {len cap : Nat} {d : DataW H} {p : List MemPlace}
    (ht : P.underlying t = some (.slice e)) (he : P.underlying e = some (.int .u8)) (hC : P.cellsOf e = 1) (h : DataW.Trod enc P W 0 (fun _ => true) true t (.slice a len cap) d p) :
    ∃ l : List UInt8, l.length = len ∧ Bytes W (.slice a len cap) l := by
  obtain ⟨zs, hz⟩ := isRow_of_trod (k := .u8) ht he hC h
  exact bytes_of_isRow hz
end Go.Proofs.YtnapfecalckajaaDoor
