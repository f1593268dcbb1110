/- An argument that is an array of two bytes. -/
import Derived.Test.YtdfhdnnkpeodhaaDoorArg
import Derived.OpenShut
namespace Go.Proofs.YtdfhdnnkpeodhaaDoor
open Go.RowKit Go.Deep Go.ChangeShapes Go.WideShapes

theorem okWide_array {P : Program} {w : World} {r : Reach} {base : Nat} {t e : TypeId} {n : Nat} {v : Value} (ht : P.underlying t = some (.array n e)) (h : Value.okWide P w r base t v) : ∃ cs, v = .agg cs ∧ cs.size = P.cellsOf t := by
  unfold Value.okWide at h
  rw [ht] at h
  obtain ⟨cs, h1, h2, _⟩ := h
  exact ⟨cs, h1, h2⟩
theorem two_bytes {P : Program} {H : Type} {enc : TypeId × Value → H} {W : World} {base : Nat} {t e : TypeId} {v : Value} {d : DataW H} {p : List MemPlace} (ht : P.underlying t = some (.array 2 e)) (he : P.underlying e = some (.int .u8)) (h2 : P.cellsOf t = 2) (h1 : P.cellsOf e = 1)
    (hval : Value.okWide P W .any base t v) (h : DataW.Trod enc P W 0 (fun _ => true) true t v d p) : ∃ x y : UInt8, v = .agg #[.int .u8 (x.toNat : Int), .int .u8 (y.toNat : Int)] := by
  obtain ⟨cs, rfl, hsz⟩ := okWide_array ht hval
  obtain ⟨m, hm⟩ := h
  rw [h2] at hsz
  obtain ⟨l⟩ := cs
  match l, hsz with
  | [c0, c1], _ =>
    obtain ⟨ys, n', rfl, -, -, hyl, hfld⟩ := DataW.trod_array ht hm
    have f0 := hfld 0 (by omega)
    have f1 := hfld 1 (by omega)
    rw [List.getElem?_eq_getElem (by omega), h1] at f0 f1
    have g0 : DataW.trod enc P W 0 (fun _ => true) true n' e [c0] = some _ := f0
    have g1 : DataW.trod enc P W 0 (fun _ => true) true n' e [c1] = some _ := f1
    obtain ⟨a, rfl, w0⟩ := fld_int he g0
    obtain ⟨b, rfl, w1⟩ := fld_int he g1
    have b0 := bounds_u8 w0
    have b1 := bounds_u8 w1
    refine ⟨UInt8.ofNat a.toNat, UInt8.ofNat b.toNat, ?_⟩
    have e0 : ((UInt8.ofNat a.toNat).toNat : Int) = a := by simp; omega
    have e1 : ((UInt8.ofNat b.toNat).toNat : Int) = b := by simp; omega
    rw [e0, e1]
end Go.Proofs.YtdfhdnnkpeodhaaDoor
