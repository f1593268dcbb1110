/- An argument that is a configuration. -/
import Derived.Test.YtnapfecalckajaaDoorArB
import Derived.Test.YtnapfecalckajaaDoorSs3
namespace Go.Proofs.YtnapfecalckajaaDoor
open Go.RowKit Go.Deep Go.ChangeShapes Go.WideShapes

set_option maxRecDepth 100000 in
theorem config_of {H : Type} {enc : TypeId × Value → H} {W : World} {base : Nat} {v : Value} {d : DataW H} {p : List MemPlace} (hval : Value.okWide Tryd.prog W .any base 28 v)
    (h : DataW.Trod enc Tryd.prog W 0 (fun _ => true) true 28 v d p) : ∃ (cs : Array Value) (lan : Nat) (u : List UInt8) (a : Option Addr) (fl fc : Nat), v = .agg cs ∧ CfOk cs lan u ∧ cs[25]? = some (.slice a fl fc) := by
  obtain ⟨cs, rfl, hsz⟩ := okWide_struct Tryd.underlying28 hval
  obtain ⟨m, hm⟩ := h
  have h28 : Tryd.prog.cellsOf 28 = 28 := by kernel_rfl
  rw [h28] at hsz
  obtain ⟨l⟩ := cs
  match l, hsz with
  | [c0, c1, c2, c3, c4, c5, c6, c7, c8, c9, c10, c11, c12, c13, c14, c15, c16, c17, c18, c19, c20, c21, c22, c23, c24, c25, c26, c27], _ =>
    obtain ⟨ys, n', rfl, -, -, hyl, hfld⟩ := DataW.trod_struct Tryd.underlying28 hm
    have hl : ys.length = 13 := hyl
    have f3 := hfld 3 _ rfl
    have f10 := hfld 10 _ rfl
    have f12 := hfld 12 _ rfl
    rw [List.getElem?_eq_getElem (by omega)] at f3 f10 f12
    have g3 : DataW.trod enc Tryd.prog W 0 (fun _ => true) true n' 25 [c18] = some _ := f3
    have g10 : DataW.trod enc Tryd.prog W 0 (fun _ => true) true n' 26 [c25] = some _ := f10
    have g12 : DataW.trod enc Tryd.prog W 0 (fun _ => true) true n' 9 [c27] = some _ := f12
    obtain ⟨n3, rfl, w3⟩ := fld_int Tryd.underlying25 g3
    obtain ⟨a, len, cap, rfl, ht⟩ := fld_slice Tryd.underlying26 g10
    obtain ⟨u, rfl, hu⟩ := fld_string Tryd.underlying9 g12
    have b3 := bounds_u32 w3
    obtain ⟨x3, rfl⟩ := Int.eq_ofNat_of_zero_le b3.1
    exact ⟨_, x3, u.data.toList, a, len, cap, rfl, ⟨rfl, rfl, rfl, by omega⟩, rfl⟩
end Go.Proofs.YtnapfecalckajaaDoor
