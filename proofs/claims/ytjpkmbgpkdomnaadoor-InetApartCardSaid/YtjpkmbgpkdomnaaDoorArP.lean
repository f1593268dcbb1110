/- An argument that is a packet. -/
import Derived.Test.YtjpkmbgpkdomnaaDoorArB
import Derived.Test.YtjpkmbgpkdomnaaDoorWr1
namespace Go.Proofs.YtjpkmbgpkdomnaaDoor
open Go.RowKit Go.Deep Go.ChangeShapes Go.WideShapes

set_option maxRecDepth 100000 in
theorem packet_of {H : Type} {enc : TypeId × Value → H} {W : World} {base : Nat} {v : Value} {d : DataW H} {p : List MemPlace} (hval : Value.okWide Tryd.prog W .any base 48 v)
    (h : DataW.Trod enc Tryd.prog W 0 (fun _ => true) true 48 v d p) : ∃ (pk : Pk) (vb : Value), v = pk.val vb ∧ pk.Ok ∧ Bytes W vb pk.body := by
  obtain ⟨cs, rfl, hsz⟩ := okWide_struct Tryd.underlying48 hval
  obtain ⟨m, hm⟩ := h
  have h6 : Tryd.prog.cellsOf 48 = 6 := by kernel_rfl
  rw [h6] at hsz
  obtain ⟨l⟩ := cs
  match l, hsz with
  | [c0, c1, c2, c3, c4, c5], _ =>
    obtain ⟨ys, n', rfl, -, -, hyl, hfld⟩ := DataW.trod_struct Tryd.underlying48 hm
    have hl : ys.length = 6 := hyl
    have f0 := hfld 0 _ rfl
    have f1 := hfld 1 _ rfl
    have f2 := hfld 2 _ rfl
    have f3 := hfld 3 _ rfl
    have f4 := hfld 4 _ rfl
    have f5 := hfld 5 _ rfl
    rw [List.getElem?_eq_getElem (by omega)] at f0 f1 f2 f3 f4 f5
    have g0 : DataW.trod enc Tryd.prog W 0 (fun _ => true) true n' 5 [c0] = some _ := f0
    have g1 : DataW.trod enc Tryd.prog W 0 (fun _ => true) true n' 5 [c1] = some _ := f1
    have g2 : DataW.trod enc Tryd.prog W 0 (fun _ => true) true n' 46 [c2] = some _ := f2
    have g3 : DataW.trod enc Tryd.prog W 0 (fun _ => true) true n' 35 [c3] = some _ := f3
    have g4 : DataW.trod enc Tryd.prog W 0 (fun _ => true) true n' 35 [c4] = some _ := f4
    have g5 : DataW.trod enc Tryd.prog W 0 (fun _ => true) true n' 45 [c5] = some _ := f5
    obtain ⟨n0, rfl, w0⟩ := fld_int Tryd.underlying5 g0
    obtain ⟨n1, rfl, w1⟩ := fld_int Tryd.underlying5 g1
    obtain ⟨n2, rfl, w2⟩ := fld_int Tryd.underlying46 g2
    obtain ⟨n3, rfl, w3⟩ := fld_int Tryd.underlying35 g3
    obtain ⟨n4, rfl, w4⟩ := fld_int Tryd.underlying35 g4
    obtain ⟨a, len, cap, rfl, ht⟩ := fld_slice Tryd.underlying45 g5
    obtain ⟨l, hl5, hb⟩ := bytes_of_trod Tryd.underlying45 Tryd.underlying5 (by kernel_rfl) ht
    have b0 := bounds_u8 w0
    have b1 := bounds_u8 w1
    have b2 := bounds_u16 w2
    have b3 := bounds_u32 w3
    have b4 := bounds_u32 w4
    clear f0 f1 f2 f3 f4 f5 g0 g1 g2 g3 g4 g5 hfld hm w0 w1 w2 w3 w4
    obtain ⟨x0, rfl⟩ := Int.eq_ofNat_of_zero_le b0.1
    obtain ⟨x1, rfl⟩ := Int.eq_ofNat_of_zero_le b1.1
    obtain ⟨x2, rfl⟩ := Int.eq_ofNat_of_zero_le b2.1
    obtain ⟨x3, rfl⟩ := Int.eq_ofNat_of_zero_le b3.1
    obtain ⟨x4, rfl⟩ := Int.eq_ofNat_of_zero_le b4.1
    exact ⟨⟨x0, x1, x2, x3, x4, l⟩, .slice a len cap, rfl, ⟨by dsimp only; omega, by dsimp only; omega, by dsimp only; omega, by dsimp only; omega, by dsimp only; omega⟩, hb⟩
end Go.Proofs.YtjpkmbgpkdomnaaDoor
