/- An argument that is a configuration, whole. -/
import Derived.Test.YtnapfecalckajaaDoorArg
import Derived.Test.YtnapfecalckajaaDoorBytes
import Derived.Test.YtnapfecalckajaaDoorCk1
namespace Go.Proofs.YtnapfecalckajaaDoor
open Go.RowKit Go.Deep Go.ChangeShapes Go.WideShapes

theorem mac_first {H : Type} {enc : TypeId × Value → H} {P : Program} {W : World} {n : Nat} {t e : TypeId} {c0 c1 c2 c3 c4 c5 : Value} {y : DataW H × List MemPlace} (ht : P.underlying t = some (.array 6 e)) (he : P.underlying e = some (.int .u8)) (h1 : P.cellsOf e = 1)
    (h : DataW.trod enc P W 0 (fun _ => true) true n t [c0, c1, c2, c3, c4, c5] = some y) : ∃ m : Nat, c0 = .int .u8 (m : Int) ∧ m < 256 := by
  obtain ⟨ys, n', rfl, -, -, hyl, hfld⟩ := DataW.trod_array ht h
  have f0 := hfld 0 (by omega)
  rw [List.getElem?_eq_getElem (by omega), h1] at f0
  have g0 : DataW.trod enc P W 0 (fun _ => true) true n' e [c0] = some _ := f0
  obtain ⟨a, rfl, w0⟩ := fld_int he g0
  have b0 := bounds_u8 w0
  exact ⟨a.toNat, by rw [show ((a.toNat : Nat) : Int) = a by omega], by omega⟩
theorem fw_of {H : Type} {enc : TypeId × Value → H} {W : World} {a : Option Addr} {len cap : Nat} {d : DataW H} {p : List MemPlace}
    (h : DataW.Trod enc Tryd.prog W 0 (fun _ => true) true 26 (.slice a len cap) d p) : FwAt W a len := by
  rcases struct_slice Tryd.underlying26 Tryd.underlying69 (by kernel_rfl) (by kernel_rfl) h with ⟨_, h0, _⟩ | ⟨x, rfl, hl, hm, hi⟩
  · exact .inl h0
  · rcases Nat.eq_zero_or_pos len with h0 | hp
    · exact .inl h0
    · obtain ⟨b, o, spot⟩ := x
      obtain ⟨v0, _, _, _, hc0, _⟩ := hi 0 hp 0 _ rfl
      obtain rfl : spot = none := by simpa [Addr.add] using World.cell?_spot hc0
      refine .inr ⟨b, o, rfl, fun i hil => ?_⟩
      obtain ⟨u0, d0, p0, n0, e0, t0⟩ := hi i hil 0 _ rfl
      obtain ⟨u1, d1, p1, n1, e1, t1⟩ := hi i hil 1 _ rfl
      obtain ⟨u2, d2, p2, n2, e2, t2⟩ := hi i hil 2 _ rfl
      obtain ⟨u3, d3, p3, n3, e3, t3⟩ := hi i hil 3 _ rfl
      obtain ⟨x0, rfl, w0⟩ := fld_int Tryd.underlying5 t0
      obtain ⟨x1, rfl, w1⟩ := fld_int Tryd.underlying67 t1
      obtain ⟨x2, rfl, w2⟩ := fld_int Tryd.underlying67 t2
      obtain ⟨x3, rfl, w3⟩ := fld_int Tryd.underlying25 t3
      have b0 := bounds_u8 w0
      have b1 := bounds_u16 w1
      have b2 := bounds_u16 w2
      have b3 := bounds_u32 w3
      rw [Go.WideShapes.add_plain] at e0 e1 e2 e3
      refine ⟨x0.toNat, x1.toNat, x2.toNat, x3.toNat, ?_, ?_, ?_, ?_, by omega⟩
      · rw [show ((x0.toNat : Nat) : Int) = x0 by omega]; exact e0
      · rw [show ((x1.toNat : Nat) : Int) = x1 by omega]; exact e1
      · rw [show ((x2.toNat : Nat) : Int) = x2 by omega]; exact e2
      · rw [show ((x3.toNat : Nat) : Int) = x3 by omega]; exact e3
set_option maxRecDepth 100000 in
theorem config_all {H : Type} {enc : TypeId × Value → H} {W : World} {base : Nat} {v : Value} {d : DataW H} {p : List MemPlace} (hval : Value.okWide Tryd.prog W .any base 28 v)
    (h : DataW.Trod enc Tryd.prog W 0 (fun _ => true) true 28 v d p) : ∃ (cs : Array Value) (x : Cfv), v = .agg cs ∧ CfAll cs x ∧ FwAt W x.fa x.fl ∧ x.u.length ≤ 9223372036854775807 := by
  obtain ⟨cs, rfl, hsz⟩ := okWide_struct Tryd.underlying28 hval
  obtain ⟨m, hm⟩ := h
  have h28 : Tryd.prog.cellsOf 28 = 28 := by kernel_rfl
  rw [h28] at hsz
  obtain ⟨l⟩ := cs
  match l, hsz with
  | [c0, c1, c2, c3, c4, c5, c6, c7, c8, c9, c10, c11, c12, c13, c14, c15, c16, c17, c18, c19, c20, c21, c22, c23, c24, c25, c26, c27], _ =>
    obtain ⟨ys, n', rfl, -, -, hyl, hfld⟩ := DataW.trod_struct Tryd.underlying28 hm
    have hl : ys.length = 13 := hyl
    have f0 := hfld 0 _ rfl
    have f1 := hfld 1 _ rfl
    have f2 := hfld 2 _ rfl
    have f3 := hfld 3 _ rfl
    have f4 := hfld 4 _ rfl
    have f5 := hfld 5 _ rfl
    have f6 := hfld 6 _ rfl
    have f7 := hfld 7 _ rfl
    have f8 := hfld 8 _ rfl
    have f9 := hfld 9 _ rfl
    have f10 := hfld 10 _ rfl
    have f11 := hfld 11 _ rfl
    have f12 := hfld 12 _ rfl
    rw [List.getElem?_eq_getElem (by omega)] at f0 f1 f2 f3 f4 f5 f6 f7 f8 f9 f10 f11 f12
    have g0 : DataW.trod enc Tryd.prog W 0 (fun _ => true) true n' 23 [c0, c1, c2, c3, c4, c5] = some _ := f0
    have g1 : DataW.trod enc Tryd.prog W 0 (fun _ => true) true n' 23 [c6, c7, c8, c9, c10, c11] = some _ := f1
    have g2 : DataW.trod enc Tryd.prog W 0 (fun _ => true) true n' 23 [c12, c13, c14, c15, c16, c17] = some _ := f2
    have g3 : DataW.trod enc Tryd.prog W 0 (fun _ => true) true n' 25 [c18] = some _ := f3
    have g4 : DataW.trod enc Tryd.prog W 0 (fun _ => true) true n' 25 [c19] = some _ := f4
    have g5 : DataW.trod enc Tryd.prog W 0 (fun _ => true) true n' 3 [c20] = some _ := f5
    have g6 : DataW.trod enc Tryd.prog W 0 (fun _ => true) true n' 3 [c21] = some _ := f6
    have g7 : DataW.trod enc Tryd.prog W 0 (fun _ => true) true n' 3 [c22] = some _ := f7
    have g8 : DataW.trod enc Tryd.prog W 0 (fun _ => true) true n' 3 [c23] = some _ := f8
    have g9 : DataW.trod enc Tryd.prog W 0 (fun _ => true) true n' 3 [c24] = some _ := f9
    have g10 : DataW.trod enc Tryd.prog W 0 (fun _ => true) true n' 26 [c25] = some _ := f10
    have g11 : DataW.trod enc Tryd.prog W 0 (fun _ => true) true n' 25 [c26] = some _ := f11
    have g12 : DataW.trod enc Tryd.prog W 0 (fun _ => true) true n' 9 [c27] = some _ := f12
    obtain ⟨m0, rfl, b0⟩ := mac_first Tryd.underlying23 Tryd.underlying5 (by kernel_rfl) g0
    obtain ⟨m1, rfl, b1⟩ := mac_first Tryd.underlying23 Tryd.underlying5 (by kernel_rfl) g1
    obtain ⟨m2, rfl, b2⟩ := mac_first Tryd.underlying23 Tryd.underlying5 (by kernel_rfl) g2
    obtain ⟨n3, rfl, w3⟩ := fld_int Tryd.underlying25 g3
    have b3 := bounds_u32 w3
    obtain ⟨x3, rfl⟩ := Int.eq_ofNat_of_zero_le b3.1
    obtain ⟨n4, rfl, w4⟩ := fld_int Tryd.underlying25 g4
    have b4 := bounds_u32 w4
    obtain ⟨x4, rfl⟩ := Int.eq_ofNat_of_zero_le b4.1
    obtain ⟨n11, rfl, w11⟩ := fld_int Tryd.underlying25 g11
    have b11 := bounds_u32 w11
    obtain ⟨x11, rfl⟩ := Int.eq_ofNat_of_zero_le b11.1
    obtain ⟨x5, rfl, -⟩ := fld_int Tryd.underlying3 g5
    obtain ⟨x6, rfl, -⟩ := fld_int Tryd.underlying3 g6
    obtain ⟨x7, rfl, -⟩ := fld_int Tryd.underlying3 g7
    obtain ⟨x8, rfl, -⟩ := fld_int Tryd.underlying3 g8
    obtain ⟨x9, rfl, -⟩ := fld_int Tryd.underlying3 g9
    obtain ⟨a, len, cap, rfl, ht⟩ := fld_slice Tryd.underlying26 g10
    obtain ⟨u, rfl, hu⟩ := fld_string Tryd.underlying9 g12
    unfold maxLen at hu
    refine ⟨_, ⟨m0, m1, m2, x3, x4, x11, x5, x6, x7, x8, x9, a, len, cap, u.data.toList⟩, rfl, ?_, fw_of ht, ?_⟩
    · exact { sz := rfl, c0 := rfl, c6 := rfl, c12 := rfl, c18 := rfl, c19 := rfl, c20 := rfl, c21 := rfl, c22 := rfl, c23 := rfl, c24 := rfl, c25 := rfl, c26 := rfl, c27 := rfl, h1 := b0, h2 := b1, h3 := b2, hl := by show x3 < 4294967296; omega, hw := by show x4 < 4294967296; omega, hd := by show x11 < 4294967296; omega }
    · show u.data.toList.length ≤ _
      rw [← Lib.size_eq]; omega
end Go.Proofs.YtnapfecalckajaaDoor
