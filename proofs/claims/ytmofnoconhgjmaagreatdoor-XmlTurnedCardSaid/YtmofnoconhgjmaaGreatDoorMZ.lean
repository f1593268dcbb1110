/- Texts of one proof, put together: ArT, B2s. -/
import Derived.Test.YtmofnoconhgjmaaGreatDoorMA
import Derived.OpenShut
/- An argument that is an array of three bytes. -/
namespace Go.Proofs.YtmofnoconhgjmaaGreatDoor
open Go.RowKit Go.Deep Go.ChangeShapes Go.WideShapes

theorem okWide_arr3 {P : Program} {w : World} {r : Reach} {base : Nat} {t e : TypeId} {n : Nat} {v : Value} (ht : P.underlying t = some (.array n e)) (h : Value.okWide P w r base t v) : ∃ cs, v = .agg cs ∧ cs.size = P.cellsOf t := by
  unfold Value.okWide at h
  rw [ht] at h
  obtain ⟨cs, h1, h2, _⟩ := h
  exact ⟨cs, h1, h2⟩
theorem three_bytes {P : Program} {H : Type} {enc : TypeId × Value → H} {W : World} {base : Nat} {t e : TypeId} {v : Value} {d : DataW H} {p : List MemPlace} (ht : P.underlying t = some (.array 3 e)) (he : P.underlying e = some (.int .u8)) (h2 : P.cellsOf t = 3) (h1 : P.cellsOf e = 1)
    (hval : Value.okWide P W .any base t v) (h : DataW.Trod enc P W 0 (fun _ => true) true t v d p) : ∃ x y z : UInt8, v = .agg #[.int .u8 (x.toNat : Int), .int .u8 (y.toNat : Int), .int .u8 (z.toNat : Int)] := by
  obtain ⟨cs, rfl, hsz⟩ := okWide_arr3 ht hval
  obtain ⟨m, hm⟩ := h
  rw [h2] at hsz
  obtain ⟨l⟩ := cs
  match l, hsz with
  | [c0, c1, c2], _ =>
    obtain ⟨ys, n', rfl, -, -, hyl, hfld⟩ := DataW.trod_array ht hm
    have f0 := hfld 0 (by omega)
    have f1 := hfld 1 (by omega)
    have f2 := hfld 2 (by omega)
    rw [List.getElem?_eq_getElem (by omega), h1] at f0 f1 f2
    have g0 : DataW.trod enc P W 0 (fun _ => true) true n' e [c0] = some _ := f0
    have g1 : DataW.trod enc P W 0 (fun _ => true) true n' e [c1] = some _ := f1
    have g2 : DataW.trod enc P W 0 (fun _ => true) true n' e [c2] = some _ := f2
    obtain ⟨a, rfl, w0⟩ := fld_int he g0
    obtain ⟨b, rfl, w1⟩ := fld_int he g1
    obtain ⟨c, rfl, w2⟩ := fld_int he g2
    have b0 := bounds_u8 w0
    have b1 := bounds_u8 w1
    have b2 := bounds_u8 w2
    refine ⟨UInt8.ofNat a.toNat, UInt8.ofNat b.toNat, UInt8.ofNat c.toNat, ?_⟩
    have e0 : ((UInt8.ofNat a.toNat).toNat : Int) = a := by simp; omega
    have e1 : ((UInt8.ofNat b.toNat).toNat : Int) = b := by simp; omega
    have e2 : ((UInt8.ofNat c.toNat).toNat : Int) = c := by simp; omega
    rw [e0, e1, e2]
end Go.Proofs.YtmofnoconhgjmaaGreatDoor
/- 'string(b)', its run. -/
namespace Go.Proofs.YtmofnoconhgjmaaGreatDoor
open Go.RowKit

theorem run_b2s {P : Program} {w : World} {src dst e : TypeId} (hs : P.underlying src = some (.slice e)) (he : P.underlying e = some (.int .u8)) (hd : P.underlying dst = some .string)
    {v : Value} {l : List UInt8} (hb : Bytes w v l) : (convert src dst v).run P w = .ok (str l) w := by
  obtain ⟨ad, c, rfl, h1, h2, h3⟩ := hb
  rw [run_convert_bytes_string w src dst e _ _ _ hs he hd]
  rcases l with _ | ⟨x, l⟩
  · cases ad with
    | none => simp [Conv.bytesToString, str]; rfl
    | some ad =>
      have := run_bytesToString (P := P) w ad 0 c [] (by have := run_loadCells_list (P := P) w ad [] (by intro j v h; simp at h); simpa using this)
      exact this.trans rfl
  · obtain ⟨b, of, rfl, hc⟩ := h3 (by simp)
    have := run_bytesToString (P := P) w ⟨b, of, none⟩ (x :: l).length c ((x :: l).map (fun b => (b.toNat : Int))) (by
      have := run_loadCells_list (P := P) w ⟨b, of, none⟩ (((x :: l).map (fun b => (b.toNat : Int))).map (Value.int .u8)) (by
        intro j v hj
        simp only [List.getElem?_map, Option.map_eq_some_iff] at hj
        obtain ⟨n, ⟨y, hy, rfl⟩, rfl⟩ := hj
        have hjl : j < (x :: l).length := (List.getElem?_eq_some_iff.1 hy).1
        rw [Go.WideShapes.add_plain, hc j hjl, List.getD_eq_getElem?_getD, hy]
        rfl)
      simpa using this)
    rw [this, foldl_push_byteCells]
    simp [str]
end Go.Proofs.YtmofnoconhgjmaaGreatDoor
