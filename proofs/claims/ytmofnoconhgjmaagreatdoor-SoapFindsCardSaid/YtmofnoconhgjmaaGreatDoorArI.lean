/- An argument that is a call. -/
import Derived.Test.YtmofnoconhgjmaaGreatDoorMF
import Derived.Test.YtmofnoconhgjmaaGreatDoorMU
namespace Go.Proofs.YtmofnoconhgjmaaGreatDoor
open Go.RowKit Go.Deep Go.ChangeShapes Go.WideShapes
set_option linter.unusedVariables false
set_option linter.unusedSimpArgs false

section
variable {H : Type} {enc : TypeId × Value → H} {W : World}
theorem args_of_trod {n : Nat} {v : Value} {y : DataW H × List MemPlace} (h : DataW.trod enc Tryz.prog W 0 (fun _ => true) true n 44 [v] = some y) : ∃ l : Ar, ArgsC W v l ∧ l.length ≤ maxLen := by
  obtain ⟨a, len, cap, rfl, ht⟩ := fld_slice Tryz.underlying44 h
  rcases struct_slice Tryz.underlying44 Tryz.underlying46 (by kernel_rfl) (by kernel_rfl) ht with ⟨rfl, rfl, rfl⟩ | ⟨x, rfl, hl, hm, hc⟩
  · exact ⟨[], ⟨none, 0, rfl, Nat.le_refl _, by simp [maxLen], .inl rfl⟩, by simp [maxLen]⟩
  · have hone : ∀ i, ∃ o : ByteArray × ByteArray, i < len → (W.cell? (x.add (i * 2)) = some (.string o.1) ∧ W.cell? (x.add (i * 2 + 1)) = some (.string o.2)) := by
      intro i
      by_cases hi : i < len
      · obtain ⟨v0, _, _, _, c0, y0⟩ := hc i hi 0 _ rfl
        obtain ⟨v1, _, _, _, c1, y1⟩ := hc i hi 1 _ rfl
        obtain ⟨x0, rfl, _⟩ := fld_string Tryz.underlying9 y0
        obtain ⟨x1, rfl, _⟩ := fld_string Tryz.underlying9 y1
        exact ⟨(x0, x1), fun _ => ⟨c0, c1⟩⟩
      · exact ⟨(ByteArray.empty, ByteArray.empty), fun h => absurd h hi⟩
    obtain ⟨ops, hops⟩ := Classical.axiomOfChoice hone
    have hlen : ((List.range len).map fun i => ((ops i).1.data.toList, (ops i).2.data.toList)).length = len := by simp
    refine ⟨(List.range len).map fun i => ((ops i).1.data.toList, (ops i).2.data.toList), ⟨some x, cap, by rw [hlen], by rw [hlen]; exact hl, hm, ?_⟩, by rw [hlen]; omega⟩
    rw [hlen]
    rcases Nat.eq_zero_or_pos len with h0 | hpos
    · exact .inl h0
    obtain ⟨b, off, spot⟩ := x
    obtain rfl : spot = none := by simpa [Addr.add] using World.cell?_spot (hops 0 hpos).1
    refine .inr ⟨b, off, rfl, fun i hi => ?_⟩
    obtain ⟨c0, c1⟩ := hops i hi
    simp only [Go.WideShapes.add_plain, ← Nat.add_assoc] at c0 c1
    have hg : ((List.range len).map fun i => ((ops i).1.data.toList, (ops i).2.data.toList)).getD i ([], []) = ((ops i).1.data.toList, (ops i).2.data.toList) := by
      rw [List.getD_eq_getElem?_getD, List.getElem?_map, List.getElem?_range hi]
      rfl
    unfold aN aV
    rw [hg]
    exact ⟨by rw [c0, str_list], by rw [c1, str_list]⟩
set_option maxRecDepth 100000 in
/-- A call that came in. -/
theorem call_of_trod {v : Value} {d : DataW H} {p : List MemPlace} {base : Nat} (hval : Value.okWide Tryz.prog W .any base 59 v) (h : DataW.Trod enc Tryz.prog W 0 (fun _ => true) true 59 v d p) :
    ∃ (c : Ca) (va : Value), v = .agg #[.string ⟨c.1.toArray⟩, .string ⟨c.2.1.toArray⟩, va] ∧ ArgsC W va c.2.2 ∧ c.1.length ≤ maxLen ∧ c.2.1.length ≤ maxLen ∧ c.2.2.length ≤ maxLen := by
  obtain ⟨m, hm⟩ := h
  obtain ⟨cs, rfl, hsz⟩ := okWide_struct Tryz.underlying59 hval
  have hm' : DataW.trod enc Tryz.prog W 0 (fun _ => true) true m 59 cs.toList = some (d, p) := hm
  obtain ⟨m', rfl, hlen, hfld⟩ := struct_fields Tryz.underlying59 (by kernel_rfl) (by kernel_rfl) hm'
  obtain ⟨l⟩ := cs
  match l, hlen with
  | [c0, c1, c2], _ =>
    obtain ⟨v0, y0, e0, g0⟩ := hfld 0 _ rfl
    obtain ⟨v1, y1, e1, g1⟩ := hfld 1 _ rfl
    obtain ⟨v2, y2, e2, g2⟩ := hfld 2 _ rfl
    obtain rfl : c0 = v0 := Option.some.inj e0
    obtain rfl : c1 = v1 := Option.some.inj e1
    obtain rfl : c2 = v2 := Option.some.inj e2
    obtain ⟨x0, rfl, w0⟩ := fld_string Tryz.underlying9 g0
    obtain ⟨x1, rfl, w1⟩ := fld_string Tryz.underlying9 g1
    obtain ⟨xs, hxs, hl⟩ := args_of_trod g2
    refine ⟨(x0.data.toList, x1.data.toList, xs), c2, ?_, hxs, ?_, ?_, hl⟩
    · show Value.agg #[.string x0, .string x1, c2] = _
      rw [str_list, str_list]
    · show x0.data.toList.length ≤ _
      rw [← Lib.size_eq]
      exact w0
    · show x1.data.toList.length ≤ _
      rw [← Lib.size_eq]
      exact w1
end
end Go.Proofs.YtmofnoconhgjmaaGreatDoor
