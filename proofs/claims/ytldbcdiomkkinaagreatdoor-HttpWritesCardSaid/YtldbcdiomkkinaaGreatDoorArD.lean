/- An argument that is an array of four texts; a slice of fields. -/
import Derived.Test.YtldbcdiomkkinaaGreatDoorArB
import Derived.Test.YtldbcdiomkkinaaGreatDoorHq7
import Derived.SizedLaws
namespace Go.Proofs.YtldbcdiomkkinaaGreatDoor
open Go.RowKit Go.Deep Go.ChangeShapes Go.WideShapes

theorem okWide_array {P : Program} {w : World} {r : Reach} {base : Nat} {t e : TypeId} {n : Nat} {v : Value} (ht : P.underlying t = some (.array n e)) (h : Value.okWide P w r base t v) : ∃ cs, v = .agg cs ∧ cs.size = P.cellsOf t := by
  unfold Value.okWide at h
  rw [ht] at h
  obtain ⟨cs, h1, h2, _⟩ := h
  exact ⟨cs, h1, h2⟩
theorem weights_all_mem {H : Type} {P : Program} {e : TypeId} : ∀ {l : List (DataW H)} {d : DataW H}, d ∈ l → ∀ n ∈ DataW.weights P e d, n ∈ DataW.weightsAll P e l
  | [], _, h, _, _ => by cases h
  | x :: l, d, h, n, hn => by
    unfold DataW.weightsAll
    rw [List.mem_append]
    rcases List.mem_cons.1 h with rfl | h
    · exact .inl hn
    · exact .inr (weights_all_mem h n hn)
section
variable {P : Program} {H : Type} {enc : TypeId × Value → H} {W : World}
theorem slice_len_le {s e : TypeId} {n : Nat} {a : Option Addr} {len cap : Nat} {y : DataW H × List MemPlace} (hs : P.underlying s = some (.slice e)) (hb : P.bytesOf e = 1)
    (g : DataW.trod enc P W 0 (fun _ => true) true n s [.slice a len cap] = some y) (hw : ∀ k ∈ DataW.weights P s y.1, k ≤ reachBytes) : len ≤ reachBytes := by
  rcases open_slice hs g with ⟨h0, _⟩ | ⟨x, l, c, m, n', D, Pl, hcs, -, hl, -, hmm, rfl, -⟩
  · simp at h0
    omega
  · simp at hcs
    obtain ⟨rfl, rfl, rfl⟩ := hcs
    unfold DataW.weights at hw
    rw [hs] at hw
    have := hw _ (List.mem_cons_self ..)
    simp [hb] at this
    omega
theorem four_texts {base : Nat} {t s e : TypeId} {v : Value} {d : DataW H} {p : List MemPlace} (ht : P.underlying t = some (.array 4 s)) (hs : P.underlying s = some (.slice e)) (he : P.underlying e = some (.int .u8))
    (h4 : P.cellsOf t = 4) (h1 : P.cellsOf s = 1) (he1 : P.cellsOf e = 1) (hb : P.bytesOf e = 1)
    (hval : Value.okWide P W .any base t v) (h : DataW.Trod enc P W 0 (fun _ => true) true t v d p) (hw : ∀ k ∈ DataW.weights P t d, k ≤ reachBytes) :
    ∃ (v0 v1 v2 v3 : Value) (l0 l1 l2 l3 : List UInt8), v = .agg #[v0, v1, v2, v3] ∧ Bytes W v0 l0 ∧ Bytes W v1 l1 ∧ Bytes W v2 l2 ∧ Bytes W v3 l3 ∧ NilOr v3 ∧ l0.length + l1.length ≤ 9223372036854775807 := by
  obtain ⟨cs, rfl, hsz⟩ := okWide_array ht hval
  obtain ⟨m, hm⟩ := h
  rw [h4] at hsz
  obtain ⟨l⟩ := cs
  match l, hsz with
  | [c0, c1, c2, c3], _ =>
    obtain ⟨ys, n', rfl, hx, -, hyl, hfld⟩ := DataW.trod_array ht hm
    have f0 := hfld 0 (by omega)
    have f1 := hfld 1 (by omega)
    have f2 := hfld 2 (by omega)
    have f3 := hfld 3 (by omega)
    rw [List.getElem?_eq_getElem (by omega), h1] at f0 f1 f2 f3
    have g0 : DataW.trod enc P W 0 (fun _ => true) true n' s [c0] = some _ := f0
    have g1 : DataW.trod enc P W 0 (fun _ => true) true n' s [c1] = some _ := f1
    have g2 : DataW.trod enc P W 0 (fun _ => true) true n' s [c2] = some _ := f2
    have g3 : DataW.trod enc P W 0 (fun _ => true) true n' s [c3] = some _ := f3
    obtain ⟨a0, n0, q0, rfl, t0⟩ := fld_slice hs g0
    obtain ⟨a1, n1, q1, rfl, t1⟩ := fld_slice hs g1
    obtain ⟨a2, n2, q2, rfl, t2⟩ := fld_slice hs g2
    obtain ⟨a3, n3, q3, rfl, t3⟩ := fld_slice hs g3
    obtain ⟨l0, e0, b0⟩ := bytes_of_trod hs he he1 t0
    obtain ⟨l1, e1, b1⟩ := bytes_of_trod hs he he1 t1
    obtain ⟨l2, e2, b2⟩ := bytes_of_trod hs he he1 t2
    obtain ⟨l3, e3, b3⟩ := bytes_of_trod hs he he1 t3
    have hd : d = .agg (ys.map (·.1)) := (Prod.mk.inj hx).1
    have hwy : ∀ i (hi : i < ys.length), ∀ k ∈ DataW.weights P s (ys[i]).1, k ≤ reachBytes := fun i hi k hk => by
      refine hw k ?_
      rw [hd]
      unfold DataW.weights
      rw [ht]
      exact weights_all_mem (List.mem_map_of_mem (List.getElem_mem hi)) k hk
    have w0 := slice_len_le hs hb g0 (hwy 0 (by omega))
    have w1 := slice_len_le hs hb g1 (hwy 1 (by omega))
    refine ⟨_, _, _, _, l0, l1, l2, l3, rfl, b0, b1, b2, b3, ?_, ?_⟩
    · rcases open_slice hs g3 with ⟨h0, _⟩ | ⟨x, l', c, _, _, _, _, hcs, _⟩
      · left; simpa using h0
      · right
        simp at hcs
        obtain ⟨rfl, rfl, rfl⟩ := hcs
        exact ⟨_, _, _, rfl⟩
    · unfold reachBytes at w0 w1
      omega
end
theorem pairs_at {H : Type} {enc : TypeId × Value → H} {W : World} {a : Option Addr} {len cap : Nat} {d : DataW H} {p : List MemPlace}
    (h : DataW.Trod enc Tryz.prog W 0 (fun _ => true) true 27 (.slice a len cap) d p) : len ≤ cap ∧ ∃ ns vs, PairsAt W a len ns vs := by
  rcases struct_slice Tryz.underlying27 Tryz.underlying26 (by kernel_rfl) (by kernel_rfl) h with ⟨_, h0, _⟩ | ⟨x, rfl, hl, hm, hc⟩
  · exact ⟨by omega, fun _ => ByteArray.empty, fun _ => ByteArray.empty, .inl h0⟩
  · refine ⟨hl, ?_⟩
    rcases Nat.eq_zero_or_pos len with h0 | hpos
    · exact ⟨fun _ => ByteArray.empty, fun _ => ByteArray.empty, .inl h0⟩
    have hone : ∀ i, ∃ o : ByteArray × ByteArray, i < len → (W.cell? (x.add (i * 2)) = some (.string o.1) ∧ W.cell? (x.add (i * 2 + 1)) = some (.string o.2)) := by
      intro i
      by_cases hi : i < len
      · obtain ⟨v0, _, _, _, c0, y0⟩ := hc i hi 0 _ rfl
        obtain ⟨v1, _, _, _, c1, y1⟩ := hc i hi 1 _ rfl
        obtain ⟨x0, rfl, _⟩ := fld_string Tryz.underlying9 y0
        obtain ⟨x1, rfl, _⟩ := fld_string Tryz.underlying9 y1
        exact ⟨(x0, x1), fun _ => ⟨c0, c1⟩⟩
      · exact ⟨(ByteArray.empty, ByteArray.empty), fun h => absurd h hi⟩
    obtain ⟨ops, hops⟩ := Classical.axiomOfChoice hone
    refine ⟨fun i => (ops i).1, fun i => (ops i).2, .inr ?_⟩
    obtain ⟨b, off, spot⟩ := x
    obtain rfl : spot = none := by simpa [Addr.add] using World.cell?_spot (hops 0 hpos).1
    refine ⟨b, off, rfl, fun i hi => ?_⟩
    obtain ⟨c0, c1⟩ := hops i hi
    simp only [Go.WideShapes.add_plain, ← Nat.add_assoc] at c0 c1
    exact ⟨c0, c1⟩
/-- A list of fields by its pairs. -/
theorem pairs_list {W : World} {a : Option Addr} {len : Nat} {ns vs : Nat → ByteArray} (h : PairsAt W a len ns vs) : ∃ fs : List (List UInt8 × List UInt8), fs.length = len ∧ PairsAt W a fs.length (fsN fs) (fsV fs) := by
  refine ⟨(List.range len).map fun i => ((ns i).data.toList, (vs i).data.toList), by simp, ?_⟩
  have hl : ((List.range len).map fun i => ((ns i).data.toList, (vs i).data.toList)).length = len := by simp
  rw [hl]
  rcases h with h | ⟨b, o, e, h⟩
  · exact .inl h
  · refine .inr ⟨b, o, e, fun i hi => ?_⟩
    have h2 := h i hi
    have hg : ((List.range len).map fun i => ((ns i).data.toList, (vs i).data.toList)).getD i ([], []) = ((ns i).data.toList, (vs i).data.toList) := by
      rw [List.getD_eq_getElem?_getD, List.getElem?_map, List.getElem?_range hi]
      rfl
    unfold fsN fsV
    rw [hg]
    exact ⟨h2.c0, h2.c1⟩
end Go.Proofs.YtldbcdiomkkinaaGreatDoor
