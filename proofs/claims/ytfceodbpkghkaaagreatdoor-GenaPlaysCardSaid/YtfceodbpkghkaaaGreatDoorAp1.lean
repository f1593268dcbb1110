/- Appending to a row of bytes of the call's own, the source nil, empty or not. -/
import Derived.Test.YtfceodbpkghkaaaGreatDoorPairs
import Derived.Test.YtfceodbpkghkaaaGreatDoorOct1
import Derived.Laws.AppendOwn
import Derived.RegionTactic
namespace Go.Proofs.YtfceodbpkghkaaaGreatDoor
open Go.RowKit

/-- A row of bytes of the call's own. -/
def Own8 (w : World) (base : Nat) (v : Value) (l : List UInt8) : Prop := w.ownsRow base 5 1 v l.length (l.map bv)
theorem Own8.bytes {w : World} {base : Nat} {v : Value} {l : List UInt8} (h : Own8 w base v l) : Bytes w v l := bytes_of_own h
theorem Own8.keep {w w' : World} {base : Nat} {v : Value} {l : List UInt8} (h : Own8 w base v l) (g : w.grownBy w' none) : Own8 w' base v l := by
  refine ⟨h.1, ?_⟩
  rcases h.2 with h0 | ⟨b, cap, cur, rfl, hb, hh, r⟩
  · exact .inl h0
  · exact .inr ⟨b, cap, cur, rfl, hb, gr_keep g hh (by simp), r⟩
theorem Own8.base {w : World} {base base' : Nat} {v : Value} {l : List UInt8} (h : Own8 w base v l) (hb : base' ≤ base) : Own8 w base' v l := by
  refine ⟨h.1, ?_⟩
  rcases h.2 with h0 | ⟨b, cap, cur, rfl, hb, hh, r⟩
  · exact .inl h0
  · exact .inr ⟨b, cap, cur, rfl, by omega, hh, r⟩
theorem own8_of {w : World} {base g n : Nat} {cs : Array Value} {l : List UInt8} (h : w.heap[g]? = some (.cells cs 5 (0, 0))) (hb : base ≤ g) (hl : l.length = n) (hc : cs.toList = l.map bv) (hm : n ≤ maxLen) : Own8 w base (.slice (some ⟨g, 0, none⟩) n n) l := by
  subst hl
  refine ⟨by simp, .inr ⟨g, l.length, cs, rfl, hb, h, Nat.le_refl _, hm, ?_, ?_⟩⟩
  · rw [← Array.length_toList, hc]; simp
  · rw [hc, List.take_of_length_le (by simp)]
theorem infoU8' : (Tryz.prog.info? 5).map (fun i => (i.zero, i.size, i.bytes)) = some (some (.int .u8 0), 1, 1) := by kernel_rfl
theorem bv_one (l : List UInt8) : ∀ u ∈ l.map bv, u.oneCell' = true := fun u hu => by
  obtain ⟨x, _, rfl⟩ := List.mem_map.1 hu; rfl
theorem run_app8 {w : World} {base : Nat} {ty : TypeId} {v vx : Value} {xs l : List UInt8} (hown : Own8 w base v xs) (hb : Bytes w vx l) (hlen : xs.length + l.length ≤ 1000000) (hbase : base ≤ w.heap.size) :
    ∃ v' w', (Builtin.append_ #[37, 37] ty #[v, vx]).run Tryz.prog w = .ok v' w' ∧ Own8 w' base v' (xs ++ l) ∧ w.grownBy w' v.ownBlock := by
  obtain ⟨i, hi, hz, hs, hby⟩ := info_parts infoU8'
  obtain ⟨a, c, rfl, h1, h2, h3⟩ := hb
  have hm : xs.length + l.length ≤ maxLen := by unfold maxLen; omega
  cases a with
  | none =>
    have h0 : l = [] := by
      cases l with
      | nil => rfl
      | cons x l => obtain ⟨b, o, e, _⟩ := h3 (by simp); cases e
    subst h0
    refine ⟨v, w, ?_, by simpa using hown, gr_refl _ _⟩
    rcases hown.2 with ⟨rfl, _⟩ | ⟨g, cap, cur, rfl, _, _, hnc, _⟩
    · simp [Builtin.append_, run_underlying Tryz.underlying37, sizeOf, typeInfo, hi, Builtin.lenOf, Builtin.firstCells]
    · simp [Builtin.append_, run_underlying Tryz.underlying37, sizeOf, typeInfo, hi, Builtin.lenOf, Builtin.firstCells, hnc, storeCells]
  | some ad =>
    obtain ⟨v', w', hrun, h4, h5, -⟩ := run_append_own (P := Tryz.prog) w base 37 ty 5 i _ 1 1 Tryz.underlying37 hi hz hs hby rfl (by decide) v xs.length _ hown ad l.length c (l.map bv) (by simp) (fun j u hu => by
      have hj : j < l.length := by have := (List.getElem?_eq_some_iff.1 hu).1; simpa using this
      obtain ⟨b, o, e, hc⟩ := h3 (by intro e; rw [e] at hj; simp at hj)
      obtain rfl : ad = ⟨b, o, none⟩ := by simpa using e
      rw [Go.WideShapes.add_plain, hc j hj, ← hu, List.getElem?_map, List.getElem?_eq_getElem hj, List.getD_eq_getElem?_getD, List.getElem?_eq_getElem hj]; rfl) (bv_one l) hm (by omega) hbase
    refine ⟨v', w', hrun, ?_, h5⟩
    unfold Own8
    rw [List.length_append, List.map_append]
    exact h4
theorem wp_app8 {o : Oper} {a : Act} {w : World} {K : Act → World → Prop} {Q : Exit → Act → World → Prop} (s x : Operand)
    (ho : o.op = .call { callee := .builtin .append, args := #[s, x], argTypes := #[37, 37] })
    {base : Nat} {v vx : Value} {xs l : List UInt8} (hs : a.eval s = v) (hx : a.eval x = vx) (hown : Own8 w base v xs) (hb : Bytes w vx l) (hlen : xs.length + l.length ≤ 1000000) (hbase : base ≤ w.heap.size)
    (h : ∀ v' w', Own8 w' base v' (xs ++ l) → w.grownBy w' v.ownBlock → K (a.put o.dst v') w') : o.wp Tryz.prog a w K Q := by
  obtain ⟨v', w', hrun, h2, h3⟩ := run_app8 (ty := o.type) hown hb hlen hbase
  unfold Oper.wp execOp
  simp only [ho, resolve, invoke, builtin, Sem.run_bind, Sem.run_pure, Result.andThen_ok, List.map_toArray, List.map_cons, List.map_nil, hs, hx, hrun]
  exact h v' w' h2 h3
theorem wpl_app8 {ops : Array Oper} {rest : List Oper} {o : Oper} {a : Act} {w : World} {Q : Exit → Act → World → Prop} (hgd : o.guard = none) (s x : Operand)
    (ho : o.op = .call { callee := .builtin .append, args := #[s, x], argTypes := #[37, 37] })
    {base : Nat} {v vx : Value} {xs l : List UInt8} (hs : a.eval s = v) (hx : a.eval x = vx) (hown : Own8 w base v xs) (hb : Bytes w vx l) (hlen : xs.length + l.length ≤ 1000000) (hbase : base ≤ w.heap.size)
    (h : ∀ v' w', Own8 w' base v' (xs ++ l) → w.grownBy w' v.ownBlock → wpList Tryz.prog ops Q rest (a.put o.dst v') w') : wpList Tryz.prog ops Q (o :: rest) a w :=
  wpList_plain hgd fun _ hK => wp_app8 s x ho hs hx hown hb hlen hbase fun v' w' h2 h3 => hK _ _ (h v' w' h2 h3)
theorem step_app8 {ops : Array Oper} {o : Oper} {a : Act} {w : World} {K : Act → World → Prop} {Q : Exit → Act → World → Prop} {E : Prop} (hgd : o.guard = none) (s x : Operand)
    (ho : o.op = .call { callee := .builtin .append, args := #[s, x], argTypes := #[37, 37] })
    {base : Nat} {v vx : Value} {xs l : List UInt8} (hs : a.eval s = v) (hx : a.eval x = vx) (hown : Own8 w base v xs) (hb : Bytes w vx l) (hlen : xs.length + l.length ≤ 1000000) (hbase : base ≤ w.heap.size)
    (h : ∀ v' w', Own8 w' base v' (xs ++ l) → w.grownBy w' v.ownBlock → K (a.put o.dst v') w') : if Region.wanted o (yielded ops a.tmps) = true then Oper.wp Tryz.prog o a w K Q else E := by
  have hw : Region.wanted o (yielded ops a.tmps) = true := by simp [Region.wanted, hgd]
  rw [if_pos hw]
  exact wp_app8 s x ho hs hx hown hb hlen hbase h
end Go.Proofs.YtfceodbpkghkaaaGreatDoor
