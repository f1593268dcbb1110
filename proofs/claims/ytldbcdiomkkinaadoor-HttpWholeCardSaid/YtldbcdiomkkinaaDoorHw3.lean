/- HttpWhole: what was read, appended to a row of the call's own. -/
import Derived.Test.YtldbcdiomkkinaaDoorHty
import Derived.Test.YtldbcdiomkkinaaDoorHw2
import Derived.ArgAppend
namespace Go.Proofs.YtldbcdiomkkinaaDoor
open Go.RowKit

/-- What was read, in a row of the call's own, made of an empty one. -/
def GotAt (W : World) (base : Nat) (v : Value) (pds : List Pd) : Prop :=
  ∃ vs : List (Value × Value), vs.length = pds.length ∧ W.ownsRow base 33 7 v pds.length (cellsPds pds vs) ∧ (∀ (i : Nat) (p : Pd) (x : Value × Value), pds[i]? = some p → vs[i]? = some x → FsAt W x.1 p.req.fields ∧ BoAt W x.2 p.req.body) ∧ (pds = [] → ∃ g, v = .slice (some ⟨g, 0, none⟩) 0 0)
theorem GotAt.block {W : World} {base : Nat} {v : Value} {pds : List Pd} (h : GotAt W base v pds) :
    v.ownBlock = none ∨ ∃ g cs, v.ownBlock = some g ∧ base ≤ g ∧ W.heap[g]? = some (.cells cs 33 (0, 0)) ∧ NoU8 cs := by
  obtain ⟨vs, hl, h, -, hz⟩ := h
  rcases h.2 with ⟨rfl, _⟩ | ⟨g, cap, cur, rfl, hg, hh, hc, hm, hs, ht⟩
  · exact .inl rfl
  · refine .inr ⟨g, cur, rfl, hg, hh, ?_⟩
    rcases pds with _ | ⟨p, r⟩
    · obtain ⟨g', e⟩ := hz rfl
      cases e
      have hcur : cur.size = 0 := by simpa using hs
      intro y hy
      have := (Array.getElem?_eq_some_iff.1 hy).1
      omega
    · rcases vs with _ | ⟨x, vr⟩
      · simp at hl
      · intro y hy
        have h0 : (cur.toList.take ((p :: r).length * 7))[0]? = some (.int .i64 p.status) := by rw [ht]; rfl
        rw [List.getElem?_take, if_pos (by simp), Array.getElem?_toList, hy] at h0
        cases h0
theorem GotAt.grow {W W' : World} {base : Nat} {v : Value} {pds : List Pd} (h : GotAt W base v pds) (g : W.grownBy W' none) : GotAt W' base v pds := by
  obtain ⟨vs, h1, h2, h3, h4⟩ := h
  exact ⟨vs, h1, row_none h2 g, fun i p x hp hx => ⟨(h3 i p x hp hx).1.grow g, (h3 i p x hp hx).2.grow g⟩, h4⟩
theorem GotAt.kept_ps {W W' : World} {base k : Nat} {v : Value} {pds : List Pd} {s2 : Ps} (h : GotAt W base v pds) (g : W.grownBy W' (some k)) (hk : PAt W k s2) : GotAt W' base v pds := by
  obtain ⟨cs, hcs, hu⟩ := hk.blk
  obtain ⟨vs, x1, x2, x3, x4⟩ := h
  exact ⟨vs, x1, row_ty x2 g hcs (by decide), fun i p x hp hx => ⟨(x3 i p x hp hx).1.kept g hcs (by decide), (x3 i p x hp hx).2.kept g hcs (by decide) hu⟩, x4⟩
/-- What lies elsewhere is kept where the row is written. -/
theorem FsAt.got {W W' : World} {base : Nat} {v fv : Value} {pds : List Pd} {fs : List (List UInt8 × List UInt8)} (h : FsAt W fv fs) (hp : GotAt W base v pds) (g : W.grownBy W' v.ownBlock) : FsAt W' fv fs := by
  rcases hp.block with e | ⟨k, cs, e, hk, hh, hu⟩
  · rw [e] at g; exact h.grow g
  · rw [e] at g; exact h.kept g hh (by decide)
theorem BoAt.got {W W' : World} {base : Nat} {v bv : Value} {pds : List Pd} {l : List UInt8} (h : BoAt W bv l) (hp : GotAt W base v pds) (g : W.grownBy W' v.ownBlock) : BoAt W' bv l := by
  rcases hp.block with e | ⟨k, cs, e, hk, hh, hu⟩
  · rw [e] at g; exact h.grow g
  · rw [e] at g; exact h.kept g hh (by decide) hu
theorem PAt.got {W W' : World} {base b : Nat} {v : Value} {pds : List Pd} {s : Ps} (h : PAt W b s) (hp : GotAt W base v pds) (g : W.grownBy W' v.ownBlock) : PAt W' b s := by
  rcases hp.block with e | ⟨k, cs, e, hk, hh, hu⟩
  · rw [e] at g; exact h.grow g
  · rw [e] at g; exact h.kept g hh (by decide) (by decide) (by decide) hu
/-- Another row, which lies below, is kept. -/
theorem PdsAt.got {W W' : World} {base base2 : Nat} {v v2 : Value} {pds pds2 : List Pd} (h : PdsAt W base2 v2 pds2) (hp : GotAt W base v pds) (g : W.grownBy W' v.ownBlock) (hb : ∀ k, v2.ownBlock = some k → v.ownBlock ≠ some k) : PdsAt W' base2 v2 pds2 := by
  obtain ⟨vs, x1, x2, x3, x4⟩ := h
  refine ⟨vs, x1, x2.kept g ?_, fun i p x hp' hx => ⟨(x3 i p x hp' hx).1.got hp g, (x3 i p x hp' hx).2.got hp g⟩, x4⟩
  rcases hp.block with e | ⟨k, cs, e, hk, hh, hu⟩
  · rw [e]
    rcases hv : v2.ownBlock with _ | k2
    · exact .inl rfl
    · exact .inr (by simp)
  · rcases hv : v2.ownBlock with _ | k2
    · exact .inl rfl
    · exact .inr fun e2 => hb k2 hv e2.symm
theorem cellsPds_mem {pds : List Pd} {vs : List (Value × Value)} {u : Value} (h : u ∈ cellsPds pds vs) : ∃ (i : Nat) (p : Pd) (x : Value × Value), pds[i]? = some p ∧ vs[i]? = some x ∧ u ∈ cellsPd p x := by
  unfold cellsPds at h
  obtain ⟨q, hq, hu⟩ := List.mem_flatMap.1 h
  obtain ⟨i, hi⟩ := List.mem_iff_getElem?.1 hq
  obtain ⟨h1, h2⟩ := List.getElem?_zip_eq_some.1 hi
  exact ⟨i, q.1, q.2, h1, h2, hu⟩
theorem cellsPds_append {a b : List Pd} {va vb : List (Value × Value)} (h : va.length = a.length) : cellsPds (a ++ b) (va ++ vb) = cellsPds a va ++ cellsPds b vb := by
  unfold cellsPds
  rw [List.zip_append h.symm, List.flatMap_append]
theorem run_appPd {w : World} {base base2 : Nat} {ty : TypeId} {v vx : Value} {xs l : List Pd} (hown : GotAt w base v xs) (hb : PdsAt w base2 vx l) (hlen : xs.length + l.length ≤ 1000000) (hbase : base ≤ w.heap.size) :
    ∃ v' w', (Builtin.append_ #[26, 26] ty #[v, vx]).run Tryd.prog w = .ok v' w' ∧ GotAt w' base v' (xs ++ l) ∧ w.grownBy w' v.ownBlock ∧ ∀ k, v'.ownBlock = some k → v.ownBlock = some k ∨ w.heap.size ≤ k := by
  obtain ⟨i, hi, hz, hs, hby⟩ := info_parts infoParsed
  have hm : xs.length + l.length ≤ maxLen := by unfold maxLen; omega
  have hgot := hown
  obtain ⟨vs, hl, ho, ha, hz0⟩ := hown
  obtain ⟨vs2, hl2, ho2, ha2, hz2⟩ := hb
  rcases ho2.2 with ⟨rfl, h0⟩ | ⟨g2, cap2, cur2, rfl, hg2, hh2, hc2, hm2, hs2, ht2⟩
  · have h0 : l = [] := List.eq_nil_of_length_eq_zero h0
    subst h0
    refine ⟨v, w, ?_, by simpa using hgot, gr_refl _ _, fun k hk => .inl hk⟩
    rcases ho.2 with ⟨rfl, _⟩ | ⟨g, cap, cur, rfl, _, _, hnc, _⟩
    · simp [Builtin.append_, run_underlying Tryd.underlying26, sizeOf, typeInfo, hi, Builtin.lenOf, Builtin.firstCells]
    · simp [Builtin.append_, run_underlying Tryd.underlying26, sizeOf, typeInfo, hi, Builtin.lenOf, Builtin.firstCells, hnc, storeCells]
  · have hl0 : l ≠ [] := fun e => by have := hz2 e; cases this
    have hnews : ∀ j u, (cellsPds l vs2)[j]? = some u → w.cell? ((⟨g2, 0, none⟩ : Addr).add j) = some u := fun j u hu => by
      rw [Go.WideShapes.add_plain, Nat.zero_add, cell_of_block hh2, ← Array.getElem?_toList]
      have hj : j < l.length * 7 := by rw [← ho2.1]; exact (List.getElem?_eq_some_iff.1 hu).1
      rw [← ht2, List.getElem?_take, if_pos hj] at hu
      exact hu
    have hone : ∀ u ∈ cellsPds l vs2, u.oneCell' = true := fun u hu => by
      obtain ⟨k, p, x, hp, hx, hu⟩ := cellsPds_mem hu
      obtain ⟨f1, b1⟩ := ha2 k p x hp hx
      obtain ⟨fa, fc, ef⟩ := f1.shape
      obtain ⟨ba, bc, eb, -, -⟩ := b1.shape
      obtain ⟨x1, x2⟩ := x
      dsimp only at ef eb
      subst ef eb
      exact pd_one p _ _ _ _ _ _ u hu
    obtain ⟨v', w', hrun, h4, h5, -⟩ := run_append_own (P := Tryd.prog) w base 26 ty 33 i _ 7 104 Tryd.underlying26 hi hz hs hby rfl (by decide) v xs.length _ ho ⟨g2, 0, none⟩ l.length cap2 (cellsPds l vs2) ho2.1 hnews hone hm (by omega) hbase
    have hkey : ∀ k, v'.ownBlock = some k → v.ownBlock = some k ∨ w.heap.size ≤ k := by
      rcases ho.2 with ⟨rfl, h0⟩ | ⟨g, cap, cur, rfl, hg, hh, hnc, hcm, hcs, ht⟩
      · obtain ⟨g, e⟩ := hz0 (List.eq_nil_of_length_eq_zero h0)
        cases e
      · by_cases hroom : xs.length + l.length ≤ cap
        · have hr := run_append_room (P := Tryd.prog) w 26 ty 33 i Tryd.underlying26 hi g xs.length cap cur hh ⟨g2, 0, none⟩ l.length cap2 (cellsPds l vs2) (by rw [hs]; exact ho2.1) hnews hone hroom (by rw [hs, ho2.1, hcs, ← Nat.add_mul]; exact Nat.mul_le_mul_right _ hroom)
          rw [hrun] at hr
          injection hr with e1 e2
          intro k hk
          rw [e1] at hk
          exact .inl hk
        · obtain ⟨v3, w3, hr, ho3, -⟩ := run_append_arg_grows (P := Tryd.prog) w 26 ty 33 i _ 7 104 Tryd.underlying26 hi hz hs hby rfl (by decide) ⟨g, 0, none⟩ xs.length cap (cellsPds xs vs) ho.1 (ho.cells rfl) ⟨g2, 0, none⟩ l.length cap2 (cellsPds l vs2) ho2.1 hnews (by omega) hm (by omega)
          rw [hrun] at hr
          injection hr with e1 e2
          intro k hk
          rw [e1] at hk
          exact .inr (ho3.lt k hk).1
    refine ⟨v', w', hrun, ⟨vs ++ vs2, by simp [hl, hl2], by rw [cellsPds_append hl, List.length_append]; exact h4, fun k p x hp hx => ?_, fun e => absurd (List.append_eq_nil_iff.1 e).2 hl0⟩, h5, hkey⟩
    by_cases hk : k < xs.length
    · rw [List.getElem?_append_left hk] at hp
      rw [List.getElem?_append_left (by omega)] at hx
      exact ⟨(ha k p x hp hx).1.got hgot h5, (ha k p x hp hx).2.got hgot h5⟩
    · rw [List.getElem?_append_right (by omega)] at hp
      rw [List.getElem?_append_right (by omega), hl] at hx
      exact ⟨(ha2 _ p x hp hx).1.got hgot h5, (ha2 _ p x hp hx).2.got hgot h5⟩
theorem wpl_appPd {ops : Array Oper} {rest : List Oper} {o : Oper} {a : Act} {w : World} {Q : Exit → Act → World → Prop} (hgd : o.guard = none) (s x : Operand)
    (ho : o.op = .call { callee := .builtin .append, args := #[s, x], argTypes := #[26, 26] })
    {base base2 : Nat} {v vx : Value} {xs l : List Pd} (hs : a.eval s = v) (hx : a.eval x = vx) (hown : GotAt w base v xs) (hb : PdsAt w base2 vx l) (hlen : xs.length + l.length ≤ 1000000) (hbase : base ≤ w.heap.size)
    (h : ∀ v' w', GotAt w' base v' (xs ++ l) → w.grownBy w' v.ownBlock → (∀ k, v'.ownBlock = some k → v.ownBlock = some k ∨ w.heap.size ≤ k) → wpList Tryd.prog ops Q rest (a.put o.dst v') w') : wpList Tryd.prog ops Q (o :: rest) a w :=
  wpList_plain hgd fun K hK => by
    obtain ⟨v', w', hrun, h2, h3, h4⟩ := run_appPd (ty := o.type) hown hb hlen hbase
    unfold Oper.wp execOp
    simp only [ho, resolve, invoke, builtin, Sem.run_bind, Sem.run_pure, Result.andThen_ok, List.map_toArray, List.map_cons, List.map_nil, hs, hx, hrun]
    exact hK _ _ (h v' w' h2 h3 h4)
/-- One of what was read, in its cells. -/
theorem GotAt.get {W : World} {base : Nat} {v : Value} {pds : List Pd} (h : GotAt W base v pds) {i : Nat} {p : Pd} (hi : pds[i]? = some p) :
    ∃ g cap fv bv, v = .slice (some ⟨g, 0, none⟩) pds.length cap ∧ base ≤ g ∧ (pds.length ≤ cap ∧ pds.length ≤ maxLen) ∧ (∀ j u, (cellsPd p (fv, bv))[j]? = some u → W.cell? ⟨g, i * 7 + j, none⟩ = some u) ∧ FsAt W fv p.req.fields ∧ BoAt W bv p.req.body := by
  obtain ⟨vs, hl, ho, ha, hz⟩ := h
  have hlt := (List.getElem?_eq_some_iff.1 hi).1
  exact PdsAt.get (W := W) (base := base) (v := v) (pds := pds) ⟨vs, hl, ho, ha, fun e => by rw [e] at hlt; simp at hlt⟩ hi
theorem GotAt.old {W : World} {base : Nat} {v : Value} {pds : List Pd} (h : GotAt W base v pds) : ∀ k, v.ownBlock = some k → k < W.heap.size := by
  obtain ⟨vs, hl, ho, ha, hz⟩ := h
  exact fun k hk => (ho.lt k hk).2
theorem PdsAt.old {W : World} {base : Nat} {v : Value} {pds : List Pd} (h : PdsAt W base v pds) : ∀ k, v.ownBlock = some k → base ≤ k ∧ k < W.heap.size := by
  obtain ⟨vs, hl, ho, ha, hz⟩ := h
  exact ho.lt
theorem GotAt.shape {W : World} {base : Nat} {v : Value} {pds : List Pd} (h : GotAt W base v pds) : ∃ a c, v = .slice a pds.length c := by
  obtain ⟨vs, hl, ho, ha, hz⟩ := h
  obtain ⟨a, c, e, _⟩ := row_shape ho
  exact ⟨a, c, e⟩
end Go.Proofs.YtldbcdiomkkinaaDoor
