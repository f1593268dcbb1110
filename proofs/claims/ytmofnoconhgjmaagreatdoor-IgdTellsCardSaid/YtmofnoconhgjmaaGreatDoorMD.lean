/- Texts of one proof, put together: ApM, ByA. -/
import Derived.Test.YtmofnoconhgjmaaGreatDoorRows
import Derived.Test.YtmofnoconhgjmaaGreatDoorMA
import Derived.OwnWalk
import Derived.ProofKit
import Derived.Laws.AppendOwn
import Derived.RegionTactic
/- (ApN for seats with Pairs.) Appending to a row of bytes of the call's own, the source nil, empty or not. -/
namespace Go.Proofs.YtmofnoconhgjmaaGreatDoor
open Go.RowKit

/-- A byte as a value. -/
def bv (b : UInt8) : Value := .int .u8 (b.toNat : Int)
/-- A row of bytes of the call's own. -/
def Own8 (w : World) (base : Nat) (v : Value) (l : List UInt8) : Prop := w.ownsRow base 5 1 v l.length (l.map bv)
theorem Own8.bytes {w : World} {base : Nat} {v : Value} {l : List UInt8} (h : Own8 w base v l) : Bytes w v l := bytes_of_own h
theorem Own8.keep {w w' : World} {base : Nat} {v : Value} {l : List UInt8} (h : Own8 w base v l) (g : w.grownBy w' none) : Own8 w' base v l := by
  refine ⟨h.1, ?_⟩
  rcases h.2 with h0 | ⟨b, cap, cur, rfl, hb, hh, r⟩
  · exact .inl h0
  · exact .inr ⟨b, cap, cur, rfl, hb, gr_keep g hh (by simp), r⟩
theorem Own8.base {w : World} {base base' : Nat} {v : Value} {l : List UInt8} (h : Own8 w base v l) (hb : base' ≤ base) : Own8 w base' v l := by
  refine ⟨h.1, ?_⟩
  rcases h.2 with h0 | ⟨b, cap, cur, rfl, hb, hh, r⟩
  · exact .inl h0
  · exact .inr ⟨b, cap, cur, rfl, by omega, hh, r⟩
theorem own8_of {w : World} {base g n : Nat} {cs : Array Value} {l : List UInt8} (h : w.heap[g]? = some (.cells cs 5 (0, 0))) (hb : base ≤ g) (hl : l.length = n) (hc : cs.toList = l.map bv) (hm : n ≤ maxLen) : Own8 w base (.slice (some ⟨g, 0, none⟩) n n) l := by
  subst hl
  refine ⟨by simp, .inr ⟨g, l.length, cs, rfl, hb, h, Nat.le_refl _, hm, ?_, ?_⟩⟩
  · rw [← Array.length_toList, hc]; simp
  · rw [hc, List.take_of_length_le (by simp)]
theorem infoU8' : (Tryz.prog.info? 5).map (fun i => (i.zero, i.size, i.bytes)) = some (some (.int .u8 0), 1, 1) := by kernel_rfl
theorem bv_one (l : List UInt8) : ∀ u ∈ l.map bv, u.oneCell' = true := fun u hu => by
  obtain ⟨x, _, rfl⟩ := List.mem_map.1 hu; rfl
theorem run_app8 {w : World} {base : Nat} {ty : TypeId} {v vx : Value} {xs l : List UInt8} (hown : Own8 w base v xs) (hb : Bytes w vx l) (hlen : xs.length + l.length ≤ 1000000) (hbase : base ≤ w.heap.size) :
    ∃ v' w', (Builtin.append_ #[30, 30] ty #[v, vx]).run Tryz.prog w = .ok v' w' ∧ Own8 w' base v' (xs ++ l) ∧ w.grownBy w' v.ownBlock := by
  obtain ⟨i, hi, hz, hs, hby⟩ := info_parts infoU8'
  obtain ⟨a, c, rfl, h1, h2, h3⟩ := hb
  have hm : xs.length + l.length ≤ maxLen := by unfold maxLen; omega
  cases a with
  | none =>
    have h0 : l = [] := by
      cases l with
      | nil => rfl
      | cons x l => obtain ⟨b, o, e, _⟩ := h3 (by simp); cases e
    subst h0
    refine ⟨v, w, ?_, by simpa using hown, gr_refl _ _⟩
    rcases hown.2 with ⟨rfl, _⟩ | ⟨g, cap, cur, rfl, _, _, hnc, _⟩
    · simp [Builtin.append_, run_underlying Tryz.underlying30, sizeOf, typeInfo, hi, Builtin.lenOf, Builtin.firstCells]
    · simp [Builtin.append_, run_underlying Tryz.underlying30, sizeOf, typeInfo, hi, Builtin.lenOf, Builtin.firstCells, hnc, storeCells]
  | some ad =>
    obtain ⟨v', w', hrun, h4, h5, -⟩ := run_append_own (P := Tryz.prog) w base 30 ty 5 i _ 1 1 Tryz.underlying30 hi hz hs hby rfl (by decide) v xs.length _ hown ad l.length c (l.map bv) (by simp) (fun j u hu => by
      have hj : j < l.length := by have := (List.getElem?_eq_some_iff.1 hu).1; simpa using this
      obtain ⟨b, o, e, hc⟩ := h3 (by intro e; rw [e] at hj; simp at hj)
      obtain rfl : ad = ⟨b, o, none⟩ := by simpa using e
      rw [Go.WideShapes.add_plain, hc j hj, ← hu, List.getElem?_map, List.getElem?_eq_getElem hj, List.getD_eq_getElem?_getD, List.getElem?_eq_getElem hj]; rfl) (bv_one l) hm (by omega) hbase
    refine ⟨v', w', hrun, ?_, h5⟩
    unfold Own8
    rw [List.length_append, List.map_append]
    exact h4
theorem wp_app8 {o : Oper} {a : Act} {w : World} {K : Act → World → Prop} {Q : Exit → Act → World → Prop} (s x : Operand)
    (ho : o.op = .call { callee := .builtin .append, args := #[s, x], argTypes := #[30, 30] })
    {base : Nat} {v vx : Value} {xs l : List UInt8} (hs : a.eval s = v) (hx : a.eval x = vx) (hown : Own8 w base v xs) (hb : Bytes w vx l) (hlen : xs.length + l.length ≤ 1000000) (hbase : base ≤ w.heap.size)
    (h : ∀ v' w', Own8 w' base v' (xs ++ l) → w.grownBy w' v.ownBlock → K (a.put o.dst v') w') : o.wp Tryz.prog a w K Q := by
  obtain ⟨v', w', hrun, h2, h3⟩ := run_app8 (ty := o.type) hown hb hlen hbase
  unfold Oper.wp execOp
  simp only [ho, resolve, invoke, builtin, Sem.run_bind, Sem.run_pure, Result.andThen_ok, List.map_toArray, List.map_cons, List.map_nil, hs, hx, hrun]
  exact h v' w' h2 h3
theorem wpl_app8 {ops : Array Oper} {rest : List Oper} {o : Oper} {a : Act} {w : World} {Q : Exit → Act → World → Prop} (hgd : o.guard = none) (s x : Operand)
    (ho : o.op = .call { callee := .builtin .append, args := #[s, x], argTypes := #[30, 30] })
    {base : Nat} {v vx : Value} {xs l : List UInt8} (hs : a.eval s = v) (hx : a.eval x = vx) (hown : Own8 w base v xs) (hb : Bytes w vx l) (hlen : xs.length + l.length ≤ 1000000) (hbase : base ≤ w.heap.size)
    (h : ∀ v' w', Own8 w' base v' (xs ++ l) → w.grownBy w' v.ownBlock → wpList Tryz.prog ops Q rest (a.put o.dst v') w') : wpList Tryz.prog ops Q (o :: rest) a w :=
  wpList_plain hgd fun _ hK => wp_app8 s x ho hs hx hown hb hlen hbase fun v' w' h2 h3 => hK _ _ (h v' w' h2 h3)
theorem step_app8 {ops : Array Oper} {o : Oper} {a : Act} {w : World} {K : Act → World → Prop} {Q : Exit → Act → World → Prop} {E : Prop} (hgd : o.guard = none) (s x : Operand)
    (ho : o.op = .call { callee := .builtin .append, args := #[s, x], argTypes := #[30, 30] })
    {base : Nat} {v vx : Value} {xs l : List UInt8} (hs : a.eval s = v) (hx : a.eval x = vx) (hown : Own8 w base v xs) (hb : Bytes w vx l) (hlen : xs.length + l.length ≤ 1000000) (hbase : base ≤ w.heap.size)
    (h : ∀ v' w', Own8 w' base v' (xs ++ l) → w.grownBy w' v.ownBlock → K (a.put o.dst v') w') : if Region.wanted o (yielded ops a.tmps) = true then Oper.wp Tryz.prog o a w K Q else E := by
  have hw : Region.wanted o (yielded ops a.tmps) = true := by simp [Region.wanted, hgd]
  rw [if_pos hw]
  exact wp_app8 s x ho hs hx hown hb hlen hbase h
end Go.Proofs.YtmofnoconhgjmaaGreatDoor
/- Slices of bytes whose block is a row of bytes: parts, what keeps them; rows of the call's own. It speaks of no program. -/
namespace Go.Proofs.YtmofnoconhgjmaaGreatDoor
open Go.RowKit

theorem Bytes.sub {w : World} {b o n c : Nat} {l : List UInt8} (h : Bytes w (.slice (some ⟨b, o, none⟩) n c) l) (k m : Nat) (hk : k + m ≤ n) : Bytes w (.slice (some ⟨b, o + k, none⟩) m m) ((l.drop k).take m) := by
  obtain ⟨h0, h1, h2, h3⟩ := h.at
  have hlen : ((l.drop k).take m).length = m := by simp; omega
  refine ⟨_, m, by rw [hlen], by omega, by omega, fun hne => ?_⟩
  have hm : 0 < m := by rw [← hlen]; exact List.length_pos_iff.2 hne
  obtain ⟨b', o', e, hc⟩ := h3 (by omega)
  simp only [Option.some.injEq, Addr.mk.injEq] at e
  obtain ⟨rfl, rfl, -⟩ := e
  refine ⟨b, o + k, rfl, fun i hi => ?_⟩
  rw [hlen] at hi
  rw [show o + k + i = o + (k + i) by omega, hc (k + i) (by omega)]
  have : ((l.drop k).take m).getD i 0 = l.getD (k + i) 0 := by
    simp only [List.getD_eq_getElem?_getD]
    rw [List.getElem?_take_of_lt hi, List.getElem?_drop]
  rw [this]

/-- A slice of bytes whose block is a row of bytes. -/
def ByAt (W : World) (v : Value) (l : List UInt8) : Prop :=
  (v = .slice none 0 0 ∧ l = []) ∨ ∃ g off cap cs, v = .slice (some ⟨g, off, none⟩) l.length cap ∧ W.heap[g]? = some (.cells cs 5 (0, 0)) ∧ l.length ≤ cap ∧ cap ≤ maxLen ∧ (cs.toList.drop off).take l.length = l.map bv
theorem ByAt.bytes {W : World} {v : Value} {l : List UInt8} (h : ByAt W v l) : Bytes W v l := by
  rcases h with ⟨rfl, rfl⟩ | ⟨g, off, cap, cs, rfl, hh, h1, h2, h3⟩
  · exact Bytes.nil W
  · refine ⟨_, cap, rfl, h1, h2, fun _ => ⟨g, off, rfl, fun i hi => ?_⟩⟩
    have hx : cs.toList[off + i]? = some (.int .u8 ((l.getD i 0).toNat : Int)) := by
      have e : ((cs.toList.drop off).take l.length)[i]? = (l.map bv)[i]? := by rw [h3]
      rw [List.getElem?_take, if_pos hi, List.getElem?_drop] at e
      rw [e, List.getElem?_map, List.getElem?_eq_getElem hi, List.getD_eq_getElem?_getD, List.getElem?_eq_getElem hi]
      rfl
    simp only [World.cell?, hh]
    simpa using hx
theorem blk_ne {w : World} {g k : Nat} {cs cs' : Array Value} {T T' : TypeId} {r r' : Nat × Nat} (h : w.heap[g]? = some (.cells cs T r)) (h' : w.heap[k]? = some (.cells cs' T' r')) (hT : T ≠ T') : some g ≠ some k := by
  intro e
  obtain rfl := Option.some.inj e
  rw [h] at h'
  simp only [Option.some.injEq, Obj.cells.injEq] at h'
  exact hT h'.2.1
theorem ByAt.kept {W W' : World} {v : Value} {l : List UInt8} {k : Nat} {cs : Array Value} {T : TypeId} (h : ByAt W v l) (g : W.grownBy W' (some k)) (hk : W.heap[k]? = some (.cells cs T (0, 0))) (hT : 5 ≠ T) : ByAt W' v l := by
  rcases h with h0 | ⟨g0, off, cap, cs, rfl, hh, r⟩
  · exact .inl h0
  · exact .inr ⟨g0, off, cap, cs, rfl, gr_keep g hh (blk_ne hh hk hT), r⟩
theorem ByAt.grow {W W' : World} {v : Value} {l : List UInt8} (h : ByAt W v l) (g : W.grownBy W' none) : ByAt W' v l := by
  rcases h with h0 | ⟨g0, off, cap, cs, rfl, hh, r⟩
  · exact .inl h0
  · exact .inr ⟨g0, off, cap, cs, rfl, gr_keep g hh (by simp), r⟩
theorem Own8.byAt {w : World} {base : Nat} {v : Value} {l : List UInt8} (h : Own8 w base v l) : ByAt w v l := by
  have hl := h.1
  rcases h.2 with ⟨rfl, h0⟩ | ⟨g, cap, cur, rfl, hg, hh, hc, hm, hs, ht⟩
  · exact .inl ⟨rfl, List.eq_nil_of_length_eq_zero h0⟩
  · refine .inr ⟨g, 0, cap, cur, rfl, hh, hc, hm, ?_⟩
    rw [List.drop_zero, ← ht, Nat.mul_one]
theorem ByAt.drop {W : World} {g off n cap : Nat} {l : List UInt8} (h : ByAt W (.slice (some ⟨g, off, none⟩) n cap) l) (k : Nat) (hk : k ≤ n) : ByAt W (.slice (some ⟨g, off + k, none⟩) (n - k) (cap - k)) (l.drop k) := by
  rcases h with ⟨h0, _⟩ | ⟨g', off', cap', cs, e, hh, h1, h2, h3⟩
  · cases h0
  · simp only [Value.slice.injEq, Option.some.injEq, Addr.mk.injEq] at e
    obtain ⟨⟨rfl, rfl, -⟩, rfl, rfl⟩ := e
    refine .inr ⟨g, off + k, cap - k, cs, by rw [List.length_drop], hh, by rw [List.length_drop]; omega, by omega, ?_⟩
    rw [List.length_drop, List.map_drop, ← h3, List.drop_take, List.drop_drop, Nat.add_comm]

theorem ByAt.drop2 {W : World} {a : Option Addr} {n c : Nat} {l : List UInt8} (h : ByAt W (.slice a n c) l) (k : Nat) (hk : k ≤ n) : ByAt W (.slice (if c = k then a else a.map (fun x => x.add k)) (n - k) (c - k)) (l.drop k) := by
  rcases h with ⟨h0, rfl⟩ | ⟨g, off, cap, cs, e, hh, h1, h2, h3⟩
  · cases h0
    obtain rfl : k = 0 := by omega
    exact .inl ⟨rfl, rfl⟩
  · cases e
    by_cases hck : c = k
    · rw [if_pos hck]
      subst hck
      have hl : l.drop c = [] := List.drop_eq_nil_of_le h1
      rw [hl]
      exact .inr ⟨g, off, c - c, cs, by simp; omega, hh, by simp, by omega, by simp⟩
    · rw [if_neg hck]
      have := ByAt.drop (W := W) (.inr ⟨g, off, c, cs, rfl, hh, h1, h2, h3⟩) k hk
      rw [Option.map_some, Go.WideShapes.add_plain]
      exact this
theorem row_none {w w' : World} {base size n : Nat} {e : TypeId} {v : Value} {xs : List Value} (h : w.ownsRow base e size v n xs) (g : w.grownBy w' none) : w'.ownsRow base e size v n xs := h.kept g (by cases hv : v.ownBlock <;> simp)
theorem row_ty {w w' : World} {base size n k : Nat} {e T : TypeId} {v : Value} {xs : List Value} {cs : Array Value} (h : w.ownsRow base e size v n xs) (g : w.grownBy w' (some k)) (hk : w.heap[k]? = some (.cells cs T (0, 0))) (hT : e ≠ T) : w'.ownsRow base e size v n xs := by
  refine h.kept g ?_
  rcases h.2 with ⟨rfl, _⟩ | ⟨g', cap, cur, rfl, hb, hh, _⟩
  · exact .inl rfl
  · exact .inr (blk_ne hh hk hT)
theorem row_shape {w : World} {base size n : Nat} {e : TypeId} {v : Value} {xs : List Value} (h : w.ownsRow base e size v n xs) : ∃ a cap, v = .slice a n cap ∧ n ≤ cap := by
  rcases h.2 with ⟨rfl, rfl⟩ | ⟨g, cap, cur, rfl, hg, hh, hc, hm, hs, ht⟩
  · exact ⟨none, 0, rfl, Nat.le_refl _⟩
  · exact ⟨_, cap, rfl, hc⟩
theorem keep_own {w w1 : World} {base size n g : Nat} {e T : TypeId} {v : Value} {xs : List Value} {cs : Array Value} {r : Nat × Nat} (h : w.ownsRow base e size v n xs) (k : w.grownBy w1 v.ownBlock) (hx : w.heap[g]? = some (.cells cs T r)) (hT : T ≠ e) : w1.heap[g]? = some (.cells cs T r) := by
  refine gr_keep k hx ?_
  rcases h.2 with ⟨rfl, _⟩ | ⟨g', cap, cur, rfl, hb, hh, _⟩
  · simp [Value.ownBlock]
  · exact blk_ne hx hh hT
theorem ByAt.own {w w1 : World} {base size n : Nat} {e : TypeId} {v v2 : Value} {xs : List Value} {l : List UInt8} (h : w.ownsRow base e size v n xs) (k : w.grownBy w1 v.ownBlock) (hx : ByAt w v2 l) (hT : 5 ≠ e) : ByAt w1 v2 l := by
  rcases hx with h0 | ⟨g0, off, cap, cs, rfl, hh, r⟩
  · exact .inl h0
  · exact .inr ⟨g0, off, cap, cs, rfl, keep_own h k hh hT, r⟩
theorem gr_row {w w1 w2 : World} {base : Nat} {e : TypeId} {size : Nat} {v : Value} {n : Nat} {xs : List Value} {row : Option Nat} (hg : w.grownBy w1 row) (ho : w1.ownsRow base e size v n xs) (hb : w.heap.size ≤ base) (h : w1.grownBy w2 v.ownBlock) : w.grownBy w2 row := by
  rcases hv : v.ownBlock with _ | g
  · rw [hv] at h; exact gr_trans hg (gr_none h)
  · rw [hv] at h; exact gr_new hg h (by have := (ho.lt g hv).1; omega)
theorem own_base {w : World} {base base' size n : Nat} {e : TypeId} {v : Value} {xs : List Value} (h : w.ownsRow base e size v n xs) (hb : base' ≤ base) : w.ownsRow base' e size v n xs := by
  refine ⟨h.1, ?_⟩
  rcases h.2 with h0 | ⟨g, cap, cur, rfl, hg, r⟩
  · exact .inl h0
  · exact .inr ⟨g, cap, cur, rfl, by omega, r⟩
/-- 'string(b)', its run. -/
theorem run_b2s {P : Program} {w : World} {src dst e : TypeId} (hs : P.underlying src = some (.slice e)) (he : P.underlying e = some (.int .u8)) (hd : P.underlying dst = some .string)
    {v : Value} {l : List UInt8} (hb : Bytes w v l) : (convert src dst v).run P w = .ok (str l) w := by
  obtain ⟨ad, c, rfl, h1, h2, h3⟩ := hb
  rw [run_convert_bytes_string w src dst e _ _ _ hs he hd]
  rcases l with _ | ⟨x, l⟩
  · cases ad with
    | none => simp [Conv.bytesToString, str]; rfl
    | some ad =>
      have := run_bytesToString (P := P) w ad 0 c [] (by have := run_loadCells_list (P := P) w ad [] (by intro j v h; simp at h); simpa using this)
      exact this.trans rfl
  · obtain ⟨b, of, rfl, hc⟩ := h3 (by simp)
    have := run_bytesToString (P := P) w ⟨b, of, none⟩ (x :: l).length c ((x :: l).map (fun b => (b.toNat : Int))) (by
      have := run_loadCells_list (P := P) w ⟨b, of, none⟩ (((x :: l).map (fun b => (b.toNat : Int))).map (Value.int .u8)) (by
        intro j v hj
        simp only [List.getElem?_map, Option.map_eq_some_iff] at hj
        obtain ⟨n, ⟨y, hy, rfl⟩, rfl⟩ := hj
        have hjl : j < (x :: l).length := (List.getElem?_eq_some_iff.1 hy).1
        rw [Go.WideShapes.add_plain, hc j hjl, List.getD_eq_getElem?_getD, hy]
        rfl)
      simpa using this)
    rw [this, foldl_push_byteCells]
    simp [str]
theorem ByAt.part {W : World} {a : Option Addr} {n c : Nat} {l : List UInt8} (h : ByAt W (.slice a n c) l) (k : Nat) (hk : k ≤ n) : ByAt W (.slice a k c) (l.take k) := by
  rcases h with ⟨h0, rfl⟩ | ⟨g, off, cap, cs, e, hh, h1, h2, h3⟩
  · cases h0
    obtain rfl : k = 0 := by omega
    exact .inl ⟨rfl, rfl⟩
  · cases e
    have hl : (l.take k).length = k := by rw [List.length_take]; omega
    exact .inr ⟨g, off, c, cs, by rw [hl], hh, by omega, h2, by rw [hl, List.map_take, ← h3, List.take_take, Nat.min_eq_left hk]⟩
theorem ByAt.shape {W : World} {v : Value} {l : List UInt8} (h : ByAt W v l) : ∃ a c, v = .slice a l.length c ∧ l.length ≤ c ∧ c ≤ maxLen := by
  obtain ⟨a, c, e, h1, h2, -⟩ := h.bytes
  exact ⟨a, c, e, h1, h2⟩
theorem ByAt.nil (W : World) : ByAt W (.slice none 0 0) [] := .inl ⟨rfl, rfl⟩
end Go.Proofs.YtmofnoconhgjmaaGreatDoor
