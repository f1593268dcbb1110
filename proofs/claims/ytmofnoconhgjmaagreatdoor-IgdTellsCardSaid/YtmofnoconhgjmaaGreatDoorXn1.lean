/- The reference's elements in memory: rows of bounds; an element that is read; one more element in it. -/
import Derived.Test.YtmofnoconhgjmaaGreatDoorMP
import Derived.Test.YtmofnoconhgjmaaGreatDoorMX
import Derived.Test.YtmofnoconhgjmaaGreatDoorXmw
import Derived.Test.YtmofnoconhgjmaaGreatDoorMT
namespace Go.Proofs.YtmofnoconhgjmaaGreatDoor
open Go.RowKit
set_option linter.unusedVariables false
set_option linter.unusedSimpArgs false

abbrev xbn : TypeId := 155
abbrev xel : TypeId := 25
/-- The cells of a row of bounds. -/
def duo (l : List (Bs × Bs)) : List Value := l.flatMap fun a => [str a.1, str a.2]
theorem duo_len (l : List (Bs × Bs)) : (duo l).length = l.length * 2 := by
  induction l with
  | nil => rfl
  | cons a l ih => unfold duo at ih ⊢; rw [List.flatMap_cons, List.length_append, ih, List.length_cons]; simp only [List.length_cons, List.length_nil]; omega
theorem duo_snoc (l : List (Bs × Bs)) (a : Bs × Bs) : duo (l ++ [a]) = duo l ++ [str a.1, str a.2] := by
  unfold duo; rw [List.flatMap_append]; rfl
theorem duo_get (l : List (Bs × Bs)) : ∀ (i : Nat), i < l.length → (duo l)[i * 2]? = some (str (l.getD i bn0).1) ∧ (duo l)[i * 2 + 1]? = some (str (l.getD i bn0).2) := by
  induction l with
  | nil => intro i hi; simp at hi
  | cons a l ih =>
    intro i hi
    cases i with
    | zero => exact ⟨rfl, rfl⟩
    | succ i =>
      have := ih i (by simpa using hi)
      rw [show (i + 1) * 2 = i * 2 + 2 by omega, show i * 2 + 2 + 1 = i * 2 + 1 + 2 by omega]
      exact this
theorem duo_one (l : List (Bs × Bs)) : ∀ u ∈ duo l, u.oneCell' = true := by
  intro u hu
  unfold duo at hu
  obtain ⟨a, -, h⟩ := List.mem_flatMap.1 hu
  simp at h
  rcases h with rfl | rfl <;> rfl
theorem bn_of_own {w : World} {base n : Nat} {e : TypeId} {v : Value} {l : List (Bs × Bs)} (h : w.ownsRow base e 2 v n (duo l)) : BnAt w v l := by
  have hl := h.1
  rw [duo_len] at hl
  obtain rfl : n = l.length := by omega
  rcases h.2 with ⟨rfl, h0⟩ | ⟨g, cap, cur, rfl, hg, hh, hc, hm, hs, ht⟩
  · exact ⟨none, 0, by rw [h0], fun i hi => by omega⟩
  · refine ⟨_, cap, rfl, fun i hi => ⟨g, 0, rfl, ?_⟩⟩
    obtain ⟨e0, e1⟩ := duo_get l i hi
    have cl : ∀ k u, k < l.length * 2 → (duo l)[k]? = some u → w.cell? ⟨g, k, none⟩ = some u := fun k u hk hu => by
      rw [← ht, List.getElem?_take, if_pos hk] at hu
      simpa [World.cell?, hh] using hu
    rw [Nat.zero_add]
    exact ⟨cl _ _ (by omega) e0, cl _ _ (by omega) e1⟩
theorem bn_news {w : World} {v : Value} {L : List (Bs × Bs)} (h : BnAt w v L) (hp : 0 < L.length) : ∃ g o c, v = .slice (some ⟨g, o, none⟩) L.length c ∧ ∀ j u, (duo L)[j]? = some u → w.cell? ((⟨g, o, none⟩ : Addr).add j) = some u := by
  obtain ⟨a, c, rfl, h⟩ := h
  obtain ⟨g, o, rfl, -⟩ := h 0 hp
  refine ⟨g, o, c, rfl, fun j u hj => ?_⟩
  have hjl := (List.getElem?_eq_some_iff.1 hj).1
  rw [duo_len] at hjl
  obtain ⟨g', o', e, h1, h2⟩ := h (j / 2) (by omega)
  cases e
  obtain ⟨e0, e1⟩ := duo_get L (j / 2) (by omega)
  rcases Nat.mod_two_eq_zero_or_one j with hm | hm
  · have ej : j / 2 * 2 = j := by omega
    rw [ej] at e0 h1
    rw [hj] at e0
    cases e0
    rw [Go.WideShapes.add_plain]
    exact h1
  · have ej : j / 2 * 2 + 1 = j := by omega
    rw [show o + j / 2 * 2 + 1 = o + j by omega] at h2
    rw [ej] at e1
    rw [hj] at e1
    cases e1
    rw [Go.WideShapes.add_plain]
    exact h2
theorem infoBn : (Tryz.prog.info? xbn).map (fun i => (i.zero, i.size, i.bytes)) = some (some (.agg #[.string ⟨#[]⟩, .string ⟨#[]⟩]), 2, 32) := by kernel_rfl
/-- A row of one type is kept by an append to a row of another. -/
theorem row_own {w w' : World} {base size n base' size' n' : Nat} {e e' : TypeId} {v v' : Value} {xs xs' : List Value} (h : w.ownsRow base e size v n xs) (k : w.grownBy w' v.ownBlock) (h' : w.ownsRow base' e' size' v' n' xs') (hT : e' ≠ e) : w'.ownsRow base' e' size' v' n' xs' := by
  refine ⟨h'.1, ?_⟩
  rcases h'.2 with h0 | ⟨g, cap, cur, rfl, hg, hh, r⟩
  · exact .inl h0
  · exact .inr ⟨g, cap, cur, rfl, hg, keep_own h k hh hT, r⟩
set_option maxHeartbeats 1000000 in
theorem step_app2 {ops : Array Oper} {o : Oper} {a : Act} {w : World} {K : Act → World → Prop} {Q : Exit → Act → World → Prop} {E : Prop} (hgd : o.guard = none) (s x : Operand)
    (ho : o.op = .call { callee := .builtin .append, args := #[s, x], argTypes := #[156, 156] })
    {base k : Nat} {v : Value} {acc : List (Bs × Bs)} {t : Bs × Bs} (hs : a.eval s = v) (hx : a.eval x = .slice (some ⟨k, 0, none⟩) 1 1) (hown : w.ownsRow base 155 2 v acc.length (duo acc)) (hk : w.heap[k]? = some (.cells #[.string ⟨t.1.toArray⟩, .string ⟨t.2.toArray⟩] 155 (0, 0))) (hlen : acc.length ≤ 1000000) (hbase : base ≤ w.heap.size)
    (h : ∀ ad c w', w'.ownsRow base 155 2 (.slice ad (acc ++ [t]).length c) (acc ++ [t]).length (duo (acc ++ [t])) → w.grownBy w' v.ownBlock → K (a.put o.dst (.slice ad (acc ++ [t]).length c)) w') : if Region.wanted o (yielded ops a.tmps) = true then Oper.wp Tryz.prog o a w K Q else E := by
  have hw : Region.wanted o (yielded ops a.tmps) = true := by simp [Region.wanted, hgd]
  rw [if_pos hw]
  obtain ⟨i0, hi, hz0, hz1, hz2⟩ := info_parts infoBn
  obtain ⟨v', w', hrun, h2, h3, -⟩ := run_append_own (P := Tryz.prog) w base 156 o.type 155 i0 _ 2 32 Tryz.underlying156 hi hz0 hz1 hz2 rfl (by decide) v acc.length (duo acc) hown ⟨k, 0, none⟩ 1 1 [str t.1, str t.2] rfl (fun j u hj => by
      have := cell_of_block hk j
      match j, hj with
      | 0, hj => simp at hj; subst hj; simpa [Addr.add, str] using this
      | 1, hj => simp at hj; subst hj; simpa [Addr.add, str] using this) (fun u hu => by simp at hu; rcases hu with rfl | rfl <;> rfl) (by unfold maxLen; omega) (by omega) hbase
  unfold Oper.wp execOp
  simp only [ho, resolve, invoke, builtin, Sem.run_bind, Sem.run_pure, Result.andThen_ok, List.map_toArray, List.map_cons, List.map_nil, hs, hx, hrun]
  obtain ⟨ad, c, rfl, -⟩ := row_shape h2
  have e : acc.length + 1 = (acc ++ [t]).length := by rw [List.length_append]; rfl
  rw [e] at h2 ⊢
  exact h ad c w' (by rw [duo_snoc]; exact h2) h3
theorem duo_app (l l' : List (Bs × Bs)) : duo (l ++ l') = duo l ++ duo l' := by
  unfold duo; rw [List.flatMap_append]
theorem wpl_app2 {ops : Array Oper} {rest : List Oper} {o : Oper} {a : Act} {w : World} {Q : Exit → Act → World → Prop} (hgd : o.guard = none) (s x : Operand)
    (ho : o.op = .call { callee := .builtin .append, args := #[s, x], argTypes := #[156, 156] })
    {base : Nat} {v vx : Value} {xs l : List (Bs × Bs)} (hs : a.eval s = v) (hx : a.eval x = vx) (hown : w.ownsRow base 155 2 v xs.length (duo xs)) (hb : BnAt w vx l) (hp : 0 < l.length) (hlen : xs.length + l.length ≤ 1000000) (hbase : base ≤ w.heap.size)
    (h : ∀ ad c w', w'.ownsRow base 155 2 (.slice ad (xs ++ l).length c) (xs ++ l).length (duo (xs ++ l)) → w.grownBy w' v.ownBlock → wpList Tryz.prog ops Q rest (a.put o.dst (.slice ad (xs ++ l).length c)) w') : wpList Tryz.prog ops Q (o :: rest) a w := by
  obtain ⟨i0, hi, hz0, hz1, hz2⟩ := info_parts infoBn
  obtain ⟨g, off, c, rfl, hn⟩ := bn_news hb hp
  refine wpList_append_own w hgd s x 156 ho base 155 i0 _ 2 32 Tryz.underlying156 hi hz0 hz1 hz2 rfl (by decide) v xs.length (duo xs) hs hown ⟨g, off, none⟩ l.length c (duo l) hx (duo_len l) hn (duo_one l) (by unfold maxLen; omega) (by omega) hbase fun v' w' h2 h3 _ => ?_
  obtain ⟨ad, c', rfl, -⟩ := row_shape h2
  rw [← List.length_append, ← duo_app] at h2
  have := h ad c' w' h2 h3
  rw [List.length_append] at this
  exact this
/-- A row's base may be a lower one. -/
theorem row_low {w : World} {base base' size n : Nat} {e : TypeId} {v : Value} {xs : List Value} (h : w.ownsRow base e size v n xs) (hb : base' ≤ base) : w.ownsRow base' e size v n xs := by
  refine ⟨h.1, ?_⟩
  rcases h.2 with h0 | ⟨g, cap, cur, rfl, hg, r⟩
  · exact .inl h0
  · exact .inr ⟨g, cap, cur, rfl, Nat.le_trans hb hg, r⟩
/-- What an append of an element leaves. -/
structure AppK (w w' : World) (base : Nat) (kv : Value) (n : Nat) (cs new : List Value) (g c : Nat) : Prop where
  row : w'.ownsRow base 25 5 (.slice (some ⟨g, 0, none⟩) (n + 1) c) (n + 1) (cs ++ new)
  gr : w.grownBy w' kv.ownBlock
  at' : some g = kv.ownBlock ∨ g = w.heap.size
set_option maxHeartbeats 1000000 in
theorem step_appK {ops : Array Oper} {o : Oper} {a : Act} {w : World} {K : Act → World → Prop} {Q : Exit → Act → World → Prop} {E : Prop} (hgd : o.guard = none) (s x : Operand)
    (ho : o.op = .call { callee := .builtin .append, args := #[s, x], argTypes := #[23, 23] })
    {base k n : Nat} {kv c0 c1 c2 c3 c4 : Value} {cs : List Value} (hs : a.eval s = kv) (hx : a.eval x = .slice (some ⟨k, 0, none⟩) 1 1) (hown : w.ownsRow base 25 5 kv n cs) (hk : w.heap[k]? = some (.cells #[c0, c1, c2, c3, c4] 25 (0, 0))) (h1 : c0.oneCell' = true ∧ c1.oneCell' = true ∧ c2.oneCell' = true ∧ c3.oneCell' = true ∧ c4.oneCell' = true) (hlen : n ≤ 100000) (hbase : base ≤ w.heap.size)
    (h : ∀ g c w', AppK w w' base kv n cs [c0, c1, c2, c3, c4] g c → K (a.put o.dst (.slice (some ⟨g, 0, none⟩) (n + 1) c)) w') : if Region.wanted o (yielded ops a.tmps) = true then Oper.wp Tryz.prog o a w K Q else E := by
  have hw : Region.wanted o (yielded ops a.tmps) = true := by simp [Region.wanted, hgd]
  rw [if_pos hw]
  obtain ⟨i0, hi, hz0, hz1, hz2⟩ := info_parts infoE
  obtain ⟨v', w', hrun, h2, h3, h4, h5⟩ := run_append_own_at (P := Tryz.prog) w base 23 o.type 25 i0 _ 5 96 Tryz.underlying23 hi hz0 hz1 hz2 rfl (by decide) kv n cs hown ⟨k, 0, none⟩ 1 1 [c0, c1, c2, c3, c4] rfl (fun j u hj => by
      have := cell_of_block hk j
      match j, hj with
      | 0, hj => simp at hj; subst hj; simpa [Addr.add] using this
      | 1, hj => simp at hj; subst hj; simpa [Addr.add] using this
      | 2, hj => simp at hj; subst hj; simpa [Addr.add] using this
      | 3, hj => simp at hj; subst hj; simpa [Addr.add] using this
      | 4, hj => simp at hj; subst hj; simpa [Addr.add] using this) (fun u hu => by
        obtain ⟨q0, q1, q2, q3, q4⟩ := h1
        simp at hu; rcases hu with rfl | rfl | rfl | rfl | rfl <;> assumption) (by unfold maxLen; omega) (by omega) hbase
  unfold Oper.wp execOp
  simp only [ho, resolve, invoke, builtin, Sem.run_bind, Sem.run_pure, Result.andThen_ok, List.map_toArray, List.map_cons, List.map_nil, hs, hx, hrun]
  rcases h2.2 with ⟨e, h0⟩ | ⟨g, cap, cur, rfl, _⟩
  · omega
  · exact h g cap w' ⟨h2, h3, by rcases h5 with h5 | h5
                                 · exact .inl h5
                                 · exact .inr (by simpa [Value.ownBlock] using h5)⟩
/-- An element's block. -/
def ElB (w : World) (eb : Nat) (s n : Bs) (av : Value) (tx : Bs) (kv : Value) : Prop := w.heap[eb]? = some (.cells #[.string ⟨s.toArray⟩, .string ⟨n.toArray⟩, av, .string ⟨tx.toArray⟩, kv] 25 (0, 0))
theorem ElB.cells {w : World} {eb : Nat} {s n tx : Bs} {av kv : Value} (h : ElB w eb s n av tx kv) :
    w.cell? ⟨eb, 0, none⟩ = some (.string ⟨s.toArray⟩) ∧ w.cell? ⟨eb, 1, none⟩ = some (.string ⟨n.toArray⟩) ∧ w.cell? ⟨eb, 2, none⟩ = some av ∧ w.cell? ⟨eb, 3, none⟩ = some (.string ⟨tx.toArray⟩) ∧ w.cell? ⟨eb, 4, none⟩ = some kv :=
  ⟨cell_of_block h 0, cell_of_block h 1, cell_of_block h 2, cell_of_block h 3, cell_of_block h 4⟩
theorem ElB.free {w : World} {eb : Nat} {s n tx : Bs} {av kv : Value} (h : ElB w eb s n av tx kv) (o : Nat) : w.frozen? ⟨eb, o, none⟩ = false := free_of_block h o
theorem ElB.grow {w w' : World} {eb : Nat} {s n tx : Bs} {av kv : Value} (h : ElB w eb s n av tx kv) (g : w.grownBy w' none) : ElB w' eb s n av tx kv := gr_keep g h (by simp)
/-- An element that is read: its block; its elements are a row of its own. -/
structure InAt (w : World) (X : Nat → Prop) (base eb rb : Nat) (s n : Bs) (av : Value) (ats : List At) (tx : Bs) (kv : Value) (kids : Fo) : Prop where
  blk : ElB w eb s n av tx kv
  res : ElB w rb [] [] (.slice none 0 0) [] (.slice none 0 0)
  ats : AtsAt w X av ats
  row : OwnFo w X eb kv kids
  inE : X eb
  inR : X rb
  inK : ∀ k, kv.ownBlock = some k → X k ∧ k ≠ eb ∧ k ≠ rb
  inB : ∀ k, k < base → X k
  lo : base ≤ eb
  lr : base ≤ rb
  ne : eb ≠ rb
theorem InAt.grow {w w' : World} {X : Nat → Prop} {base eb rb : Nat} {s n tx : Bs} {av kv : Value} {ats : List At} {kids : Fo} (h : InAt w X base eb rb s n av ats tx kv kids) (g : w.grownBy w' none) : InAt w' X base eb rb s n av ats tx kv kids :=
  ⟨h.blk.grow g, h.res.grow g, h.ats.same (fun k h1 _ => g.block k h1 (by simp)), h.row.same (fun k h1 _ => g.block k h1 (by simp)) (fun k hk => by
    obtain ⟨cs, h1, -⟩ := h.row
    exact g.block k (h1.lt k hk).2 (by simp)), h.inE, h.inR, h.inK, h.inB, h.lo, h.lr, h.ne⟩
/-- A block that is written, and that is old. -/
theorem InAt.step {w w' : World} {X : Nat → Prop} {base eb rb b : Nat} {s n tx : Bs} {av kv : Value} {ats : List At} {kids : Fo} (h : InAt w X base eb rb s n av ats tx kv kids) (g : w.grownBy w' (some b)) (hb : b < base) : InAt w' X base eb rb s n av ats tx kv kids :=
  ⟨gr_keep g h.blk (by have := h.lo; simp; omega), gr_keep g h.res (by have := h.lr; simp; omega), h.ats.same (fun k h1 h2 => g.block k h1 (by simp; rintro rfl; exact h2 (h.inB _ hb))), h.row.same (fun k h1 h2 => g.block k h1 (by simp; rintro rfl; exact h2 (h.inB _ hb))) (fun k hk => by
    obtain ⟨cs, h1, -⟩ := h.row
    have := h1.lt k hk
    have hlo := h.lo
    exact g.block k this.2 (by simp; omega)), h.inE, h.inR, h.inK, h.inB, h.lo, h.lr, h.ne⟩
/-- Its text is another one. -/
theorem InAt.setT {w : World} {X : Nat → Prop} {base eb rb : Nat} {s n tx : Bs} {av kv : Value} {ats : List At} {kids : Fo} (h : InAt w X base eb rb s n av ats tx kv kids) (t : Bs) : InAt (w.setCell ⟨eb, 3, none⟩ (.string ⟨t.toArray⟩)) X base eb rb s n av ats t kv kids := by
  have g := gr_set (o := 3) (v := .string ⟨t.toArray⟩) (gr_refl w (some eb))
  refine ⟨heap_set (o := 3) (v := .string ⟨t.toArray⟩) h.blk, gr_keep g h.res (by have := h.ne; simp; omega), h.ats.same (fun k h1 h2 => g.block k h1 (by simp; rintro rfl; exact h2 h.inE)), h.row.same (fun k h1 h2 => g.block k h1 (by simp; rintro rfl; exact h2 h.inE)) (fun k hk => ?_), h.inE, h.inR, h.inK, h.inB, h.lo, h.lr, h.ne⟩
  obtain ⟨cs, h1, -⟩ := h.row
  have := h1.lt k hk
  exact g.block k this.2 (by have := (h.inK k hk).2.1; simp; omega)
theorem InAt.less {w : World} {X X' : Nat → Prop} {base eb rb : Nat} {s n tx : Bs} {av kv : Value} {ats : List At} {kids : Fo} (h : InAt w X base eb rb s n av ats tx kv kids) (hx : ∀ b, b < w.heap.size → X' b → X b) (hx' : ∀ b, b < w.heap.size → X b → X' b) (hb : base ≤ w.heap.size) : InAt w X' base eb rb s n av ats tx kv kids :=
  ⟨h.blk, h.res, h.ats.less hx, h.row.less hx, hx' _ (lt_of_block h.blk) h.inE, hx' _ (lt_of_block h.res) h.inR, fun k hk => by
    obtain ⟨cs, h1, -⟩ := h.row
    exact ⟨hx' k (h1.lt k hk).2 (h.inK k hk).1, (h.inK k hk).2⟩, fun k hk => hx' k (by omega) (h.inB k hk), h.lo, h.lr, h.ne⟩
/-- What comes out. -/
theorem InAt.out {w : World} {X : Nat → Prop} {base eb rb : Nat} {s n tx : Bs} {av kv : Value} {ats : List At} {kids : Fo} (h : InAt w X base eb rb s n av ats tx kv kids) : AtsAt w (· < base) av ats ∧ KidV w (· < base) kv kids := by
  refine ⟨h.ats.less fun k _ hk => h.inB k hk, h.row.kid (fun k _ hk => h.inB k hk) fun k hk => ?_⟩
  obtain ⟨cs, h1, -⟩ := h.row
  have := (h1.lt k hk).1
  have hlo := h.lo
  omega
/-- One more element. -/
theorem InAt.kid {w W W8 : World} {X : Nat → Prop} {base eb rb : Nat} {s n tx : Bs} {av kv : Value} {ats : List At} {kids : Fo} (h : InAt w X base eb rb s n av ats tx kv kids) {e : El} {av2 kv2 : Value} {cs : List Value} {g c : Nat}
    (hrow : w.ownsRow eb 25 5 kv kids.len cs) (hcs : cs.length = kids.len * 5) (hfo : ∀ k o n c, kv = .slice (some ⟨k, o, none⟩) n c → FoAt w X kids k o)
    (ha : AtsAt w X av2 e.ats) (hk : KidV w X kv2 e.kids) (g0 : w.grownBy W none) (hE : AppK W W8 eb kv kids.len cs [str e.s, str e.n, av2, str e.tx, kv2] g c) :
    InAt (W8.setCell ⟨eb, 4, none⟩ (.slice (some ⟨g, 0, none⟩) (kids.len + 1) c)) (fun k => X k ∨ k = g) base eb rb s n av ats tx (.slice (some ⟨g, 0, none⟩) (kids.len + 1) c) (kids.snoc e) := by
  have hg1 : eb ≤ g := (hE.row.lt g rfl).1
  have hW := h.grow g0
  have hrowW := row_none hrow g0
  have hXg : (X g ∧ g ≠ eb ∧ g ≠ rb) ∨ W.heap.size ≤ g := by
    rcases hE.at' with e1 | e1
    · exact .inl (hW.inK g e1.symm)
    · exact .inr (Nat.le_of_eq e1.symm)
  have keep : ∀ k, k < W.heap.size → some k ≠ kv.ownBlock → W8.heap[k]? = W.heap[k]? := fun k h1 h2 => hE.gr.block k h1 h2
  have keepX : ∀ k, k < W.heap.size → ¬ X k → W8.heap[k]? = W.heap[k]? := fun k h1 h2 =>
    keep k h1 (fun e1 => h2 (hW.inK k e1.symm).1)
  obtain ⟨WF, hWF⟩ : ∃ WF, WF = W8.setCell ⟨eb, 4, none⟩ (.slice (some ⟨g, 0, none⟩) (kids.len + 1) c) := ⟨_, rfl⟩
  have gF : W8.grownBy WF (some eb) := by rw [hWF]; exact gr_set (gr_refl _ _)
  have hB8 : ElB W8 eb s n av tx kv := (keep eb (lt_of_block hW.blk) (fun e1 => (hW.inK eb e1.symm).2.1 rfl)).trans hW.blk
  have hR8 : ElB W8 rb [] [] (.slice none 0 0) [] (.slice none 0 0) := (keep rb (lt_of_block hW.res) (fun e1 => (hW.inK rb e1.symm).2.2 rfl)).trans hW.res
  have hBF : ElB WF eb s n av tx (.slice (some ⟨g, 0, none⟩) (kids.len + 1) c) := by rw [hWF]; exact heap_set (o := 4) hB8
  have hRF : ElB WF rb [] [] (.slice none 0 0) [] (.slice none 0 0) := gr_keep gF hR8 (by have := h.ne; simp; omega)
  rw [← hWF]
  have hgne : g ≠ eb ∧ g ≠ rb := by
    rcases hXg with h3 | h3
    · exact h3.2
    · have h4 := lt_of_block hW.blk
      have h5 := lt_of_block hW.res
      exact ⟨by omega, by omega⟩
  have sz8 : W.heap.size ≤ W8.heap.size := hE.gr.size
  have keepF : ∀ k, k < W.heap.size → W8.heap[k]? = W.heap[k]? → k ≠ eb → WF.heap[k]? = W.heap[k]? := fun k h1 h2 h3 => (gF.block k (by omega) (by simpa using h3)).trans h2
  have keepFX : ∀ k, k < W.heap.size → ¬ X k → WF.heap[k]? = W.heap[k]? := fun k h1 h2 => keepF k h1 (keepX k h1 h2) (fun e1 => h2 (by rw [e1]; exact hW.inE))
  have hrowF : WF.ownsRow eb 25 5 (.slice (some ⟨g, 0, none⟩) (kids.len + 1) c) (kids.len + 1) (cs ++ [str e.s, str e.n, av2, str e.tx, kv2]) := hE.row.kept gF (.inr (by simp [Value.ownBlock]; exact hgne.1))
  have hup : ∀ k, k < W.heap.size → (X k ∨ k = g) → X k := fun k h1 h2 => by
    rcases h2 with h2 | rfl
    · exact h2
    · rcases hXg with h3 | h3
      · exact h3.1
      · omega
  have hup0 : ∀ k, k < w.heap.size → (X k ∨ k = g) → X k := fun k h1 h2 => hup k (Nat.lt_of_lt_of_le h1 g0.size) h2
  have kw : ∀ k, k < w.heap.size → ¬ (X k ∨ k = g) → WF.heap[k]? = w.heap[k]? := fun k h1 h2 => (keepFX k (Nat.lt_of_lt_of_le h1 g0.size) (fun h3 => h2 (.inl h3))).trans (g0.block k h1 (by simp))
  have hFo : FoAt WF (fun k => X k ∨ k = g) (kids.snoc e) g 0 := by
    have cell : ∀ i u, (cs ++ [str e.s, str e.n, av2, str e.tx, kv2])[i]? = some u → WF.cell? ⟨g, i, none⟩ = some u := own_fo_cell hrowF
    have key : ∀ j u, ([str e.s, str e.n, av2, str e.tx, kv2] : List Value)[j]? = some u → WF.cell? ⟨g, 0 + kids.len * 5 + j, none⟩ = some u := fun j u hj => by
      rw [Nat.zero_add]
      exact cell _ u (by rw [List.getElem?_append_right (by omega), hcs, Nat.add_sub_cancel_left]; exact hj)
    refine FoAt.snoc ?_ (key 0 _ rfl) (key 1 _ rfl) (key 2 _ rfl) (key 3 _ rfl) (key 4 _ rfl) ((ha.less hup0).same kw) ((hk.less hup0).same kw)
    have old : ∀ (f : Fo) (k o : Nat), FoAt w (fun k => X k ∨ k = g) f k o → (∀ i, i < f.len * 5 → ∀ u, w.cell? ⟨k, o + i, none⟩ = some u → WF.cell? ⟨g, o + i, none⟩ = some u) → FoAt WF (fun k => X k ∨ k = g) f g o := by
      intro f
      induction f with
      | nil => intro _ _ _ _; trivial
      | cons s n ats tx kids next _ ih =>
        intro k o hf hc
        obtain ⟨⟨c0, c1, c3⟩, ⟨av', c2, ha'⟩, ⟨a', c', c4, hk'⟩, hn⟩ := hf
        simp only [Fo.len] at hc
        refine ⟨⟨hc 0 (by omega) _ c0, hc 1 (by omega) _ c1, hc 3 (by omega) _ c3⟩, ⟨av', hc 2 (by omega) _ c2, ha'.same kw⟩, ⟨a', c', hc 4 (by omega) _ c4, fun hl => ?_⟩, ih k (o + 5) hn (fun i hi u hu => ?_)⟩
        · obtain ⟨b', o', rfl, hx, hf'⟩ := hk' hl
          refine ⟨b', o', rfl, hx, hf'.same kw (kw b' ?_ hx)⟩
          cases kids with
          | nil => simp [Fo.len] at hl
          | cons => exact lt_of_cell hf'.1.1
        · have := hc (5 + i) (by omega) u (by rw [← Nat.add_assoc]; exact hu)
          rw [← Nat.add_assoc] at this; exact this
    rcases Nat.eq_zero_or_pos kids.len with h0 | hp
    · cases hG : kids with
      | nil => trivial
      | cons => rw [hG] at h0; simp [Fo.len] at h0
    · rcases hrow.2 with ⟨_, h0⟩ | ⟨k2, cap2, cur2, e2, hk2, hh2, hc2, hm2, hs2, ht2⟩
      · omega
      · refine old kids k2 0 ((hfo k2 0 _ _ e2).less hup0) (fun i hi u hu => ?_)
        rw [Nat.zero_add] at hu ⊢
        refine cell i u ?_
        rw [List.getElem?_append_left (by omega), ← ht2, List.getElem?_take, if_pos hi]
        simpa [World.cell?, hh2] using hu
  refine ⟨hBF, hRF, (hW.ats.less hup).same (fun k h1 h2 => keepFX k h1 (fun h3 => h2 (.inl h3))), ⟨cs ++ [str e.s, str e.n, av2, str e.tx, kv2], ?_, fun k o n' c' e1 => ?_⟩, .inl h.inE, .inl h.inR, fun k hk' => ?_, fun k hk' => .inl (h.inB k hk'), h.lo, h.lr, h.ne⟩
  · rw [Fo.len_snoc]; exact hrowF
  · cases e1; exact hFo
  · obtain rfl : g = k := by simpa [Value.ownBlock] using hk'
    exact ⟨.inr rfl, hgne⟩
/-- The element's block behind the append. -/
theorem InAt.eb8 {w W W8 : World} {X : Nat → Prop} {base eb rb : Nat} {s n tx : Bs} {av kv : Value} {ats : List At} {kids : Fo} (h : InAt w X base eb rb s n av ats tx kv kids) {n8 : Nat} {cs new : List Value} {g c : Nat} (g0 : w.grownBy W none) (hE : AppK W W8 eb kv n8 cs new g c) : ElB W8 eb s n av tx kv := by
  have hW := h.grow g0
  exact (hE.gr.block eb (lt_of_block hW.blk) (fun e1 => (hW.inK eb e1.symm).2.1 rfl)).trans hW.blk
/-- The two blocks behind the append and the store. -/
theorem InAt.set8 {w W W8 : World} {X : Nat → Prop} {base eb rb : Nat} {s n tx : Bs} {av kv : Value} {ats : List At} {kids : Fo} (h : InAt w X base eb rb s n av ats tx kv kids) {n8 : Nat} {cs new : List Value} {g c : Nat} (g0 : w.grownBy W none) (hE : AppK W W8 eb kv n8 cs new g c) (u : Value) : ElB (W8.setCell ⟨eb, 4, none⟩ u) eb s n av tx u ∧ ElB (W8.setCell ⟨eb, 4, none⟩ u) rb [] [] (.slice none 0 0) [] (.slice none 0 0) := by
  have hW := h.grow g0
  have h8 := h.eb8 g0 hE
  have hR8 : ElB W8 rb [] [] (.slice none 0 0) [] (.slice none 0 0) := (hE.gr.block rb (lt_of_block hW.res) (fun e1 => (hW.inK rb e1.symm).2.2 rfl)).trans hW.res
  exact ⟨heap_set (o := 4) h8, gr_keep (gr_set (o := 4) (v := u) (gr_refl W8 (some eb))) hR8 (by have := h.ne; simp; omega)⟩
/-- An element written over a block. -/
def ret5 (w : World) (rb : Nat) (s n : Bs) (av : Value) (tx : Bs) (kv : Value) : World := ((((w.setCell ⟨rb, 0, none⟩ (.string ⟨s.toArray⟩)).setCell ⟨rb, 1, none⟩ (.string ⟨n.toArray⟩)).setCell ⟨rb, 2, none⟩ av).setCell ⟨rb, 3, none⟩ (.string ⟨tx.toArray⟩)).setCell ⟨rb, 4, none⟩ kv
theorem ret5_gr {w0 w : World} {rb : Nat} {s n tx : Bs} {av kv : Value} {row : Option Nat} (h : w0.grownBy w row) (hr : w0.heap.size ≤ rb) : w0.grownBy (ret5 w rb s n av tx kv) row :=
  gr_set_new (gr_set_new (gr_set_new (gr_set_new (gr_set_new h hr) hr) hr) hr) hr
theorem ret5_same {w : World} {rb : Nat} {s n tx : Bs} {av kv : Value} (k : Nat) (h1 : k < w.heap.size) (h2 : k ≠ rb) : (ret5 w rb s n av tx kv).heap[k]? = w.heap[k]? :=
  (gr_set (gr_set (gr_set (gr_set (gr_set (gr_refl w (some rb)))))) : w.grownBy (ret5 w rb s n av tx kv) (some rb)).block k h1 (by simpa using h2)
theorem DcR.ret5 {w : World} {b rb : Nat} {S r : Bs} {cnt : Int} {bad full : Bool} (h : DcR w b S r cnt bad full) (hb : b ≠ rb) {s n tx : Bs} {av kv : Value} : DcR (ret5 w rb s n av tx kv) b S r cnt bad full :=
  ((((h.other hb).other hb).other hb).other hb).other hb
/-- The element that comes out, behind the result's store. -/
theorem InAt.fin {w : World} {X : Nat → Prop} {base eb rb : Nat} {s n tx : Bs} {av kv : Value} {ats : List At} {kids : Fo} (h : InAt w X base eb rb s n av ats tx kv kids) {s' n' tx' : Bs} {av' kv' : Value} : AtsAt (ret5 w rb s' n' av' tx' kv') (· < base) av ats ∧ KidV (ret5 w rb s' n' av' tx' kv') (· < base) kv kids := by
  have hk : ∀ k, k < w.heap.size → ¬ X k → (ret5 w rb s' n' av' tx' kv').heap[k]? = w.heap[k]? := fun k h1 h2 => ret5_same k h1 (by rintro rfl; exact h2 h.inR)
  have hr : OwnFo (ret5 w rb s' n' av' tx' kv') X eb kv kids := h.row.same hk (fun k hk' => by
    obtain ⟨cs, h1, -⟩ := h.row
    exact ret5_same k (h1.lt k hk').2 (h.inK k hk').2.2)
  refine ⟨(h.ats.same hk).less fun k _ hk => h.inB k hk, hr.kid (fun k _ hk => h.inB k hk) fun k hk => ?_⟩
  obtain ⟨cs, h1, -⟩ := h.row
  have := (h1.lt k hk).1
  have hlo := h.lo
  omega
/-- What an element's reading leaves. -/
def RePost (w : World) (b base : Nat) (S : Bs) (o : Option Res) (e : Ending) (w' : World) : Prop :=
  w.grownBy w' (some b) ∧ ((∃ x av kv, o = some x ∧ e = .returned (elV x.1 av kv) ∧ DcR w' b S x.2.1 (x.2.2.1 : Int) false x.2.2.2 ∧ AtsAt w' (· < base) av x.1.ats ∧ KidV w' (· < base) kv x.1.kids) ∨
    (o = none ∧ ∃ (s n tx : Bs) (aa ka : Option Addr) (al ac kl kc : Nat) (r : Bs) (cnt : Int) (full : Bool), e = .returned (.agg #[str s, str n, .slice aa al ac, str tx, .slice ka kl kc]) ∧ DcR w' b S r cnt true full))
/-- inside reads right: with fuel up to N. -/
def InsideOk (N : Nat) : Prop := ∀ (m : Nat) (w : World) (b base : Nat) (S r p n s : Bs) (ats : List At) (av : Value) (L : List (Bs × Bs)) (vL : Value) (deep cnt : Nat) (full : Bool), m ≤ N → r.length < m → DcR w b S r cnt false full → b < base → base ≤ w.heap.size → S.length ≤ 20000 → AtsAt w (· < base) av ats → BnAt w vL L → 0 < L.length → L.length + r.length ≤ 40000 → deep + r.length ≤ 40000 → cnt + r.length ≤ 40000 →
    Calls Tryz.prog 124 #[.pointer (some ⟨b, 0, none⟩), .agg #[.string ⟨s.toArray⟩, .string ⟨n.toArray⟩, av, .string ⟨#[]⟩, .slice none 0 0], vL, .int .i64 (deep : Int), .string ⟨p.toArray⟩] w (RePost w b base S (inL m r ⟨p, n, s, ats, [], .nil, L.reverse⟩ deep cnt full))
/-- element reads right: with fuel up to N. -/
def ElementOk (N : Nat) : Prop := ∀ (m : Nat) (w : World) (b : Nat) (S r : Bs) (L : List (Bs × Bs)) (vL : Value) (deep cnt : Nat) (full : Bool), m ≤ N → r.length < m → DcR w b S r cnt false full → S.length ≤ 20000 → BnAt w vL L → 0 < L.length → L.length + r.length ≤ 40000 → deep + r.length ≤ 40000 → cnt + r.length ≤ 40000 →
    Calls Tryz.prog 75 #[.pointer (some ⟨b, 0, none⟩), vL, .int .i64 (deep : Int)] w (RePost w b w.heap.size S (elmL m L.reverse r deep cnt full))
/-- What nobody reads: inside, where all is bad already. -/
def InsideBad : Prop := ∀ (w : World) (b base : Nat) (S r p n s : Bs) (aa : Option Addr) (al ac : Nat) (vL : Value) (deep : Nat) (cnt : Int) (full : Bool), DcR w b S r cnt true full → b < base → base ≤ w.heap.size →
    Calls Tryz.prog 124 #[.pointer (some ⟨b, 0, none⟩), .agg #[.string ⟨s.toArray⟩, .string ⟨n.toArray⟩, .slice aa al ac, .string ⟨#[]⟩, .slice none 0 0], vL, .int .i64 (deep : Int), .string ⟨p.toArray⟩] w (RePost w b base S none)
end Go.Proofs.YtmofnoconhgjmaaGreatDoor
