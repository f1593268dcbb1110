/- hearthref17.Doc: element's state. -/
import Derived.Test.YtmofnoconhgjmaaGreatDoorXn1
namespace Go.Proofs.YtmofnoconhgjmaaGreatDoor
open Go.RowKit
set_option linter.unusedVariables false
set_option linter.unusedSimpArgs false

/-- An element behind its attributes. -/
def elmR (m : Nat) (p n : Bs) (up : List (Bs × Bs)) (deep cnt : Nat) (full : Bool) : Option (List At × Bool × Bs) → Option Res
  | none => none
  | some (l, emp, r') => match elemL p n l up with
    | none => none
    | some g => if emp then some (g.el, r', cnt + 1, fullB full (cnt + 1) deep l.length) else inL m r' g deep (cnt + 1) (fullB full (cnt + 1) deep l.length)
theorem elmL_at {m : Nat} {up : List (Bs × Bs)} {r : Bs} {deep cnt : Nat} {full : Bool} : elmL m up r deep cnt full = if (fullL r).1.2.2 then elmR m (fullL r).1.1 (fullL r).1.2.1 up deep cnt full (attrsA (fullL r).2) else none := by
  unfold elmL beginL
  by_cases h : (fullL r).1.2.2 = true
  · rw [if_pos h, if_pos h]
    cases attrsA (fullL r).2 with
    | none => rfl
    | some x =>
      obtain ⟨l, emp, r'⟩ := x
      simp only [elmR]
      cases elemL (fullL r).1.1 (fullL r).1.2.1 l up with
      | none => rfl
      | some g => rfl
  · rw [if_neg h, if_neg h]
theorem elmR_no {m : Nat} {p n : Bs} {up OW : List (Bs × Bs)} {deep cnt : Nat} {full emp : Bool} {l : List At} {r' : Bs} (hO : OW = bindB l up) (h : (bindOk l && ((spcL OW p).2 && (attB OW l []).2)) = false) : elmR m p n up deep cnt full (some (l, emp, r')) = none := by
  subst hO
  unfold elmR
  simp only
  rw [elemL_none (by rw [Bool.and_assoc]; exact h)]
theorem elmR_yes {m : Nat} {p n : Bs} {up OW : List (Bs × Bs)} {deep cnt : Nat} {full emp : Bool} {l : List At} {r' : Bs} (hO : OW = bindB l up) (h : (bindOk l && ((spcL OW p).2 && (attB OW l []).2)) = true) : elmR m p n up deep cnt full (some (l, emp, r')) = if emp then some (⟨(spcL OW p).1, n, (attB OW l []).1, [], .nil⟩, r', cnt + 1, fullB full (cnt + 1) deep l.length) else inL m r' ⟨p, n, (spcL OW p).1, (attB OW l []).1, [], .nil, OW⟩ deep (cnt + 1) (fullB full (cnt + 1) deep l.length) := by
  subst hO
  unfold elmR
  simp only
  rw [elemL_some (by rw [Bool.and_assoc]; exact h)]
  rfl
theorem DcR.setCnt {w : World} {b : Nat} {S r : Bs} {cnt : Int} {bad full : Bool} (h : DcR w b S r cnt bad full) (x : Int) : DcR (w.setCell ⟨b, 2, none⟩ (.int .i64 x)) b S r x bad full := by
  obtain ⟨i, h1, h2, h3⟩ := h
  exact ⟨i, h1, h2, heap_set (o := 2) h3⟩
theorem DcR.setFull {w : World} {b : Nat} {S r : Bs} {cnt : Int} {bad full : Bool} (h : DcR w b S r cnt bad full) (x : Bool) : DcR (w.setCell ⟨b, 4, none⟩ (.bool x)) b S r cnt bad x := by
  obtain ⟨i, h1, h2, h3⟩ := h
  exact ⟨i, h1, h2, heap_set (o := 4) h3⟩
theorem DcR.cells {w : World} {b : Nat} {S r : Bs} {cnt : Int} {bad full : Bool} (h : DcR w b S r cnt bad full) : w.cell? ⟨b, 2, none⟩ = some (.int .i64 cnt) ∧ w.cell? ⟨b, 3, none⟩ = some (.bool bad) ∧ w.cell? ⟨b, 4, none⟩ = some (.bool full) ∧ w.frozen? ⟨b, 2, none⟩ = false ∧ w.frozen? ⟨b, 3, none⟩ = false ∧ w.frozen? ⟨b, 4, none⟩ = false := by
  obtain ⟨i, h1, h2, h3⟩ := h
  obtain ⟨-, -, c2, c3, c4, -, f2, f3, f4⟩ := h3.cells
  exact ⟨c2, c3, c4, f2, f3, f4⟩
theorem DcR.lt {w : World} {b : Nat} {S r : Bs} {cnt : Int} {bad full : Bool} (h : DcR w b S r cnt bad full) : b < w.heap.size := by
  obtain ⟨cs, h⟩ := h.blk
  exact lt_of_block h
theorem DcR.own {w w1 : World} {base size n b : Nat} {e : TypeId} {v : Value} {xs : List Value} {S r : Bs} {cnt : Int} {bad full : Bool} (h : w.ownsRow base e size v n xs) (k : w.grownBy w1 v.ownBlock) (hd : DcR w b S r cnt bad full) (hT : 151 ≠ e) : DcR w1 b S r cnt bad full := by
  obtain ⟨i, h1, h2, h3⟩ := hd
  exact ⟨i, h1, h2, keep_own h k h3 hT⟩
/-- A document is no row of bounds. -/
theorem BnAt.step {w w' : World} {v : Value} {L : List (Bs × Bs)} {b : Nat} {S r : Bs} {cnt : Int} {bad full : Bool} (h : BnAt w v L) (hd : DcR w b S r cnt bad full) (g : w.grownBy w' (some b)) : BnAt w' v L := by
  obtain ⟨a, c, rfl, h⟩ := h
  obtain ⟨i0, -, -, hb⟩ := hd
  refine ⟨a, c, rfl, fun i hi => ?_⟩
  obtain ⟨k, o, rfl, h1, h2⟩ := h i hi
  have hne : k ≠ b := by
    rintro rfl
    have hb' : w.heap[k]? = some (.cells #[str S, .int .i64 (i0 : Int), .int .i64 cnt, .bool bad, .bool full] 151 (0, 0)) := hb
    have c1 := cell_of_block hb' (o + i * 2)
    have c2 := cell_of_block hb' (o + i * 2 + 1)
    rw [h1] at c1
    rw [h2] at c2
    generalize o + i * 2 = q at c1 c2
    match q, c1, c2 with
    | 0, c1, c2 => simp at c2
    | 1, c1, c2 => simp at c1
    | 2, c1, c2 => simp at c1
    | 3, c1, c2 => simp at c1
    | 4, c1, c2 => simp at c1
    | n + 5, c1, c2 => simp at c1
  exact ⟨k, o, rfl, g.cell h1 (by simpa using hne), g.cell h2 (by simpa using hne)⟩
theorem bn_new (w : World) (t1 t2 : Bs) : BnAt (w.alloc (.cells #[.string ⟨t1.toArray⟩, .string ⟨t2.toArray⟩] 155)) (.slice (some ⟨w.heap.size, 0, none⟩) 1 1) [(t1, t2)] := by
  have h := heap_alloc_new w (.cells #[.string ⟨t1.toArray⟩, .string ⟨t2.toArray⟩] 155)
  refine ⟨_, 1, rfl, fun i hi => ⟨_, 0, rfl, ?_⟩⟩
  obtain rfl : i = 0 := by simpa using hi
  exact ⟨cell_of_block h 0, cell_of_block h 1⟩
/-- The state while the attributes are gone through. -/
structure ES (w wr : World) (b : Nat) (S r : Bs) (cnt : Int) (bad full : Bool) (vl : Value) (l : List At) (vo : Value) (own : List (Bs × Bs)) : Prop where
  gr : w.grownBy wr (some b)
  dc : DcR wr b S r cnt bad full
  lst : wr.ownsRow w.heap.size xraw 3 vl l.length (tri l)
  own : wr.ownsRow w.heap.size xbn 2 vo own.length (duo own)
  hb : b < w.heap.size
theorem ES.grow {w wr w' : World} {b : Nat} {S r : Bs} {cnt : Int} {bad full : Bool} {vl vo : Value} {l : List At} {own : List (Bs × Bs)} (h : ES w wr b S r cnt bad full vl l vo own) (g : wr.grownBy w' none) : ES w w' b S r cnt bad full vl l vo own :=
  ⟨gr_trans h.gr (gr_none g), h.dc.grow g, row_none h.lst g, row_none h.own g, h.hb⟩
theorem ES.setBad {w wr : World} {b : Nat} {S r : Bs} {cnt : Int} {bad full : Bool} {vl vo : Value} {l : List At} {own : List (Bs × Bs)} (h : ES w wr b S r cnt bad full vl l vo own) (x : Bool) : ES w (wr.setCell ⟨b, 3, none⟩ (.bool x)) b S r cnt x full vl l vo own := by
  obtain ⟨cs, hb⟩ := h.dc.blk
  exact ⟨gr_set h.gr, h.dc.setBad x, row_ty h.lst (gr_set (gr_refl _ (some b))) hb (by decide), row_ty h.own (gr_set (gr_refl _ (some b))) hb (by decide), h.hb⟩
theorem ES.app {w wr W w8 : World} {b : Nat} {S r : Bs} {cnt : Int} {bad full : Bool} {vl vo vo' : Value} {l : List At} {own own' : List (Bs × Bs)} (h : ES w wr b S r cnt bad full vl l vo own) (g0 : wr.grownBy W none) (g : W.grownBy w8 vo.ownBlock) (h8 : w8.ownsRow w.heap.size xbn 2 vo' own'.length (duo own')) : ES w w8 b S r cnt bad full vl l vo' own' := by
  have h2 := h.grow g0
  exact ⟨gr_own h2.gr h2.own (Nat.le_refl _) g, DcR.own h2.own g h2.dc (by decide), row_own h2.own g h2.lst (by decide), h8, h.hb⟩
/-- With the element that is made. -/
structure ET (w wr : World) (b : Nat) (S r : Bs) (cnt : Int) (bad full : Bool) (vl : Value) (l : List At) (vo : Value) (own : List (Bs × Bs)) (eb : Nat) (s n : Bs) (va : Value) (acc : List At) : Prop where
  st : ES w wr b S r cnt bad full vl l vo own
  blk : ElB wr eb s n va [] (.slice none 0 0)
  att : wr.ownsRow w.heap.size 102 3 va acc.length (tri acc)
  lo : w.heap.size ≤ eb
theorem ET.grow {w wr w' : World} {b : Nat} {S r : Bs} {cnt : Int} {bad full : Bool} {vl vo va : Value} {l acc : List At} {own : List (Bs × Bs)} {eb : Nat} {s n : Bs} (h : ET w wr b S r cnt bad full vl l vo own eb s n va acc) (g : wr.grownBy w' none) : ET w w' b S r cnt bad full vl l vo own eb s n va acc :=
  ⟨h.st.grow g, h.blk.grow g, row_none h.att g, h.lo⟩
theorem ET.setBad {w wr : World} {b : Nat} {S r : Bs} {cnt : Int} {bad full : Bool} {vl vo va : Value} {l acc : List At} {own : List (Bs × Bs)} {eb : Nat} {s n : Bs} (h : ET w wr b S r cnt bad full vl l vo own eb s n va acc) (x : Bool) : ET w (wr.setCell ⟨b, 3, none⟩ (.bool x)) b S r cnt x full vl l vo own eb s n va acc := by
  obtain ⟨cs, hb⟩ := h.st.dc.blk
  exact ⟨h.st.setBad x, gr_keep (gr_set (gr_refl _ (some b))) h.blk (blk_ne h.blk hb (by decide)), row_ty h.att (gr_set (gr_refl _ (some b))) hb (by decide), h.lo⟩
theorem ET.setS {w wr : World} {b : Nat} {S r : Bs} {cnt : Int} {bad full : Bool} {vl vo va : Value} {l acc : List At} {own : List (Bs × Bs)} {eb : Nat} {s n : Bs} (h : ET w wr b S r cnt bad full vl l vo own eb s n va acc) (x : Bs) : ET w (wr.setCell ⟨eb, 0, none⟩ (.string ⟨x.toArray⟩)) b S r cnt bad full vl l vo own eb x n va acc := by
  have hb := h.st.hb
  have hlo := h.lo
  exact ⟨⟨gr_set_new h.st.gr h.lo, h.st.dc.other (by omega), row_ty h.st.lst (gr_set (gr_refl _ (some eb))) h.blk (by decide), row_ty h.st.own (gr_set (gr_refl _ (some eb))) h.blk (by decide), hb⟩, heap_set (o := 0) h.blk, row_ty h.att (gr_set (gr_refl _ (some eb))) h.blk (by decide), h.lo⟩
theorem ET.app {w wr W w8 : World} {b : Nat} {S r : Bs} {cnt : Int} {bad full : Bool} {vl vo va va' : Value} {l acc acc' : List At} {own : List (Bs × Bs)} {eb : Nat} {s n : Bs} (h : ET w wr b S r cnt bad full vl l vo own eb s n va acc) (g0 : wr.grownBy W none) (g : W.grownBy w8 va.ownBlock) (h8 : w8.ownsRow w.heap.size 102 3 va' acc'.length (tri acc')) :
    ElB w8 eb s n va [] (.slice none 0 0) ∧ ET w (w8.setCell ⟨eb, 2, none⟩ va') b S r cnt bad full vl l vo own eb s n va' acc' := by
  have h2 := h.grow g0
  have hb := h.st.hb
  have hlo := h.lo
  have e8 : ElB w8 eb s n va [] (.slice none 0 0) := keep_own h2.att g h2.blk (by decide)
  have gs : w8.grownBy (w8.setCell ⟨eb, 2, none⟩ va') (some eb) := gr_set (gr_refl _ _)
  exact ⟨e8, ⟨gr_set_new (gr_own h2.st.gr h2.att (Nat.le_refl _) g) hlo, (DcR.own h2.att g h2.st.dc (by decide)).other (by omega), row_ty (row_own h2.att g h2.st.lst (by decide)) gs e8 (by decide), row_ty (row_own h2.att g h2.st.own (by decide)) gs e8 (by decide), hb⟩, heap_set (o := 2) e8, row_ty h8 gs e8 (by decide), hlo⟩
theorem wpl_app3 {ops : Array Oper} {rest : List Oper} {o : Oper} {a : Act} {w : World} {Q : Exit → Act → World → Prop} (hgd : o.guard = none) (s x : Operand)
    (ho : o.op = .call { callee := .builtin .append, args := #[s, x], argTypes := #[22, 22] })
    {base k : Nat} {v : Value} {acc : List At} {t : At} (hs : a.eval s = v) (hx : a.eval x = .slice (some ⟨k, 0, none⟩) 1 1) (hown : w.ownsRow base 102 3 v acc.length (tri acc)) (hc : TriAt w k 0 t) (hlen : acc.length ≤ 1000000) (hbase : base ≤ w.heap.size)
    (h : ∀ ad c w', w'.ownsRow base 102 3 (.slice ad (acc.length + 1) c) (acc ++ [t]).length (tri (acc ++ [t])) → w.grownBy w' v.ownBlock → wpList Tryz.prog ops Q rest (a.put o.dst (.slice ad (acc.length + 1) c)) w') : wpList Tryz.prog ops Q (o :: rest) a w := by
  obtain ⟨i0, hi, hz0, hz1, hz2⟩ := info_parts infoA
  refine wpList_append_own w hgd s x 22 ho base 102 i0 _ 3 48 Tryz.underlying22 hi hz0 hz1 hz2 rfl (by decide) v acc.length (tri acc) hs hown ⟨k, 0, none⟩ 1 1 [str t.1, str t.2.1, str t.2.2] hx rfl (fun j u hj => by
      match j, hj with
      | 0, hj => simp at hj; subst hj; simpa [Addr.add, str] using hc.c0
      | 1, hj => simp at hj; subst hj; simpa [Addr.add, str] using hc.c1
      | 2, hj => simp at hj; subst hj; simpa [Addr.add, str] using hc.c2) (fun u hu => by simp at hu; rcases hu with rfl | rfl | rfl <;> rfl) (by unfold maxLen; omega) (by omega) hbase fun v' w' h2 h3 _ => ?_
  obtain ⟨ad, c', rfl, -⟩ := row_shape h2
  exact h ad c' w' (by rw [List.length_append, tri_snoc]; exact h2) h3
theorem tri_new (w : World) (t1 t2 t3 : Bs) (T : TypeId) : TriAt (w.alloc (.cells #[.string ⟨t1.toArray⟩, .string ⟨t2.toArray⟩, .string ⟨t3.toArray⟩] T)) w.heap.size 0 (t1, t2, t3) := by
  have h := heap_alloc_new w (.cells #[.string ⟨t1.toArray⟩, .string ⟨t2.toArray⟩, .string ⟨t3.toArray⟩] T)
  exact ⟨cell_of_block h 0, cell_of_block h 1, cell_of_block h 2⟩
/-- The attributes' row as it comes out. -/
theorem ats_of_own {w : World} {base X : Nat} {v : Value} {l : List At} (h : w.ownsRow base 102 3 v l.length (tri l)) (hX : X ≤ base) : AtsAt w (· < X) v l := by
  rcases Nat.eq_zero_or_pos l.length with h0 | hp
  · obtain ⟨a, c, rfl, _⟩ := row_shape h
    exact ⟨a, c, rfl, fun i hi => by omega⟩
  · obtain ⟨g, cap, rfl, hg, _, hcap, _, hc⟩ := own_tri h hp
    exact ⟨_, cap, rfl, fun i hi => ⟨g, 0, rfl, ⟨by omega, hcap⟩, by rw [Nat.zero_add]; exact hc i hi⟩⟩
/-- Nothing was read. -/
theorem re_none {w w1 W : World} {b : Nat} {S r s n tx : Bs} {cnt : Int} {full : Bool} {R : Option Res} {aa ka : Option Addr} {al ac kl kc : Nat} (hR : R = none) (g0 : w.grownBy w1 none) (g : w1.grownBy W (some b)) (hd : DcR W b S r cnt true full) (hb : b < w.heap.size) :
    RePost w b w.heap.size S R (.returned (.agg #[str s, str n, .slice aa al ac, str tx, .slice ka kl kc])) (ret5 W w.heap.size s n (.slice aa al ac) tx (.slice ka kl kc)) :=
  ⟨ret5_gr (gr_trans (gr_none g0) g) (Nat.le_refl _), .inr ⟨hR, s, n, tx, aa, ka, al, ac, kl, kc, r, cnt, full, rfl, hd.ret5 (by omega)⟩⟩
theorem five_size (a b c d e : Value) : (Tryz.prog.info? 25).map (·.size) = some (#[a, b, c, d, e] : Array Value).size := by kernel_rfl
theorem five_one (a b c : Bs) (x y : Option Addr) (l1 l2 l3 l4 : Nat) : (#[.string ⟨a.toArray⟩, .string ⟨b.toArray⟩, .slice x l1 l2, .string ⟨c.toArray⟩, .slice y l3 l4] : Array Value).all (·.oneCell') = true := by simp [Value.oneCell']
theorem row5_gr (w : World) (g : Nat) (cs : Array Value) : w.grownBy (w.setRow g cs) (some g) := ⟨rfl, rfl, rfl, by simp, fun k _ hr => setRow_other _ _ _ _ (by simpa using hr)⟩
theorem DcR.row5 {w : World} {b g : Nat} {S r : Bs} {cnt : Int} {bad full : Bool} (h : DcR w b S r cnt bad full) (hb : b ≠ g) (cs : Array Value) : DcR (w.setRow g cs) b S r cnt bad full := by
  obtain ⟨i, h1, h2, h3⟩ := h
  exact ⟨i, h1, h2, gr_keep (row5_gr w g cs) h3 (by simpa using hb)⟩
theorem re_none5 {w w1 W : World} {b : Nat} {S r s n tx : Bs} {cnt : Int} {full : Bool} {R : Option Res} {aa ka : Option Addr} {al ac kl kc : Nat} (hR : R = none) (g0 : w.grownBy w1 none) (g : w1.grownBy W (some b)) (hd : DcR W b S r cnt true full) (hb : b < w.heap.size) (cs : Array Value) :
    RePost w b w.heap.size S R (.returned (.agg #[.string ⟨s.toArray⟩, .string ⟨n.toArray⟩, .slice aa al ac, .string ⟨tx.toArray⟩, .slice ka kl kc])) (W.setRow w.heap.size cs) :=
  ⟨gr_new (gr_trans (gr_none g0) g) (row5_gr _ _ _) (Nat.le_refl _), .inr ⟨hR, s, n, tx, aa, ka, al, ac, kl, kc, r, cnt, full, rfl, hd.row5 (by omega) cs⟩⟩
theorem re_some5 {w w1 W : World} {b : Nat} {S : Bs} {R : Option Res} {x : Res} {aa ka : Option Addr} {al ac kl kc : Nat} (hR : R = some x) (g0 : w.grownBy w1 none) (hsz : w.heap.size + 1 = w1.heap.size) (g : w1.grownBy W (some b)) (hd : DcR W b S x.2.1 (x.2.2.1 : Int) false x.2.2.2) (hb : b < w.heap.size)
    (ha : AtsAt W (· < w1.heap.size) (.slice aa al ac) x.1.ats) (hk : KidV W (· < w1.heap.size) (.slice ka kl kc) x.1.kids) (cs : Array Value) :
    RePost w b w.heap.size S R (.returned (.agg #[.string ⟨x.1.s.toArray⟩, .string ⟨x.1.n.toArray⟩, .slice aa al ac, .string ⟨x.1.tx.toArray⟩, .slice ka kl kc])) (W.setRow w.heap.size cs) := by
  have hs : ∀ k, k < W.heap.size → ¬ (k < w1.heap.size) → (W.setRow w.heap.size cs).heap[k]? = W.heap[k]? := fun k h1 h2 => setRow_other _ _ _ _ (by omega)
  exact ⟨gr_new (gr_trans (gr_none g0) g) (row5_gr _ _ _) (Nat.le_refl _), .inl ⟨x, _, _, hR, rfl, hd.row5 (by omega) cs, (ha.same hs).less (fun k _ h => Nat.lt_of_lt_of_le (show k < w.heap.size from h) (by omega)), (hk.same hs).less (fun k _ h => Nat.lt_of_lt_of_le (show k < w.heap.size from h) (by omega))⟩⟩
end Go.Proofs.YtmofnoconhgjmaaGreatDoor
