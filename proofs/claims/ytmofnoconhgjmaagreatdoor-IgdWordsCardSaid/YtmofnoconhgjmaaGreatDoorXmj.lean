/- xml.element. -/
import Derived.Test.YtmofnoconhgjmaaGreatDoorXmi
import Derived.RegionTactic
import Derived.Test.YtmofnoconhgjmaaGreatDoorMR
import Derived.Deep.DeepCutAuto
import Derived.Deep.RegionHeld3
import Derived.Deep.RegionLaw
namespace Go.Proofs.YtmofnoconhgjmaaGreatDoor
open Go.RowKit
set_option linter.unusedVariables false
set_option linter.unusedSimpArgs false

/-- A slice of attributes as it is read. -/
def TrsAt (w : World) (v : Value) (l : List At) : Prop := ∃ a c, v = .slice a l.length c ∧ ∀ i, i < l.length → ∃ g, a = some ⟨g, 0, none⟩ ∧ TriAt w g (i * 3) (l.getD i at0)
theorem trs_of_own {w : World} {base : Nat} {e : TypeId} {v : Value} {l : List At} (h : w.ownsRow base e 3 v l.length (tri l)) : TrsAt w v l := by
  rcases Nat.eq_zero_or_pos l.length with h0 | hp
  · obtain ⟨a, c, rfl, _⟩ := row_shape h
    exact ⟨a, c, rfl, fun i hi => by omega⟩
  · obtain ⟨g, cap, rfl, _, _, _, _, hc⟩ := own_tri h hp
    exact ⟨_, cap, rfl, fun i hi => ⟨g, rfl, hc i hi⟩⟩
theorem TriAt.grow {w w' : World} {b o : Nat} {a : At} (h : TriAt w b o a) (g : w.grownBy w' none) : TriAt w' b o a := ⟨g.cell h.c0 (by simp), g.cell h.c1 (by simp), g.cell h.c2 (by simp)⟩
theorem TrsAt.grow {w w' : World} {v : Value} {l : List At} (h : TrsAt w v l) (g : w.grownBy w' none) : TrsAt w' v l := by
  obtain ⟨a, c, rfl, h⟩ := h
  exact ⟨a, c, rfl, fun i hi => by obtain ⟨k, rfl, ht⟩ := h i hi; exact ⟨k, rfl, ht.grow g⟩⟩
theorem bindB_snoc (l : List At) (a : At) : ∀ bs, bindB (l ++ [a]) bs = if isNs a then (nsOf a, a.2.2) :: bindB l bs else bindB l bs := by
  induction l with
  | nil => intro bs; rfl
  | cons x l ih => intro bs; exact ih _
theorem bindOk_snoc (l : List At) (a : At) : bindOk (l ++ [a]) = (bindOk l && !(decide (a.1 = nsT) && decide (a.2.2 = []))) := by
  unfold bindOk; rw [List.all_append]; simp
theorem bindOk_bad (l : List At) (j : Nat) (hj : j < l.length) (h1 : (l.getD j at0).1 = nsT) (h2 : (l.getD j at0).2.2 = []) : bindOk l = false := by
  unfold bindOk
  rw [List.all_eq_false]
  refine ⟨l.getD j at0, ?_, ?_⟩
  · rw [List.getD_eq_getElem?_getD, List.getElem?_eq_getElem hj]; exact List.getElem_mem _
  · rw [decide_eq_true h1, decide_eq_true h2]; simp
theorem take_snoc_at (l : List At) (j : Nat) (hj : j < l.length) : l.take (j + 1) = l.take j ++ [l.getD j at0] := by
  rw [List.take_succ_eq_append_getElem hj, List.getD_eq_getElem?_getD, List.getElem?_eq_getElem hj]; rfl
/-- A frame's cells. -/
def FrC (p n s n2 : Bs) (av : Value) (tx : Bs) (kv sp : Value) : Array Value := #[str p, str n, str s, str n2, av, str tx, kv, sp]
abbrev xfr : TypeId := 247
def FrB (w : World) (fb : Nat) (p n s n2 : Bs) (av : Value) (tx : Bs) (kv sp : Value) : Prop := w.heap[fb]? = some (.cells (FrC p n s n2 av tx kv sp) 247 (0, 0))
theorem FrB.cells {w : World} {fb : Nat} {p n s n2 : Bs} {av : Value} {tx : Bs} {kv sp : Value} (h : FrB w fb p n s n2 av tx kv sp) :
    w.cell? ⟨fb, 0, none⟩ = some (.string ⟨p.toArray⟩) ∧ w.cell? ⟨fb, 1, none⟩ = some (.string ⟨n.toArray⟩) ∧ w.cell? ⟨fb, 2, none⟩ = some (.string ⟨s.toArray⟩) ∧ w.cell? ⟨fb, 3, none⟩ = some (.string ⟨n2.toArray⟩) ∧ w.cell? ⟨fb, 4, none⟩ = some av ∧ w.cell? ⟨fb, 5, none⟩ = some (.string ⟨tx.toArray⟩) ∧ w.cell? ⟨fb, 6, none⟩ = some kv ∧ w.cell? ⟨fb, 7, none⟩ = some sp :=
  ⟨cell_of_block h 0, cell_of_block h 1, cell_of_block h 2, cell_of_block h 3, cell_of_block h 4, cell_of_block h 5, cell_of_block h 6, cell_of_block h 7⟩
theorem FrB.free {w : World} {fb : Nat} {p n s n2 : Bs} {av : Value} {tx : Bs} {kv sp : Value} (h : FrB w fb p n s n2 av tx kv sp) (o : Nat) : w.frozen? ⟨fb, o, none⟩ = false := free_of_block h o
theorem FrB.grow {w w' : World} {fb : Nat} {p n s n2 : Bs} {av : Value} {tx : Bs} {kv sp : Value} (h : FrB w fb p n s n2 av tx kv sp) (g : w.grownBy w' none) : FrB w' fb p n s n2 av tx kv sp := gr_keep g h (by simp)
/-- What element leaves. -/
def ElPost (w : World) (o : Option Fr) (e : Ending) (w' : World) : Prop :=
  w.grownBy w' none ∧ ((o = none ∧ e = .returned (.tuple #[.pointer none, .bool false])) ∨
    ∃ f fb av sp, o = some f ∧ e = .returned (.tuple #[.pointer (some ⟨fb, 0, none⟩), .bool true]) ∧ w.heap.size ≤ fb ∧ FrB w' fb f.p f.n f.s f.n av [] (.slice none 0 0) sp ∧ SpAt w' sp f.bs ∧ w'.ownsRow w.heap.size 102 3 av f.ats.length (tri f.ats) ∧ f.tx = [] ∧ f.kids = .nil)
theorem infoA : (Tryz.prog.info? 102).map (fun i => (i.zero, i.size, i.bytes)) = some (some (.agg #[.string ⟨#[]⟩, .string ⟨#[]⟩, .string ⟨#[]⟩]), 3, 48) := by kernel_rfl
/-- The first loop's relation. -/
def El1 (w : World) (fb : Nat) (p n : Bs) (l : List At) (up : List (Bs × Bs)) (j : Nat) (wr : World) : Prop :=
  w.grownBy wr none ∧ bindOk (l.take j) = true ∧ ∃ u, FrB wr fb p n [] [] (.slice none 0 0) [] (.slice none 0 0) u ∧ SpAt wr u (bindB (l.take j) up)
/-- The second loop's state. -/
structure El2 (w : World) (fb : Nat) (p n s : Bs) (uu : Option Addr) (own : List (Bs × Bs)) (v : Value) (acc : List At) (wr : World) : Prop where
  gr : w.grownBy wr none
  fr : FrB wr fb p n s n v [] (.slice none 0 0) (.pointer uu)
  sp : SpAt wr (.pointer uu) own
  row : wr.ownsRow w.heap.size 102 3 v acc.length (tri acc)
theorem El2.grow {w wr w' : World} {fb : Nat} {p n s : Bs} {uu : Option Addr} {own : List (Bs × Bs)} {v : Value} {acc : List At} (h : El2 w fb p n s uu own v acc wr) (g : wr.grownBy w' none) : El2 w fb p n s uu own v acc w' :=
  ⟨gr_trans h.gr g, h.fr.grow g, h.sp.grow g, row_none h.row g⟩
/-- With the attribute that is made. -/
structure El3 (w : World) (fb : Nat) (p n s : Bs) (uu : Option Addr) (own : List (Bs × Bs)) (v : Value) (acc : List At) (X : Nat) (x y z : Bs) (wr : World) : Prop where
  st : El2 w fb p n s uu own v acc wr
  at' : wr.heap[X]? = some (.cells #[str x, str y, str z] 102 (0, 0))
  lo : w.heap.size ≤ X
  ne : v.ownBlock ≠ some X
theorem El3.grow {w wr w' : World} {fb : Nat} {p n s : Bs} {uu : Option Addr} {own : List (Bs × Bs)} {v : Value} {acc : List At} {X : Nat} {x y z : Bs} (h : El3 w fb p n s uu own v acc X x y z wr) (g : wr.grownBy w' none) : El3 w fb p n s uu own v acc X x y z w' :=
  ⟨h.st.grow g, gr_keep g h.at' (by simp), h.lo, h.ne⟩
theorem El2.make {w wr : World} {fb : Nat} {p n s : Bs} {uu : Option Addr} {own : List (Bs × Bs)} {v : Value} {acc : List At} (h : El2 w fb p n s uu own v acc wr) (x y z : Bs) : El3 w fb p n s uu own v acc wr.heap.size x y z (wr.alloc (.cells #[.string ⟨x.toArray⟩, .string ⟨y.toArray⟩, .string ⟨z.toArray⟩] 102)) :=
  ⟨h.grow (gr_alloc (gr_refl _ _) _), heap_alloc_new wr _, h.gr.size, fun e => by have := (h.row.lt _ e).2; omega⟩
theorem El3.set {w wr : World} {fb : Nat} {p n s : Bs} {uu : Option Addr} {own : List (Bs × Bs)} {v : Value} {acc : List At} {X : Nat} {x y z : Bs} (h : El3 w fb p n s uu own v acc X x y z wr) (x' : Bs) : El3 w fb p n s uu own v acc X x' y z (wr.setCell ⟨X, 0, none⟩ (.string ⟨x'.toArray⟩)) := by
  have g := gr_set (o := 0) (v := .string ⟨x'.toArray⟩) (gr_refl wr (some X))
  refine ⟨⟨gr_set_new h.st.gr h.lo, gr_keep g h.st.fr (blk_ne h.st.fr h.at' (by decide)), h.st.sp.kept g h.at' (by decide), h.st.row.kept g ?_⟩, heap_set (o := 0) (v := str x') h.at', h.lo, h.ne⟩
  rcases hv : v.ownBlock with _ | k
  · exact .inl (by
      rcases h.st.row.2 with ⟨rfl, _⟩ | ⟨g', cap, cur, rfl, _⟩
      · rfl
      · cases hv)
  · exact .inr (fun e => h.ne (by rw [hv, e]))
theorem El3.cells {w wr : World} {fb : Nat} {p n s : Bs} {uu : Option Addr} {own : List (Bs × Bs)} {v : Value} {acc : List At} {X : Nat} {x y z : Bs} (h : El3 w fb p n s uu own v acc X x y z wr) : wr.cell? ⟨X, 0, none⟩ = some (.string ⟨x.toArray⟩) ∧ wr.cell? ⟨X, 1, none⟩ = some (.string ⟨y.toArray⟩) ∧ wr.cell? ⟨X, 2, none⟩ = some (.string ⟨z.toArray⟩) ∧ wr.frozen? ⟨X, 0, none⟩ = false :=
  ⟨cell_of_block h.at' 0, cell_of_block h.at' 1, cell_of_block h.at' 2, free_of_block h.at' 0⟩
set_option maxHeartbeats 1000000 in
theorem step_app3 {ops : Array Oper} {o : Oper} {a : Act} {w : World} {K : Act → World → Prop} {Q : Exit → Act → World → Prop} {E : Prop} (hgd : o.guard = none) (s x : Operand)
    (ho : o.op = .call { callee := .builtin .append, args := #[s, x], argTypes := #[22, 22] })
    {base k : Nat} {v : Value} {acc : List At} {t : At} (hs : a.eval s = v) (hx : a.eval x = .slice (some ⟨k, 0, none⟩) 1 1) (hown : w.ownsRow base 102 3 v acc.length (tri acc)) (hc : TriAt w k 0 t) (hlen : acc.length ≤ 100000) (hbase : base ≤ w.heap.size)
    (h : ∀ ad c w', w'.ownsRow base 102 3 (.slice ad (acc ++ [t]).length c) (acc ++ [t]).length (tri (acc ++ [t])) → w.grownBy w' v.ownBlock → K (a.put o.dst (.slice ad (acc ++ [t]).length c)) w') : if Region.wanted o (yielded ops a.tmps) = true then Oper.wp Tryz.prog o a w K Q else E := by
  have hw : Region.wanted o (yielded ops a.tmps) = true := by simp [Region.wanted, hgd]
  rw [if_pos hw]
  obtain ⟨i0, hi, hz0, hz1, hz2⟩ := info_parts infoA
  obtain ⟨v', w', hrun, h2, h3, -⟩ := run_append_own (P := Tryz.prog) w base 22 o.type 102 i0 _ 3 48 Tryz.underlying22 hi hz0 hz1 hz2 rfl (by decide) v acc.length (tri acc) hown ⟨k, 0, none⟩ 1 1 [str t.1, str t.2.1, str t.2.2] rfl (fun j u hj => by
      match j, hj with
      | 0, hj => simp at hj; subst hj; simpa [Addr.add, str] using hc.c0
      | 1, hj => simp at hj; subst hj; simpa [Addr.add, str] using hc.c1
      | 2, hj => simp at hj; subst hj; simpa [Addr.add, str] using hc.c2) (fun u hu => by simp at hu; rcases hu with rfl | rfl | rfl <;> rfl) (by unfold maxLen; omega) (by omega) hbase
  unfold Oper.wp execOp
  simp only [ho, resolve, invoke, builtin, Sem.run_bind, Sem.run_pure, Result.andThen_ok, List.map_toArray, List.map_cons, List.map_nil, hs, hx, hrun]
  obtain ⟨ad, c, rfl, -⟩ := row_shape h2
  have e : acc.length + 1 = (acc ++ [t]).length := by rw [List.length_append]; rfl
  rw [e] at h2 ⊢
  exact h ad c w' (by rw [tri_snoc]; exact h2) h3
theorem SpAt.own {w w1 : World} {base size n : Nat} {e : TypeId} {v : Value} {xs : List Value} {u : Value} {l : List (Bs × Bs)} (h : w.ownsRow base e size v n xs) (k : w.grownBy w1 v.ownBlock) (hx : SpAt w u l) (hT : 245 ≠ e) : SpAt w1 u l := by
  induction l generalizing u with
  | nil => exact hx
  | cons x l ih =>
    obtain ⟨b, u', rfl, hb, hu⟩ := hx
    exact ⟨b, u', rfl, keep_own h k hb hT, ih hu⟩
theorem El3.app {w wr W w8 : World} {fb : Nat} {p n s : Bs} {uu : Option Addr} {own : List (Bs × Bs)} {v : Value} {acc : List At} {X : Nat} {x y z : Bs} (h : El3 w fb p n s uu own v acc X x y z wr) (g0 : wr.grownBy W none) (g : W.grownBy w8 v.ownBlock) :
    w.grownBy w8 none ∧ FrB w8 fb p n s n v [] (.slice none 0 0) (.pointer uu) ∧ SpAt w8 (.pointer uu) own ∧ w8.heap[X]? = some (.cells #[str x, str y, str z] 102 (0, 0)) := by
  have h2 := h.grow g0
  exact ⟨gr_own h2.st.gr h2.st.row (Nat.le_refl _) g, keep_own h2.st.row g h2.st.fr (by decide), h2.st.sp.own h2.st.row g (by decide), gr_keep g h2.at' (fun e => h2.ne e.symm)⟩
theorem El3.app4 {w wr W w8 : World} {fb : Nat} {p n s : Bs} {uu : Option Addr} {own : List (Bs × Bs)} {v : Value} {acc : List At} {X : Nat} {x y z : Bs} (h : El3 w fb p n s uu own v acc X x y z wr) (g0 : wr.grownBy W none) (g : W.grownBy w8 v.ownBlock) :
    w8.cell? ⟨fb, 4, none⟩ = some v ∧ w8.cell? ⟨X, 0, none⟩ = some (.string ⟨x.toArray⟩) ∧ w8.cell? ⟨X, 1, none⟩ = some (.string ⟨y.toArray⟩) ∧ w8.cell? ⟨X, 2, none⟩ = some (.string ⟨z.toArray⟩) ∧ w8.frozen? ⟨fb, 4, none⟩ = false := by
  obtain ⟨-, h1, -, h2⟩ := h.app g0 g
  exact ⟨h1.cells.2.2.2.2.1, cell_of_block h2 0, cell_of_block h2 1, cell_of_block h2 2, h1.free 4⟩
theorem El3.keep5 {w wr W : World} {fb : Nat} {p n s : Bs} {uu : Option Addr} {own : List (Bs × Bs)} {v : Value} {acc : List At} {X : Nat} {x y z : Bs} (h : El3 w fb p n s uu own v acc X x y z wr) (g0 : wr.grownBy W none) :
    W.cell? ⟨fb, 4, none⟩ = some v ∧ W.cell? ⟨X, 0, none⟩ = some (.string ⟨x.toArray⟩) ∧ W.cell? ⟨X, 1, none⟩ = some (.string ⟨y.toArray⟩) ∧ W.cell? ⟨X, 2, none⟩ = some (.string ⟨z.toArray⟩) ∧ W.frozen? ⟨fb, 4, none⟩ = false := by
  have h2 := h.grow g0
  exact ⟨h2.st.fr.cells.2.2.2.2.1, cell_of_block h2.at' 0, cell_of_block h2.at' 1, cell_of_block h2.at' 2, h2.st.fr.free 4⟩
theorem attB_ns (bs : List (Bs × Bs)) (a : At) (l acc : List At) (h : isNs a = true) : attB bs (a :: l) acc = attB bs l acc := by
  conv => lhs; unfold attB
  rw [if_pos h]
theorem attB_bad (bs : List (Bs × Bs)) (a : At) (l acc : List At) (h : isNs a = false) (hb : ((atSp bs a.1).2 && !acc.any (sameA (atSp bs a.1).1 a.2.1)) = false) : (attB bs (a :: l) acc).2 = false := by
  unfold attB
  rw [h]
  simp only [Bool.false_eq_true, if_false, hb, Bool.false_and]
theorem attB_ok (bs : List (Bs × Bs)) (a : At) (l acc : List At) (h : isNs a = false) (hb : ((atSp bs a.1).2 && !acc.any (sameA (atSp bs a.1).1 a.2.1)) = true) : attB bs (a :: l) acc = attB bs l (acc ++ [((atSp bs a.1).1, a.2.1, a.2.2)]) := by
  conv => lhs; unfold attB
  rw [h]
  simp only [Bool.false_eq_true, if_false, hb, Bool.true_and]
theorem drop_at (l : List At) (j : Nat) (hj : j < l.length) : l.drop j = l.getD j at0 :: l.drop (j + 1) := by
  rw [List.drop_eq_getElem_cons hj, List.getD_eq_getElem?_getD, List.getElem?_eq_getElem hj]; rfl
set_option maxRecDepth 20000 in
set_option maxHeartbeats 20000000 in
theorem element_x (p n : Bs) (l : List At) (up : List (Bs × Bs)) (vl vu : Value) (w : World) (hl : TrsAt w vl l) (hu : SpAt w vu up) (hns : ∀ a ∈ l, a.1 = nsT → a.2.1 ≠ []) (hlen : l.length ≤ 100000) :
    Calls Tryz.prog 160 #[.agg #[.string ⟨p.toArray⟩, .string ⟨n.toArray⟩], vl, vu] w (ElPost w (elemL p n l up)) := by
  have HE := hid (show elemL p n l up = if bindOk l && (spcL (bindB l up) p).2 && (attB (bindB l up) l []).2 then some ⟨p, n, (spcL (bindB l up) p).1, (attB (bindB l up) l []).1, [], .nil, bindB l up⟩ else none from rfl)
  generalize elemL p n l up = R at *
  have HL := hid hl
  have HU := hid hu
  have HNS := hid hns
  obtain ⟨va, vc, rfl, -⟩ := hl
  obtain ⟨ua, rfl⟩ := hu.ptr
  have hfb := hid (heap_alloc_new (w.alloc (.cells #[.string ⟨p.toArray⟩, .string ⟨n.toArray⟩] 237)) (.cells (FrC p n [] [] (.slice none 0 0) [] (.slice none 0 0) (.pointer ua)) 247))
  clear hns hu
  go_enter Tryz.func160, Tryz.ntmps160
  go_wp2_with fail
  obtain ⟨w2, hw2⟩ : ∃ w2, w2 = (w.alloc (.cells #[.string ⟨p.toArray⟩, .string ⟨n.toArray⟩] 237)).alloc (.cells #[.string ⟨p.toArray⟩, .string ⟨n.toArray⟩, .string ⟨#[]⟩, .string ⟨#[]⟩, .slice none 0 0, .string ⟨#[]⟩, .slice none 0 0, .pointer ua] 247) := ⟨_, rfl⟩
  obtain ⟨fn, hfn⟩ : ∃ fn, fn = w.heap.size := ⟨_, rfl⟩
  obtain ⟨fb, hfbe⟩ : ∃ fb, fb = w.heap.size + 1 := ⟨_, rfl⟩
  have HW2 := hid (show w.grownBy w2 none ∧ FuAt w2 fn p n ∧ FrB w2 fb p n [] [] (.slice none 0 0) [] (.slice none 0 0) (.pointer ua) ∧ w.heap.size ≤ fn ∧ w.heap.size ≤ fb ∧ fn ≠ fb by
    subst hfn hfbe
    rw [hw2]
    refine ⟨gr_alloc (gr_alloc (gr_refl _ _) _) _, gr_keep (gr_alloc (gr_refl _ none) _) (heap_alloc_new w _) (by simp), ?_, by omega, by omega, by omega⟩
    have := hfb.out
    rw [show (w.alloc (.cells #[.string ⟨p.toArray⟩, .string ⟨n.toArray⟩] 237)).heap.size = w.heap.size + 1 by simp] at this
    exact this)
  rw [← hw2, ← hfbe, ← hfn]
  obtain ⟨G2, FU2, FR2, ho1, ho2, ho3⟩ := HW2.out
  have HG2 := hid G2
  have HFU2 := hid FU2
  have HFR2 := hid FR2
  have HO1 := hid ho1
  have HO2 := hid ho2
  have HO3 := hid ho3
  clear HW2 hw2 hfb hfn hfbe G2 FU2 FR2 ho1 ho2 ho3
  go_loopw [27] (fun v27 wr => ∃ j : Nat, v27 = .int .i64 (j : Int) ∧ j ≤ l.length ∧ FuAt wr fn p n ∧ El1 w fb p n l up j wr) (fun v27 _ => l.length - (intOf v27).toNat)
  case atStart => exact ⟨0, rfl, Nat.zero_le _, HFU2.out, HG2.out, rfl, _, HFR2.out, HU.out.grow HG2.out⟩
  case round =>
    obtain ⟨j, rfl, hj, hfu, gw, hok, u, hfr, hsp⟩ := hrel
    have HFU := hid hfu
    have GW := hid gw
    have HOK := hid hok
    have HFR := hid hfr
    have HSP := hid hsp
    clear hfu gw hok hfr hsp
    obtain ⟨uu, rfl⟩ := HSP.out.ptr
    by_cases hlt : j < l.length
    · obtain ⟨va', vc', hv', htr⟩ := HL.out.grow GW.out
      simp only [Value.slice.injEq] at hv'
      obtain ⟨rfl, -, rfl⟩ := hv'
      obtain ⟨g, rfl, ht⟩ := htr j hlt
      have htk := hid (take_snoc_at l j hlt)
      have hmem := hid (HNS.out (l.getD j at0) (by rw [List.getD_eq_getElem?_getD, List.getElem?_eq_getElem hlt]; exact List.getElem_mem _))
      have hbad := hid (bindOk_bad l j hlt)
      generalize l.getD j at0 = t at *
      obtain ⟨t1, t2, t3⟩ := t
      have e0 := ht.c0
      have e1 := ht.c1
      have e2 := ht.c2
      simp only at e0 e1 e2 hmem hbad
      have HNM := hid (fun W => names_x (t1, t2, t3) W)
      simp only at HNM
      clear htr ht
      go_wp2_with fail
      refine (HNM.out _).mono ?_
      rintro e w3 ⟨rfl, g3⟩
      have hA0 := heap_alloc_new wr (.cells #[.string ⟨t1.toArray⟩, .string ⟨t2.toArray⟩, .string ⟨t3.toArray⟩] 302)
      have hA := gr_keep g3 hA0 (by simp)
      have G3 := hid (gr_trans (gr_alloc (gr_refl wr none) (.cells #[.string ⟨t1.toArray⟩, .string ⟨t2.toArray⟩, .string ⟨t3.toArray⟩] 302)) g3)
      have F3 := hid (HFR.out.grow G3.out)
      have GW3 := hid (gr_trans GW.out G3.out)
      have FU3 : Hid (FuAt w3 fn p n) := hid (gr_keep G3.out HFU.out (by simp))
      have SP3 := hid (HSP.out.grow G3.out)
      clear g3 hA0 e0 e1 e2
      have HP := hid (show nsR (t1, t2, t3) = if isNs (t1, t2, t3) then (if t1 = nsT then t2 else []) else [] from rfl)
      have HI := hid (show isNs (t1, t2, t3) = (decide (t1 = nsT) || (decide (t1 = []) && decide (t2 = nsT))) from rfl)
      have HBB := hid (show bindB (l.take (j + 1)) up = if isNs (t1, t2, t3) then (if t1 = nsT then t2 else [], t3) :: bindB (l.take j) up else bindB (l.take j) up by rw [htk.out, bindB_snoc]; rfl)
      have HBO := hid (show bindOk (l.take (j + 1)) = !(decide (t1 = nsT) && decide (t3 = [])) by rw [htk.out, bindOk_snoc, HOK.out, Bool.true_and])
      unfold str
      generalize nsR (t1, t2, t3) = P at *
      generalize isNs (t1, t2, t3) = I at *
      cases I
      · have hR : El1 w fb p n l up (j + 1) w3 := ⟨GW3.out, by
          rw [HBO.out]
          have h1 : decide (t1 = nsT) = false := by have := HI.out; simp only [Bool.false_eq, Bool.or_eq_false_iff] at this; exact this.1
          rw [h1]; rfl, _, F3.out, by rw [HBB.out]; exact SP3.out⟩
        have HRR := hid hR
        clear hR
        go_wp2
        go_roundw
        case rel => exact ⟨j + 1, by go_num, by omega, FU3.out, HRR.out⟩
        case measure => simp [intOf]; omega
      · have HP2 := hid (show P = if t1 = nsT then t2 else [] from HP.out)
        have HBB2 := hid (show bindB (l.take (j + 1)) up = (P, t3) :: bindB (l.take j) up by rw [HBB.out, if_pos rfl, HP2.out])
        have a2 := cell_of_block hA 2
        have a2' : w3.cell? ⟨wr.heap.size, 2, none⟩ = some (.string ⟨t3.toArray⟩) := a2
        clear a2
        have hiff : (¬ P = [] ∧ t3 = []) ↔ (t1 = nsT ∧ t3 = []) := by
          rw [HP2.out]
          by_cases h1 : t1 = nsT
          · rw [if_pos h1]; exact ⟨fun h => ⟨h1, h.2⟩, fun h => ⟨hmem.out h1, h.2⟩⟩
          · rw [if_neg h1]; exact ⟨fun h => absurd rfl h.1, fun h => absurd h.1 h1⟩
        have HIFF := hid hiff
        clear hiff
        go_upto_region 7 with fail
        go_cut [44] (fun v44 wx => v44 = .bool (decide (¬ P = [] ∧ t3 = [])) ∧ w3 = wx)
        case first =>
          by_cases h1 : P = []
          · subst h1
            go_wp2_with fail
            go_meet
            exact ⟨by simp, rfl⟩
          · have q1 : P.isEmpty = false := by
              cases P with
              | nil => exact absurd rfl h1
              | cons _ _ => rfl
            by_cases h2 : t3 = []
            · subst h2
              go_wp2_with fail
              go_meet
              exact ⟨by simp [h1], rfl⟩
            · have q2 : t3.isEmpty = false := by
                cases t3 with
                | nil => exact absurd rfl h2
                | cons _ _ => rfl
              go_wp2_with fail
              go_meet
              exact ⟨by simp [h2], rfl⟩
        case rest =>
          obtain ⟨rfl, rfl⟩ := hcut
          by_cases hbad2 : t1 = nsT ∧ t3 = []
          · have hRN := hid (show R = none by rw [HE.out, hbad.out hbad2.1 hbad2.2]; rfl)
            rw [decide_eq_true (HIFF.out.2 hbad2)]
            clear hbad2
            go_wp2
            ((try simp only [Exit.inBlock, Exit.then]); refine bodyPost_ret (results_tmp2 rfl _ _ _) rfl ?_)
            exact ⟨GW3.out, .inl ⟨hRN.out, rfl⟩⟩
          · have HBO2 : Hid (bindOk (l.take (j + 1)) = true) := hid (by
              rw [HBO.out]
              by_cases h1 : t1 = nsT
              · rw [decide_eq_false (show ¬ t3 = [] from fun h => hbad2 ⟨h1, h⟩), Bool.and_false]; rfl
              · rw [decide_eq_false h1]; rfl)
            rw [decide_eq_false (fun h => hbad2 (HIFF.out.1 h))]
            clear hbad2
            obtain ⟨s0, s1, s2, s3, s4, s5, s6, s7⟩ := F3.out.cells
            have f7 := F3.out.free 7
            have hsz3 := lt_of_block F3.out
            go_upto_region 9 with fail
            go_region
            go_wp2_with fail
            refine ⟨⟨j + 1, by go_num, by omega, ?_, ?_⟩, by simp [intOf]; omega⟩
            · have h1 : FuAt (w3.setCell ⟨fb, 7, none⟩ (.pointer (some ⟨w3.heap.size, 0, none⟩))) fn p n := by
                unfold FuAt; rw [heap_set_other HO3.out]; exact FU3.out
              exact gr_keep (gr_drew (gr_alloc (gr_refl _ none) _)) h1 (by simp)
            · have h1 := heap_set (o := 7) (v := .pointer (some ⟨w3.heap.size, 0, none⟩)) F3.out
              have h2 := heap_alloc_new (w3.setCell ⟨fb, 7, none⟩ (.pointer (some ⟨w3.heap.size, 0, none⟩))) (.cells #[.string ⟨P.toArray⟩, .string ⟨t3.toArray⟩, .pointer uu] 245)
              rw [show (w3.setCell ⟨fb, 7, none⟩ (.pointer (some ⟨w3.heap.size, 0, none⟩))).heap.size = w3.heap.size by simp] at h2
              refine ⟨gr_drew (gr_alloc (gr_set_new GW3.out HO2.out) _), HBO2.out, _, gr_keep (gr_drew (gr_alloc (gr_refl _ none) _)) h1 (by simp), ?_⟩
              rw [HBB2.out]
              refine ⟨_, _, rfl, h2, ?_⟩
              exact ((SP3.out.kept (gr_set (gr_refl _ (some fb))) F3.out (by decide)).grow (gr_alloc (gr_refl _ none) _)).grow (gr_drew (gr_refl _ none))
    · obtain rfl : j = l.length := by omega
      have hok2 := HOK.out
      have hsp2 := HSP.out
      rw [List.take_length] at hok2 hsp2
      have HE2 := hid (show R = if (spcL (bindB l up) p).2 && (attB (bindB l up) l []).2 then some ⟨p, n, (spcL (bindB l up) p).1, (attB (bindB l up) l []).1, [], .nil, bindB l up⟩ else none by rw [HE.out, hok2, Bool.true_and])
      have HSP2 := hid hsp2
      clear HE HSP HOK hok2 hsp2 hlt hj HNS
      generalize bindB l up = own at *
      obtain ⟨s0, s1, s2, s3, s4, s5, s6, s7⟩ := HFR.out.cells
      have f3 := HFR.out.free 3
      obtain ⟨n0, n1, -, -⟩ := HFU.out.cells
      have F4 : Hid (FrB (wr.setCell ⟨fb, 3, none⟩ (.string ⟨n.toArray⟩)) fb p n [] n (.slice none 0 0) [] (.slice none 0 0) (.pointer uu)) := hid (heap_set (o := 3) (v := str n) HFR.out)
      have FU4 : Hid (FuAt (wr.setCell ⟨fb, 3, none⟩ (.string ⟨n.toArray⟩)) fn p n) := hid (by unfold FuAt; rw [heap_set_other HO3.out]; exact HFU.out)
      have G4 := hid (gr_set_new (o := 3) (v := .string ⟨n.toArray⟩) GW.out HO2.out)
      have SP4 := hid (HSP2.out.kept (gr_set (o := 3) (v := .string ⟨n.toArray⟩) (gr_refl _ (some fb))) HFR.out (by decide))
      go_upto_region 13 with fail
      generalize wr.setCell ⟨fb, 3, none⟩ (.string ⟨n.toArray⟩) = w4 at *
      clear s0 s1 s2 s3 s4 s5 s6 s7 f3 n0 n1 HFR HFU GW HSP2
      obtain ⟨s0, s1, s2, s3, s4, s5, s6, s7⟩ := F4.out.cells
      have f2 := F4.out.free 2
      obtain ⟨n0, n1, -, -⟩ := FU4.out.cells
      have HFD := hid (fun W (g : w4.grownBy W none) => find_x (.pointer uu) own p W (SP4.out.grow g))
      generalize spcL own p = SC at *
      obtain ⟨sc1, sc2⟩ := SC
      unfold str at HFD
      go_cut [13] (fun v13 wx => v13 = .bool sc2 ∧ w.grownBy wx none ∧ FrB wx fb p n sc1 n (.slice none 0 0) [] (.slice none 0 0) (.pointer uu) ∧ SpAt wx (.pointer uu) own)
      case first =>
        clear HE2
        have FIN := hid (fun (W : World) (g : w4.grownBy W none) => show w.grownBy (W.setCell ⟨fb, 2, none⟩ (.string ⟨sc1.toArray⟩)) none ∧ FrB (W.setCell ⟨fb, 2, none⟩ (.string ⟨sc1.toArray⟩)) fb p n sc1 n (.slice none 0 0) [] (.slice none 0 0) (.pointer uu) ∧ SpAt (W.setCell ⟨fb, 2, none⟩ (.string ⟨sc1.toArray⟩)) (.pointer uu) own from
          ⟨gr_set_new (gr_trans G4.out g) HO2.out, heap_set (o := 2) (v := str sc1) (F4.out.grow g), (SP4.out.grow g).kept (gr_set (gr_refl _ (some fb))) (F4.out.grow g) (by decide)⟩)
        go_region_with (go_at_call 222; refine (HFD.out _ (by first | exact gr_refl _ _ | exact gr_drew (gr_refl _ _))).mono ?_; rintro e w' ⟨rfl, rfl⟩)
        all_goals
          go_wp2_with fail
          go_meet
          refine ⟨rfl, ?_⟩
          have := FIN.out w4.drew (gr_drew (gr_refl _ _))
          first | exact this | exact ⟨gr_drew (FIN.out w4 (gr_refl _ _)).1, (FIN.out w4 (gr_refl _ _)).2.1.grow (gr_drew (gr_refl _ _)), (FIN.out w4 (gr_refl _ _)).2.2.grow (gr_drew (gr_refl _ _))⟩
      case rest =>
        obtain ⟨rfl, G5, F5, SP5⟩ := hcut
        obtain ⟨w5, rfl⟩ : ∃ w5 : World, w5 = wc := ⟨_, rfl⟩
        have ST := hid (show El2 w fb p n sc1 uu own (.slice none 0 0) [] w5 from ⟨G5, F5, SP5, rfl, .inl ⟨rfl, rfl⟩⟩)
        clear G5 F5 SP5 G4 F4 SP4 FU4 s0 s1 s2 s3 s4 s5 s6 s7 n0 n1 f2
        cases sc2
        · have HN := hid (show R = none from HE2.out)
          go_wp2
          ((try simp only [Exit.inBlock, Exit.then]); refine bodyPost_ret (results_tmp2 rfl _ _ _) rfl ?_)
          exact ⟨ST.out.gr, .inl ⟨HN.out, rfl⟩⟩
        have HE3 := hid (show R = if (attB own l []).2 then some ⟨p, n, sc1, (attB own l []).1, [], .nil, own⟩ else none from HE2.out)
        clear HE2
        go_wp2_with fail
        go_loopw [82] (fun v82 wr => ∃ (j : Nat) (acc : List At) (v : Value), v82 = .int .i64 (j : Int) ∧ j ≤ l.length ∧ El2 w fb p n sc1 uu own v acc wr ∧ Hid (attB own l [] = attB own (l.drop j) acc) ∧ acc.length ≤ j) (fun v82 _ => l.length - (intOf v82).toNat)
        case atStart => exact ⟨0, [], _, rfl, Nat.zero_le _, ST.out, rfl, Nat.le_refl _⟩
        case round =>
          obtain ⟨j, acc, v, rfl, hj, hst, hatt, hacc⟩ := hrel
          have ST1 := hid hst
          clear hst ST
          by_cases hlt : j < l.length
          · obtain ⟨va', vc', hv', htr⟩ := HL.out.grow ST1.out.gr
            simp only [Value.slice.injEq] at hv'
            obtain ⟨rfl, -, rfl⟩ := hv'
            obtain ⟨g, rfl, ht⟩ := htr j hlt
            have hatt' := hatt.out
            rw [drop_at l j hlt] at hatt'
            generalize l.getD j at0 = t at *
            obtain ⟨t1, t2, t3⟩ := t
            have e0 := ht.c0
            have e1 := ht.c1
            have e2 := ht.c2
            simp only at e0 e1 e2
            have HAT := hid hatt'
            have HNM := hid (fun W => names_x (t1, t2, t3) W)
            simp only at HNM
            have H1 := hid (fun h => attB_ns own (t1, t2, t3) (l.drop (j + 1)) acc h)
            have H2 := hid (fun h hb => attB_bad own (t1, t2, t3) (l.drop (j + 1)) acc h hb)
            have H3 := hid (fun h hb => attB_ok own (t1, t2, t3) (l.drop (j + 1)) acc h hb)
            simp only at H2 H3
            clear htr ht hatt hatt'
            go_wp2_with fail
            refine (HNM.out _).mono ?_
            rintro e w6 ⟨rfl, g6⟩
            have hA0 := heap_alloc_new wr (.cells #[.string ⟨t1.toArray⟩, .string ⟨t2.toArray⟩, .string ⟨t3.toArray⟩] 302)
            have hA := gr_keep g6 hA0 (by simp)
            have ST2 := hid (ST1.out.grow (gr_trans (gr_alloc (gr_refl wr none) (.cells #[.string ⟨t1.toArray⟩, .string ⟨t2.toArray⟩, .string ⟨t3.toArray⟩] 302)) g6))
            clear g6 hA0 e0 e1 e2 ST1
            unfold str
            generalize isNs (t1, t2, t3) = I at *
            cases I
            rotate_left
            · have HX := hid (show attB own l [] = attB own (l.drop (j + 1)) acc by rw [HAT.out, H1.out rfl])
              clear H1 H2 H3 HAT hA
              go_wp2
              go_roundw
              case rel => exact ⟨j + 1, acc, v, by go_num, by omega, ST2.out, HX, by omega⟩
              case measure => simp [intOf]; omega
            · have HB := hid (fun hb => show R = none by rw [HE3.out, HAT.out, H2.out rfl hb]; rfl)
              have HO := hid (fun hb => show attB own l [] = attB own (l.drop (j + 1)) (acc ++ [((atSp own t1).1, t2, t3)]) by rw [HAT.out, H3.out rfl hb])
              have HSP := hid (show atSp own t1 = if t1 = [] then ([], true) else spcL own t1 from rfl)
              have HFD := hid (fun W (h : SpAt W (.pointer uu) own) => find_x (.pointer uu) own t1 W h)
              generalize atSp own t1 = AT at *
              generalize spcL own t1 = SC at *
              obtain ⟨at1, at2⟩ := AT
              obtain ⟨sc3, sc4⟩ := SC
              simp only at HB HO HFD
              unfold str at HFD
              have a0 : w6.cell? ⟨wr.heap.size, 0, none⟩ = some (.string ⟨t1.toArray⟩) := cell_of_block hA 0
              have a1 : w6.cell? ⟨wr.heap.size, 1, none⟩ = some (.string ⟨t2.toArray⟩) := cell_of_block hA 1
              have a2 : w6.cell? ⟨wr.heap.size, 2, none⟩ = some (.string ⟨t3.toArray⟩) := cell_of_block hA 2
              have ST3 := hid (ST2.out.make [] t2 t3)
              have hA3 := gr_keep (gr_alloc (gr_refl w6 none) (.cells #[.string ⟨#[]⟩, .string ⟨t2.toArray⟩, .string ⟨t3.toArray⟩] 102)) hA (by simp)
              have HA3 := hid hA3
              clear H1 H2 H3 HAT hA hA3
              go_upto_region 22 with fail
              have hX := ST3.out.lo
              generalize w6.heap.size = X at *
              generalize w6.alloc (.cells #[.string ⟨#[]⟩, .string ⟨t2.toArray⟩, .string ⟨t3.toArray⟩] 102) = w7 at *
              generalize wr.heap.size = A at *
              clear a0 a1 a2 ST2 HNM
              have a0 : w7.cell? ⟨A, 0, none⟩ = some (.string ⟨t1.toArray⟩) := cell_of_block HA3.out 0
              clear HA3
              obtain ⟨c0, c1, c2, q0⟩ := ST3.out.cells
              obtain ⟨s0, s1, s2, s3, s4, s5, s6, s7⟩ := ST3.out.st.fr.cells
              have FIN := hid (fun (W : World) (g : w7.grownBy W none) => show El3 w fb p n sc1 uu own v acc X at1 t2 t3 (W.setCell ⟨X, 0, none⟩ (.string ⟨at1.toArray⟩)) from (ST3.out.grow g).set at1)
              go_upto_if 101 with fail
              obtain ⟨ne, hne⟩ : ∃ ne, ne = (!t1.isEmpty) := ⟨_, rfl⟩
              rw [← hne]
              have HNE := hid hne
              clear hne
              go_cut [13] (fun v13 wx => at2 = true ∧ El3 w fb p n sc1 uu own v acc X at1 t2 t3 wx)
              case first =>
                cases ne
                · have ht1 : t1 = [] := by
                    have := HNE.out
                    cases t1 with
                    | nil => rfl
                    | cons _ _ => cases this
                  have hsp := HSP.out
                  rw [if_pos ht1] at hsp
                  simp only [Prod.mk.injEq] at hsp
                  obtain ⟨rfl, rfl⟩ := hsp
                  clear HSP FIN HB HO ht1
                  go_wp2_with fail
                  go_meet
                  exact ⟨trivial, ST3.out⟩
                · have ht1 : t1 ≠ [] := fun h => by have := HNE.out; rw [h] at this; cases this
                  have hsp := HSP.out
                  rw [if_neg ht1] at hsp
                  simp only [Prod.mk.injEq] at hsp
                  obtain ⟨rfl, rfl⟩ := hsp
                  clear HSP
                  clear ht1
                  go_upto_region 23 with fail
                  go_cut [13] (fun v13 wx => v13 = .bool at2 ∧ El3 w fb p n sc1 uu own v acc X at1 t2 t3 wx)
                  case first =>
                    clear HB HO
                    go_region_with (go_at_call 222; refine (HFD.out _ (by first | exact ST3.out.st.sp | exact ST3.out.st.sp.grow (gr_drew (gr_refl _ _)))).mono ?_; rintro e w' ⟨rfl, rfl⟩)
                    all_goals
                      go_wp2_with fail
                      go_meet
                      refine ⟨rfl, ?_⟩
                      first | exact FIN.out w7.drew (gr_drew (gr_refl _ _)) | exact (FIN.out w7 (gr_refl _ _)).grow (gr_drew (gr_refl _ _))
                  case rest =>
                    obtain ⟨rfl, hst4⟩ := hcut
                    cases at2
                    · have HN := hid (HB.out rfl)
                      go_wp2
                      ((try simp only [Exit.inBlock, Exit.then]); refine bodyPost_ret (results_tmp2 rfl _ _ _) rfl ?_)
                      exact ⟨hst4.st.gr, .inl ⟨HN.out, rfl⟩⟩
                    · go_wp2_with fail
                      go_meet
                      exact ⟨trivial, hst4⟩
              case rest =>
                obtain ⟨rfl, hst4⟩ := hcut
                have ST4 := hid hst4
                clear hst4 c0 c1 c2 q0 s0 s1 s2 s3 s4 s5 s6 s7 a0 FIN HSP HFD ST3
                obtain ⟨va, vcc, hsv, hvc⟩ := row_shape ST4.out.st.row
                subst hsv
                obtain ⟨c0, c1, c2, q0⟩ := ST4.out.cells
                obtain ⟨s0, s1, s2, s3, s4, s5, s6, s7⟩ := ST4.out.st.fr.cells
                go_wp2_with fail
                have hal : acc.length ≤ 100000 := by omega
                clear c0 c1 c2 q0 s0 s1 s2 s3 s4 s5 s6 s7
                go_loopw [122] (fun v122 wx => ∃ i : Nat, v122 = .int .i64 (i : Int) ∧ i ≤ acc.length ∧ El3 w fb p n sc1 uu own (.slice va acc.length vcc) acc X at1 t2 t3 wx ∧ Hid ((acc.take i).any (sameA at1 t2) = false)) (fun v122 _ => acc.length - (intOf v122).toNat)
                case atStart => exact ⟨0, rfl, Nat.zero_le _, ST4.out, rfl⟩
                case round =>
                  obtain ⟨i, rfl, hi, hS, hany⟩ := hrel
                  have S5 := hid hS
                  clear hS ST4
                  by_cases hlt2 : i < acc.length
                  · obtain ⟨g2, cap2, hg2, -, hg3, -, -, hcell⟩ := own_tri S5.out.st.row (by omega)
                    simp only [Value.slice.injEq] at hg2
                    obtain ⟨rfl, -, rfl⟩ := hg2
                    have hT := hcell i hlt2
                    have hstep := hid (show (acc.take (i + 1)).any (sameA at1 t2) = ((acc.take i).any (sameA at1 t2) || sameA at1 t2 (acc.getD i at0)) by
                      rw [take_snoc_at acc i hlt2, List.any_append]; simp)
                    have hyes := hid (fun (h : sameA at1 t2 (acc.getD i at0) = true) => HB.out (by
                      rw [Bool.true_and, Bool.not_eq_false']
                      exact List.any_eq_true.2 ⟨acc[i], List.getElem_mem _, by rw [List.getD_eq_getElem?_getD, List.getElem?_eq_getElem hlt2] at h; exact h⟩))
                    generalize acc.getD i at0 = y at *
                    obtain ⟨y1, y2, y3⟩ := y
                    have e0 := hT.c0
                    have e1 := hT.c1
                    have e2 := hT.c2
                    simp only at e0 e1 e2
                    have S6 := hid (S5.out.grow (gr_alloc (gr_refl _ _) (.cells #[.string ⟨y1.toArray⟩, .string ⟨y2.toArray⟩, .string ⟨y3.toArray⟩] 102)))
                    obtain ⟨c0, c1, c2, q0⟩ := S5.out.cells
                    obtain ⟨d0, d1, d2, -⟩ := S6.out.cells
                    clear hT hcell
                    have HNX := hid (fun (h : ¬ (at1 = y1 ∧ t2 = y2)) => show (acc.take (i + 1)).any (sameA at1 t2) = false by
                      rw [hstep.out, hany.out, Bool.false_or]
                      unfold sameA
                      by_cases h1 : at1 = y1
                      · rw [decide_eq_false (show ¬ t2 = y2 from fun e => h ⟨h1, e⟩), Bool.and_false]
                      · rw [decide_eq_false h1]; rfl)
                    have HYX := hid (fun (h : at1 = y1 ∧ t2 = y2) => hyes.out (by unfold sameA; rw [decide_eq_true h.1, decide_eq_true h.2]; rfl))
                    clear hstep hyes
                    by_cases h1 : at1 = y1
                    · have hb1 : (at1 == y1) = true := by rw [beq_dec, decide_eq_true h1]
                      by_cases h2 : t2 = y2
                      · have hb2 : (t2 == y2) = true := by rw [beq_dec, decide_eq_true h2]
                        have HV := hid (HYX.out ⟨h1, h2⟩)
                        clear h1 h2
                        go_wp2_with fail
                        ((try simp only [Exit.inBlock, Exit.then]); refine bodyPost_ret (results_tmp2 rfl _ _ _) rfl ?_)
                        exact ⟨S6.out.st.gr, .inl ⟨HV.out, rfl⟩⟩
                      · have hb2 : (t2 == y2) = false := by rw [beq_dec, decide_eq_false h2]
                        have hX := HNX.out (fun h => h2 h.2)
                        clear h1 h2
                        go_wp2_with fail
                        go_roundw
                        case rel => exact ⟨i + 1, by go_num, by omega, S6.out, hX⟩
                        case measure => simp [intOf]; omega
                    · have hb1 : (at1 == y1) = false := by rw [beq_dec, decide_eq_false h1]
                      have hX := HNX.out (fun h => h1 h.1)
                      clear h1
                      go_wp2_with fail
                      go_roundw
                      case rel => exact ⟨i + 1, by go_num, by omega, S6.out, hX⟩
                      case measure => simp [intOf]; omega
                  · obtain rfl : i = acc.length := by omega
                    have hany' := hany.out
                    rw [List.take_length] at hany'
                    have HX := hid (HO.out (by rw [hany']; rfl))
                    clear hany hany' HO HB hlt2 hi
                    obtain ⟨c0, c1, c2, q0⟩ := S5.out.cells
                    obtain ⟨s0, s1, s2, s3, s4, s5, s6, s7⟩ := S5.out.st.fr.cells
                    have f4 := S5.out.st.fr.free 4
                    have hbs := S5.out.st.gr.size
                    go_upto_region 32 with fail
                    obtain ⟨x4, x5, x6, x7, x8⟩ := S5.out.keep5 (gr_alloc (gr_refl wr none) (.cells #[.string ⟨at1.toArray⟩, .string ⟨t2.toArray⟩, .string ⟨t3.toArray⟩] 102))
                    go_region_law
                      (first | (refine step_app3 (t := (at1, t2, t3)) (by rfl) (.tmp 144) (.tmp 146) (by rfl) (by rfl) (by rfl) (S5.out.st.grow (by (repeat (first | exact gr_refl _ _ | assumption | refine gr_drew ?_ | refine gr_drewN _ ?_ | refine gr_alloc ?_ _ | refine gr_set ?_ | refine gr_set_new ?_ (by first | omega | (simp; omega)))))).row ⟨by simp, by simp, by simp⟩ hal (by simp; omega) ?_; intro va8 vc8 w8 hown' hgrow; obtain ⟨z0, z1, z2, z3, z4⟩ := S5.out.app4 (by (repeat (first | exact gr_refl _ _ | assumption | refine gr_drew ?_ | refine gr_drewN _ ?_ | refine gr_alloc ?_ _ | refine gr_set ?_ | refine gr_set_new ?_ (by first | omega | (simp; omega))))) hgrow))
                    all_goals
                      obtain ⟨g8, fr8, sp8, -⟩ := S5.out.app (by (repeat (first | exact gr_refl _ _ | assumption | refine gr_drew ?_ | refine gr_drewN _ ?_ | refine gr_alloc ?_ _ | refine gr_set ?_ | refine gr_set_new ?_ (by first | omega | (simp; omega))))) hgrow
                      have row8 : w8.ownsRow w.heap.size 102 3 (.slice va8 (acc.length + 1) vc8) (acc ++ [(at1, t2, t3)]).length (tri (acc ++ [(at1, t2, t3)])) := by
                        rw [List.length_append] at hown'; rw [List.length_append]; exact hown'
                      have S9 := hid (show El2 w fb p n sc1 uu own (.slice va8 (acc.length + 1) vc8) (acc ++ [(at1, t2, t3)]) (w8.setCell ⟨fb, 4, none⟩ (.slice va8 (acc.length + 1) vc8)) from
                        ⟨gr_set_new g8 HO2.out, heap_set (o := 4) fr8, sp8.kept (gr_set (gr_refl _ (some fb))) fr8 (by decide), row_ty row8 (gr_set (gr_refl _ (some fb))) fr8 (by decide)⟩)
                      clear g8 fr8 sp8 row8 hown' hgrow z0 z1 z2 z3 z4
                      go_wp2_with fail
                      refine ⟨⟨j + 1, acc ++ [(at1, t2, t3)], _, by go_num, by omega, S9.out, HX, by rw [List.length_append, List.length_singleton]; omega⟩, by simp [intOf]; omega⟩
          · obtain rfl : j = l.length := by omega
            have HX := hid (show attB own l [] = (acc, true) by rw [hatt.out, List.drop_length]; rfl)
            have HR := hid (show R = some ⟨p, n, sc1, acc, [], .nil, own⟩ by rw [HE3.out, HX.out]; rfl)
            clear HE3 HX hatt
            go_wp2
            ((try simp only [Exit.inBlock, Exit.then]); refine bodyPost_ret (results_tmp2 rfl _ _ _) rfl ?_)
            exact ⟨ST1.out.gr, .inr ⟨_, fb, v, .pointer uu, HR.out, rfl, HO2.out, ST1.out.fr, ST1.out.sp, ST1.out.row, rfl, rfl⟩⟩
end Go.Proofs.YtmofnoconhgjmaaGreatDoor
