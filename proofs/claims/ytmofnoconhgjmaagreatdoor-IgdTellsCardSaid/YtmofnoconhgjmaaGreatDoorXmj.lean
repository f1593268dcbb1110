/- xml.element. -/
import Derived.Test.YtmofnoconhgjmaaGreatDoorXmi
import Derived.RegionTactic
import Derived.Test.YtmofnoconhgjmaaGreatDoorMR
import Derived.Deep.DeepCutAuto
import Derived.Deep.RegionHeld3
import Derived.Deep.RegionLaw
namespace Go.Proofs.YtmofnoconhgjmaaGreatDoor
open Go.RowKit
set_option linter.unusedVariables false
set_option linter.unusedSimpArgs false

/-- A slice of attributes as it is read. -/
def TrsAt (w : World) (v : Value) (l : List At) : Prop := ∃ a c, v = .slice a l.length c ∧ ∀ i, i < l.length → ∃ g, a = some ⟨g, 0, none⟩ ∧ TriAt w g (i * 3) (l.getD i at0)
theorem TriAt.grow {w w' : World} {b o : Nat} {a : At} (h : TriAt w b o a) (g : w.grownBy w' none) : TriAt w' b o a := ⟨g.cell h.c0 (by simp), g.cell h.c1 (by simp), g.cell h.c2 (by simp)⟩
theorem TrsAt.grow {w w' : World} {v : Value} {l : List At} (h : TrsAt w v l) (g : w.grownBy w' none) : TrsAt w' v l := by
  obtain ⟨a, c, rfl, h⟩ := h
  exact ⟨a, c, rfl, fun i hi => by obtain ⟨k, rfl, ht⟩ := h i hi; exact ⟨k, rfl, ht.grow g⟩⟩
theorem bindB_snoc (l : List At) (a : At) : ∀ bs, bindB (l ++ [a]) bs = if isNs a then (nsOf a, a.2.2) :: bindB l bs else bindB l bs := by
  induction l with
  | nil => intro bs; rfl
  | cons x l ih => intro bs; exact ih _
theorem bindOk_snoc (l : List At) (a : At) : bindOk (l ++ [a]) = (bindOk l && !(decide (a.1 = nsT) && decide (a.2.2 = []))) := by
  unfold bindOk; rw [List.all_append]; simp
theorem take_snoc_at (l : List At) (j : Nat) (hj : j < l.length) : l.take (j + 1) = l.take j ++ [l.getD j at0] := by
  rw [List.take_succ_eq_append_getElem hj, List.getD_eq_getElem?_getD, List.getElem?_eq_getElem hj]; rfl
/-- A frame's cells. -/
def FrC (p n s n2 : Bs) (av : Value) (tx : Bs) (kv sp : Value) : Array Value := #[str p, str n, str s, str n2, av, str tx, kv, sp]
def FrB (w : World) (fb : Nat) (p n s n2 : Bs) (av : Value) (tx : Bs) (kv sp : Value) : Prop := w.heap[fb]? = some (.cells (FrC p n s n2 av tx kv sp) 247 (0, 0))
theorem FrB.cells {w : World} {fb : Nat} {p n s n2 : Bs} {av : Value} {tx : Bs} {kv sp : Value} (h : FrB w fb p n s n2 av tx kv sp) :
    w.cell? ⟨fb, 0, none⟩ = some (.string ⟨p.toArray⟩) ∧ w.cell? ⟨fb, 1, none⟩ = some (.string ⟨n.toArray⟩) ∧ w.cell? ⟨fb, 2, none⟩ = some (.string ⟨s.toArray⟩) ∧ w.cell? ⟨fb, 3, none⟩ = some (.string ⟨n2.toArray⟩) ∧ w.cell? ⟨fb, 4, none⟩ = some av ∧ w.cell? ⟨fb, 5, none⟩ = some (.string ⟨tx.toArray⟩) ∧ w.cell? ⟨fb, 6, none⟩ = some kv ∧ w.cell? ⟨fb, 7, none⟩ = some sp :=
  ⟨cell_of_block h 0, cell_of_block h 1, cell_of_block h 2, cell_of_block h 3, cell_of_block h 4, cell_of_block h 5, cell_of_block h 6, cell_of_block h 7⟩
theorem FrB.free {w : World} {fb : Nat} {p n s n2 : Bs} {av : Value} {tx : Bs} {kv sp : Value} (h : FrB w fb p n s n2 av tx kv sp) (o : Nat) : w.frozen? ⟨fb, o, none⟩ = false := free_of_block h o
theorem FrB.grow {w w' : World} {fb : Nat} {p n s n2 : Bs} {av : Value} {tx : Bs} {kv sp : Value} (h : FrB w fb p n s n2 av tx kv sp) (g : w.grownBy w' none) : FrB w' fb p n s n2 av tx kv sp := gr_keep g h (by simp)
theorem infoA : (Tryz.prog.info? 102).map (fun i => (i.zero, i.size, i.bytes)) = some (some (.agg #[.string ⟨#[]⟩, .string ⟨#[]⟩, .string ⟨#[]⟩]), 3, 48) := by kernel_rfl
/-- The second loop's state. -/
structure El2 (w : World) (fb : Nat) (p n s : Bs) (uu : Option Addr) (own : List (Bs × Bs)) (v : Value) (acc : List At) (wr : World) : Prop where
  gr : w.grownBy wr none
  fr : FrB wr fb p n s n v [] (.slice none 0 0) (.pointer uu)
  sp : SpAt wr (.pointer uu) own
  row : wr.ownsRow w.heap.size 102 3 v acc.length (tri acc)
theorem El2.grow {w wr w' : World} {fb : Nat} {p n s : Bs} {uu : Option Addr} {own : List (Bs × Bs)} {v : Value} {acc : List At} (h : El2 w fb p n s uu own v acc wr) (g : wr.grownBy w' none) : El2 w fb p n s uu own v acc w' :=
  ⟨gr_trans h.gr g, h.fr.grow g, h.sp.grow g, row_none h.row g⟩
/-- With the attribute that is made. -/
structure El3 (w : World) (fb : Nat) (p n s : Bs) (uu : Option Addr) (own : List (Bs × Bs)) (v : Value) (acc : List At) (X : Nat) (x y z : Bs) (wr : World) : Prop where
  st : El2 w fb p n s uu own v acc wr
  at' : wr.heap[X]? = some (.cells #[str x, str y, str z] 102 (0, 0))
  lo : w.heap.size ≤ X
  ne : v.ownBlock ≠ some X
theorem El3.grow {w wr w' : World} {fb : Nat} {p n s : Bs} {uu : Option Addr} {own : List (Bs × Bs)} {v : Value} {acc : List At} {X : Nat} {x y z : Bs} (h : El3 w fb p n s uu own v acc X x y z wr) (g : wr.grownBy w' none) : El3 w fb p n s uu own v acc X x y z w' :=
  ⟨h.st.grow g, gr_keep g h.at' (by simp), h.lo, h.ne⟩
theorem El2.make {w wr : World} {fb : Nat} {p n s : Bs} {uu : Option Addr} {own : List (Bs × Bs)} {v : Value} {acc : List At} (h : El2 w fb p n s uu own v acc wr) (x y z : Bs) : El3 w fb p n s uu own v acc wr.heap.size x y z (wr.alloc (.cells #[.string ⟨x.toArray⟩, .string ⟨y.toArray⟩, .string ⟨z.toArray⟩] 102)) :=
  ⟨h.grow (gr_alloc (gr_refl _ _) _), heap_alloc_new wr _, h.gr.size, fun e => by have := (h.row.lt _ e).2; omega⟩
theorem El3.set {w wr : World} {fb : Nat} {p n s : Bs} {uu : Option Addr} {own : List (Bs × Bs)} {v : Value} {acc : List At} {X : Nat} {x y z : Bs} (h : El3 w fb p n s uu own v acc X x y z wr) (x' : Bs) : El3 w fb p n s uu own v acc X x' y z (wr.setCell ⟨X, 0, none⟩ (.string ⟨x'.toArray⟩)) := by
  have g := gr_set (o := 0) (v := .string ⟨x'.toArray⟩) (gr_refl wr (some X))
  refine ⟨⟨gr_set_new h.st.gr h.lo, gr_keep g h.st.fr (blk_ne h.st.fr h.at' (by decide)), h.st.sp.kept g h.at' (by decide), h.st.row.kept g ?_⟩, heap_set (o := 0) (v := str x') h.at', h.lo, h.ne⟩
  rcases hv : v.ownBlock with _ | k
  · exact .inl (by
      rcases h.st.row.2 with ⟨rfl, _⟩ | ⟨g', cap, cur, rfl, _⟩
      · rfl
      · cases hv)
  · exact .inr (fun e => h.ne (by rw [hv, e]))
theorem El3.cells {w wr : World} {fb : Nat} {p n s : Bs} {uu : Option Addr} {own : List (Bs × Bs)} {v : Value} {acc : List At} {X : Nat} {x y z : Bs} (h : El3 w fb p n s uu own v acc X x y z wr) : wr.cell? ⟨X, 0, none⟩ = some (.string ⟨x.toArray⟩) ∧ wr.cell? ⟨X, 1, none⟩ = some (.string ⟨y.toArray⟩) ∧ wr.cell? ⟨X, 2, none⟩ = some (.string ⟨z.toArray⟩) ∧ wr.frozen? ⟨X, 0, none⟩ = false :=
  ⟨cell_of_block h.at' 0, cell_of_block h.at' 1, cell_of_block h.at' 2, free_of_block h.at' 0⟩
theorem SpAt.own {w w1 : World} {base size n : Nat} {e : TypeId} {v : Value} {xs : List Value} {u : Value} {l : List (Bs × Bs)} (h : w.ownsRow base e size v n xs) (k : w.grownBy w1 v.ownBlock) (hx : SpAt w u l) (hT : 245 ≠ e) : SpAt w1 u l := by
  induction l generalizing u with
  | nil => exact hx
  | cons x l ih =>
    obtain ⟨b, u', rfl, hb, hu⟩ := hx
    exact ⟨b, u', rfl, keep_own h k hb hT, ih hu⟩
theorem El3.app {w wr W w8 : World} {fb : Nat} {p n s : Bs} {uu : Option Addr} {own : List (Bs × Bs)} {v : Value} {acc : List At} {X : Nat} {x y z : Bs} (h : El3 w fb p n s uu own v acc X x y z wr) (g0 : wr.grownBy W none) (g : W.grownBy w8 v.ownBlock) :
    w.grownBy w8 none ∧ FrB w8 fb p n s n v [] (.slice none 0 0) (.pointer uu) ∧ SpAt w8 (.pointer uu) own ∧ w8.heap[X]? = some (.cells #[str x, str y, str z] 102 (0, 0)) := by
  have h2 := h.grow g0
  exact ⟨gr_own h2.st.gr h2.st.row (Nat.le_refl _) g, keep_own h2.st.row g h2.st.fr (by decide), h2.st.sp.own h2.st.row g (by decide), gr_keep g h2.at' (fun e => h2.ne e.symm)⟩
theorem attB_ns (bs : List (Bs × Bs)) (a : At) (l acc : List At) (h : isNs a = true) : attB bs (a :: l) acc = attB bs l acc := by
  conv => lhs; unfold attB
  rw [if_pos h]
theorem drop_at (l : List At) (j : Nat) (hj : j < l.length) : l.drop j = l.getD j at0 :: l.drop (j + 1) := by
  rw [List.drop_eq_getElem_cons hj, List.getD_eq_getElem?_getD, List.getElem?_eq_getElem hj]; rfl
end Go.Proofs.YtmofnoconhgjmaaGreatDoor
