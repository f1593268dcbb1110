/- The parser's attrs. -/
import Derived.Test.YtmofnoconhgjmaaGreatDoorXmg
import Derived.Test.YtmofnoconhgjmaaGreatDoorMD
namespace Go.Proofs.YtmofnoconhgjmaaGreatDoor
open Go.RowKit
set_option linter.unusedVariables false
set_option linter.unusedSimpArgs false

/-- The cells of a row of attributes. -/
def tri (l : List At) : List Value := l.flatMap fun a => [str a.1, str a.2.1, str a.2.2]
theorem tri_len (l : List At) : (tri l).length = l.length * 3 := by
  induction l with
  | nil => rfl
  | cons a l ih => unfold tri at ih ⊢; rw [List.flatMap_cons, List.length_append, ih, List.length_cons]; simp only [List.length_cons, List.length_nil]; omega
theorem tri_snoc (l : List At) (a : At) : tri (l ++ [a]) = tri l ++ [str a.1, str a.2.1, str a.2.2] := by
  unfold tri; rw [List.flatMap_append]; rfl
def at0 : At := ([], [], [])
theorem tri_get (l : List At) : ∀ (i : Nat), i < l.length → (tri l)[i * 3]? = some (str (l.getD i at0).1) ∧ (tri l)[i * 3 + 1]? = some (str (l.getD i at0).2.1) ∧ (tri l)[i * 3 + 2]? = some (str (l.getD i at0).2.2) := by
  induction l with
  | nil => intro i hi; simp at hi
  | cons a l ih =>
    intro i hi
    cases i with
    | zero => exact ⟨rfl, rfl, rfl⟩
    | succ i =>
      have := ih i (by simpa using hi)
      rw [show (i + 1) * 3 = i * 3 + 3 by omega, show i * 3 + 3 + 1 = i * 3 + 1 + 3 by omega, show i * 3 + 3 + 2 = i * 3 + 2 + 3 by omega]
      exact this
/-- Three strings in memory. -/
structure TriAt (w : World) (b o : Nat) (a : At) : Prop where
  c0 : w.cell? ⟨b, o, none⟩ = some (.string ⟨a.1.toArray⟩)
  c1 : w.cell? ⟨b, o + 1, none⟩ = some (.string ⟨a.2.1.toArray⟩)
  c2 : w.cell? ⟨b, o + 2, none⟩ = some (.string ⟨a.2.2.toArray⟩)
theorem own_tri {w : World} {base : Nat} {e : TypeId} {v : Value} {n : Nat} {l : List At} (h : w.ownsRow base e 3 v n (tri l)) (hp : 0 < n) :
    ∃ g cap, v = .slice (some ⟨g, 0, none⟩) n cap ∧ base ≤ g ∧ g < w.heap.size ∧ n ≤ cap ∧ n = l.length ∧ ∀ i, i < n → TriAt w g (i * 3) (l.getD i at0) := by
  have hl := h.1
  rw [tri_len] at hl
  rcases h.2 with ⟨rfl, h0⟩ | ⟨g, cap, cur, rfl, hg, hh, hc, hm, hs, ht⟩
  · omega
  · refine ⟨g, cap, rfl, hg, lt_of_block hh, hc, by omega, fun i hi => ?_⟩
    obtain ⟨e0, e1, e2⟩ := tri_get l i (by omega)
    have cl : ∀ k u, k < n * 3 → (tri l)[k]? = some u → w.cell? ⟨g, k, none⟩ = some u := fun k u hk hu => by
      rw [← ht, List.getElem?_take, if_pos hk] at hu
      simpa [World.cell?, hh] using hu
    exact ⟨cl _ _ (by omega) e0, cl _ _ (by omega) e1, cl _ _ (by omega) e2⟩
abbrev xat : TypeId := 302
theorem PrAt.lt {w : World} {b : Nat} {rest : Bs} {sv : Value} {cnt : Int} {full : Bool} (h : PrAt w b rest sv cnt full) : b < w.heap.size := lt_of_block h
theorem row_pr {w w' : World} {base size n b : Nat} {e : TypeId} {v : Value} {xs : List Value} {rest : Bs} {sv : Value} {cnt : Int} {full : Bool} (h : w.ownsRow base e size v n xs) (g : w.grownBy w' (some b)) (hp : PrAt w b rest sv cnt full) (hT : e ≠ 114) : w'.ownsRow base e size v n xs := row_ty h g hp hT
/-- The state while an attribute is read: its block A holds x, y, z. -/
structure AS (w w' : World) (b : Nat) (r : Bs) (sv : Value) (cnt : Int) (full : Bool) (v2 : Value) (acc : List At) (A : Nat) (x y z : Bs) : Prop where
  pr : PrAt w' b r sv cnt full
  gr : w.grownBy w' (some b)
  own : w'.ownsRow w.heap.size xat 3 v2 acc.length (tri acc)
  at' : w'.heap[A]? = some (.cells #[str x, str y, str z] xat (0, 0))
  lo : w.heap.size ≤ A
  ne : v2.ownBlock ≠ some A
theorem AS.step {w w' w'' : World} {b : Nat} {r r' : Bs} {sv : Value} {cnt : Int} {full : Bool} {v2 : Value} {acc : List At} {A : Nat} {x y z : Bs} (h : AS w w' b r sv cnt full v2 acc A x y z) (hp : PrAt w'' b r' sv cnt full) (g : w'.grownBy w'' (some b)) : AS w w'' b r' sv cnt full v2 acc A x y z :=
  ⟨hp, gr_trans h.gr g, row_pr h.own g h.pr (by decide), gr_keep g h.at' (blk_ne h.at' h.pr (by decide)), h.lo, h.ne⟩
theorem AS.grow {w w' w'' : World} {b : Nat} {r : Bs} {sv : Value} {cnt : Int} {full : Bool} {v2 : Value} {acc : List At} {A : Nat} {x y z : Bs} (h : AS w w' b r sv cnt full v2 acc A x y z) (g : w'.grownBy w'' none) : AS w w'' b r sv cnt full v2 acc A x y z :=
  ⟨h.pr.grow g, gr_trans h.gr (gr_none g), row_none h.own g, gr_keep g h.at' (by simp), h.lo, h.ne⟩
theorem AS.set {w w' : World} {b : Nat} {r : Bs} {sv : Value} {cnt : Int} {full : Bool} {v2 : Value} {acc : List At} {A : Nat} {x y z : Bs} (h : AS w w' b r sv cnt full v2 acc A x y z) (o : Nat) (u : Value) (x' y' z' : Bs) (hc : #[str x, str y, str z].setIfInBounds o u = #[str x', str y', str z']) : AS w (w'.setCell ⟨A, o, none⟩ u) b r sv cnt full v2 acc A x' y' z' := by
  have hne : b ≠ A := fun e => blk_ne h.at' h.pr (by decide) (by rw [e])
  refine ⟨h.pr.other hne, gr_set_new h.gr h.lo, ?_, by rw [← hc]; exact heap_set h.at', h.lo, h.ne⟩
  refine h.own.kept (gr_set (gr_refl w' (some A))) ?_
  rcases hv : v2.ownBlock with _ | g
  · exact .inl (by
      rcases h.own.2 with ⟨rfl, _⟩ | ⟨g', cap, cur, rfl, _⟩
      · rfl
      · cases hv)
  · exact .inr (fun e => h.ne (by rw [hv, e]))
theorem AS.cells {w w' : World} {b : Nat} {r : Bs} {sv : Value} {cnt : Int} {full : Bool} {v2 : Value} {acc : List At} {A : Nat} {x y z : Bs} (h : AS w w' b r sv cnt full v2 acc A x y z) : w'.cell? ⟨A, 0, none⟩ = some (.string ⟨x.toArray⟩) ∧ w'.cell? ⟨A, 1, none⟩ = some (.string ⟨y.toArray⟩) ∧ w'.cell? ⟨A, 2, none⟩ = some (.string ⟨z.toArray⟩) ∧ w'.frozen? ⟨A, 0, none⟩ = false ∧ w'.frozen? ⟨A, 1, none⟩ = false ∧ w'.frozen? ⟨A, 2, none⟩ = false :=
  ⟨cell_of_block h.at' 0, cell_of_block h.at' 1, cell_of_block h.at' 2, free_of_block h.at' 0, free_of_block h.at' 1, free_of_block h.at' 2⟩
end Go.Proofs.YtmofnoconhgjmaaGreatDoor
