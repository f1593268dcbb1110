/- Texts of one proof, put together: Xmk, Xml, Xmn. -/
import Derived.Test.YtmofnoconhgjmaaGreatDoorXmj
import Derived.Maps.AppendAt
/- Elements in memory, beside blocks that may be written; the frames of a parser; what keeps them. -/
namespace Go.Proofs.YtmofnoconhgjmaaGreatDoor
open Go.RowKit
set_option linter.unusedVariables false
set_option linter.unusedSimpArgs false

theorem lt_of_cell {w : World} {b o : Nat} {v : Value} (h : w.cell? ⟨b, o, none⟩ = some v) : b < w.heap.size := by
  by_cases hb : b < w.heap.size
  · exact hb
  · have : w.heap[b]? = none := Array.getElem?_eq_none (by omega)
    simp [World.cell?, this] at h
theorem cell_of_same {w w' : World} {b o : Nat} (h : w'.heap[b]? = w.heap[b]?) : w'.cell? ⟨b, o, none⟩ = w.cell? ⟨b, o, none⟩ := World.cell?_of_block (a := ⟨b, o, none⟩) h
/-- Attributes in memory, in a block that X has not. -/
def AtsAt (w : World) (X : Nat → Prop) (v : Value) (l : List At) : Prop := ∃ a c, v = .slice a l.length c ∧ ∀ i, i < l.length → ∃ g o, a = some ⟨g, o, none⟩ ∧ (¬ X g ∧ l.length ≤ c) ∧ TriAt w g (o + i * 3) (l.getD i at0)
/-- Elements in memory, from a place on; what they lead to lies in blocks that X has not. -/
def FoAt (w : World) (X : Nat → Prop) : Fo → Nat → Nat → Prop
  | .nil, _, _ => True
  | .cons s n ats tx kids next, b, o =>
    (w.cell? ⟨b, o, none⟩ = some (.string ⟨s.toArray⟩) ∧ w.cell? ⟨b, o + 1, none⟩ = some (.string ⟨n.toArray⟩) ∧ w.cell? ⟨b, o + 3, none⟩ = some (.string ⟨tx.toArray⟩)) ∧
    (∃ av, w.cell? ⟨b, o + 2, none⟩ = some av ∧ AtsAt w X av ats) ∧
    (∃ a c, w.cell? ⟨b, o + 4, none⟩ = some (.slice a kids.len c) ∧ (0 < kids.len → ∃ b' o', a = some ⟨b', o', none⟩ ∧ ¬ X b' ∧ FoAt w X kids b' o')) ∧
    FoAt w X next b (o + 5)
def KidV (w : World) (X : Nat → Prop) (v : Value) (kids : Fo) : Prop := ∃ a c, v = .slice a kids.len c ∧ (0 < kids.len → ∃ b o, a = some ⟨b, o, none⟩ ∧ ¬ X b ∧ FoAt w X kids b o)
theorem TriAt.same {w w' : World} {b o : Nat} {a : At} (h : TriAt w b o a) (k : w'.heap[b]? = w.heap[b]?) : TriAt w' b o a := ⟨(cell_of_same k).trans h.c0, (cell_of_same k).trans h.c1, (cell_of_same k).trans h.c2⟩
theorem AtsAt.same {w w' : World} {X : Nat → Prop} {v : Value} {l : List At} (h : AtsAt w X v l) (k : ∀ b, b < w.heap.size → ¬ X b → w'.heap[b]? = w.heap[b]?) : AtsAt w' X v l := by
  obtain ⟨a, c, rfl, h⟩ := h
  refine ⟨a, c, rfl, fun i hi => ?_⟩
  obtain ⟨g, o, rfl, hx, ht⟩ := h i hi
  exact ⟨g, o, rfl, hx, ht.same (k g (lt_of_cell ht.c0) hx.1)⟩
theorem FoAt.same {w w' : World} {X : Nat → Prop} (k : ∀ b, b < w.heap.size → ¬ X b → w'.heap[b]? = w.heap[b]?) : ∀ {f : Fo} {b o : Nat}, FoAt w X f b o → w'.heap[b]? = w.heap[b]? → FoAt w' X f b o := by
  intro f
  induction f with
  | nil => intro _ _ _ _; trivial
  | cons s n ats tx kids next ih1 ih2 =>
    intro b o h hb
    obtain ⟨⟨c0, c1, c3⟩, ⟨av, c2, ha⟩, ⟨a, c, c4, hk⟩, hn⟩ := h
    refine ⟨⟨(cell_of_same hb).trans c0, (cell_of_same hb).trans c1, (cell_of_same hb).trans c3⟩, ⟨av, (cell_of_same hb).trans c2, ha.same k⟩, ⟨a, c, (cell_of_same hb).trans c4, fun hl => ?_⟩, ih2 hn hb⟩
    obtain ⟨b', o', rfl, hx, hf⟩ := hk hl
    refine ⟨b', o', rfl, hx, ih1 hf (k b' ?_ hx)⟩
    cases kids with
    | nil => simp [Fo.len] at hl
    | cons => exact lt_of_cell hf.1.1
theorem AtsAt.less {w : World} {X X' : Nat → Prop} {v : Value} {l : List At} (h : AtsAt w X v l) (k : ∀ b, b < w.heap.size → X' b → X b) : AtsAt w X' v l := by
  obtain ⟨a, c, rfl, h⟩ := h
  refine ⟨a, c, rfl, fun i hi => ?_⟩
  obtain ⟨g, o, rfl, hx, ht⟩ := h i hi
  exact ⟨g, o, rfl, ⟨fun h' => hx.1 (k g (lt_of_cell ht.c0) h'), hx.2⟩, ht⟩
theorem FoAt.less {w : World} {X X' : Nat → Prop} (k : ∀ b, b < w.heap.size → X' b → X b) : ∀ {f : Fo} {b o : Nat}, FoAt w X f b o → FoAt w X' f b o := by
  intro f
  induction f with
  | nil => intro _ _ _; trivial
  | cons s n ats tx kids next ih1 ih2 =>
    intro b o h
    obtain ⟨c0, ⟨av, c2, ha⟩, ⟨a, c, c4, hk⟩, hn⟩ := h
    refine ⟨c0, ⟨av, c2, ha.less k⟩, ⟨a, c, c4, fun hl => ?_⟩, ih2 hn⟩
    obtain ⟨b', o', rfl, hx, hf⟩ := hk hl
    refine ⟨b', o', rfl, fun h' => hx (k b' ?_ h'), ih1 hf⟩
    cases kids with
    | nil => simp [Fo.len] at hl
    | cons => exact lt_of_cell hf.1.1
theorem KidV.same {w w' : World} {X : Nat → Prop} {v : Value} {f : Fo} (h : KidV w X v f) (k : ∀ b, b < w.heap.size → ¬ X b → w'.heap[b]? = w.heap[b]?) : KidV w' X v f := by
  obtain ⟨a, c, rfl, h⟩ := h
  refine ⟨a, c, rfl, fun hl => ?_⟩
  obtain ⟨b, o, rfl, hx, hf⟩ := h hl
  refine ⟨b, o, rfl, hx, hf.same k (k b ?_ hx)⟩
  cases f with
  | nil => simp [Fo.len] at hl
  | cons => exact lt_of_cell hf.1.1
theorem KidV.less {w : World} {X X' : Nat → Prop} {v : Value} {f : Fo} (h : KidV w X v f) (k : ∀ b, b < w.heap.size → X' b → X b) : KidV w X' v f := by
  obtain ⟨a, c, rfl, h⟩ := h
  refine ⟨a, c, rfl, fun hl => ?_⟩
  obtain ⟨b, o, rfl, hx, hf⟩ := h hl
  refine ⟨b, o, rfl, fun h' => hx (k b ?_ h'), hf.less k⟩
  cases f with
  | nil => simp [Fo.len] at hl
  | cons => exact lt_of_cell hf.1.1
/-- One more element behind. -/
theorem FoAt.snoc {w : World} {X : Nat → Prop} {e : El} {av kv : Value} : ∀ {f : Fo} {b o : Nat}, FoAt w X f b o →
    w.cell? ⟨b, o + f.len * 5, none⟩ = some (.string ⟨e.s.toArray⟩) → w.cell? ⟨b, o + f.len * 5 + 1, none⟩ = some (.string ⟨e.n.toArray⟩) → w.cell? ⟨b, o + f.len * 5 + 2, none⟩ = some av → w.cell? ⟨b, o + f.len * 5 + 3, none⟩ = some (.string ⟨e.tx.toArray⟩) → w.cell? ⟨b, o + f.len * 5 + 4, none⟩ = some kv →
    AtsAt w X av e.ats → KidV w X kv e.kids → FoAt w X (f.snoc e) b o := by
  intro f
  induction f with
  | nil =>
    intro b o _ c0 c1 c2 c3 c4 ha hk
    simp only [Fo.len, Nat.zero_mul, Nat.add_zero] at c0 c1 c2 c3 c4
    obtain ⟨a, c, rfl, hk⟩ := hk
    exact ⟨⟨c0, c1, c3⟩, ⟨av, c2, ha⟩, ⟨a, c, c4, hk⟩, trivial⟩
  | cons s n ats tx kids next _ ih =>
    intro b o h c0 c1 c2 c3 c4 ha hk
    obtain ⟨h0, h1, h2, hn⟩ := h
    simp only [Fo.len] at c0 c1 c2 c3 c4
    have e5 : o + (next.len + 1) * 5 = o + 5 + next.len * 5 := by omega
    rw [e5] at c0 c1 c2 c3 c4
    exact ⟨h0, h1, h2, ih hn c0 c1 c2 c3 c4 ha hk⟩
/-- A row of elements of the call's own. -/
def OwnFo (w : World) (X : Nat → Prop) (base : Nat) (kv : Value) (f : Fo) : Prop :=
  ∃ cs, w.ownsRow base 25 5 kv f.len cs ∧ ∀ k o l c, kv = .slice (some ⟨k, o, none⟩) l c → FoAt w X f k o
theorem OwnFo.kid {w : World} {X : Nat → Prop} {base : Nat} {kv : Value} {f : Fo} (h : OwnFo w X base kv f) {X' : Nat → Prop} (hx : ∀ b, b < w.heap.size → X' b → X b) (hk : ∀ k, kv.ownBlock = some k → ¬ X' k) : KidV w X' kv f := by
  obtain ⟨cs, h1, h2⟩ := h
  rcases h1.2 with ⟨rfl, h0⟩ | ⟨g, cap, cur, rfl, hg, hh, hc, hm, hs, ht⟩
  · exact ⟨none, 0, by rw [h0], fun hl => by omega⟩
  · exact ⟨_, cap, rfl, fun _ => ⟨g, 0, rfl, hk g rfl, (h2 g 0 _ _ rfl).less hx⟩⟩
theorem OwnFo.less {w : World} {X X' : Nat → Prop} {base : Nat} {kv : Value} {f : Fo} (h : OwnFo w X base kv f) (hx : ∀ b, b < w.heap.size → X' b → X b) : OwnFo w X' base kv f := by
  obtain ⟨cs, h1, h2⟩ := h
  exact ⟨cs, h1, fun k o l c e => (h2 k o l c e).less hx⟩
theorem OwnFo.same {w w' : World} {X : Nat → Prop} {base : Nat} {kv : Value} {f : Fo} (h : OwnFo w X base kv f) (k : ∀ b, b < w.heap.size → ¬ X b → w'.heap[b]? = w.heap[b]?) (hb : ∀ b, kv.ownBlock = some b → w'.heap[b]? = w.heap[b]?) : OwnFo w' X base kv f := by
  obtain ⟨cs, h1, h2⟩ := h
  refine ⟨cs, ?_, fun k' o l c e => ?_⟩
  · refine ⟨h1.1, ?_⟩
    rcases h1.2 with h0 | ⟨g, cap, cur, rfl, hg, hh, r⟩
    · exact .inl h0
    · exact .inr ⟨g, cap, cur, rfl, hg, (hb g rfl).trans hh, r⟩
  · have := h2 k' o l c e
    subst e
    exact this.same k (hb k' rfl)
/-- A frame in memory. -/
structure FrAt (w : World) (X : Nat → Prop) (base fb : Nat) (kv : Value) (f : Fr) : Prop where
  blk : ∃ av sp, FrB w fb f.p f.n f.s f.n av f.tx kv sp ∧ AtsAt w X av f.ats ∧ SpAt w sp f.bs
  row : OwnFo w X base kv f.kids
  inF : X fb
  inK : ∀ k, kv.ownBlock = some k → X k
  lo : base ≤ fb
/-- The frames, the last one ahead. -/
def FrsAt (w : World) (X : Nat → Prop) (base : Nat) : List Fr → List (Nat × Value) → Prop
  | [], [] => True
  | f :: S, x :: l => FrAt w X base x.1 x.2 f ∧ (∀ y ∈ l, y.1 ≠ x.1 ∧ ∀ k, x.2.ownBlock = some k → y.2.ownBlock ≠ some k) ∧ FrsAt w X base S l
  | _, _ => False
def ptrs (l : List (Nat × Value)) : List Value := (l.map fun x => Value.pointer (some ⟨x.1, 0, none⟩)).reverse
abbrev tPtr : TypeId := 248
/-- The parser with all that it has. -/
def MAt (w0 w : World) (b : Nat) (m : Ma) : Prop :=
  ∃ X sv l, w0.grownBy w none ∧ w0.heap.size ≤ b ∧ PrAt w b m.r sv (m.cnt : Int) m.full ∧ w.ownsRow w0.heap.size 248 1 sv m.st.length (ptrs l) ∧ FrsAt w X w0.heap.size m.st l ∧ X b ∧ (∀ k, sv.ownBlock = some k → X k) ∧ ∀ k, k < w0.heap.size → X k
theorem FrsAt.len {w : World} {X : Nat → Prop} {base : Nat} : ∀ {S : List Fr} {l : List (Nat × Value)}, FrsAt w X base S l → l.length = S.length := by
  intro S
  induction S with
  | nil => intro l h; cases l with
    | nil => rfl
    | cons => exact h.elim
  | cons f S ih => intro l h; cases l with
    | nil => exact h.elim
    | cons x l => simp only [List.length_cons]; rw [ih h.2.2]
end Go.Proofs.YtmofnoconhgjmaaGreatDoor
/- The parser's state in parts, what keeps it; top. -/
namespace Go.Proofs.YtmofnoconhgjmaaGreatDoor
open Go.RowKit
set_option linter.unusedVariables false
set_option linter.unusedSimpArgs false

theorem FrsAt.same {w w' : World} {X : Nat → Prop} {base : Nat} (kx : ∀ b, b < w.heap.size → ¬ X b → w'.heap[b]? = w.heap[b]?) (ksp : ∀ u l, SpAt w u l → SpAt w' u l) : ∀ {S : List Fr} {l : List (Nat × Value)}, FrsAt w X base S l →
    (∀ y ∈ l, w'.heap[y.1]? = w.heap[y.1]? ∧ ∀ k, y.2.ownBlock = some k → w'.heap[k]? = w.heap[k]?) → FrsAt w' X base S l := by
  intro S
  induction S with
  | nil => intro l h _; cases l with
    | nil => trivial
    | cons => exact h.elim
  | cons f S ih => intro l h hk; cases l with
    | nil => exact h.elim
    | cons x l =>
      obtain ⟨⟨⟨av, sp, h1, h2, h3⟩, h4, h5, h6, h7⟩, h8, h9⟩ := h
      have hx := hk x List.mem_cons_self
      exact ⟨⟨⟨av, sp, hx.1.trans h1, h2.same kx, ksp _ _ h3⟩, h4.same kx hx.2, h5, h6, h7⟩, h8, ih h9 (fun y hy => hk y (List.mem_cons_of_mem _ hy))⟩
theorem FrsAt.grow {w w' : World} {X : Nat → Prop} {base : Nat} {S : List Fr} {l : List (Nat × Value)} (h : FrsAt w X base S l) (g : w.grownBy w' none) : FrsAt w' X base S l := by
  have hlt : ∀ (S : List Fr) (l : List (Nat × Value)), FrsAt w X base S l → ∀ y ∈ l, y.1 < w.heap.size ∧ ∀ k, y.2.ownBlock = some k → k < w.heap.size := by
    intro S
    induction S with
    | nil => intro l h y hy; cases l with
      | nil => cases hy
      | cons => exact h.elim
    | cons f S ih => intro l h y hy; cases l with
      | nil => cases hy
      | cons x l =>
        rcases List.mem_cons.1 hy with rfl | hy
        · obtain ⟨⟨av, sp, h1, -⟩, ⟨cs, hr, -⟩, -⟩ := h.1
          exact ⟨lt_of_block h1, fun k hk => (hr.lt k hk).2⟩
        · exact ih l h.2.2 y hy
  refine h.same (fun b hb _ => g.block b hb (by simp)) (fun u l hs => hs.grow g) (fun y hy => ?_)
  obtain ⟨h1, h2⟩ := hlt S l h y hy
  exact ⟨g.block _ h1 (by simp), fun k hk => g.block _ (h2 k hk) (by simp)⟩
theorem FrsAt.less {w : World} {X X' : Nat → Prop} {base : Nat} (hx : ∀ b, b < w.heap.size → X' b → X b) : ∀ {S : List Fr} {l : List (Nat × Value)}, FrsAt w X base S l →
    (∀ y ∈ l, X' y.1 ∧ ∀ k, y.2.ownBlock = some k → X' k) → FrsAt w X' base S l := by
  intro S
  induction S with
  | nil => intro l h _; cases l with
    | nil => trivial
    | cons => exact h.elim
  | cons f S ih => intro l h hk; cases l with
    | nil => exact h.elim
    | cons x l =>
      obtain ⟨⟨⟨av, sp, h1, h2, h3⟩, h4, h5, h6, h7⟩, h8, h9⟩ := h
      have hx' := hk x List.mem_cons_self
      exact ⟨⟨⟨av, sp, h1, h2.less hx, h3⟩, h4.less hx, hx'.1, hx'.2, h7⟩, h8, ih h9 (fun y hy => hk y (List.mem_cons_of_mem _ hy))⟩
theorem FrsAt.mem {w : World} {X : Nat → Prop} {base : Nat} : ∀ {S : List Fr} {l : List (Nat × Value)}, FrsAt w X base S l → ∀ y ∈ l, X y.1 ∧ (∀ k, y.2.ownBlock = some k → X k) ∧ (∃ cs, w.heap[y.1]? = some (.cells cs 247 (0, 0))) ∧ (∀ k, y.2.ownBlock = some k → ∃ cs, w.heap[k]? = some (.cells cs 25 (0, 0))) := by
  intro S
  induction S with
  | nil => intro l h y hy; cases l with
    | nil => cases hy
    | cons => exact h.elim
  | cons f S ih => intro l h y hy; cases l with
    | nil => cases hy
    | cons x l =>
      rcases List.mem_cons.1 hy with rfl | hy
      · obtain ⟨⟨av, sp, h1, -⟩, ⟨cs, hr, -⟩, h3, h4, -⟩ := h.1
        refine ⟨h3, h4, ⟨_, h1⟩, fun k hk => ?_⟩
        rcases hr.2 with ⟨e, _⟩ | ⟨g, cap, cur, e, hg, hh, _⟩
        · rw [e] at hk; cases hk
        · rw [e] at hk
          obtain rfl : g = k := by simpa [Value.ownBlock] using hk
          exact ⟨_, hh⟩
      · exact ih h.2.2 y hy
/-- A write to a block of X of another type than frames, elements, spaces. -/
theorem FrsAt.write {w w' : World} {X : Nat → Prop} {base k0 : Nat} {cs : Array Value} {T : TypeId} {r : Nat × Nat} {S : List Fr} {l : List (Nat × Value)} (h : FrsAt w X base S l) (hk : w.heap[k0]? = some (.cells cs T r)) (hX : X k0) (g : w.grownBy w' (some k0))
    (h1 : 247 ≠ T) (h2 : 25 ≠ T) (h3 : 245 ≠ T) : FrsAt w' X base S l := by
  refine h.same (fun b hb hx => g.block b hb (fun e => hx (by cases e; exact hX))) (fun u l hs => hs.kept g hk h3) (fun y hy => ?_)
  obtain ⟨-, -, ⟨c1, e1⟩, hm⟩ := h.mem y hy
  refine ⟨g.block _ (lt_of_block e1) (blk_ne e1 hk h1), fun k hkk => ?_⟩
  obtain ⟨c2, e2⟩ := hm k hkk
  exact g.block _ (lt_of_block e2) (blk_ne e2 hk h2)
/-- The parser's state in parts. -/
structure MP (w0 w : World) (X : Nat → Prop) (b : Nat) (sv : Value) (l : List (Nat × Value)) (m : Ma) : Prop where
  gr : w0.grownBy w none
  lo : w0.heap.size ≤ b
  pr : PrAt w b m.r sv (m.cnt : Int) m.full
  row : w.ownsRow w0.heap.size 248 1 sv m.st.length (ptrs l)
  frs : FrsAt w X w0.heap.size m.st l
  inB : X b
  inS : ∀ k, sv.ownBlock = some k → X k
  old : ∀ k, k < w0.heap.size → X k
theorem MAt.parts {w0 w : World} {b : Nat} {m : Ma} (h : MAt w0 w b m) : ∃ X sv l, MP w0 w X b sv l m := by
  obtain ⟨X, sv, l, h1, h2, h3, h4, h5, h6, h7, h8⟩ := h
  exact ⟨X, sv, l, h1, h2, h3, h4, h5, h6, h7, h8⟩
theorem MP.mat {w0 w : World} {X : Nat → Prop} {b : Nat} {sv : Value} {l : List (Nat × Value)} {m : Ma} (h : MP w0 w X b sv l m) : MAt w0 w b m := ⟨X, sv, l, h.gr, h.lo, h.pr, h.row, h.frs, h.inB, h.inS, h.old⟩
theorem MP.grow {w0 w w' : World} {X : Nat → Prop} {b : Nat} {sv : Value} {l : List (Nat × Value)} {m : Ma} (h : MP w0 w X b sv l m) (g : w.grownBy w' none) : MP w0 w' X b sv l m :=
  ⟨gr_trans h.gr g, h.lo, h.pr.grow g, row_none h.row g, h.frs.grow g, h.inB, h.inS, h.old⟩
theorem gr_p {w0 w w' : World} {b : Nat} (h : w0.grownBy w none) (lo : w0.heap.size ≤ b) (g : w.grownBy w' (some b)) : w0.grownBy w' none := gr_new h g lo
theorem MP.step {w0 w w' : World} {X : Nat → Prop} {b : Nat} {sv : Value} {l : List (Nat × Value)} {m : Ma} (h : MP w0 w X b sv l m) {r' : Bs} (hp : PrAt w' b r' sv (m.cnt : Int) m.full) (g : w.grownBy w' (some b)) : MP w0 w' X b sv l { m with r := r' } :=
  ⟨gr_p h.gr h.lo g, h.lo, hp, row_pr h.row g h.pr (by decide), h.frs.write h.pr h.inB g (by decide) (by decide) (by decide), h.inB, h.inS, h.old⟩
theorem ptrs_last (x : Nat × Value) (l : List (Nat × Value)) : (ptrs (x :: l))[l.length]? = some (.pointer (some ⟨x.1, 0, none⟩)) := by
  unfold ptrs
  rw [List.map_cons, List.reverse_cons, List.getElem?_append_right (by simp)]
  simp
set_option maxHeartbeats 1000000 in
theorem top_x (w0 w : World) (X : Nat → Prop) (b : Nat) (sv : Value) (x : Nat × Value) (l : List (Nat × Value)) (m : Ma) (h : MP w0 w X b sv (x :: l) m) (hn : m.st.length ≤ 100000) :
    Calls Tryz.prog 159 #[.pointer (some ⟨b, 0, none⟩)] w fun e w' => e = .returned (.pointer (some ⟨x.1, 0, none⟩)) ∧ ∃ n, w' = w.drewN n := by
  have hl := h.frs.len
  simp only [List.length_cons] at hl
  obtain ⟨g, cap, hv, hg, hc, hcell⟩ := own_cell h.row (by omega)
  have c1 := h.pr.cells.2.1
  rw [hv] at c1
  have e1 := hcell l.length _ (ptrs_last x l)
  have hk : (m.st.length : Int) = (l.length : Int) + 1 := by omega
  rw [← hl] at c1 hc
  have hkb : l.length ≤ 100000 := by omega
  generalize x.1 = fb at *
  generalize l.length = k at *
  clear hcell hv hg hl h hk
  have hb1 : (0 : Int) ≤ (k : Int) := by omega
  have hb2 : (k : Int) < (k : Int) + 1 := by omega
  have hb3 : (k : Int) < ((k + 1 : Nat) : Int) := by omega
  have hw : IntKind.i64.wrap (((k + 1 : Nat) : Int) - 1) = (k : Int) := by rw [IntWalk.i64_in _ (by omega)]; omega
  have hw2 : IntKind.i64.wrap ((k : Int) + 1 - 1) = (k : Int) := by rw [IntWalk.i64_in _ (by omega)]; omega
  go_enter Tryz.func159, Tryz.ntmps159
  go_wp2_with fail
  go_quiet (fail)
  go_wp2
  go_ret
  exact ⟨rfl, nq, rfl⟩
end Go.Proofs.YtmofnoconhgjmaaGreatDoor
/- The parser's pop. -/
namespace Go.Proofs.YtmofnoconhgjmaaGreatDoor
open Go.RowKit
set_option linter.unusedVariables false
set_option linter.unusedSimpArgs false

theorem infoE : (Tryz.prog.info? 25).map (fun i => (i.zero, i.size, i.bytes)) = some (some (.agg #[.string ⟨#[]⟩, .string ⟨#[]⟩, .slice none 0 0, .string ⟨#[]⟩, .slice none 0 0]), 5, 96) := by kernel_rfl
def zel : List Value := [.string ⟨#[]⟩, .string ⟨#[]⟩, .slice none 0 0, .string ⟨#[]⟩, .slice none 0 0]
/-- What an append of an empty element leaves. -/
structure AppE (w w' : World) (base : Nat) (kv : Value) (n : Nat) (cs : List Value) (g c : Nat) : Prop where
  row : w'.ownsRow base 25 5 (.slice (some ⟨g, 0, none⟩) (n + 1) c) (n + 1) (cs ++ zel)
  gr : w.grownBy w' kv.ownBlock
  at' : some g = kv.ownBlock ∨ g = w.heap.size
theorem AppE.blk {w w' : World} {base : Nat} {kv : Value} {n : Nat} {cs : List Value} {g c : Nat} (h : AppE w w' base kv n cs g c) : base ≤ g ∧ n + 1 ≤ c ∧ c ≤ maxLen ∧ ∃ cur, w'.heap[g]? = some (.cells cur 25 (0, 0)) ∧ cur.size = c * 5 ∧ cur.toList.take ((n + 1) * 5) = cs ++ zel := by
  rcases h.row.2 with ⟨e, _⟩ | ⟨g', cap, cur, e, hg, hh, hc, hm, hs, ht⟩
  · cases e
  · cases e
    exact ⟨hg, hc, hm, cur, hh, hs, ht⟩
theorem AppE.cells {w w' : World} {base : Nat} {kv : Value} {n : Nat} {cs : List Value} {g c : Nat} (h : AppE w w' base kv n cs g c) (hcs : cs.length = n * 5) :
    (w'.cell? ⟨g, n * 5, none⟩ = some (.string ⟨#[]⟩) ∧ w'.cell? ⟨g, n * 5 + 1, none⟩ = some (.string ⟨#[]⟩) ∧ w'.cell? ⟨g, n * 5 + 2, none⟩ = some (.slice none 0 0) ∧ w'.cell? ⟨g, n * 5 + 3, none⟩ = some (.string ⟨#[]⟩) ∧ w'.cell? ⟨g, n * 5 + 4, none⟩ = some (.slice none 0 0)) ∧
    w'.frozen? ⟨g, n * 5, none⟩ = false ∧ w'.frozen? ⟨g, n * 5 + 1, none⟩ = false ∧ w'.frozen? ⟨g, n * 5 + 2, none⟩ = false ∧ w'.frozen? ⟨g, n * 5 + 3, none⟩ = false ∧ w'.frozen? ⟨g, n * 5 + 4, none⟩ = false := by
  obtain ⟨_, _, _, cur, hh, hs, ht⟩ := h.blk
  have key : ∀ j u, j < 5 → zel[j]? = some u → w'.cell? ⟨g, n * 5 + j, none⟩ = some u := fun j u hj hu => by
    have e : (cur.toList.take ((n + 1) * 5))[n * 5 + j]? = some u := by
      rw [ht, List.getElem?_append_right (by omega), hcs, Nat.add_sub_cancel_left]; exact hu
    rw [List.getElem?_take, if_pos (by omega)] at e
    simpa [World.cell?, hh] using e
  exact ⟨⟨key 0 _ (by omega) rfl, key 1 _ (by omega) rfl, key 2 _ (by omega) rfl, key 3 _ (by omega) rfl, key 4 _ (by omega) rfl⟩, free_of_block hh _, free_of_block hh _, free_of_block hh _, free_of_block hh _, free_of_block hh _⟩
set_option maxHeartbeats 1000000 in
theorem step_appE {ops : Array Oper} {o : Oper} {a : Act} {w : World} {K : Act → World → Prop} {Q : Exit → Act → World → Prop} {E : Prop} (hgd : o.guard = none) (s x : Operand)
    (ho : o.op = .call { callee := .builtin .append, args := #[s, x], argTypes := #[23, 23] })
    {base k n : Nat} {kv : Value} {cs : List Value} (hs : a.eval s = kv) (hx : a.eval x = .slice (some ⟨k, 0, none⟩) 1 1) (hown : w.ownsRow base 25 5 kv n cs) (hk : w.heap[k]? = some (.cells #[.string ⟨#[]⟩, .string ⟨#[]⟩, .slice none 0 0, .string ⟨#[]⟩, .slice none 0 0] 25 (0, 0))) (hlen : n ≤ 100000) (hbase : base ≤ w.heap.size)
    (h : ∀ g c w', AppE w w' base kv n cs g c → K (a.put o.dst (.slice (some ⟨g, 0, none⟩) (n + 1) c)) w') : if Region.wanted o (yielded ops a.tmps) = true then Oper.wp Tryz.prog o a w K Q else E := by
  have hw : Region.wanted o (yielded ops a.tmps) = true := by simp [Region.wanted, hgd]
  rw [if_pos hw]
  obtain ⟨i0, hi, hz0, hz1, hz2⟩ := info_parts infoE
  obtain ⟨v', w', hrun, h2, h3, h4, h5⟩ := run_append_own_at (P := Tryz.prog) w base 23 o.type 25 i0 _ 5 96 Tryz.underlying23 hi hz0 hz1 hz2 rfl (by decide) kv n cs hown ⟨k, 0, none⟩ 1 1 zel rfl (fun j u hj => by
      have := cell_of_block hk j
      match j, hj with
      | 0, hj => simp [zel] at hj; subst hj; simpa [Addr.add] using this
      | 1, hj => simp [zel] at hj; subst hj; simpa [Addr.add] using this
      | 2, hj => simp [zel] at hj; subst hj; simpa [Addr.add] using this
      | 3, hj => simp [zel] at hj; subst hj; simpa [Addr.add] using this
      | 4, hj => simp [zel] at hj; subst hj; simpa [Addr.add] using this) (fun u hu => by simp [zel] at hu; rcases hu with rfl | rfl | rfl | rfl | rfl <;> rfl) (by unfold maxLen; omega) (by omega) hbase
  unfold Oper.wp execOp
  simp only [ho, resolve, invoke, builtin, Sem.run_bind, Sem.run_pure, Result.andThen_ok, List.map_toArray, List.map_cons, List.map_nil, hs, hx, hrun]
  rcases h2.2 with ⟨e, h0⟩ | ⟨g, cap, cur, rfl, _⟩
  · omega
  · exact h g cap w' ⟨h2, h3, by rcases h5 with h5 | h5
                                 · exact .inl h5
                                 · exact .inr (by simpa [Value.ownBlock] using h5)⟩
/-- The five cells of an element written over the last one. -/
def put5 (w : World) (g o : Nat) (c0 c1 c2 c3 c4 : Value) : World := ((((w.setCell ⟨g, o, none⟩ c0).setCell ⟨g, o + 1, none⟩ c1).setCell ⟨g, o + 2, none⟩ c2).setCell ⟨g, o + 3, none⟩ c3).setCell ⟨g, o + 4, none⟩ c4
theorem put5_gr {w : World} {g o : Nat} {c0 c1 c2 c3 c4 : Value} : w.grownBy (put5 w g o c0 c1 c2 c3 c4) (some g) := gr_set (gr_set (gr_set (gr_set (gr_set (gr_refl _ _)))))
theorem put5_row {w : World} {base g n c : Nat} {cs : List Value} {cur : Array Value} {c0 c1 c2 c3 c4 : Value} (hb : base ≤ g) (hc : n + 1 ≤ c) (hm : c ≤ maxLen) (hh : w.heap[g]? = some (.cells cur 25 (0, 0))) (hs : cur.size = c * 5) (ht : cur.toList.take ((n + 1) * 5) = cs ++ zel) (hcs : cs.length = n * 5) :
    (put5 w g (n * 5) c0 c1 c2 c3 c4).ownsRow base 25 5 (.slice (some ⟨g, 0, none⟩) (n + 1) c) (n + 1) (cs ++ [c0, c1, c2, c3, c4]) := by
  refine ⟨by simp [hcs]; omega, .inr ⟨g, c, _, rfl, hb, heap_set (heap_set (heap_set (heap_set (heap_set hh)))), hc, hm, by simpa using hs, ?_⟩⟩
  simp only [Array.toList_setIfInBounds, List.take_set, ht]
  rw [List.set_append_right _ _ (by omega), List.set_append_right _ _ (by omega), List.set_append_right _ _ (by omega), List.set_append_right _ _ (by omega), List.set_append_right _ _ (by omega)]
  rw [hcs, Nat.sub_self, Nat.add_sub_cancel_left, Nat.add_sub_cancel_left, Nat.add_sub_cancel_left, Nat.add_sub_cancel_left]
  rfl
theorem own_fo_cell {w : World} {base g n c : Nat} {cs : List Value} (h : w.ownsRow base 25 5 (.slice (some ⟨g, 0, none⟩) n c) n cs) (i : Nat) (u : Value) (hu : cs[i]? = some u) : w.cell? ⟨g, i, none⟩ = some u := by
  rcases h.2 with ⟨e, _⟩ | ⟨g', cap, cur, e, hg, hh, hc, hm, hs, ht⟩
  · cases e
  · cases e
    have hl := h.1
    have hi := (List.getElem?_eq_some_iff.1 hu).1
    rw [← ht, List.getElem?_take, if_pos (by omega)] at hu
    simpa [World.cell?, hh] using hu
/-- The frame below with one element more. -/
theorem kid_fin {w0 w W W8 : World} {X : Nat → Prop} {b : Nat} {sv : Value} {gb : Nat} {kv2 : Value} {l : List (Nat × Value)} {r : Bs} {G : Fr} {S : List Fr} {cnt : Nat} {full : Bool} {e : El} {av kv : Value} {cs : List Value} {g c : Nat}
    (h : MP w0 w X b sv ((gb, kv2) :: l) ⟨r, G :: S, cnt, full⟩) (hrow : w.ownsRow w0.heap.size 25 5 kv2 G.kids.len cs) (hcs : cs.length = G.kids.len * 5) (hfo : ∀ k o n c, kv2 = .slice (some ⟨k, o, none⟩) n c → FoAt w X G.kids k o)
    (ha : AtsAt w X av e.ats) (hk : KidV w X kv e.kids) (g0 : w.grownBy W none) (hE : AppE W W8 w0.heap.size kv2 G.kids.len cs g c) :
    MP w0 ((put5 W8 g (G.kids.len * 5) (str e.s) (str e.n) av (str e.tx) kv).setCell ⟨gb, 6, none⟩ (.slice (some ⟨g, 0, none⟩) (G.kids.len + 1) c)) (fun k => X k ∨ k = g) b sv ((gb, .slice (some ⟨g, 0, none⟩) (G.kids.len + 1) c) :: l) ⟨r, G.kid e :: S, cnt, full⟩ := by
  obtain ⟨hg1, hg2, hg3, cur, hh, hs, ht⟩ := hE.blk
  have hW := h.grow g0
  have hmem := hW.frs.mem
  have hXg : X g ∨ W.heap.size ≤ g := by
    rcases hE.at' with e1 | e1
    · exact .inl ((hW.frs.mem (gb, kv2) List.mem_cons_self).2.1 g e1.symm)
    · exact .inr (Nat.le_of_eq e1.symm)
  -- blocks that are not written stay
  have hF8 := put5_row (w := W8) (c0 := str e.s) (c1 := str e.n) (c2 := av) (c3 := str e.tx) (c4 := kv) hg1 hg2 hg3 hh hs ht hcs
  obtain ⟨W9, hW9⟩ : ∃ W9, W9 = put5 W8 g (G.kids.len * 5) (str e.s) (str e.n) av (str e.tx) kv := ⟨_, rfl⟩
  have g89 : W8.grownBy W9 (some g) := by rw [hW9]; exact put5_gr
  rw [← hW9] at hF8 ⊢
  have keep : ∀ k, k < W.heap.size → some k ≠ kv2.ownBlock → k ≠ g → W9.heap[k]? = W.heap[k]? := fun k h1 h2 h3 =>
    (g89.block k (Nat.lt_of_lt_of_le h1 hE.gr.size) (by simpa using h3)).trans (hE.gr.block k h1 h2)
  have keepX : ∀ k, k < W.heap.size → ¬ X k → W9.heap[k]? = W.heap[k]? := fun k h1 h2 =>
    keep k h1 (fun e1 => h2 ((hmem (gb, kv2) List.mem_cons_self).2.1 k e1.symm)) (fun e1 => by subst e1; rcases hXg with h3 | h3; exact h2 h3; omega)
  have hty : ∀ (k : Nat) (cs' : Array Value) (T : TypeId) (r' : Nat × Nat), W.heap[k]? = some (.cells cs' T r') → T ≠ 25 → W9.heap[k]? = W.heap[k]? := fun k cs' T r' h1 h2 => by
    refine keep k (lt_of_block h1) (fun e1 => ?_) (fun e1 => ?_)
    · obtain ⟨c2, e2⟩ := (hmem (gb, kv2) List.mem_cons_self).2.2.2 k e1.symm
      exact blk_ne h1 e2 h2 rfl
    · subst e1
      rcases hE.at' with e3 | e3
      · obtain ⟨c2, e2⟩ := (hmem (gb, kv2) List.mem_cons_self).2.2.2 k e3.symm
        exact blk_ne h1 e2 h2 rfl
      · have := lt_of_block h1; omega
  obtain ⟨⟨⟨av2, sp2, hB, hA2, hS2⟩, hO2, hX1, hX2, hlo2⟩, hne, hrest⟩ := hW.frs
  have hgbg : gb ≠ g := fun e1 => by
    have h1 := (hty gb _ _ _ hB (by decide)).trans hB
    subst e1
    rcases hE.at' with e3 | e3
    · obtain ⟨c2, e2⟩ := (hmem (gb, kv2) List.mem_cons_self).2.2.2 gb e3.symm
      exact blk_ne hB e2 (by decide) rfl
    · have := lt_of_block hB; omega
  have hB9 : FrB W9 gb G.p G.n G.s G.n av2 G.tx kv2 sp2 := (hty gb _ _ _ hB (by decide)).trans hB
  have ksp : ∀ u l', SpAt W u l' → SpAt W9 u l' := by
    intro u l'
    induction l' generalizing u with
    | nil => exact fun h => h
    | cons x l' ih => intro ⟨b', u', e1, h1, h2⟩; exact ⟨b', u', e1, (hty b' _ _ _ h1 (by decide)).trans h1, ih u' h2⟩
  obtain ⟨WF, hWF⟩ : ∃ WF, WF = W9.setCell ⟨gb, 6, none⟩ (.slice (some ⟨g, 0, none⟩) (G.kids.len + 1) c) := ⟨_, rfl⟩
  have gF : W9.grownBy WF (some gb) := by rw [hWF]; exact gr_set (gr_refl _ _)
  rw [← hWF]
  have sz9 : W.heap.size ≤ W9.heap.size := Nat.le_trans hE.gr.size g89.size
  have keepF : ∀ k, k < W.heap.size → W9.heap[k]? = W.heap[k]? → k ≠ gb → WF.heap[k]? = W.heap[k]? := fun k h1 h2 h3 => (gF.block k (by omega) (by simpa using h3)).trans h2
  have keepFX : ∀ k, k < W.heap.size → ¬ X k → WF.heap[k]? = W.heap[k]? := fun k h1 h2 => keepF k h1 (keepX k h1 h2) (fun e1 => h2 (by rw [e1]; exact hX1))
  have kspF : ∀ u l', SpAt W u l' → SpAt WF u l' := fun u l' hs => (ksp u l' hs).kept gF hB9 (by decide)
  have hBF : FrB WF gb G.p G.n G.s G.n av2 G.tx (.slice (some ⟨g, 0, none⟩) (G.kids.len + 1) c) sp2 := by rw [hWF]; exact heap_set (o := 6) hB9
  have hrowF : WF.ownsRow w0.heap.size 25 5 (.slice (some ⟨g, 0, none⟩) (G.kids.len + 1) c) (G.kids.len + 1) (cs ++ [str e.s, str e.n, av, str e.tx, kv]) := row_ty hF8 gF hB9 (by decide)
  have hup : ∀ k, k < W.heap.size → (X k ∨ k = g) → X k := fun k h1 h2 => by
    rcases h2 with h2 | rfl
    · exact h2
    · rcases hXg with h3 | h3
      · exact h3
      · omega
  have hup0 : ∀ k, k < w.heap.size → (X k ∨ k = g) → X k := fun k h1 h2 => hup k (Nat.lt_of_lt_of_le h1 g0.size) h2
  have kw : ∀ k, k < w.heap.size → ¬ (X k ∨ k = g) → WF.heap[k]? = w.heap[k]? := fun k h1 h2 => (keepFX k (Nat.lt_of_lt_of_le h1 g0.size) (fun h3 => h2 (.inl h3))).trans (g0.block k h1 (by simp))
  have hFo : FoAt WF (fun k => X k ∨ k = g) (G.kids.snoc e) g 0 := by
    have cell : ∀ i u, (cs ++ [str e.s, str e.n, av, str e.tx, kv])[i]? = some u → WF.cell? ⟨g, i, none⟩ = some u := own_fo_cell hrowF
    have key : ∀ j u, ([str e.s, str e.n, av, str e.tx, kv] : List Value)[j]? = some u → WF.cell? ⟨g, 0 + G.kids.len * 5 + j, none⟩ = some u := fun j u hj => by
      rw [Nat.zero_add]
      exact cell _ u (by rw [List.getElem?_append_right (by omega), hcs, Nat.add_sub_cancel_left]; exact hj)
    refine FoAt.snoc ?_ (key 0 _ rfl) (key 1 _ rfl) (key 2 _ rfl) (key 3 _ rfl) (key 4 _ rfl) ((ha.less hup0).same kw) ((hk.less hup0).same kw)
    -- the elder elements: their cells were copied, or stayed
    have old : ∀ (f : Fo) (k o : Nat), FoAt w (fun k => X k ∨ k = g) f k o → (∀ i, i < f.len * 5 → ∀ u, w.cell? ⟨k, o + i, none⟩ = some u → WF.cell? ⟨g, o + i, none⟩ = some u) → FoAt WF (fun k => X k ∨ k = g) f g o := by
      intro f
      induction f with
      | nil => intro _ _ _ _; trivial
      | cons s n ats tx kids next _ ih =>
        intro k o hf hc
        obtain ⟨⟨c0, c1, c3⟩, ⟨av', c2, ha'⟩, ⟨a', c', c4, hk'⟩, hn⟩ := hf
        simp only [Fo.len] at hc
        refine ⟨⟨hc 0 (by omega) _ c0, hc 1 (by omega) _ c1, hc 3 (by omega) _ c3⟩, ⟨av', hc 2 (by omega) _ c2, ha'.same kw⟩, ⟨a', c', hc 4 (by omega) _ c4, fun hl => ?_⟩, ih k (o + 5) hn (fun i hi u hu => ?_)⟩
        · obtain ⟨b', o', rfl, hx, hf'⟩ := hk' hl
          refine ⟨b', o', rfl, hx, hf'.same kw (kw b' ?_ hx)⟩
          cases kids with
          | nil => simp [Fo.len] at hl
          | cons => exact lt_of_cell hf'.1.1
        · have := hc (5 + i) (by omega) u (by rw [← Nat.add_assoc]; exact hu)
          rw [← Nat.add_assoc] at this; exact this
    rcases Nat.eq_zero_or_pos G.kids.len with h0 | hp
    · cases hG : G.kids with
      | nil => trivial
      | cons => rw [hG] at h0; simp [Fo.len] at h0
    · rcases hrow.2 with ⟨_, h0⟩ | ⟨k2, cap2, cur2, e2, hk2, hh2, hc2, hm2, hs2, ht2⟩
      · omega
      · refine old G.kids k2 0 ((hfo k2 0 _ _ e2).less hup0) (fun i hi u hu => ?_)
        rw [Nat.zero_add] at hu ⊢
        refine cell i u ?_
        rw [List.getElem?_append_left (by omega), ← ht2, List.getElem?_take, if_pos hi]
        simpa [World.cell?, hh2] using hu
  have G9 : w0.grownBy WF none := by
    refine gr_new (gr_new (g := g) ?_ g89 hg1) gF hlo2
    exact gr_own hW.gr (row_none hrow g0) (Nat.le_refl _) hE.gr
  refine ⟨G9, h.lo, ?_, ?_, ⟨⟨⟨av2, sp2, hBF, (hA2.less hup).same (fun k h1 h2 => keepFX k h1 (fun h3 => h2 (.inl h3))), kspF _ _ hS2⟩, ⟨cs ++ [str e.s, str e.n, av, str e.tx, kv], ?_, fun k o n' c' e1 => ?_⟩, .inl hX1, fun k hk' => ?_, hlo2⟩, fun y hy => ⟨(hne y hy).1, fun k hk' => ?_⟩, ?_⟩, .inl h.inB, (fun k hk' => .inl (h.inS k hk')), fun k hk' => .inl (h.old k hk')⟩
  · exact (keepF b (lt_of_block hW.pr) (hty b _ _ _ hW.pr (by decide)) (fun e1 => blk_ne hB hW.pr (by decide) (by rw [e1]))).trans hW.pr
  · refine ⟨hW.row.1, ?_⟩
    rcases hW.row.2 with h0 | ⟨k, cap, cur', rfl, hk1, hk2, hk3⟩
    · exact .inl h0
    · exact .inr ⟨k, cap, cur', rfl, hk1, (keepF k (lt_of_block hk2) (hty k _ _ _ hk2 (by decide)) (fun e1 => blk_ne hB hk2 (by decide) (by rw [e1]))).trans hk2, hk3⟩
  · show WF.ownsRow _ _ _ _ (G.kids.snoc e).len _
    rw [Fo.len_snoc]; exact hrowF
  · cases e1; exact hFo
  · exact .inr (by simpa [Value.ownBlock] using hk'.symm)
  · obtain rfl : g = k := by simpa [Value.ownBlock] using hk'
    rcases hE.at' with e3 | e3
    · exact (hne y hy).2 g e3.symm
    · intro e4
      obtain ⟨c5, e5⟩ := (hmem y (List.mem_cons_of_mem _ hy)).2.2.2 g e4
      have := lt_of_block e5; omega
  · refine (hrest.less (X' := fun k => X k ∨ k = g) hup (fun y hy => ⟨.inl (hmem y (List.mem_cons_of_mem _ hy)).1, fun k hk' => .inl ((hmem y (List.mem_cons_of_mem _ hy)).2.1 k hk')⟩)).same (fun k h1 h2 => keepFX k h1 (fun h3 => h2 (.inl h3))) kspF (fun y hy => ?_)
    obtain ⟨-, -, ⟨c5, e5⟩, hm5⟩ := hmem y (List.mem_cons_of_mem _ hy)
    refine ⟨keepF y.1 (lt_of_block e5) (hty y.1 _ _ _ e5 (by decide)) (hne y hy).1, fun k hk' => ?_⟩
    obtain ⟨c6, e6⟩ := hm5 k hk'
    refine keepF k (lt_of_block e6) (keep k (lt_of_block e6) (fun e7 => (hne y hy).2 k e7.symm hk') (fun e7 => ?_)) (fun e7 => blk_ne hB e6 (by decide) (by rw [e7]))
    subst e7
    rcases hE.at' with e8 | e8
    · exact (hne y hy).2 k e8.symm hk'
    · have := lt_of_block e6; omega
end Go.Proofs.YtmofnoconhgjmaaGreatDoor
