/- Texts of one proof, put together: Xmk, Xml, Xmn. -/
import Derived.Test.YtmofnoconhgjmaaGreatDoorXmj
import Derived.Maps.AppendAt
/- Elements in memory, beside blocks that may be written; the frames of a parser; what keeps them. -/
namespace Go.Proofs.YtmofnoconhgjmaaGreatDoor
open Go.RowKit
set_option linter.unusedVariables false
set_option linter.unusedSimpArgs false

theorem lt_of_cell {w : World} {b o : Nat} {v : Value} (h : w.cell? ⟨b, o, none⟩ = some v) : b < w.heap.size := by
  by_cases hb : b < w.heap.size
  · exact hb
  · have : w.heap[b]? = none := Array.getElem?_eq_none (by omega)
    simp [World.cell?, this] at h
theorem cell_of_same {w w' : World} {b o : Nat} (h : w'.heap[b]? = w.heap[b]?) : w'.cell? ⟨b, o, none⟩ = w.cell? ⟨b, o, none⟩ := World.cell?_of_block (a := ⟨b, o, none⟩) h
/-- Attributes in memory, in a block that X has not. -/
def AtsAt (w : World) (X : Nat → Prop) (v : Value) (l : List At) : Prop := ∃ a c, v = .slice a l.length c ∧ ∀ i, i < l.length → ∃ g o, a = some ⟨g, o, none⟩ ∧ (¬ X g ∧ l.length ≤ c) ∧ TriAt w g (o + i * 3) (l.getD i at0)
/-- Elements in memory, from a place on; what they lead to lies in blocks that X has not. -/
def FoAt (w : World) (X : Nat → Prop) : Fo → Nat → Nat → Prop
  | .nil, _, _ => True
  | .cons s n ats tx kids next, b, o =>
    (w.cell? ⟨b, o, none⟩ = some (.string ⟨s.toArray⟩) ∧ w.cell? ⟨b, o + 1, none⟩ = some (.string ⟨n.toArray⟩) ∧ w.cell? ⟨b, o + 3, none⟩ = some (.string ⟨tx.toArray⟩)) ∧
    (∃ av, w.cell? ⟨b, o + 2, none⟩ = some av ∧ AtsAt w X av ats) ∧
    (∃ a c, w.cell? ⟨b, o + 4, none⟩ = some (.slice a kids.len c) ∧ (0 < kids.len → ∃ b' o', a = some ⟨b', o', none⟩ ∧ ¬ X b' ∧ FoAt w X kids b' o')) ∧
    FoAt w X next b (o + 5)
def KidV (w : World) (X : Nat → Prop) (v : Value) (kids : Fo) : Prop := ∃ a c, v = .slice a kids.len c ∧ (0 < kids.len → ∃ b o, a = some ⟨b, o, none⟩ ∧ ¬ X b ∧ FoAt w X kids b o)
theorem TriAt.same {w w' : World} {b o : Nat} {a : At} (h : TriAt w b o a) (k : w'.heap[b]? = w.heap[b]?) : TriAt w' b o a := ⟨(cell_of_same k).trans h.c0, (cell_of_same k).trans h.c1, (cell_of_same k).trans h.c2⟩
theorem AtsAt.same {w w' : World} {X : Nat → Prop} {v : Value} {l : List At} (h : AtsAt w X v l) (k : ∀ b, b < w.heap.size → ¬ X b → w'.heap[b]? = w.heap[b]?) : AtsAt w' X v l := by
  obtain ⟨a, c, rfl, h⟩ := h
  refine ⟨a, c, rfl, fun i hi => ?_⟩
  obtain ⟨g, o, rfl, hx, ht⟩ := h i hi
  exact ⟨g, o, rfl, hx, ht.same (k g (lt_of_cell ht.c0) hx.1)⟩
theorem FoAt.same {w w' : World} {X : Nat → Prop} (k : ∀ b, b < w.heap.size → ¬ X b → w'.heap[b]? = w.heap[b]?) : ∀ {f : Fo} {b o : Nat}, FoAt w X f b o → w'.heap[b]? = w.heap[b]? → FoAt w' X f b o := by
  intro f
  induction f with
  | nil => intro _ _ _ _; trivial
  | cons s n ats tx kids next ih1 ih2 =>
    intro b o h hb
    obtain ⟨⟨c0, c1, c3⟩, ⟨av, c2, ha⟩, ⟨a, c, c4, hk⟩, hn⟩ := h
    refine ⟨⟨(cell_of_same hb).trans c0, (cell_of_same hb).trans c1, (cell_of_same hb).trans c3⟩, ⟨av, (cell_of_same hb).trans c2, ha.same k⟩, ⟨a, c, (cell_of_same hb).trans c4, fun hl => ?_⟩, ih2 hn hb⟩
    obtain ⟨b', o', rfl, hx, hf⟩ := hk hl
    refine ⟨b', o', rfl, hx, ih1 hf (k b' ?_ hx)⟩
    cases kids with
    | nil => simp [Fo.len] at hl
    | cons => exact lt_of_cell hf.1.1
theorem AtsAt.less {w : World} {X X' : Nat → Prop} {v : Value} {l : List At} (h : AtsAt w X v l) (k : ∀ b, b < w.heap.size → X' b → X b) : AtsAt w X' v l := by
  obtain ⟨a, c, rfl, h⟩ := h
  refine ⟨a, c, rfl, fun i hi => ?_⟩
  obtain ⟨g, o, rfl, hx, ht⟩ := h i hi
  exact ⟨g, o, rfl, ⟨fun h' => hx.1 (k g (lt_of_cell ht.c0) h'), hx.2⟩, ht⟩
theorem FoAt.less {w : World} {X X' : Nat → Prop} (k : ∀ b, b < w.heap.size → X' b → X b) : ∀ {f : Fo} {b o : Nat}, FoAt w X f b o → FoAt w X' f b o := by
  intro f
  induction f with
  | nil => intro _ _ _; trivial
  | cons s n ats tx kids next ih1 ih2 =>
    intro b o h
    obtain ⟨c0, ⟨av, c2, ha⟩, ⟨a, c, c4, hk⟩, hn⟩ := h
    refine ⟨c0, ⟨av, c2, ha.less k⟩, ⟨a, c, c4, fun hl => ?_⟩, ih2 hn⟩
    obtain ⟨b', o', rfl, hx, hf⟩ := hk hl
    refine ⟨b', o', rfl, fun h' => hx (k b' ?_ h'), ih1 hf⟩
    cases kids with
    | nil => simp [Fo.len] at hl
    | cons => exact lt_of_cell hf.1.1
theorem KidV.same {w w' : World} {X : Nat → Prop} {v : Value} {f : Fo} (h : KidV w X v f) (k : ∀ b, b < w.heap.size → ¬ X b → w'.heap[b]? = w.heap[b]?) : KidV w' X v f := by
  obtain ⟨a, c, rfl, h⟩ := h
  refine ⟨a, c, rfl, fun hl => ?_⟩
  obtain ⟨b, o, rfl, hx, hf⟩ := h hl
  refine ⟨b, o, rfl, hx, hf.same k (k b ?_ hx)⟩
  cases f with
  | nil => simp [Fo.len] at hl
  | cons => exact lt_of_cell hf.1.1
theorem KidV.less {w : World} {X X' : Nat → Prop} {v : Value} {f : Fo} (h : KidV w X v f) (k : ∀ b, b < w.heap.size → X' b → X b) : KidV w X' v f := by
  obtain ⟨a, c, rfl, h⟩ := h
  refine ⟨a, c, rfl, fun hl => ?_⟩
  obtain ⟨b, o, rfl, hx, hf⟩ := h hl
  refine ⟨b, o, rfl, fun h' => hx (k b ?_ h'), hf.less k⟩
  cases f with
  | nil => simp [Fo.len] at hl
  | cons => exact lt_of_cell hf.1.1
/-- One more element behind. -/
theorem FoAt.snoc {w : World} {X : Nat → Prop} {e : El} {av kv : Value} : ∀ {f : Fo} {b o : Nat}, FoAt w X f b o →
    w.cell? ⟨b, o + f.len * 5, none⟩ = some (.string ⟨e.s.toArray⟩) → w.cell? ⟨b, o + f.len * 5 + 1, none⟩ = some (.string ⟨e.n.toArray⟩) → w.cell? ⟨b, o + f.len * 5 + 2, none⟩ = some av → w.cell? ⟨b, o + f.len * 5 + 3, none⟩ = some (.string ⟨e.tx.toArray⟩) → w.cell? ⟨b, o + f.len * 5 + 4, none⟩ = some kv →
    AtsAt w X av e.ats → KidV w X kv e.kids → FoAt w X (f.snoc e) b o := by
  intro f
  induction f with
  | nil =>
    intro b o _ c0 c1 c2 c3 c4 ha hk
    simp only [Fo.len, Nat.zero_mul, Nat.add_zero] at c0 c1 c2 c3 c4
    obtain ⟨a, c, rfl, hk⟩ := hk
    exact ⟨⟨c0, c1, c3⟩, ⟨av, c2, ha⟩, ⟨a, c, c4, hk⟩, trivial⟩
  | cons s n ats tx kids next _ ih =>
    intro b o h c0 c1 c2 c3 c4 ha hk
    obtain ⟨h0, h1, h2, hn⟩ := h
    simp only [Fo.len] at c0 c1 c2 c3 c4
    have e5 : o + (next.len + 1) * 5 = o + 5 + next.len * 5 := by omega
    rw [e5] at c0 c1 c2 c3 c4
    exact ⟨h0, h1, h2, ih hn c0 c1 c2 c3 c4 ha hk⟩
/-- A row of elements of the call's own. -/
def OwnFo (w : World) (X : Nat → Prop) (base : Nat) (kv : Value) (f : Fo) : Prop :=
  ∃ cs, w.ownsRow base 25 5 kv f.len cs ∧ ∀ k o l c, kv = .slice (some ⟨k, o, none⟩) l c → FoAt w X f k o
theorem OwnFo.kid {w : World} {X : Nat → Prop} {base : Nat} {kv : Value} {f : Fo} (h : OwnFo w X base kv f) {X' : Nat → Prop} (hx : ∀ b, b < w.heap.size → X' b → X b) (hk : ∀ k, kv.ownBlock = some k → ¬ X' k) : KidV w X' kv f := by
  obtain ⟨cs, h1, h2⟩ := h
  rcases h1.2 with ⟨rfl, h0⟩ | ⟨g, cap, cur, rfl, hg, hh, hc, hm, hs, ht⟩
  · exact ⟨none, 0, by rw [h0], fun hl => by omega⟩
  · exact ⟨_, cap, rfl, fun _ => ⟨g, 0, rfl, hk g rfl, (h2 g 0 _ _ rfl).less hx⟩⟩
theorem OwnFo.less {w : World} {X X' : Nat → Prop} {base : Nat} {kv : Value} {f : Fo} (h : OwnFo w X base kv f) (hx : ∀ b, b < w.heap.size → X' b → X b) : OwnFo w X' base kv f := by
  obtain ⟨cs, h1, h2⟩ := h
  exact ⟨cs, h1, fun k o l c e => (h2 k o l c e).less hx⟩
theorem OwnFo.same {w w' : World} {X : Nat → Prop} {base : Nat} {kv : Value} {f : Fo} (h : OwnFo w X base kv f) (k : ∀ b, b < w.heap.size → ¬ X b → w'.heap[b]? = w.heap[b]?) (hb : ∀ b, kv.ownBlock = some b → w'.heap[b]? = w.heap[b]?) : OwnFo w' X base kv f := by
  obtain ⟨cs, h1, h2⟩ := h
  refine ⟨cs, ?_, fun k' o l c e => ?_⟩
  · refine ⟨h1.1, ?_⟩
    rcases h1.2 with h0 | ⟨g, cap, cur, rfl, hg, hh, r⟩
    · exact .inl h0
    · exact .inr ⟨g, cap, cur, rfl, hg, (hb g rfl).trans hh, r⟩
  · have := h2 k' o l c e
    subst e
    exact this.same k (hb k' rfl)
/-- A frame in memory. -/
structure FrAt (w : World) (X : Nat → Prop) (base fb : Nat) (kv : Value) (f : Fr) : Prop where
  blk : ∃ av sp, FrB w fb f.p f.n f.s f.n av f.tx kv sp ∧ AtsAt w X av f.ats ∧ SpAt w sp f.bs
  row : OwnFo w X base kv f.kids
  inF : X fb
  inK : ∀ k, kv.ownBlock = some k → X k
  lo : base ≤ fb
/-- The frames, the last one ahead. -/
def FrsAt (w : World) (X : Nat → Prop) (base : Nat) : List Fr → List (Nat × Value) → Prop
  | [], [] => True
  | f :: S, x :: l => FrAt w X base x.1 x.2 f ∧ (∀ y ∈ l, y.1 ≠ x.1 ∧ ∀ k, x.2.ownBlock = some k → y.2.ownBlock ≠ some k) ∧ FrsAt w X base S l
  | _, _ => False
def ptrs (l : List (Nat × Value)) : List Value := (l.map fun x => Value.pointer (some ⟨x.1, 0, none⟩)).reverse
/-- The parser with all that it has. -/
def MAt (w0 w : World) (b : Nat) (m : Ma) : Prop :=
  ∃ X sv l, w0.grownBy w none ∧ w0.heap.size ≤ b ∧ PrAt w b m.r sv (m.cnt : Int) m.full ∧ w.ownsRow w0.heap.size 248 1 sv m.st.length (ptrs l) ∧ FrsAt w X w0.heap.size m.st l ∧ X b ∧ (∀ k, sv.ownBlock = some k → X k) ∧ ∀ k, k < w0.heap.size → X k
theorem FrsAt.len {w : World} {X : Nat → Prop} {base : Nat} : ∀ {S : List Fr} {l : List (Nat × Value)}, FrsAt w X base S l → l.length = S.length := by
  intro S
  induction S with
  | nil => intro l h; cases l with
    | nil => rfl
    | cons => exact h.elim
  | cons f S ih => intro l h; cases l with
    | nil => exact h.elim
    | cons x l => simp only [List.length_cons]; rw [ih h.2.2]
end Go.Proofs.YtmofnoconhgjmaaGreatDoor
/- The parser's state in parts, what keeps it; top. -/
namespace Go.Proofs.YtmofnoconhgjmaaGreatDoor
open Go.RowKit
set_option linter.unusedVariables false
set_option linter.unusedSimpArgs false

theorem FrsAt.same {w w' : World} {X : Nat → Prop} {base : Nat} (kx : ∀ b, b < w.heap.size → ¬ X b → w'.heap[b]? = w.heap[b]?) (ksp : ∀ u l, SpAt w u l → SpAt w' u l) : ∀ {S : List Fr} {l : List (Nat × Value)}, FrsAt w X base S l →
    (∀ y ∈ l, w'.heap[y.1]? = w.heap[y.1]? ∧ ∀ k, y.2.ownBlock = some k → w'.heap[k]? = w.heap[k]?) → FrsAt w' X base S l := by
  intro S
  induction S with
  | nil => intro l h _; cases l with
    | nil => trivial
    | cons => exact h.elim
  | cons f S ih => intro l h hk; cases l with
    | nil => exact h.elim
    | cons x l =>
      obtain ⟨⟨⟨av, sp, h1, h2, h3⟩, h4, h5, h6, h7⟩, h8, h9⟩ := h
      have hx := hk x List.mem_cons_self
      exact ⟨⟨⟨av, sp, hx.1.trans h1, h2.same kx, ksp _ _ h3⟩, h4.same kx hx.2, h5, h6, h7⟩, h8, ih h9 (fun y hy => hk y (List.mem_cons_of_mem _ hy))⟩
theorem FrsAt.grow {w w' : World} {X : Nat → Prop} {base : Nat} {S : List Fr} {l : List (Nat × Value)} (h : FrsAt w X base S l) (g : w.grownBy w' none) : FrsAt w' X base S l := by
  have hlt : ∀ (S : List Fr) (l : List (Nat × Value)), FrsAt w X base S l → ∀ y ∈ l, y.1 < w.heap.size ∧ ∀ k, y.2.ownBlock = some k → k < w.heap.size := by
    intro S
    induction S with
    | nil => intro l h y hy; cases l with
      | nil => cases hy
      | cons => exact h.elim
    | cons f S ih => intro l h y hy; cases l with
      | nil => cases hy
      | cons x l =>
        rcases List.mem_cons.1 hy with rfl | hy
        · obtain ⟨⟨av, sp, h1, -⟩, ⟨cs, hr, -⟩, -⟩ := h.1
          exact ⟨lt_of_block h1, fun k hk => (hr.lt k hk).2⟩
        · exact ih l h.2.2 y hy
  refine h.same (fun b hb _ => g.block b hb (by simp)) (fun u l hs => hs.grow g) (fun y hy => ?_)
  obtain ⟨h1, h2⟩ := hlt S l h y hy
  exact ⟨g.block _ h1 (by simp), fun k hk => g.block _ (h2 k hk) (by simp)⟩
theorem FrsAt.less {w : World} {X X' : Nat → Prop} {base : Nat} (hx : ∀ b, b < w.heap.size → X' b → X b) : ∀ {S : List Fr} {l : List (Nat × Value)}, FrsAt w X base S l →
    (∀ y ∈ l, X' y.1 ∧ ∀ k, y.2.ownBlock = some k → X' k) → FrsAt w X' base S l := by
  intro S
  induction S with
  | nil => intro l h _; cases l with
    | nil => trivial
    | cons => exact h.elim
  | cons f S ih => intro l h hk; cases l with
    | nil => exact h.elim
    | cons x l =>
      obtain ⟨⟨⟨av, sp, h1, h2, h3⟩, h4, h5, h6, h7⟩, h8, h9⟩ := h
      have hx' := hk x List.mem_cons_self
      exact ⟨⟨⟨av, sp, h1, h2.less hx, h3⟩, h4.less hx, hx'.1, hx'.2, h7⟩, h8, ih h9 (fun y hy => hk y (List.mem_cons_of_mem _ hy))⟩
theorem FrsAt.mem {w : World} {X : Nat → Prop} {base : Nat} : ∀ {S : List Fr} {l : List (Nat × Value)}, FrsAt w X base S l → ∀ y ∈ l, X y.1 ∧ (∀ k, y.2.ownBlock = some k → X k) ∧ (∃ cs, w.heap[y.1]? = some (.cells cs 247 (0, 0))) ∧ (∀ k, y.2.ownBlock = some k → ∃ cs, w.heap[k]? = some (.cells cs 25 (0, 0))) := by
  intro S
  induction S with
  | nil => intro l h y hy; cases l with
    | nil => cases hy
    | cons => exact h.elim
  | cons f S ih => intro l h y hy; cases l with
    | nil => cases hy
    | cons x l =>
      rcases List.mem_cons.1 hy with rfl | hy
      · obtain ⟨⟨av, sp, h1, -⟩, ⟨cs, hr, -⟩, h3, h4, -⟩ := h.1
        refine ⟨h3, h4, ⟨_, h1⟩, fun k hk => ?_⟩
        rcases hr.2 with ⟨e, _⟩ | ⟨g, cap, cur, e, hg, hh, _⟩
        · rw [e] at hk; cases hk
        · rw [e] at hk
          obtain rfl : g = k := by simpa [Value.ownBlock] using hk
          exact ⟨_, hh⟩
      · exact ih h.2.2 y hy
/-- A write to a block of X of another type than frames, elements, spaces. -/
theorem FrsAt.write {w w' : World} {X : Nat → Prop} {base k0 : Nat} {cs : Array Value} {T : TypeId} {r : Nat × Nat} {S : List Fr} {l : List (Nat × Value)} (h : FrsAt w X base S l) (hk : w.heap[k0]? = some (.cells cs T r)) (hX : X k0) (g : w.grownBy w' (some k0))
    (h1 : 247 ≠ T) (h2 : 25 ≠ T) (h3 : 245 ≠ T) : FrsAt w' X base S l := by
  refine h.same (fun b hb hx => g.block b hb (fun e => hx (by cases e; exact hX))) (fun u l hs => hs.kept g hk h3) (fun y hy => ?_)
  obtain ⟨-, -, ⟨c1, e1⟩, hm⟩ := h.mem y hy
  refine ⟨g.block _ (lt_of_block e1) (blk_ne e1 hk h1), fun k hkk => ?_⟩
  obtain ⟨c2, e2⟩ := hm k hkk
  exact g.block _ (lt_of_block e2) (blk_ne e2 hk h2)
/-- The parser's state in parts. -/
structure MP (w0 w : World) (X : Nat → Prop) (b : Nat) (sv : Value) (l : List (Nat × Value)) (m : Ma) : Prop where
  gr : w0.grownBy w none
  lo : w0.heap.size ≤ b
  pr : PrAt w b m.r sv (m.cnt : Int) m.full
  row : w.ownsRow w0.heap.size 248 1 sv m.st.length (ptrs l)
  frs : FrsAt w X w0.heap.size m.st l
  inB : X b
  inS : ∀ k, sv.ownBlock = some k → X k
  old : ∀ k, k < w0.heap.size → X k
theorem MAt.parts {w0 w : World} {b : Nat} {m : Ma} (h : MAt w0 w b m) : ∃ X sv l, MP w0 w X b sv l m := by
  obtain ⟨X, sv, l, h1, h2, h3, h4, h5, h6, h7, h8⟩ := h
  exact ⟨X, sv, l, h1, h2, h3, h4, h5, h6, h7, h8⟩
theorem MP.grow {w0 w w' : World} {X : Nat → Prop} {b : Nat} {sv : Value} {l : List (Nat × Value)} {m : Ma} (h : MP w0 w X b sv l m) (g : w.grownBy w' none) : MP w0 w' X b sv l m :=
  ⟨gr_trans h.gr g, h.lo, h.pr.grow g, row_none h.row g, h.frs.grow g, h.inB, h.inS, h.old⟩
theorem gr_p {w0 w w' : World} {b : Nat} (h : w0.grownBy w none) (lo : w0.heap.size ≤ b) (g : w.grownBy w' (some b)) : w0.grownBy w' none := gr_new h g lo
theorem MP.step {w0 w w' : World} {X : Nat → Prop} {b : Nat} {sv : Value} {l : List (Nat × Value)} {m : Ma} (h : MP w0 w X b sv l m) {r' : Bs} (hp : PrAt w' b r' sv (m.cnt : Int) m.full) (g : w.grownBy w' (some b)) : MP w0 w' X b sv l { m with r := r' } :=
  ⟨gr_p h.gr h.lo g, h.lo, hp, row_pr h.row g h.pr (by decide), h.frs.write h.pr h.inB g (by decide) (by decide) (by decide), h.inB, h.inS, h.old⟩
end Go.Proofs.YtmofnoconhgjmaaGreatDoor
/- The parser's pop. -/
namespace Go.Proofs.YtmofnoconhgjmaaGreatDoor
open Go.RowKit
set_option linter.unusedVariables false
set_option linter.unusedSimpArgs false

theorem infoE : (Tryz.prog.info? 25).map (fun i => (i.zero, i.size, i.bytes)) = some (some (.agg #[.string ⟨#[]⟩, .string ⟨#[]⟩, .slice none 0 0, .string ⟨#[]⟩, .slice none 0 0]), 5, 96) := by kernel_rfl
def zel : List Value := [.string ⟨#[]⟩, .string ⟨#[]⟩, .slice none 0 0, .string ⟨#[]⟩, .slice none 0 0]
/-- What an append of an empty element leaves. -/
structure AppE (w w' : World) (base : Nat) (kv : Value) (n : Nat) (cs : List Value) (g c : Nat) : Prop where
  row : w'.ownsRow base 25 5 (.slice (some ⟨g, 0, none⟩) (n + 1) c) (n + 1) (cs ++ zel)
  gr : w.grownBy w' kv.ownBlock
  at' : some g = kv.ownBlock ∨ g = w.heap.size
theorem AppE.blk {w w' : World} {base : Nat} {kv : Value} {n : Nat} {cs : List Value} {g c : Nat} (h : AppE w w' base kv n cs g c) : base ≤ g ∧ n + 1 ≤ c ∧ c ≤ maxLen ∧ ∃ cur, w'.heap[g]? = some (.cells cur 25 (0, 0)) ∧ cur.size = c * 5 ∧ cur.toList.take ((n + 1) * 5) = cs ++ zel := by
  rcases h.row.2 with ⟨e, _⟩ | ⟨g', cap, cur, e, hg, hh, hc, hm, hs, ht⟩
  · cases e
  · cases e
    exact ⟨hg, hc, hm, cur, hh, hs, ht⟩
theorem AppE.cells {w w' : World} {base : Nat} {kv : Value} {n : Nat} {cs : List Value} {g c : Nat} (h : AppE w w' base kv n cs g c) (hcs : cs.length = n * 5) :
    (w'.cell? ⟨g, n * 5, none⟩ = some (.string ⟨#[]⟩) ∧ w'.cell? ⟨g, n * 5 + 1, none⟩ = some (.string ⟨#[]⟩) ∧ w'.cell? ⟨g, n * 5 + 2, none⟩ = some (.slice none 0 0) ∧ w'.cell? ⟨g, n * 5 + 3, none⟩ = some (.string ⟨#[]⟩) ∧ w'.cell? ⟨g, n * 5 + 4, none⟩ = some (.slice none 0 0)) ∧
    w'.frozen? ⟨g, n * 5, none⟩ = false ∧ w'.frozen? ⟨g, n * 5 + 1, none⟩ = false ∧ w'.frozen? ⟨g, n * 5 + 2, none⟩ = false ∧ w'.frozen? ⟨g, n * 5 + 3, none⟩ = false ∧ w'.frozen? ⟨g, n * 5 + 4, none⟩ = false := by
  obtain ⟨_, _, _, cur, hh, hs, ht⟩ := h.blk
  have key : ∀ j u, j < 5 → zel[j]? = some u → w'.cell? ⟨g, n * 5 + j, none⟩ = some u := fun j u hj hu => by
    have e : (cur.toList.take ((n + 1) * 5))[n * 5 + j]? = some u := by
      rw [ht, List.getElem?_append_right (by omega), hcs, Nat.add_sub_cancel_left]; exact hu
    rw [List.getElem?_take, if_pos (by omega)] at e
    simpa [World.cell?, hh] using e
  exact ⟨⟨key 0 _ (by omega) rfl, key 1 _ (by omega) rfl, key 2 _ (by omega) rfl, key 3 _ (by omega) rfl, key 4 _ (by omega) rfl⟩, free_of_block hh _, free_of_block hh _, free_of_block hh _, free_of_block hh _, free_of_block hh _⟩
theorem own_fo_cell {w : World} {base g n c : Nat} {cs : List Value} (h : w.ownsRow base 25 5 (.slice (some ⟨g, 0, none⟩) n c) n cs) (i : Nat) (u : Value) (hu : cs[i]? = some u) : w.cell? ⟨g, i, none⟩ = some u := by
  rcases h.2 with ⟨e, _⟩ | ⟨g', cap, cur, e, hg, hh, hc, hm, hs, ht⟩
  · cases e
  · cases e
    have hl := h.1
    have hi := (List.getElem?_eq_some_iff.1 hu).1
    rw [← ht, List.getElem?_take, if_pos (by omega)] at hu
    simpa [World.cell?, hh] using hu
end Go.Proofs.YtmofnoconhgjmaaGreatDoor
