/- Texts of one proof, put together: Xmt, Xmu, Xmv, Xnv. -/
import Derived.Test.YtmofnoconhgjmaaGreatDoorXms
import Derived.Deep.DeepCutAuto
/- The parser's content. -/
namespace Go.Proofs.YtmofnoconhgjmaaGreatDoor
open Go.RowKit
set_option linter.unusedVariables false
set_option linter.unusedSimpArgs false

theorem app_str (a b : Bs) : (ByteArray.mk a.toArray) ++ (ByteArray.mk b.toArray) = ⟨(a ++ b).toArray⟩ := by
  simp [ByteArray.ext_iff]
theorem MP.txt {w0 w : World} {X : Nat → Prop} {b : Nat} {sv : Value} {x : Nat × Value} {l : List (Nat × Value)} {r : Bs} {f : Fr} {S : List Fr} {cnt : Nat} {full : Bool} (h : MP w0 w X b sv (x :: l) ⟨r, f :: S, cnt, full⟩) (t : Bs) :
    MP w0 (w.setCell ⟨x.1, 5, none⟩ (.string ⟨(f.tx ++ t).toArray⟩)) X b sv (x :: l) ⟨r, f.txt t :: S, cnt, full⟩ := by
  obtain ⟨⟨⟨av, sp, hB, hA, hS⟩, hO, hX1, hX2, hlo⟩, hne, hrest⟩ := h.frs
  have g := gr_set (o := 5) (v := .string ⟨(f.tx ++ t).toArray⟩) (gr_refl w (some x.1))
  have kx : ∀ k, k < w.heap.size → ¬ X k → (w.setCell ⟨x.1, 5, none⟩ (.string ⟨(f.tx ++ t).toArray⟩)).heap[k]? = w.heap[k]? := fun k h1 h2 => g.block k h1 (fun e => h2 (by cases e; exact hX1))
  have hm := h.frs.mem
  refine ⟨gr_p h.gr hlo g, h.lo, gr_keep g h.pr (blk_ne h.pr hB (by decide)), row_ty h.row g hB (by decide), ⟨⟨⟨av, sp, heap_set (o := 5) (v := str (f.tx ++ t)) hB, hA.same kx, hS.kept g hB (by decide)⟩, hO.same kx (fun k e => ?_), hX1, hX2, hlo⟩, hne, ?_⟩, h.inB, h.inS, h.old⟩
  · obtain ⟨c2, e2⟩ := (hm x List.mem_cons_self).2.2.2 k e
    exact g.block k (lt_of_block e2) (blk_ne e2 hB (by decide))
  · refine hrest.same kx (fun u l' hs => hs.kept g hB (by decide)) (fun y hy => ?_)
    obtain ⟨-, -, ⟨c5, e5⟩, hm5⟩ := hm y (List.mem_cons_of_mem _ hy)
    refine ⟨g.block _ (lt_of_block e5) (fun e => (hne y hy).1 (by simpa using e)), fun k e => ?_⟩
    obtain ⟨c6, e6⟩ := hm5 k e
    exact g.block k (lt_of_block e6) (blk_ne e6 hB (by decide))
end Go.Proofs.YtmofnoconhgjmaaGreatDoor
/- The parser's document. -/
namespace Go.Proofs.YtmofnoconhgjmaaGreatDoor
open Go.RowKit
set_option linter.unusedVariables false
set_option linter.unusedSimpArgs false

theorem RootAt.step {w0 w w' : World} {b fb : Nat} {e : El} {rest : Bs} {sv : Value} {cnt : Int} {full : Bool} (h : RootAt w0 w b fb e) (hp : PrAt w b rest sv cnt full) (g : w.grownBy w' (some b)) : RootAt w0 w' b fb e := by
  obtain ⟨p, n, av, kv, sp, h1, h2, h3, h4⟩ := h
  have kx : ∀ k, k < w.heap.size → ¬ (k = b ∨ k < w0.heap.size) → w'.heap[k]? = w.heap[k]? := fun k hk hne => g.block k hk (fun e => hne (.inl (by simpa using e)))
  exact ⟨p, n, av, kv, sp, gr_keep g h1 (blk_ne h1 hp (by decide)), h2.same kx, h3.same kx, h4⟩
theorem RootAt.grow {w0 w w' : World} {b fb : Nat} {e : El} (h : RootAt w0 w b fb e) (g : w.grownBy w' none) : RootAt w0 w' b fb e := by
  obtain ⟨p, n, av, kv, sp, h1, h2, h3, h4⟩ := h
  have kx : ∀ k, k < w.heap.size → ¬ (k = b ∨ k < w0.heap.size) → w'.heap[k]? = w.heap[k]? := fun k hk _ => g.block k hk (by simp)
  exact ⟨p, n, av, kv, sp, gr_keep g h1 (by simp), h2.same kx, h3.same kx, h4⟩
end Go.Proofs.YtmofnoconhgjmaaGreatDoor
/- xml.Parse. -/
namespace Go.Proofs.YtmofnoconhgjmaaGreatDoor
open Go.RowKit
set_option linter.unusedVariables false
set_option linter.unusedSimpArgs false

/-- An element as a value. -/
def elV (e : El) (av kv : Value) : Value := .agg #[str e.s, str e.n, av, str e.tx, kv]
def ElAt (w : World) (X : Nat → Prop) (v : Value) (e : El) : Prop := ∃ av kv, v = elV e av kv ∧ AtsAt w X av e.ats ∧ KidV w X kv e.kids
theorem zero_at (w : World) (X : Nat → Prop) : ElAt w X (.agg #[.string ⟨#[]⟩, .string ⟨#[]⟩, .slice none 0 0, .string ⟨#[]⟩, .slice none 0 0]) El.zero :=
  ⟨_, _, rfl, ⟨none, 0, rfl, fun i hi => by simp [El.zero] at hi⟩, ⟨none, 0, rfl, fun hl => by simp [El.zero, Fo.len] at hl⟩⟩
def finL (l : Bs) : Option (El × Bool) → El × Nat
  | none => (El.zero, 11)
  | some (e, full) => if !plainB l then (El.zero, 11) else if full then (El.zero, 20) else (e, 0)
theorem parseL_fin {l : Bs} (h : ¬ 8192 < l.length) : parseL l = finL l (docL l) := by
  unfold parseL
  rw [if_neg h]
  cases docL l with
  | none => rfl
  | some x => rfl
end Go.Proofs.YtmofnoconhgjmaaGreatDoor
/- xml.Parse: its tree lies in memory that is new. -/
namespace Go.Proofs.YtmofnoconhgjmaaGreatDoor
open Go.RowKit
set_option linter.unusedVariables false
set_option linter.unusedSimpArgs false

def ParseQ (w : World) (x : El × Nat) (e : Ending) (w' : World) : Prop := w.grownBy w' none ∧ ∃ v, e = .returned (.tuple #[v, .int .i64 (x.2 : Int)]) ∧ ElAt w' (fun k => k < w.heap.size) v x.1
end Go.Proofs.YtmofnoconhgjmaaGreatDoor
