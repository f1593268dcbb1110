/- General small lemmas on worlds: frames ('grownBy'), blocks of cells. They speak of no program. -/
import Derived.WalkKit
import Derived.WalkSpells
import Derived.WalkLawsBesides
namespace Go.Proofs.YtmofnoconhgjmaaGreatDoor
open Go.RowKit

/-- A fact kept from the walk; '.out' gives it back. -/
theorem hid {p : Prop} (h : p) : Hid p := h

theorem gr_refl (w : World) (row : Option Nat) : w.grownBy w row := ⟨rfl, rfl, rfl, Nat.le_refl _, fun _ _ _ => rfl⟩
theorem gr_trans {w w1 w2 : World} {row : Option Nat} (h : w.grownBy w1 row) (k : w1.grownBy w2 row) : w.grownBy w2 row :=
  ⟨k.os.trans h.os, k.tape.trans h.tape, k.output.trans h.output, Nat.le_trans h.size k.size,
    fun i hi hr => (k.block i (Nat.lt_of_lt_of_le hi h.size) hr).trans (h.block i hi hr)⟩
/-- A step that writes nothing old is a step for any row. -/
theorem gr_none {w w1 : World} {row : Option Nat} (h : w.grownBy w1 none) : w.grownBy w1 row :=
  ⟨h.os, h.tape, h.output, h.size, fun i hi _ => h.block i hi (by simp)⟩
/-- A step that writes one block that is new since w. -/
theorem gr_new {w w1 w2 : World} {row : Option Nat} {g : Nat} (h : w.grownBy w1 row) (k : w1.grownBy w2 (some g)) (hg : w.heap.size ≤ g) : w.grownBy w2 row :=
  ⟨k.os.trans h.os, k.tape.trans h.tape, k.output.trans h.output, Nat.le_trans h.size k.size,
    fun i hi hr => (k.block i (Nat.lt_of_lt_of_le hi h.size) (by simp; omega)).trans (h.block i hi hr)⟩
theorem gr_drew {w w1 : World} {row : Option Nat} (h : w.grownBy w1 row) : w.grownBy w1.drew row :=
  ⟨h.os, h.tape, h.output, h.size, fun i hi hr => h.block i hi hr⟩
theorem gr_drewN {w w1 : World} {row : Option Nat} (n : Nat) (h : w.grownBy w1 row) : w.grownBy (w1.drewN n) row :=
  ⟨h.os, h.tape, h.output, h.size, fun i hi hr => h.block i hi hr⟩
theorem gr_alloc {w w1 : World} {row : Option Nat} (h : w.grownBy w1 row) (o : Obj) : w.grownBy (w1.alloc o) row :=
  gr_trans h (World.grownBy_alloc w1 o row)
theorem gr_set {w w1 : World} {b o : Nat} {v : Value} (h : w.grownBy w1 (some b)) : w.grownBy (w1.setCell ⟨b, o, none⟩ v) (some b) :=
  gr_trans h ⟨rfl, rfl, rfl, by simp [World.setCell], fun k _ hr => Below.heap_setCell _ _ _ _ (by simpa using hr)⟩
theorem gr_set_new {w w1 : World} {row : Option Nat} {b o : Nat} {v : Value} (h : w.grownBy w1 row) (hb : w.heap.size ≤ b) : w.grownBy (w1.setCell ⟨b, o, none⟩ v) row :=
  gr_new h (gr_set (gr_refl w1 (some b))) hb
theorem gr_below {w w1 : World} (h : w.grownBy w1 none) : Below w.heap.size w w1 := ⟨h.os, h.tape, h.output, h.size, fun k hk => h.block k hk (by simp)⟩
theorem gr_of_below {w w1 : World} (h : Below w.heap.size w w1) : w.grownBy w1 none := ⟨h.os, h.tape, h.output, h.size, fun k hk _ => h.block k hk⟩
/-- A block that is not written stays. -/
theorem gr_keep {w w1 : World} {row : Option Nat} {g : Nat} {x : Obj} (h : w.grownBy w1 row) (hx : w.heap[g]? = some x) (hr : some g ≠ row) : w1.heap[g]? = some x :=
  (h.block g (lt_of_block hx) hr).trans hx
theorem heap_drew (w : World) (g : Nat) : w.drew.heap[g]? = w.heap[g]? := rfl
theorem heap_set {w : World} {b o : Nat} {v : Value} {cs : Array Value} {t : TypeId} (h : w.heap[b]? = some (.cells cs t (0, 0))) :
    (w.setCell ⟨b, o, none⟩ v).heap[b]? = some (.cells (cs.setIfInBounds o v) t (0, 0)) := by
  have hlt := lt_of_block h
  have h' : w.heap[b] = .cells cs t (0, 0) := by simpa [Array.getElem?_eq_getElem hlt] using h
  show (w.heap.modify b _)[b]? = _
  rw [Array.getElem?_eq_getElem (by simpa using hlt), Array.getElem_modify_self, h']
  rfl
theorem heap_set_other {w : World} {b g o : Nat} {v : Value} (h : g ≠ b) : (w.setCell ⟨b, o, none⟩ v).heap[g]? = w.heap[g]? := Below.heap_setCell _ _ _ _ h
theorem cell_of_block {w : World} {b : Nat} {cs : Array Value} {t : TypeId} (h : w.heap[b]? = some (.cells cs t (0, 0))) (o : Nat) : w.cell? ⟨b, o, none⟩ = cs[o]? := by
  simp [World.cell?, h]
theorem free_of_block {w : World} {b : Nat} {cs : Array Value} {t : TypeId} (h : w.heap[b]? = some (.cells cs t (0, 0))) (o : Nat) : w.frozen? ⟨b, o, none⟩ = false := by
  simp [World.frozen?, h]

/-- An element of a slice that is built: the zero element's cells, overwritten one by one. -/
theorem foldl_set_list (l : List Value) : ∀ (z : Array Value) (k : Nat), k + l.length ≤ z.size →
    (l.zipIdx k).foldl (fun (cs : Array Value) x => cs.setIfInBounds x.2 x.1) z = (z.toList.take k ++ l ++ z.toList.drop (k + l.length)).toArray := by
  induction l with
  | nil => intro z k _; simp
  | cons x l ih =>
    intro z k hk
    simp only [List.length_cons] at hk
    rw [List.zipIdx_cons, List.foldl_cons, ih _ _ (by simp; omega)]
    have hk2 : k < z.size := by omega
    congr 1
    simp only [Array.setIfInBounds, hk2, dif_pos]
    simp only [Array.toList_set, List.length_cons]
    rw [List.take_set, List.drop_set, if_pos (by omega)]
    have e1 : (List.take (k + 1) z.toList).set k x = List.take k z.toList ++ [x] := by
      rw [List.take_add_one, List.set_append, if_neg (by simp; omega)]
      simp [hk2]
      rw [Nat.min_eq_left (by omega)]; simp
    rw [e1]
    simp [Nat.add_comm, Nat.add_left_comm]
theorem fold_set (z cs : Array Value) (n : Nat) (h : z.size = cs.size) (hn : cs.size = n) :
    Array.foldl (fun (cs : Array Value) (x : Value × Nat) => cs.setIfInBounds x.2 x.1) z cs.zipIdx 0 n = cs := by
  subst hn
  have := foldl_set_list cs.toList z 0 (by simp; omega)
  have e : cs.zipIdx.size = cs.size := by simp
  rw [← e, ← Array.foldl_toList, Array.toList_zipIdx, this]
  have hd : List.drop (0 + cs.toList.length) z.toList = [] := by simp [List.drop_eq_nil_iff, h]
  rw [hd]; simp
end Go.Proofs.YtmofnoconhgjmaaGreatDoor
