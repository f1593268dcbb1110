/- Frames by types: what was laid before stays, but blocks of some types. They speak of no program. -/
import Derived.Test.YtmofnoconhgjmaaGreatDoorLib
namespace Go.Proofs.YtmofnoconhgjmaaGreatDoor
open Go.RowKit

/-- A block that stays: below a bound, or of a type that is not written. -/
def Stay (T : TypeId → Bool) (N : Nat) (b : Nat) (o : Obj) : Prop := b < N ∨ ∃ cs t r, o = .cells cs t r ∧ T t = false
/-- What was there stays, but blocks from N on of the types T. -/
structure KT (T : TypeId → Bool) (N : Nat) (w w' : World) : Prop where
  os : w'.os = w.os
  tape : w'.tape = w.tape
  output : w'.output = w.output
  size : w.heap.size ≤ w'.heap.size
  block : ∀ b o, w.heap[b]? = some o → Stay T N b o → w'.heap[b]? = some o
theorem KT.refl {T : TypeId → Bool} {N : Nat} (w : World) : KT T N w w := ⟨rfl, rfl, rfl, Nat.le_refl _, fun _ _ h _ => h⟩
theorem KT.trans {T : TypeId → Bool} {N : Nat} {a b c : World} (h : KT T N a b) (k : KT T N b c) : KT T N a c :=
  ⟨k.os.trans h.os, k.tape.trans h.tape, k.output.trans h.output, Nat.le_trans h.size k.size, fun i o hi hs => k.block i o (h.block i o hi hs) hs⟩
theorem KT.of_none {T : TypeId → Bool} {N : Nat} {a b : World} (h : a.grownBy b none) : KT T N a b :=
  ⟨h.os, h.tape, h.output, h.size, fun i _ hi _ => (h.block i (lt_of_block hi) (by simp)).trans hi⟩
/-- A step that writes one block of the types T. -/
theorem KT.of_row {T : TypeId → Bool} {N : Nat} {a b : World} {g : Nat} {cs : Array Value} {t : TypeId} {r : Nat × Nat} (h : a.grownBy b (some g)) (hg : a.heap[g]? = some (.cells cs t r)) (hN : N ≤ g) (ht : T t = true) : KT T N a b :=
  ⟨h.os, h.tape, h.output, h.size, fun i o hi hs => (h.block i (lt_of_block hi) (by
    intro e
    obtain rfl : i = g := by simpa using e
    rcases hs with h | ⟨cs', t', r', rfl, h'⟩
    · omega
    · rw [hg] at hi
      obtain ⟨rfl, rfl, rfl⟩ : cs = cs' ∧ t = t' ∧ r = r' := by simpa using hi
      rw [ht] at h'; cases h')).trans hi⟩
theorem KT.mono {T T' : TypeId → Bool} {N : Nat} {a b : World} (h : KT T N a b) (hT : ∀ t, T t = true → T' t = true) : KT T' N a b :=
  ⟨h.os, h.tape, h.output, h.size, fun i o hi hs => h.block i o hi (by
    rcases hs with h | ⟨cs, t, r, rfl, h'⟩
    · exact .inl h
    · refine .inr ⟨cs, t, r, rfl, ?_⟩
      cases hq : T t
      · rfl
      · rw [hT t hq] at h'; cases h')⟩
theorem KT.keep {T : TypeId → Bool} {N : Nat} {a b : World} {g : Nat} {o : Obj} (h : KT T N a b) (hg : a.heap[g]? = some o) (hs : Stay T N g o) : b.heap[g]? = some o := h.block g o hg hs
theorem KT.of_type {T : TypeId → Bool} {N : Nat} {a b : World} {g : Nat} {cs : Array Value} {t : TypeId} {r : Nat × Nat} (h : KT T N a b) (hg : a.heap[g]? = some (.cells cs t r)) (ht : T t = false) : b.heap[g]? = some (.cells cs t r) :=
  h.block g _ hg (.inr ⟨cs, t, r, rfl, ht⟩)
theorem KT.low {T : TypeId → Bool} {N : Nat} {a b : World} {g : Nat} {o : Obj} (h : KT T N a b) (hg : a.heap[g]? = some o) (hN : g < N) : b.heap[g]? = some o := h.block g o hg (.inl hN)
theorem KT.cell {T : TypeId → Bool} {N : Nat} {a b : World} {ad : Addr} {v : Value} {o : Obj} (h : KT T N a b) (hc : a.cell? ad = some v) (hg : a.heap[ad.block]? = some o) (hs : Stay T N ad.block o) : b.cell? ad = some v := by
  rw [World.cell?_of_block ((h.block _ o hg hs).trans hg.symm)]
  exact hc
/-- A cell below the bound. -/
theorem KT.cell_low {T : TypeId → Bool} {N : Nat} {a b : World} {ad : Addr} {v : Value} (h : KT T N a b) (hc : a.cell? ad = some v) (hN : ad.block < N) : b.cell? ad = some v := by
  have hlt := World.block_lt_of_cell? a ad hc
  exact h.cell hc (Array.getElem?_eq_getElem hlt) (.inl hN)
/-- What nothing old writes, seen from the bound. -/
theorem KT.gr {T : TypeId → Bool} {N : Nat} {a b : World} (h : KT T N a b) (hN : a.heap.size ≤ N) : a.grownBy b none :=
  ⟨h.os, h.tape, h.output, h.size, fun i hi _ => by
    rw [h.block i _ (Array.getElem?_eq_getElem hi) (.inl (by omega)), Array.getElem?_eq_getElem hi]⟩
end Go.Proofs.YtmofnoconhgjmaaGreatDoor
