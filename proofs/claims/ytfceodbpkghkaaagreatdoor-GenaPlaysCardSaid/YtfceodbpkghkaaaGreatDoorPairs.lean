/- A list of pairs of strings that came in; rows of the call's own, told as lists. -/
import Derived.Test.YtfceodbpkghkaaaGreatDoorBytes
import Derived.ProofKit
namespace Go.Proofs.YtfceodbpkghkaaaGreatDoor
open Go.RowKit

/-- A list of pairs of strings that came in. -/
structure PairAt (w : World) (b o : Nat) (n v : ByteArray) : Prop where
  c0 : w.cell? ⟨b, o, none⟩ = some (.string n)
  c1 : w.cell? ⟨b, o + 1, none⟩ = some (.string v)
theorem PairAt.grown {w w' : World} {b o : Nat} {n v : ByteArray} (h : PairAt w b o n v) (g : w.grownBy w' none) : PairAt w' b o n v :=
  ⟨g.cell h.c0 (by simp), g.cell h.c1 (by simp)⟩
def PairsAt (w : World) (a : Option Addr) (len : Nat) (ns vs : Nat → ByteArray) : Prop := len = 0 ∨ ∃ b o, a = some ⟨b, o, none⟩ ∧ ∀ i, i < len → PairAt w b (o + i * 2) (ns i) (vs i)
theorem PairsAt.grown {w w' : World} {a : Option Addr} {len : Nat} {ns vs : Nat → ByteArray} (h : PairsAt w a len ns vs) (g : w.grownBy w' none) : PairsAt w' a len ns vs := by
  rcases h with h0 | ⟨b, o, rfl, h⟩
  · exact .inl h0
  · exact .inr ⟨b, o, rfl, fun i hi => (h i hi).grown g⟩
theorem toList_beq (a b : ByteArray) : (a.toList == b.toList) = decide (a = b) := by
  rw [Bool.eq_iff_iff, beq_iff_eq, decide_eq_true_iff, Lib.toList_data, Lib.toList_data]
  constructor
  · intro h; exact ByteArray.ext (Array.toList_inj.1 h)
  · intro h; rw [h]

/-- A row of the call's own that reads as bytes. -/
theorem bytes_of_own {w : World} {base : Nat} {e : TypeId} {v : Value} {n : Nat} {l : List UInt8} (h : w.ownsRow base e 1 v n (l.map fun b => .int .u8 (b.toNat : Int))) : Bytes w v l := by
  have hn : n = l.length := by have := h.1; simp at this; omega
  subst hn
  rcases h.2 with ⟨rfl, h0⟩ | ⟨g, cap, cur, rfl, hg, hh, hc, hm, hs, ht⟩
  · have : l = [] := List.eq_nil_of_length_eq_zero h0
    subst this
    exact Bytes.nil w
  · refine ⟨_, cap, rfl, hc, hm, fun _ => ⟨g, 0, rfl, fun i hi => ?_⟩⟩
    have hx : cur.toList[i]? = some (.int .u8 ((l.getD i 0).toNat : Int)) := by
      have h1 : (cur.toList.take (l.length * 1))[i]? = (l.map fun b => Value.int .u8 (b.toNat : Int))[i]? := by rw [ht]
      rw [List.getElem?_take, if_pos (by omega)] at h1
      rw [h1, List.getElem?_map, List.getElem?_eq_getElem hi, List.getD_eq_getElem?_getD, List.getElem?_eq_getElem hi]
      rfl
    rw [Nat.zero_add]
    simpa [World.cell?, hh] using hx
/-- What is owned is read cell by cell. -/
theorem own_cell {w : World} {base : Nat} {e : TypeId} {v : Value} {n : Nat} {xs : List Value} (h : w.ownsRow base e 1 v n xs) (hp : 0 < n) :
    ∃ g cap, v = .slice (some ⟨g, 0, none⟩) n cap ∧ base ≤ g ∧ n ≤ cap ∧ ∀ i u, xs[i]? = some u → w.cell? ⟨g, i, none⟩ = some u := by
  rcases h.2 with ⟨rfl, h0⟩ | ⟨g, cap, cur, rfl, hg, hh, hc, hm, hs, ht⟩
  · omega
  · refine ⟨g, cap, rfl, hg, hc, fun i u hu => ?_⟩
    have hl := h.1
    have hi : i < xs.length := (List.getElem?_eq_some_iff.1 hu).1
    rw [← ht, List.getElem?_take, if_pos (by omega)] at hu
    simpa [World.cell?, hh] using hu
theorem own_shape {w : World} {base : Nat} {e : TypeId} {v : Value} {n : Nat} {xs : List Value} (h : w.ownsRow base e 1 v n xs) : ∃ a cap, v = .slice a n cap ∧ n ≤ cap := by
  rcases h.2 with ⟨rfl, rfl⟩ | ⟨g, cap, cur, rfl, hg, hh, hc, hm, hs, ht⟩
  · exact ⟨none, 0, rfl, Nat.le_refl _⟩
  · exact ⟨_, cap, rfl, hc⟩
theorem gr_own {w w1 w2 : World} {base : Nat} {e : TypeId} {size : Nat} {v : Value} {n : Nat} {xs : List Value} {row : Option Nat} (hg : w.grownBy w1 row) (ho : w1.ownsRow base e size v n xs) (hb : w.heap.size ≤ base) (h : w1.grownBy w2 v.ownBlock) : w.grownBy w2 row := by
  rcases hv : v.ownBlock with _ | g
  · rw [hv] at h; exact gr_trans hg (gr_none h)
  · rw [hv] at h; exact gr_new hg h (by have := (ho.lt g hv).1; omega)
end Go.Proofs.YtfceodbpkghkaaaGreatDoor
