/- Texts of one proof, put together: Kt, Jt. -/
import Derived.Test.YtfceodbpkghkaaaGreatDoorLib
import Derived.Test.YtfceodbpkghkaaaGreatDoorBytes
import Derived.Test.YtfceodbpkghkaaaGreatDoorShelf
/- Frames by types: what was laid before stays, but blocks of some types. They speak of no program. -/
namespace Go.Proofs.YtfceodbpkghkaaaGreatDoor
open Go.RowKit

/-- A block that stays: below a bound, or of a type that is not written. -/
def Stay (T : TypeId → Bool) (N : Nat) (b : Nat) (o : Obj) : Prop := b < N ∨ ∃ cs t r, o = .cells cs t r ∧ T t = false
/-- What was there stays, but blocks from N on of the types T. -/
structure KT (T : TypeId → Bool) (N : Nat) (w w' : World) : Prop where
  os : w'.os = w.os
  tape : w'.tape = w.tape
  output : w'.output = w.output
  size : w.heap.size ≤ w'.heap.size
  block : ∀ b o, w.heap[b]? = some o → Stay T N b o → w'.heap[b]? = some o
theorem KT.refl {T : TypeId → Bool} {N : Nat} (w : World) : KT T N w w := ⟨rfl, rfl, rfl, Nat.le_refl _, fun _ _ h _ => h⟩
theorem KT.trans {T : TypeId → Bool} {N : Nat} {a b c : World} (h : KT T N a b) (k : KT T N b c) : KT T N a c :=
  ⟨k.os.trans h.os, k.tape.trans h.tape, k.output.trans h.output, Nat.le_trans h.size k.size, fun i o hi hs => k.block i o (h.block i o hi hs) hs⟩
theorem KT.of_none {T : TypeId → Bool} {N : Nat} {a b : World} (h : a.grownBy b none) : KT T N a b :=
  ⟨h.os, h.tape, h.output, h.size, fun i _ hi _ => (h.block i (lt_of_block hi) (by simp)).trans hi⟩
/-- A step that writes one block of the types T. -/
theorem KT.of_row {T : TypeId → Bool} {N : Nat} {a b : World} {g : Nat} {cs : Array Value} {t : TypeId} {r : Nat × Nat} (h : a.grownBy b (some g)) (hg : a.heap[g]? = some (.cells cs t r)) (hN : N ≤ g) (ht : T t = true) : KT T N a b :=
  ⟨h.os, h.tape, h.output, h.size, fun i o hi hs => (h.block i (lt_of_block hi) (by
    intro e
    obtain rfl : i = g := by simpa using e
    rcases hs with h | ⟨cs', t', r', rfl, h'⟩
    · omega
    · rw [hg] at hi
      obtain ⟨rfl, rfl, rfl⟩ : cs = cs' ∧ t = t' ∧ r = r' := by simpa using hi
      rw [ht] at h'; cases h')).trans hi⟩
theorem KT.mono {T T' : TypeId → Bool} {N : Nat} {a b : World} (h : KT T N a b) (hT : ∀ t, T t = true → T' t = true) : KT T' N a b :=
  ⟨h.os, h.tape, h.output, h.size, fun i o hi hs => h.block i o hi (by
    rcases hs with h | ⟨cs, t, r, rfl, h'⟩
    · exact .inl h
    · refine .inr ⟨cs, t, r, rfl, ?_⟩
      cases hq : T t
      · rfl
      · rw [hT t hq] at h'; cases h')⟩
theorem KT.keep {T : TypeId → Bool} {N : Nat} {a b : World} {g : Nat} {o : Obj} (h : KT T N a b) (hg : a.heap[g]? = some o) (hs : Stay T N g o) : b.heap[g]? = some o := h.block g o hg hs
theorem KT.of_type {T : TypeId → Bool} {N : Nat} {a b : World} {g : Nat} {cs : Array Value} {t : TypeId} {r : Nat × Nat} (h : KT T N a b) (hg : a.heap[g]? = some (.cells cs t r)) (ht : T t = false) : b.heap[g]? = some (.cells cs t r) :=
  h.block g _ hg (.inr ⟨cs, t, r, rfl, ht⟩)
theorem KT.low {T : TypeId → Bool} {N : Nat} {a b : World} {g : Nat} {o : Obj} (h : KT T N a b) (hg : a.heap[g]? = some o) (hN : g < N) : b.heap[g]? = some o := h.block g o hg (.inl hN)
theorem KT.cell {T : TypeId → Bool} {N : Nat} {a b : World} {ad : Addr} {v : Value} {o : Obj} (h : KT T N a b) (hc : a.cell? ad = some v) (hg : a.heap[ad.block]? = some o) (hs : Stay T N ad.block o) : b.cell? ad = some v := by
  rw [World.cell?_of_block ((h.block _ o hg hs).trans hg.symm)]
  exact hc
/-- A cell below the bound. -/
theorem KT.cell_low {T : TypeId → Bool} {N : Nat} {a b : World} {ad : Addr} {v : Value} (h : KT T N a b) (hc : a.cell? ad = some v) (hN : ad.block < N) : b.cell? ad = some v := by
  have hlt := World.block_lt_of_cell? a ad hc
  exact h.cell hc (Array.getElem?_eq_getElem hlt) (.inl hN)
/-- What nothing old writes, seen from the bound. -/
theorem KT.gr {T : TypeId → Bool} {N : Nat} {a b : World} (h : KT T N a b) (hN : a.heap.size ≤ N) : a.grownBy b none :=
  ⟨h.os, h.tape, h.output, h.size, fun i hi _ => by
    rw [h.block i _ (Array.getElem?_eq_getElem hi) (.inl (by omega)), Array.getElem?_eq_getElem hi]⟩
end Go.Proofs.YtfceodbpkghkaaaGreatDoor
/- octet.Join of two parts. -/
namespace Go.Proofs.YtfceodbpkghkaaaGreatDoor
open Go.RowKit

theorem bytes_fresh {B : Nat} {w : World} {v : Value} {l : List UInt8} (h : Lib.FreshBytes B w v l) : Bytes w v l := by
  obtain ⟨g, cap, zs, rfl, hB, hlc, hm, hz, hzb, hbo, hc, _⟩ := h
  refine ⟨_, cap, rfl, hlc, hm, fun _ => ⟨g, 0, rfl, fun i hi => ?_⟩⟩
  rw [Nat.zero_add, hc i (by omega)]
  have hi2 : i < zs.length := by omega
  have e1 : l[i]? = some (UInt8.ofNat (zs[i]).toNat) := by
    rw [← hbo]
    unfold Lib.bytesOf
    rw [List.getElem?_map, List.getElem?_take, if_pos hi, List.getElem?_eq_getElem hi2]; rfl
  have e2 : l.getD i 0 = UInt8.ofNat (zs[i]).toNat := by rw [List.getD_eq_getElem?_getD, e1]; rfl
  have e3 : zs.getD i 0 = zs[i] := by rw [List.getD_eq_getElem?_getD, List.getElem?_eq_getElem hi2]; rfl
  have hb := hzb _ (List.getElem_mem hi2)
  rw [e2, e3]
  have : ((UInt8.ofNat (zs[i]).toNat).toNat : Int) = zs[i] := by simp; omega
  rw [this]
theorem holds_of {w : World} {v : Value} {l : List UInt8} (h : Bytes w v l) : Lib.HoldsBytes w v l := by
  obtain ⟨a, c, rfl, h1, h2, h3⟩ := h
  refine ⟨a, c, rfl, fun e => ?_, fun ad e i x hx => ?_⟩
  · subst e
    cases l with
    | nil => rfl
    | cons y l => obtain ⟨b, o, e, _⟩ := h3 (by simp); cases e
  · subst e
    have hi : i < l.length := (List.getElem?_eq_some_iff.1 hx).1
    obtain ⟨b, o, e, hc⟩ := h3 (by intro e; rw [e] at hi; simp at hi)
    obtain rfl : ad = ⟨b, o, none⟩ := by simpa using e
    rw [Go.WideShapes.add_plain, hc i hi, List.getD_eq_getElem?_getD, hx]; rfl
theorem join_by (w : World) (b o c : Nat) (v1 v2 : Value) (l1 l2 : List UInt8) (hc : 2 ≤ c) (h1 : w.cell? ⟨b, o, none⟩ = some v1) (h2 : w.cell? ⟨b, o + 1, none⟩ = some v2) (hb1 : Bytes w v1 l1) (hb2 : Bytes w v2 l2) (hlen : l1.length + l2.length ≤ 1000000) :
    Calls Tryz.prog 79 #[.slice (some ⟨b, o, none⟩) 2 c] w fun e w' => ∃ v, e = .returned v ∧ Bytes w' v (l1 ++ l2) ∧ w.grownBy w' none := by
  have hP : Lib.PartsAt w ⟨b, o, none⟩ [v1, v2] [l1, l2] := by
    refine ⟨rfl, fun i v hv => ?_, fun i v l hv hl => ?_⟩
    · rw [Go.WideShapes.add_plain]
      match i, hv with
      | 0, hv => obtain rfl : v1 = v := by simpa using hv
                 exact h1
      | 1, hv => obtain rfl : v2 = v := by simpa using hv
                 exact h2
    · match i, hv, hl with
      | 0, hv, hl => obtain rfl : v1 = v := by simpa using hv
                     obtain rfl : l1 = l := by simpa using hl
                     exact holds_of hb1
      | 1, hv, hl => obtain rfl : v2 = v := by simpa using hv
                     obtain rfl : l2 = l := by simpa using hl
                     exact holds_of hb2
  have hj := Tryz.bytes_Join_many b o 2 c [v1, v2] [l1, l2] (.slice none 0 0) [] w rfl (Nat.le_refl _) hP hc (holds_of (Bytes.nil w)) (by omega) (by simp [Lib.lens]; omega)
  go_enter Tryz.func79, Tryz.ntmps79
  go_wp2_with fail
  refine hj.mono ?_
  rintro e w' ⟨v', rfl, hf, hbl⟩
  have hbo := bytes_fresh hf
  rw [show Lib.join [l1, l2] [] = l1 ++ l2 by simp [Lib.join]] at hbo
  go_wp2_with fail
  go_ret
  exact ⟨v', rfl, hbo, gr_of_below hbl⟩
end Go.Proofs.YtfceodbpkghkaaaGreatDoor
