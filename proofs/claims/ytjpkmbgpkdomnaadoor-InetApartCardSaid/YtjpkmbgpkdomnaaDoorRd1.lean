/- Reading a packet: the plain law; what a reader's call leaves. -/
import Derived.Test.YtjpkmbgpkdomnaaDoorEy5
namespace Go.Proofs.YtjpkmbgpkdomnaaDoor
open Go.RowKit

/-- The byte at a place. -/
def b8 (l : List UInt8) (i : Nat) : Nat := (l.getD i 0).toNat
theorem b8_lt (l : List UInt8) (i : Nat) : b8 l i < 256 := UInt8.toNat_lt _
def rdAll (l : List UInt8) : Nat := 256 * b8 l 2 + b8 l 3
/-- The error's number; 0: a packet. -/
def rdCode (l : List UInt8) : Nat :=
  if l.length < 20 then 10
  else if b8 l 0 / 16 ≠ 4 ∨ b8 l 0 % 16 < 5 then 11
  else if 5 < b8 l 0 % 16 then 13
  else if rdAll l < 20 ∨ l.length < rdAll l then 10
  else if 1500 < rdAll l then 14
  else if sum16 (l.take 20) ≠ 0 then 12
  else if (256 * b8 l 6 + b8 l 7) % 16384 ≠ 0 then 13
  else 0
/-- A packet's numbers. -/
structure Pk where
  ttl : Nat
  proto : Nat
  id : Nat
  src : Nat
  dst : Nat
  body : List UInt8
def rdPk (l : List UInt8) : Pk :=
  if rdCode l = 0 then ⟨b8 l 8, b8 l 9, 256 * b8 l 4 + b8 l 5, beN ((l.drop 12).take 4), beN ((l.drop 16).take 4), (l.take (rdAll l)).drop 20⟩ else ⟨0, 0, 0, 0, 0, []⟩
def Pk.val (p : Pk) (body : Value) : Value := .agg #[.int .u8 p.ttl, .int .u8 p.proto, .int .u16 p.id, .int .u32 p.src, .int .u32 p.dst, body]
def RdPost (w : World) (l : List UInt8) (e : Ending) (w' : World) : Prop := ∃ body, e = .returned (.tuple #[(rdPk l).val body, .int .i64 (rdCode l)]) ∧ Bytes w' body (rdPk l).body ∧ Far w.heap.size body ∧ w.grownBy w' none
theorem beN_b8 (l : List UInt8) (i : Nat) (h : i < l.length) : beN ((l.drop i).take 1) = b8 l i := by
  rw [List.drop_eq_getElem_cons h, List.take_succ_cons, List.take_zero]
  simp [beN, b8, List.getD_eq_getElem?_getD, h]
theorem beN_b16 (l : List UInt8) (i : Nat) (h : i + 1 < l.length) : beN ((l.drop i).take 2) = 256 * b8 l i + b8 l (i + 1) := by
  rw [List.drop_eq_getElem_cons (by omega), List.drop_eq_getElem_cons h, List.take_succ_cons, List.take_succ_cons, List.take_zero]
  simp [beN, b8, List.getD_eq_getElem?_getD, h, show i < l.length by omega]
theorem beN_lt (l : List UInt8) (k : Nat) (hk : k ≤ l.length) (h4 : k ≤ 4) : beN (l.take k) < 4294967296 := by
  have h1 := beN_bd l k hk
  have h2 : pw256 k ≤ 4294967296 := by
    have : ∀ k, k ≤ 4 → pw256 k ≤ 4294967296 := by decide
    exact this k h4
  omega
theorem far_at {b b3 o n c : Nat} (h : b ≤ b3) : Far b (.slice (some ⟨b3, o, none⟩) n c) := fun k o' n' c' e _ => by
  simp only [Value.slice.injEq, Option.some.injEq, Addr.mk.injEq, and_true] at e
  omega
/-- Six stores into a packet's variable. -/
theorem pk_stored {w : World} {b : Nat} {u0 u1 u2 u3 u4 u5 : Value} {t : TypeId} (h : w.heap[b]? = some (.cells #[u0, u1, u2, u3, u4, u5] t (0, 0))) (v0 v1 v2 v3 v4 v5 : Value) :
    ((((((w.setCell ⟨b, 0, none⟩ v0).setCell ⟨b, 1, none⟩ v1).setCell ⟨b, 2, none⟩ v2).setCell ⟨b, 3, none⟩ v3).setCell ⟨b, 4, none⟩ v4).setCell ⟨b, 5, none⟩ v5).heap[b]? = some (.cells #[v0, v1, v2, v3, v4, v5] t (0, 0)) := by
  have := heap_set (o := 5) (v := v5) (heap_set (o := 4) (v := v4) (heap_set (o := 3) (v := v3) (heap_set (o := 2) (v := v2) (heap_set (o := 1) (v := v1) (heap_set (o := 0) (v := v0) h)))))
  rw [this]; rfl
theorem pk_grown {w0 w : World} {b : Nat} (g : w0.grownBy w none) (hb : w0.heap.size ≤ b) (v0 v1 v2 v3 v4 v5 : Value) :
    w0.grownBy ((((((w.setCell ⟨b, 0, none⟩ v0).setCell ⟨b, 1, none⟩ v1).setCell ⟨b, 2, none⟩ v2).setCell ⟨b, 3, none⟩ v3).setCell ⟨b, 4, none⟩ v4).setCell ⟨b, 5, none⟩ v5) none :=
  gr_set_new (gr_set_new (gr_set_new (gr_set_new (gr_set_new (gr_set_new g hb) hb) hb) hb) hb) hb
end Go.Proofs.YtjpkmbgpkdomnaaDoor
