/- Slices of bytes, told as lists; conversions between strings and bytes as laws of the walk. They speak of no program. -/
import Derived.Test.YtfceodbpkghkaaaGreatDoorLib
import Derived.Laws.IdiomStrings
import Derived.Laws.BytesString
import Derived.Lib.Strings
import Derived.Lib.IndexMore
import Derived.Handy
import Derived.ProofKit
namespace Go.Proofs.YtfceodbpkghkaaaGreatDoor
open Go.RowKit

/-- A string of bytes. -/
def str (l : List UInt8) : Value := .string ⟨l.toArray⟩
theorem str_of (s : ByteArray) : Value.string s = str s.data.toList := rfl
/-- The value v is a slice that reads as the bytes l. -/
def Bytes (w : World) (v : Value) (l : List UInt8) : Prop :=
  ∃ a c, v = .slice a l.length c ∧ l.length ≤ c ∧ c ≤ maxLen ∧ (l ≠ [] → ∃ b o, a = some ⟨b, o, none⟩ ∧ ∀ i, i < l.length → w.cell? ⟨b, o + i, none⟩ = some (.int .u8 ((l.getD i 0).toNat : Int)))
theorem Bytes.grown {w w' : World} {v : Value} {l : List UInt8} (h : Bytes w v l) (g : w.grownBy w' none) : Bytes w' v l := by
  obtain ⟨a, c, rfl, h1, h2, h3⟩ := h
  refine ⟨a, c, rfl, h1, h2, fun hl => ?_⟩
  obtain ⟨b, o, rfl, hc⟩ := h3 hl
  exact ⟨b, o, rfl, fun i hi => g.cell (hc i hi) (by simp)⟩
theorem Bytes.nil (w : World) : Bytes w (.slice none 0 0) [] := ⟨none, 0, rfl, by simp, by simp [maxLen], fun h => absurd rfl h⟩
theorem Bytes.at {w : World} {a : Option Addr} {n c : Nat} {l : List UInt8} (h : Bytes w (.slice a n c) l) : n = l.length ∧ n ≤ c ∧ c ≤ maxLen ∧ (0 < n → ∃ b o, a = some ⟨b, o, none⟩ ∧ ∀ i, i < n → w.cell? ⟨b, o + i, none⟩ = some (.int .u8 ((l.getD i 0).toNat : Int))) := by
  obtain ⟨a', c', e, h1, h2, h3⟩ := h
  simp only [Value.slice.injEq] at e
  obtain ⟨rfl, rfl, rfl⟩ := e
  exact ⟨rfl, h1, h2, fun hp => h3 (by intro e; subst e; simp at hp)⟩
/-- A row of bytes of the call's own: its block, the cells behind the list open, nothing frozen within. -/
def Row8 (w : World) (e : TypeId) (g c : Nat) (l : List UInt8) : Prop :=
  ∃ cs lo hi, w.heap[g]? = some (.cells cs e (lo, hi)) ∧ (lo = hi ∨ cs.size ≤ lo) ∧ cs.size = c ∧ l.length ≤ c ∧ c ≤ maxLen ∧ ∀ i, i < l.length → cs[i]? = some (.int .u8 ((l.getD i 0).toNat : Int))
theorem Row8.bytes {w : World} {e : TypeId} {g c : Nat} {l : List UInt8} (h : Row8 w e g c l) : Bytes w (.slice (some ⟨g, 0, none⟩) l.length c) l := by
  obtain ⟨cs, lo, hi, hg, _, hcs, h1, h2, h3⟩ := h
  refine ⟨_, c, rfl, h1, h2, fun _ => ⟨g, 0, rfl, fun i hi => ?_⟩⟩
  rw [Nat.zero_add]
  have := h3 i hi
  simpa [World.cell?, hg] using this
theorem Row8.cell {w : World} {e : TypeId} {g c : Nat} {l : List UInt8} (h : Row8 w e g c l) {i : Nat} (hi : i < l.length) : w.cell? ⟨g, i, none⟩ = some (.int .u8 ((l.getD i 0).toNat : Int)) := by
  obtain ⟨cs, lo, hi', hg, _, hcs, h1, h2, h3⟩ := h
  simpa [World.cell?, hg] using h3 i hi
theorem Row8.free {w : World} {e : TypeId} {g c : Nat} {l : List UInt8} (h : Row8 w e g c l) {i : Nat} (hi : i < l.length) : w.frozen? ⟨g, i, none⟩ = false := by
  obtain ⟨cs, lo, hi', hg, hf, hcs, h1, h2, h3⟩ := h
  simp only [World.frozen?, hg]
  rcases hf with rfl | hf
  · simp; try omega
  · simp; try (intro; omega)
theorem Row8.keep {w w' : World} {row : Option Nat} {e : TypeId} {g c : Nat} {l : List UInt8} (h : Row8 w e g c l) (k : w.grownBy w' row) (hr : some g ≠ row) : Row8 w' e g c l := by
  obtain ⟨cs, lo, hi, hg, r⟩ := h
  exact ⟨cs, lo, hi, gr_keep k hg hr, r⟩
theorem Row8.lt {w : World} {e : TypeId} {g c : Nat} {l : List UInt8} (h : Row8 w e g c l) : g < w.heap.size := by
  obtain ⟨cs, lo, hi, hg, r⟩ := h
  exact lt_of_block hg
/-- A store of a byte. -/
theorem Row8.set {w : World} {e : TypeId} {g c : Nat} {l : List UInt8} (h : Row8 w e g c l) {i : Nat} (hi : i < l.length) (x : UInt8) : Row8 (w.setCell ⟨g, i, none⟩ (.int .u8 (x.toNat : Int))) e g c (l.set i x) := by
  obtain ⟨cs, lo, hi', hg, hf, hcs, h1, h2, h3⟩ := h
  refine ⟨cs.setIfInBounds i (.int .u8 (x.toNat : Int)), lo, hi', ?_, by simpa using hf, by simpa using hcs, by simpa using h1, h2, fun j hj => ?_⟩
  · have hlt := lt_of_block hg
    have h' : w.heap[g] = .cells cs e (lo, hi') := by simpa [Array.getElem?_eq_getElem hlt] using hg
    show (w.heap.modify g _)[g]? = _
    rw [Array.getElem?_eq_getElem (by simpa using hlt), Array.getElem_modify_self, h']
    rfl
  · rw [Array.getElem?_setIfInBounds]
    by_cases hij : i = j
    · subst hij
      rw [if_pos rfl, if_pos (by omega)]
      simp [List.getD_eq_getElem?_getD, hi]
    · rw [if_neg hij, h3 j (by simpa using hj)]
      simp [List.getD_eq_getElem?_getD, hij]
section
variable {P : Program} {w : World} {ops : Array Oper} {rest : List Oper} {o : Oper} {a : Act} {Q : Exit → Act → World → Prop}
/-- '[]byte(s)'. -/
theorem wpl_s2b (hgd : o.guard = none) (src dst e : TypeId) (x : Operand) (ho : o.op = .convert src dst x) (hs : P.underlying src = some .string) (hd : P.underlying dst = some (.slice e)) (he : P.underlying e = some (.int .u8))
    (s : ByteArray) (hx : a.eval x = .string s) (hsz : s.size ≤ maxLen)
    (h : ∀ g c w', w.heap.size ≤ g → Row8 w' e g c s.data.toList → w.grownBy w' none → wpList P ops Q rest (a.put o.dst (.slice (some ⟨g, 0, none⟩) s.size c)) w') : wpList P ops Q (o :: rest) a w := by
  refine wpList_plain hgd fun K hK => ?_
  unfold Oper.wp execOp
  simp only [ho, hx, Sem.run_bind, Sem.run_pure, run_bytes_of_string (P := P) w src dst e s hs hd he, Result.andThen_ok]
  refine hK _ _ (h w.heap.size _ _ (Nat.le_refl _) ?_ (gr_alloc (gr_drew (gr_refl _ _)) _))
  have hlen := Lib.size_eq s
  have hge := grownCap_ge w s.size 0 e
  have hle := grownCap_le_maxLen w s.size 0 e hsz
  refine ⟨_, _, _, heap_alloc_new w.drew _, .inr (Nat.le_refl _), ?_, by omega, hle, fun i hi => ?_⟩
  · have : s.data.size = s.size := rfl
    simp [bytesRow, this]; omega
  · have : s.data.size = s.size := rfl
    rw [bytesRow, Array.getElem?_append_left (by simp [this]; omega)]
    rw [Array.getElem?_map, ← Array.getElem?_toList, List.getElem?_eq_getElem hi]
    rw [List.getD_eq_getElem?_getD, List.getElem?_eq_getElem hi]
    rfl
/-- 'string(b)'. -/
theorem wpl_b2s (hgd : o.guard = none) (src dst e : TypeId) (x : Operand) (ho : o.op = .convert src dst x) (hs : P.underlying src = some (.slice e)) (he : P.underlying e = some (.int .u8)) (hd : P.underlying dst = some .string)
    (v : Value) (l : List UInt8) (hx : a.eval x = v) (hb : Bytes w v l)
    (h : wpList P ops Q rest (a.put o.dst (str l)) w) : wpList P ops Q (o :: rest) a w := by
  refine wpList_plain hgd fun K hK => ?_
  have hrun : (convert src dst v).run P w = .ok (str l) w := by
    obtain ⟨ad, c, rfl, h1, h2, h3⟩ := hb
    rw [run_convert_bytes_string w src dst e _ _ _ hs he hd]
    rcases l with _ | ⟨x, l⟩
    · cases ad with
      | none => simp [Conv.bytesToString, str]; rfl
      | some ad =>
        have := run_bytesToString (P := P) w ad 0 c [] (by have := run_loadCells_list (P := P) w ad [] (by intro j v h; simp at h); simpa using this)
        exact this.trans rfl
    · obtain ⟨b, of, rfl, hc⟩ := h3 (by simp)
      have := run_bytesToString (P := P) w ⟨b, of, none⟩ (x :: l).length c ((x :: l).map (fun b => (b.toNat : Int))) (by
        have := run_loadCells_list (P := P) w ⟨b, of, none⟩ (((x :: l).map (fun b => (b.toNat : Int))).map (Value.int .u8)) (by
          intro j v hj
          simp only [List.getElem?_map, Option.map_eq_some_iff] at hj
          obtain ⟨n, ⟨y, hy, rfl⟩, rfl⟩ := hj
          have hjl : j < (x :: l).length := (List.getElem?_eq_some_iff.1 hy).1
          rw [Go.WideShapes.add_plain, hc j hjl, List.getD_eq_getElem?_getD, hy]
          rfl)
        simpa using this)
      rw [this, foldl_push_byteCells]
      simp [str]
  unfold Oper.wp execOp
  simp only [ho, hx, Sem.run_bind, Sem.run_pure, hrun, Result.andThen_ok]
  exact hK _ _ h
end
end Go.Proofs.YtfceodbpkghkaaaGreatDoor
