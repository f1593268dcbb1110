/- strings.Replacer: build, of pairs of a byte and a text. -/
import Derived.Test.YtfceodbpkghkaaaDoorRp1
import Derived.Test.YtfceodbpkghkaaaDoorBytes
import Derived.Test.YtfceodbpkghkaaaDoorApG
import Derived.RegionTactic
import Derived.Lib.SliceRun
import Derived.Deep.QuietTactic
import Derived.Laws.MakeOwn
import Derived.Laws.Entries
import Derived.BigQuiet
import Derived.Deep.DeepCutAuto
namespace Go.Proofs.YtfceodbpkghkaaaDoor
open Go.RowKit
set_option linter.unusedVariables false
set_option linter.unusedSimpArgs false

abbrev Prs := List (UInt8 × List UInt8)
/-- The texts that a replacer is made of. -/
def rpoL (prs : Prs) : List (List UInt8) := prs.flatMap fun x => [[x.1], x.2]
theorem rpoL_len (prs : Prs) : (rpoL prs).length = prs.length * 2 := by
  induction prs with
  | nil => rfl
  | cons x l ih => unfold rpoL at ih ⊢; rw [List.flatMap_cons, List.length_append, ih, List.length_cons]; simp only [List.length_cons, List.length_nil]; omega
theorem rpoL_get (prs : Prs) : ∀ (i : Nat) x, prs[i]? = some x → (rpoL prs)[i * 2]? = some [x.1] ∧ (rpoL prs)[i * 2 + 1]? = some x.2 := by
  induction prs with
  | nil => intro i x h; simp at h
  | cons y l ih =>
    intro i x h
    cases i with
    | zero =>
      obtain rfl : y = x := by simpa using h
      exact ⟨rfl, rfl⟩
    | succ i =>
      have := ih i x (by simpa using h)
      rw [show (i + 1) * 2 = i * 2 + 2 by omega, show i * 2 + 2 + 1 = i * 2 + 1 + 2 by omega]
      exact this
theorem infoStr : (Tryd.prog.info? 9).map (fun i => (i.zero, i.size, i.bytes)) = some (some (.string ⟨#[]⟩), 1, 16) := by kernel_rfl
theorem run_make_rowN {P : Program} (t e : TypeId) (i : TypeInfo) (z : Value) (ht : P.underlying t = some (.slice e)) (hi : P.info? e = some i) (hz : i.zero = some z)
    (kl kc : IntKind) (n c : Nat) (hnc : n ≤ c) (hbytes : i.bytes * c ≤ 281474976710656) (h63 : c ≤ 9223372036854775807) (w : World) :
    (Instr.makeSlice t (.int kl (n : Int)) (.int kc (c : Int))).run P w = .ok (.slice (some ⟨w.heap.size, 0, none⟩) n c) (w.alloc (.cells (madeCells z.cells (c * i.size)) e)) := by
  have hb : (i.bytes : Int) * (c : Int) ≤ 281474976710656 := by
    have h : ((i.bytes * c : Nat) : Int) ≤ 281474976710656 := by omega
    rwa [Int.natCast_mul] at h
  have hr := run_make (P := P) w t e i z ht hi hz kl kc n c (by omega) (by omega) hb (by omega)
  simp only [Int.toNat_natCast] at hr
  exact hr
/-- Texts in a row, from a place on. -/
def SrAt (w : World) (g o : Nat) (l : List (List UInt8)) : Prop := ∀ j s, l[j]? = some s → w.cell? ⟨g, o + j, none⟩ = some (.string ⟨s.toArray⟩)
/-- The replacements of pairs. -/
def BsC (w : World) (cs : Array Value) (l : Prs) : Prop := cs.size = 257 ∧ ∀ c : UInt8, ((∀ x ∈ l, x.1 ≠ c) ∧ cs[c.toNat]? = some (.slice none 0 0)) ∨ ∃ x ∈ l, x.1 = c ∧ ∃ g cap, cs[c.toNat]? = some (.slice (some ⟨g, 0, none⟩) x.2.length cap) ∧ Row8 w 5 g cap x.2
def keyV (l : Prs) : List Value := l.reverse.map fun x => .string ⟨#[x.1]⟩
theorem own_empty {w : World} {base g n : Nat} {cs : Array Value} (h : w.heap[g]? = some (.cells cs 9 (0, 0))) (hb : base ≤ g) (hc : cs.size = n) (hm : n ≤ maxLen) : w.ownsRow base 9 1 (.slice (some ⟨g, 0, none⟩) 0 n) 0 [] :=
  ⟨rfl, .inr ⟨g, n, cs, rfl, hb, h, Nat.zero_le _, hm, by omega, rfl⟩⟩
theorem own_row_keep {w w' : World} {base size n : Nat} {row : Option Nat} {e : TypeId} {v : Value} {xs : List Value} (h : w.ownsRow base e size v n xs) (g : w.grownBy w' row) (hr : ∀ k, v.ownBlock = some k → some k ≠ row) : w'.ownsRow base e size v n xs := by
  refine ⟨h.1, ?_⟩
  rcases h.2 with h0 | ⟨b, cap, cur, rfl, hb, hh, r⟩
  · exact .inl h0
  · exact .inr ⟨b, cap, cur, rfl, hb, gr_keep g hh (hr b rfl), r⟩
theorem row8_own {w w' : World} {base size n g c : Nat} {e t : TypeId} {v : Value} {xs : List Value} {l : List UInt8} (h : Row8 w t g c l) (ho : w.ownsRow base e size v n xs) (k : w.grownBy w' v.ownBlock) (hT : t ≠ e) : Row8 w' t g c l := by
  refine h.keep k ?_
  obtain ⟨cs, lo, hi, hg, -⟩ := h
  rcases ho.2 with ⟨rfl, -⟩ | ⟨b, cap, cur, rfl, hb, hh, r⟩
  · simp [Value.ownBlock]
  · intro e'
    have : g = b := by simpa [Value.ownBlock] using e'
    subst this
    rw [hg] at hh
    simp only [Option.some.injEq, Obj.cells.injEq] at hh
    exact hT hh.2.1
theorem row8_ne {w w' : World} {g c rb : Nat} {t T : TypeId} {cs : Array Value} {r : Nat × Nat} {l : List UInt8} (h : Row8 w t g c l) (hb : w.heap[rb]? = some (.cells cs T r)) (k : w.grownBy w' (some rb)) (hT : t ≠ T) : Row8 w' t g c l := by
  refine h.keep k ?_
  obtain ⟨cs', lo, hi, hg, -⟩ := h
  intro e'
  have : g = rb := by simpa using e'
  subst this
  rw [hg] at hb
  simp only [Option.some.injEq, Obj.cells.injEq] at hb
  exact hT hb.2.1
end Go.Proofs.YtfceodbpkghkaaaDoor
