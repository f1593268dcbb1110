/- The parser's take, until, blank, word, fullName. -/
import Derived.Test.YtmofnoconhgjmaaGreatDoorMB
import Derived.Test.YtmofnoconhgjmaaGreatDoorShelf
import Derived.Deep.DeepCutAuto
import Derived.Shelf.Strings.SlTrimAscii
namespace Go.Proofs.YtmofnoconhgjmaaGreatDoor
open Go.RowKit
set_option linter.unusedVariables false

/-- A parser's cells. -/
def PrC (rest : List UInt8) (sv : Value) (cnt : Int) (full : Bool) : Array Value := #[str rest, sv, .int .i64 cnt, .bool full]
def PrAt (w : World) (b : Nat) (rest : List UInt8) (sv : Value) (cnt : Int) (full : Bool) : Prop := w.heap[b]? = some (.cells (PrC rest sv cnt full) 114 (0, 0))
theorem PrAt.cells {w : World} {b : Nat} {rest : List UInt8} {sv : Value} {cnt : Int} {full : Bool} (h : PrAt w b rest sv cnt full) :
    w.cell? ⟨b, 0, none⟩ = some (.string ⟨rest.toArray⟩) ∧ w.cell? ⟨b, 1, none⟩ = some sv ∧ w.cell? ⟨b, 2, none⟩ = some (.int .i64 cnt) ∧ w.cell? ⟨b, 3, none⟩ = some (.bool full) ∧ w.frozen? ⟨b, 0, none⟩ = false ∧ w.frozen? ⟨b, 1, none⟩ = false ∧ w.frozen? ⟨b, 2, none⟩ = false ∧ w.frozen? ⟨b, 3, none⟩ = false :=
  ⟨cell_of_block h 0, cell_of_block h 1, cell_of_block h 2, cell_of_block h 3, free_of_block h 0, free_of_block h 1, free_of_block h 2, free_of_block h 3⟩
theorem PrAt.rest {w : World} {b : Nat} {rest : List UInt8} {sv : Value} {cnt : Int} {full : Bool} (h : PrAt w b rest sv cnt full) (r : List UInt8) : PrAt (w.setCell ⟨b, 0, none⟩ (.string ⟨r.toArray⟩)) b r sv cnt full := heap_set (o := 0) (v := str r) h
theorem PrAt.grow {w w' : World} {b : Nat} {rest : List UInt8} {sv : Value} {cnt : Int} {full : Bool} (h : PrAt w b rest sv cnt full) (g : w.grownBy w' none) : PrAt w' b rest sv cnt full := gr_keep g h (by simp)
def blkL : List UInt8 := [32, 9, 10, 13]
theorem ext_drop (l : List UInt8) (k : Nat) : (ByteArray.mk l.toArray).extract k l.length = ⟨(l.drop k).toArray⟩ := by
  apply ByteArray.ext
  rw [ByteArray.data_extract]
  rw [List.extract_toArray, List.extract_eq_take_drop, List.take_of_length_le (by simp)]
theorem tw_take (p : UInt8 → Bool) (l : List UInt8) (k : Nat) (hk : k ≤ l.length) (h1 : (l.take k).all p = true) (h2 : k < l.length → p (l.getD k 0) = false) : l.takeWhile p = l.take k ∧ l.dropWhile p = l.drop k := by
  induction l generalizing k with
  | nil => simp
  | cons x l ih =>
    cases k with
    | zero =>
      have : p x = false := h2 (by simp)
      simp [this]
    | succ k =>
      rw [List.take_succ_cons, List.all_cons, Bool.and_eq_true] at h1
      have := ih k (by simpa using hk) h1.2 (fun h => h2 (by simpa using h))
      simp [h1.1, this.1, this.2]
end Go.Proofs.YtmofnoconhgjmaaGreatDoor
