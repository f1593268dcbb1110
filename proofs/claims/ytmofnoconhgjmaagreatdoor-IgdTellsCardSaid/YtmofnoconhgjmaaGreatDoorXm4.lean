/- The parser's fullName. -/
import Derived.Test.YtmofnoconhgjmaaGreatDoorXm3
namespace Go.Proofs.YtmofnoconhgjmaaGreatDoor
open Go.RowKit

def wdA (l : List UInt8) : List UInt8 := l.takeWhile innB
def wdR (l : List UInt8) : List UInt8 := l.dropWhile innB
/-- The full name that is next: prefix, name, is it right; the rest. -/
def fullL (l : List UInt8) : (List UInt8 × List UInt8 × Bool) × List UInt8 :=
  if nameB (wdA l) && Lib.hasPrefix (wdR l) [58] then ((wdA l, wdA ((wdR l).drop 1), nameB (wdA ((wdR l).drop 1))), wdR ((wdR l).drop 1)) else (([], wdA l, nameB (wdA l)), wdR l)
theorem wd_len (l : List UInt8) : (wdA l).length ≤ l.length ∧ (wdR l).length ≤ l.length := ⟨by unfold wdA; exact (List.takeWhile_sublist _).length_le, by unfold wdR; exact (List.dropWhile_sublist _).length_le⟩
theorem trim_len (l p : List UInt8) : (Lib.trimPrefix l p).length ≤ l.length := by
  unfold Lib.trimPrefix
  split
  · rw [List.length_drop]; omega
  · omega
theorem fullL_len (l : List UInt8) : (fullL l).2.length ≤ l.length := by
  have h1 := wd_len l
  have h2 := wd_len ((wdR l).drop 1)
  unfold fullL
  split
  · have := List.length_drop (i := 1) (l := wdR l); simp only; omega
  · simp only; omega
def FuAt (w : World) (n : Nat) (a b : List UInt8) : Prop := w.heap[n]? = some (.cells #[str a, str b] 237 (0, 0))
theorem FuAt.cells {w : World} {n : Nat} {a b : List UInt8} (h : FuAt w n a b) : w.cell? ⟨n, 0, none⟩ = some (.string ⟨a.toArray⟩) ∧ w.cell? ⟨n, 1, none⟩ = some (.string ⟨b.toArray⟩) ∧ w.frozen? ⟨n, 0, none⟩ = false ∧ w.frozen? ⟨n, 1, none⟩ = false :=
  ⟨cell_of_block h 0, cell_of_block h 1, free_of_block h 0, free_of_block h 1⟩
theorem PrAt.other {w : World} {b n o : Nat} {v : Value} {rest : List UInt8} {sv : Value} {cnt : Int} {full : Bool} (h : PrAt w b rest sv cnt full) (hn : b ≠ n) : PrAt (w.setCell ⟨n, o, none⟩ v) b rest sv cnt full := by
  unfold PrAt; rw [heap_set_other hn]; exact h
end Go.Proofs.YtmofnoconhgjmaaGreatDoor
