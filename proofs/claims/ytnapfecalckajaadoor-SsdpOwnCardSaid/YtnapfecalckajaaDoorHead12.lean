/- The parts of a first line: the plain law of strings.Split at a blank. -/
import Derived.Test.YtnapfecalckajaaDoorHead10
import Derived.Lib.SplitLaws
namespace Go.Proofs.YtnapfecalckajaaDoor
open Go.RowKit

/-- What stands ahead of the first blank, and behind it. -/
def stP (l : List UInt8) : List UInt8 := l.takeWhile (· != 32)
def stD (l : List UInt8) : List UInt8 := l.drop ((stP l).length + 1)
theorem stP_cons (b : UInt8) (l : List UInt8) (h : b ≠ 32) : stP (b :: l) = b :: stP l := by
  unfold stP; rw [List.takeWhile_cons, if_pos (by simpa using h)]
theorem stP_blank (l : List UInt8) : stP (32 :: l) = [] := by
  unfold stP; rw [List.takeWhile_cons, if_neg (by simp)]
theorem ix32 : ∀ l : List UInt8, Lib.index l [32] = if 0 < l.count 32 then ((stP l).length : Int) else -1
  | [] => by simp [Lib.index]
  | b :: l => by
    by_cases h : b = 32
    · subst h
      rw [stP_blank, if_pos (by simp)]
      rw [Lib.index]; simp [List.isPrefixOf]
    · have hp : ([32] : List UInt8).isPrefixOf (b :: l) = false := by simp [List.isPrefixOf, Ne.symm h]
      have hix : Lib.index (b :: l) [32] = if Lib.index l [32] == -1 then -1 else Lib.index l [32] + 1 := by rw [Lib.index, hp]; simp
      rw [hix, ix32 l, stP_cons b l h, List.count_cons_of_ne (by simpa using h)]
      by_cases hc : 0 < l.count 32
      · simp only [if_pos hc]
        rw [if_neg (by simp)]; simp
      · simp only [if_neg hc]; first | done | rfl
theorem stP_lt : ∀ l : List UInt8, 0 < l.count 32 → (stP l).length < l.length
  | [], h => by simp at h
  | b :: l, h => by
    by_cases hb : b = 32
    · subst hb; rw [stP_blank]; simp
    · rw [stP_cons b l hb]
      rw [List.count_cons_of_ne (by simpa using hb)] at h
      have := stP_lt l h
      simp; omega
theorem stP_le : ∀ l : List UInt8, (stP l).length ≤ l.length
  | [] => by simp [stP]
  | b :: l => by
    by_cases hb : b = 32
    · subst hb; rw [stP_blank]; simp
    · rw [stP_cons b l hb]; have := stP_le l; simp; omega
theorem stD_count : ∀ l : List UInt8, 0 < l.count 32 → l.count 32 = 1 + (stD l).count 32
  | [], h => by simp at h
  | b :: l, h => by
    by_cases hb : b = 32
    · subst hb; unfold stD; rw [stP_blank]; simp; omega
    · unfold stD
      rw [stP_cons b l hb]
      rw [List.count_cons_of_ne (by simpa using hb)] at h ⊢
      have := stD_count l h
      unfold stD at this
      simpa using this
theorem stP_none : ∀ l : List UInt8, l.count 32 = 0 → stP l = l
  | [], _ => rfl
  | b :: l, h => by
    by_cases hb : b = 32
    · subst hb; simp at h
    · rw [List.count_cons_of_ne (by simpa using hb)] at h
      rw [stP_cons b l hb, stP_none l h]
theorem stP_take (l : List UInt8) : l.take (stP l).length = stP l := by
  have h : stP l <+: l := List.takeWhile_prefix _
  exact (List.prefix_iff_eq_take.1 h).symm
theorem ba_eq {a : ByteArray} {x : List UInt8} (h : a.data.toList = x) : a = ⟨x.toArray⟩ := by
  subst h; rfl
theorem split_head (s : ByteArray) (k : Nat) (h : 0 < s.data.toList.count 32) :
    Lib.splitB ⟨#[32]⟩ 0 (k + 1) s = ⟨(stP s.data.toList).toArray⟩ :: Lib.splitB ⟨#[32]⟩ 0 k ⟨(stD s.data.toList).toArray⟩ := by
  have hi : Lib.indexB s ⟨#[32]⟩ = ((stP s.data.toList).length : Nat) := by
    show Lib.index s.data.toList [32] = _
    rw [ix32, if_pos h]
  rw [Lib.splitB_hit _ _ _ _ _ hi]
  congr 1
  · apply ba_eq
    rw [Lib.extract_from_zero, Nat.add_zero, stP_take]
  · congr 1
    apply ba_eq
    rw [Lib.extract_to_end]; rfl
theorem split_three (s : ByteArray) (h : s.data.toList.count 32 = 2) :
    Lib.splitB ⟨#[32]⟩ 0 2 s = [⟨(stP s.data.toList).toArray⟩, ⟨(stP (stD s.data.toList)).toArray⟩, ⟨(stD (stD s.data.toList)).toArray⟩] := by
  have h1 := stD_count s.data.toList (by omega)
  rw [split_head s 1 (by omega), split_head ⟨(stD s.data.toList).toArray⟩ 0 (by show 0 < (stD s.data.toList).count 32; omega)]
  rfl
def visC (c : UInt8) : Bool := decide ((33 : Int) ≤ (c.toNat : Int)) && decide ((c.toNat : Int) ≤ 126)
def h11 : List UInt8 := [72, 84, 84, 80, 47, 49, 46, 49]
def h10 : List UInt8 := [72, 84, 84, 80, 47, 49, 46, 48]
def stOk (l : List UInt8) : Bool :=
  decide (2 ≤ l.count 32) && tokB (stP l) && !(stP (stD l)).isEmpty && decide ((stP (stD l)).length ≤ 512) && (stP (stD l)).all visC && (stD (stD l) == h11 || stD (stD l) == h10)
def stR (l : List UInt8) : List UInt8 × List UInt8 × Int × Bool :=
  if stOk l then (stP l, stP (stD l), if stD (stD l) == h11 then 1 else 0, true) else ([], [], 0, false)
theorem stR_no {l : List UInt8} (h : stOk l = false) : stR l = ([], [], 0, false) := by unfold stR; rw [h]; rfl
theorem st_three {l : List UInt8} (h : l.count 32 ≠ 2) : stOk l = false := by
  by_cases h2 : 2 ≤ l.count 32
  · have h1 := stD_count l (by omega)
    have h3 := stD_count (stD l) (by omega)
    have : (stD (stD l) == h11 || stD (stD l) == h10) = false := by
      rw [Bool.or_eq_false_iff]
      constructor
      · apply beq_eq_false_iff_ne.2; intro e; rw [e] at h3; have : h11.count 32 = 0 := by decide
        omega
      · apply beq_eq_false_iff_ne.2; intro e; rw [e] at h3; have : h10.count 32 = 0 := by decide
        omega
    unfold stOk; rw [this]; simp
  · unfold stOk; simp [h2]
end Go.Proofs.YtnapfecalckajaaDoor
