/- The plain law of hearthref15.Start. -/
import Derived.Test.YtnapfecalckajaaDoorHead13
namespace Go.Proofs.YtnapfecalckajaaDoor
open Go.RowKit

theorem stP_at : ∀ (l : List UInt8) (k : Nat), k < (stP l).length → l.getD k 0 ≠ 32
  | [], k, h => by simp [stP] at h
  | b :: l, k, h => by
    by_cases hb : b = 32
    · subst hb; rw [stP_blank] at h; simp at h
    · rw [stP_cons b l hb] at h
      cases k with
      | zero => simpa using hb
      | succ k =>
        have := stP_at l k (by simpa using h)
        simpa using this
theorem stP_end : ∀ l : List UInt8, (stP l).length < l.length → l.getD (stP l).length 0 = 32
  | [], h => by simp at h
  | b :: l, h => by
    by_cases hb : b = 32
    · subst hb; rw [stP_blank]; simp
    · rw [stP_cons b l hb] at h ⊢
      have := stP_end l (by simpa using h)
      simpa using this
theorem stD_len (l : List UInt8) : (stD l).length = l.length - ((stP l).length + 1) := by unfold stD; simp
theorem st_two (l : List UInt8) : 2 ≤ l.count 32 ↔ (stP l).length + 1 + (stP (stD l)).length < l.length := by
  have hd := stD_len l
  constructor
  · intro h
    have h1 := stD_count l (by omega)
    have h2 := stP_lt l (by omega)
    have h3 := stP_lt (stD l) (by omega)
    omega
  · intro h
    have h1 : 0 < l.count 32 := by
      apply Nat.pos_of_ne_zero; intro e
      rw [stP_none l e] at h; omega
    have h2 := stD_count l h1
    have h3 : 0 < (stD l).count 32 := by
      apply Nat.pos_of_ne_zero; intro e
      rw [stP_none (stD l) e] at h; omega
    omega
theorem stD_at (l : List UInt8) (k : Nat) : (stD l).getD k 0 = l.getD ((stP l).length + 1 + k) 0 := by
  unfold stD; simp [List.getD_eq_getElem?_getD, List.getElem?_drop]
theorem drop_two (l : List UInt8) (h : (stP l).length + 1 + (stP (stD l)).length < l.length) :
    l.drop ((stP l).length + 1 + (stP (stD l)).length) = 32 :: stD (stD l) := by
  have hd := stD_len l
  have he := stP_end (stD l) (by omega)
  rw [stD_at] at he
  rw [List.drop_eq_getElem_cons h]
  have e1 : l[(stP l).length + 1 + (stP (stD l)).length]'h = 32 := by
    rw [← he, List.getD_eq_getElem?_getD, List.getElem?_eq_getElem h]; rfl
  have e2 : stD (stD l) = l.drop ((stP l).length + 1 + (stP (stD l)).length + 1) := by
    rw [show stD (stD l) = (stD l).drop ((stP (stD l)).length + 1) from rfl]
    rw [show stD l = l.drop ((stP l).length + 1) from rfl, List.drop_drop]
    rfl
  rw [e1, e2]
theorem ext_p (s : ByteArray) : s.extract 0 (stP s.data.toList).length = ⟨(stP s.data.toList).toArray⟩ := by
  apply ba_eq; rw [Lib.extract_from_zero, stP_take]
theorem ext_q (s : ByteArray) : s.extract ((stP s.data.toList).length + 1) ((stP s.data.toList).length + 1 + (stP (stD s.data.toList)).length) = ⟨(stP (stD s.data.toList)).toArray⟩ := by
  apply ba_eq
  rw [Lib.extract_data, Nat.add_sub_cancel_left]
  exact stP_take (stD s.data.toList)
end Go.Proofs.YtnapfecalckajaaDoor
