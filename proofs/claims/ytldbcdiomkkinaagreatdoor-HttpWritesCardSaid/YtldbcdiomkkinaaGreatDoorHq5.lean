/- hearthref16.line from the beginning on; a status by its place in the line: the plain law. -/
import Derived.Test.YtldbcdiomkkinaaGreatDoorHs2
namespace Go.Proofs.YtldbcdiomkkinaaGreatDoor
open Go.RowKit

theorem ix_first (b : List UInt8) (j : Nat) (hj : j < b.length) (h1 : ∀ i, i < j → b.getD i 0 ≠ 10) (h2 : b.getD j 0 = 10) : Lib.indexByte b 10 = (j : Int) := by
  induction b generalizing j with
  | nil => simp at hj
  | cons x b ih =>
    cases j with
    | zero =>
      have hx : (x == 10) = true := by simpa using h2
      simp only [Lib.indexByte, hx]
      rfl
    | succ j =>
      have hx : (x == 10) = false := by
        have := h1 0 (by omega)
        simpa using this
      have := ih j (by simpa using hj) (fun i hi => h1 (i + 1) (by omega)) h2
      simp only [Lib.indexByte, hx, this]
      rw [if_neg (by simp), if_neg (by first | omega | (simp; done) | (simp; omega))]
      omega
theorem ix_never (b : List UInt8) (h : ∀ i, i < b.length → b.getD i 0 ≠ 10) : Lib.indexByte b 10 = -1 := by
  induction b with
  | nil => rfl
  | cons x b ih =>
    have hx : (x == 10) = false := by
      have := h 0 (by simp)
      simpa using this
    have := ih (fun i hi => h (i + 1) (by simpa using hi))
    simp only [Lib.indexByte, hx, this]
    rfl
theorem take_last (b : List UInt8) {j : Nat} (hj : j < b.length) : b.take (j + 1) = b.take j ++ [b.getD j 0] := by
  rw [List.take_add_one, List.getElem?_eq_getElem hj, List.getD_eq_getElem?_getD, List.getElem?_eq_getElem hj]
  rfl
theorem suf_one (l : List UInt8) (c : UInt8) : Lib.hasSuffix (l ++ [c]) [13] = (c == 13) ∧ (c = 13 → Lib.trimSuffix (l ++ [c]) [13] = l) ∧ (c ≠ 13 → Lib.trimSuffix (l ++ [c]) [13] = l ++ [c]) := by
  have h : Lib.hasSuffix (l ++ [c]) [13] = (c == 13) := by
    show List.isPrefixOf [13] (l ++ [c]).reverse = _
    rw [List.reverse_append, Bool.eq_iff_iff]
    simp [List.isPrefixOf]
    exact eq_comm
  refine ⟨h, fun e => ?_, fun e => ?_⟩
  · unfold Lib.trimSuffix
    rw [h, if_pos (by simp [e])]
    simp
  · unfold Lib.trimSuffix
    rw [h, if_neg (by simp [e])]
/-- A line that ends at a place. -/
theorem lineL_at (b : List UInt8) (j : Nat) (hj : j < b.length) (h1 : ∀ i, i < j → b.getD i 0 ≠ 10) (h2 : b.getD j 0 = 10) :
    lineL b = if 0 < j ∧ b.getD (j - 1) 0 = 13 then some (b.take (j - 1), false, b.drop (j + 1)) else some (b.take j, true, b.drop (j + 1)) := by
  unfold lineL
  rw [ix_first b j hj h1 h2, if_pos (by omega), Int.toNat_natCast]
  cases j with
  | zero =>
    rw [if_neg (by omega)]
    rfl
  | succ j =>
    obtain ⟨s1, s2, s3⟩ := suf_one (b.take j) (b.getD j 0)
    rw [take_last b (show j < b.length by omega), s1]
    rw [show j + 1 - 1 = j by omega]
    by_cases h : b.getD j 0 = 13
    · rw [if_pos ⟨by omega, h⟩, s2 h, h]
      rfl
    · rw [if_neg (fun e => h e.2), s3 h, show (b.getD j 0 == 13) = false by simpa using h]
      rfl
theorem lineL_never (b : List UInt8) (h : ∀ i, i < b.length → b.getD i 0 ≠ 10) : lineL b = none := by
  unfold lineL
  rw [ix_never b h, if_neg (by decide)]
/-- A status by its place in the line. -/
def stat12 (t : List UInt8) : Int × Bool :=
  if t.length < 12 ∨ t.take 7 ≠ h1L ∨ (t.getD 7 0 ≠ 48 ∧ t.getD 7 0 ≠ 49) ∨ t.getD 8 0 ≠ 32 ∨ (12 < t.length ∧ t.getD 12 0 ≠ 32) then (0, false)
  else if (numR 10 999 ((t.drop 9).take 3)).2 = false ∨ t.getD 9 0 = 48 then (0, false) else ((numR 10 999 ((t.drop 9).take 3)).1, false)
theorem valN_zero : ∀ a : UInt8, valN a = 0 → a = 48 := all_bytes (by decide +kernel)
theorem valN_48 : valN 48 = 0 := by decide
theorem num_small {l : List UInt8} (hl : l.length = 3) (h : (numR 10 999 l).2 = true) : ((numR 10 999 l).1 < 100) ↔ l.getD 0 0 = 48 := by
  match l, hl with
  | [a, b, c], _ =>
    unfold numR at h ⊢
    rw [if_neg (by simp)] at h ⊢
    have ha := valN_bd a
    have hb := valN_bd b
    have hc := valN_bd c
    unfold numGo numGo numGo numGo at h ⊢
    split at h
    · cases h
    · rename_i h1
      rw [if_neg h1]
      split at h
      · cases h
      · rename_i h2
        rw [if_neg h2]
        split at h
        · cases h
        · rename_i h3
          rw [if_neg h3]
          unfold numFin at h ⊢
          dsimp only at h ⊢
          split at h
          · cases h
          · rename_i h4
            rw [if_neg h4]
            dsimp only
            constructor
            · intro h5
              refine valN_zero a ?_
              omega
            · intro h5
              have h6 : a = 48 := h5
              have h7 : valN a = 0 := by rw [h6]; exact valN_48
              omega
theorem getD_drop7 (t : List UInt8) (k : Nat) : (t.drop 7).getD k 0 = t.getD (7 + k) 0 := by
  rw [List.getD_eq_getElem?_getD, List.getD_eq_getElem?_getD, List.getElem?_drop]
theorem stat12_eq (t : List UInt8) : stat12 t = if Lib.hasPrefix t h1L = false then (0, false) else stat5 (Lib.trimPrefix t h1L) := by
  have hpre : Lib.hasPrefix t h1L = decide (t.take 7 = h1L) := by
    unfold Lib.hasPrefix
    rw [Bool.eq_iff_iff, decide_eq_true_iff]
    constructor
    · intro h
      have := List.prefix_iff_eq_take.1 (List.isPrefixOf_iff_prefix.1 h)
      exact this.symm
    · intro h
      refine List.isPrefixOf_iff_prefix.2 (List.prefix_iff_eq_take.2 ?_)
      exact h.symm
  by_cases hp : t.take 7 = h1L
  · have hh : Lib.hasPrefix t h1L = true := by rw [hpre]; simpa using hp
    have ht : Lib.trimPrefix t h1L = t.drop 7 := by unfold Lib.trimPrefix; rw [hh]; rfl
    have h7 : 7 ≤ t.length := by
      have := congrArg List.length hp
      rw [List.length_take] at this
      have h2 : h1L.length = 7 := rfl
      omega
    rw [if_neg (by rw [hh]; decide), ht]
    by_cases hA : t.length < 12 ∨ t.take 7 ≠ h1L ∨ (t.getD 7 0 ≠ 48 ∧ t.getD 7 0 ≠ 49) ∨ t.getD 8 0 ≠ 32 ∨ (12 < t.length ∧ t.getD 12 0 ≠ 32)
    · have e1 : stat12 t = (0, false) := by unfold stat12; exact if_pos hA
      have e2 : stat5 (t.drop 7) = (0, false) := by
        unfold stat5
        rw [getD_drop7, getD_drop7, getD_drop7, List.drop_drop, List.length_drop]
        refine if_pos ?_
        rcases hA with h | h | h | h | h
        · left; omega
        · exact absurd hp h
        · right; left; exact h
        · right; right; left; exact h
        · right; right; right; exact ⟨by omega, h.2⟩
      rw [e1, e2]
    · have e1 : stat12 t = if (numR 10 999 ((t.drop 9).take 3)).2 = false ∨ t.getD 9 0 = 48 then (0, false) else ((numR 10 999 ((t.drop 9).take 3)).1, false) := by unfold stat12; exact if_neg hA
      have e2 : stat5 (t.drop 7) = if (numR 10 999 ((t.drop 9).take 3)).2 = false ∨ (numR 10 999 ((t.drop 9).take 3)).1 < 100 then (0, false) else ((numR 10 999 ((t.drop 9).take 3)).1, false) := by
        unfold stat5
        rw [getD_drop7, getD_drop7, getD_drop7, List.drop_drop, List.length_drop]
        refine if_neg ?_
        rintro (h | h | h | h)
        · exact hA (.inl (by omega))
        · exact hA (.inr (.inr (.inl h)))
        · exact hA (.inr (.inr (.inr (.inl h))))
        · exact hA (.inr (.inr (.inr (.inr ⟨by omega, h.2⟩))))
      have hlen : ((t.drop 9).take 3).length = 3 := by
        rw [List.length_take, List.length_drop]
        have : ¬ t.length < 12 := fun h => hA (.inl h)
        omega
      have h0 : ((t.drop 9).take 3).getD 0 0 = t.getD 9 0 := by
        rw [List.getD_eq_getElem?_getD, List.getElem?_take, if_pos (by omega), List.getElem?_drop, List.getD_eq_getElem?_getD]
      have hs := num_small hlen
      rw [h0] at hs
      rw [e1, e2]
      generalize numR 10 999 ((t.drop 9).take 3) = Q at hs ⊢
      obtain ⟨q1, q2⟩ := Q
      cases q2 with
      | false => rw [if_pos (.inl rfl), if_pos (.inl rfl)]
      | true =>
        have hs := hs rfl
        dsimp only at hs ⊢
        by_cases h48 : t.getD 9 0 = 48
        · rw [if_pos (.inr h48), if_pos (.inr (hs.2 h48))]
        · rw [if_neg (fun h => h.elim (fun e => by cases e) h48), if_neg (fun h => h.elim (fun e => by cases e) (fun e => h48 (hs.1 e)))]
  · have hh : Lib.hasPrefix t h1L = false := by rw [hpre]; simpa using hp
    rw [if_pos hh]
    unfold stat12
    rw [if_pos (.inr (.inl hp))]
end Go.Proofs.YtldbcdiomkkinaaGreatDoor
