/- The reader's plain model: what a step keeps, and that it ends. It speaks of no program. -/
import Derived.Test.YtldbcdiomkkinaaGreatDoorHtu
namespace Go.Proofs.YtldbcdiomkkinaaGreatDoor
open Go.RowKit

def PsInv (s : Ps) : Prop := s.rest.length ≤ 200000 ∧ s.left ≤ 8192 ∧ s.req.body.length + (if s.stage = 3 then s.left else 0) ≤ 8192 ∧ s.stage ≤ 5 ∧ (s.stage = 0 → s.req = Rq.zero)
def muS (s : Ps) : Nat := 2 * s.rest.length + if s.stage = 1 then 1 else 0
/-- What a step keeps: the invariant; it ends, or does nothing, or lowers the measure. -/
def SF (s : Ps) (r : Ps × Option Pd) : Prop := PsInv r.1 ∧ (r.1.stage = 5 ∨ (r.2 = none ∧ r.1 = s) ∨ muS r.1 < muS s)
theorem dead_inv : PsInv Ps.dead := ⟨Nat.zero_le _, Nat.zero_le _, Nat.zero_le _, Nat.le_refl _, fun h => absurd h (by decide)⟩
theorem SF.fail (s : Ps) (st : Int) : SF s (failS st) := ⟨dead_inv, .inl rfl⟩
theorem SF.same {s : Ps} (h : PsInv s) : SF s (s, none) := ⟨h, .inr (.inl ⟨rfl, rfl⟩)⟩
theorem SF.done {s s' : Ps} (h1 : s'.rest.length ≤ 200000) (h2 : s'.left ≤ 8192) (h3 : 2 * s'.rest.length < muS s) : SF s (doneS s') := by
  unfold doneS
  cases s'.req.keep
  · exact ⟨dead_inv, .inl rfl⟩
  · refine ⟨⟨h1, h2, ?_, ?_, fun _ => rfl⟩, .inr (.inr ?_)⟩
    · show ([] : List UInt8).length + (if (0 : Nat) = 3 then s'.left else 0) ≤ 8192
      simp
    · show (0 : Nat) ≤ 5
      omega
    · show 2 * s'.rest.length + (if (0 : Nat) = 1 then 1 else 0) < muS s
      simpa using h3
theorem framing_facts (r : Rq) (h : (framingL r).1 = 0) : (framingL r).2.1 ≤ 2 ∧ (framingL r).2.2 ≤ 8192 := by
  revert h
  unfold framingL
  dsimp only
  split
  · intro h; exact absurd h (by decide)
  · split
    · split
      · intro _; exact ⟨by decide, by decide⟩
      · intro h; exact absurd h (by decide)
    · split
      · rename_i n _ _
        split
        · intro h
          dsimp only at h ⊢
          refine ⟨by decide, ?_⟩
          split at h
          · exact absurd h (by decide)
          · omega
        · intro h; exact absurd h (by decide)
      · intro _; exact ⟨(by decide : (0 : Nat) ≤ 2), (by decide : (0 : Nat) ≤ 8192)⟩
theorem SF.judge {s s' : Ps} {texts : List (List UInt8)} {bare : Bool} (h : PsInv s') (hs : s'.stage = 0) (h3 : 2 * s'.rest.length + 1 < muS s) : SF s (judgeS s' texts bare) := by
  obtain ⟨i1, i2, i3, i4, i5⟩ := h
  have hz := i5 hs
  unfold judgeS
  dsimp only
  split
  · exact SF.fail _ _
  split
  · exact SF.fail _ _
  split
  · exact SF.fail _ _
  split
  · exact SF.fail _ _
  split
  · exact SF.fail _ _
  split
  · exact SF.fail _ _
  rename_i fs _ _ _ hfr
  have hf := framing_facts _ (Decidable.of_not_not hfr)
  generalize framingL _ = fr at *
  have hl : (if fr.2.1 = 1 then fr.2.2 else s'.left) ≤ 8192 := by
    split
    · exact hf.2
    · exact i2
  split
  · exact SF.done i1 hl (Nat.lt_of_succ_lt h3)
  · rename_i h0
    refine ⟨⟨i1, hl, ?_, ?_, fun h => absurd h h0⟩, .inr (.inr ?_)⟩
    · show s'.req.body.length + (if fr.2.1 = 3 then _ else 0) ≤ 8192
      rw [if_neg (by omega), hz]
      exact Nat.zero_le _
    · show fr.2.1 ≤ 5
      omega
    · show 2 * s'.rest.length + (if fr.2.1 = 1 then 1 else 0) < muS s
      split <;> omega
theorem mu_ge (s : Ps) : 2 * s.rest.length ≤ muS s := Nat.le_add_right _ _
theorem SF.head {s : Ps} (h : PsInv s) (hs : s.stage = 0) : SF s (headS s) := by
  have hm := mu_ge s
  obtain ⟨i1, i2, i3, i4, i5⟩ := h
  unfold headS
  split
  · split
    · exact SF.fail _ _
    · exact SF.same ⟨i1, i2, i3, i4, i5⟩
  · rename_i t bare rest hl
    have hlen := lineL_len hl
    split
    · refine ⟨⟨?_, i2, i3, i4, i5⟩, .inr (.inr ?_)⟩
      · show rest.length ≤ 200000
        omega
      · show 2 * rest.length + (if s.stage = 1 then 1 else 0) < muS s
        rw [if_neg (by omega)]; omega
    · split
      · split
        · exact SF.fail _ _
        · exact SF.same ⟨i1, i2, i3, i4, i5⟩
      · rename_i texts bare' r2 hb
        have hlen := (blockL_len hb).1
        split
        · exact SF.judge ⟨by show r2.length ≤ 200000; omega, i2, i3, i4, i5⟩ hs (by show 2 * r2.length + 1 < _; omega)
        · exact SF.fail _ _
theorem SF.body {s : Ps} (h : PsInv s) (hs : s.stage = 1) : SF s (bodyS s) := by
  obtain ⟨i1, i2, i3, i4, i5⟩ := h
  unfold bodyS
  split
  · exact SF.same ⟨i1, i2, i3, i4, i5⟩
  · refine SF.done ?_ i2 ?_
    · show (s.rest.drop s.left).length ≤ 200000
      rw [List.length_drop]; omega
    · show 2 * (s.rest.drop s.left).length < 2 * s.rest.length + (if s.stage = 1 then 1 else 0)
      rw [List.length_drop, if_pos hs]; omega
theorem SF.size {s : Ps} (h : PsInv s) (hs : s.stage = 2) : SF s (sizeS s) := by
  have hm := mu_ge s
  have hi := h
  obtain ⟨i1, i2, i3, i4, i5⟩ := h
  unfold sizeS
  split
  · split
    · exact SF.fail _ _
    · exact SF.same hi
  · rename_i t bare rest hl
    have hlen := lineL_len hl
    split
    · exact SF.fail _ _
    · dsimp only
      split
      · exact SF.fail _ _
      · split
        · exact SF.fail _ _
        · rename_i hn
          have hnn := numR_nonneg 16 268435455 (cutB t 59).1 (by omega)
          rw [if_neg (by omega)] at i3
          generalize (numR 16 268435455 (cutB t 59).1).1 = q at *
          refine ⟨⟨?_, ?_, ?_, ?_, ?_⟩, .inr (.inr ?_)⟩
          · show rest.length ≤ 200000
            omega
          · show q.toNat ≤ 8192
            omega
          · show s.req.body.length + (if (if q = 0 then 4 else 3) = 3 then q.toNat else 0) ≤ 8192
            split <;> simp <;> omega
          · show (if q = 0 then 4 else 3) ≤ 5
            split <;> omega
          · show (if q = 0 then 4 else 3) = 0 → _
            split <;> (intro h; exact absurd h (by decide))
          · show 2 * rest.length + (if (if q = 0 then 4 else 3) = 1 then 1 else 0) < muS s
            split <;> simp <;> omega
theorem SF.chunk {s : Ps} (h : PsInv s) (hs : s.stage = 3) : SF s (chunkS s) := by
  have hm := mu_ge s
  have hi := h
  obtain ⟨i1, i2, i3, i4, i5⟩ := h
  unfold chunkS
  split
  · exact SF.fail _ _
  · split
    · exact SF.same hi
    · rw [if_pos hs] at i3
      refine ⟨⟨?_, i2, ?_, ?_, fun h => absurd h (by show ¬ (2 : Nat) = 0; decide)⟩, .inr (.inr ?_)⟩
      · show (s.rest.drop (s.left + 2)).length ≤ 200000
        rw [List.length_drop]; omega
      · show (s.req.body ++ s.rest.take s.left).length + (if (2 : Nat) = 3 then s.left else 0) ≤ 8192
        rw [List.length_append, List.length_take, if_neg (by decide)]; omega
      · show (2 : Nat) ≤ 5
        decide
      · show 2 * (s.rest.drop (s.left + 2)).length + (if (2 : Nat) = 1 then 1 else 0) < muS s
        rw [List.length_drop, if_neg (by decide)]; omega
theorem SF.trailer {s : Ps} (h : PsInv s) : SF s (trailerS s) := by
  have hm := mu_ge s
  have hi := h
  obtain ⟨i1, i2, i3, i4, i5⟩ := h
  unfold trailerS
  split
  · split
    · exact SF.fail _ _
    · exact SF.same hi
  · rename_i texts bare rest hb
    have hlen := (blockL_len hb).1
    split
    · exact SF.fail _ _
    · split
      · exact SF.fail _ _
      · exact SF.done (by show rest.length ≤ 200000; omega) i2 (by show 2 * rest.length < _; omega)
theorem SF.step {s : Ps} (h : PsInv s) (h5 : s.stage ≠ 5) : SF s (stepS s) := by
  have i4 := h.2.2.2.1
  unfold stepS
  rcases s with ⟨rest, stage, skip, req, left⟩
  dsimp only at i4 h5 ⊢
  match stage, i4, h5, h with
  | 0, _, _, h => exact SF.head h rfl
  | 1, _, _, h => exact SF.body h rfl
  | 2, _, _, h => exact SF.size h rfl
  | 3, _, _, h => exact SF.chunk h rfl
  | 4, _, _, h => exact SF.trailer h
  | 5, _, h5, _ => exact absurd rfl h5
  | n + 6, i4, _, _ => omega
theorem PsInv.ok {s : Ps} (h : PsInv s) : PsOk s := ⟨h.1, by have := h.2.2.1; omega, h.2.1⟩
end Go.Proofs.YtldbcdiomkkinaaGreatDoor
