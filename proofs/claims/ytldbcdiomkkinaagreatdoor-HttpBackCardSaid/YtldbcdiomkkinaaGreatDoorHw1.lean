/- The reader's plain model: more bytes behind change nothing of a step that was taken. It speaks of no program. -/
import Derived.Test.YtldbcdiomkkinaaGreatDoorHtp
namespace Go.Proofs.YtldbcdiomkkinaaGreatDoor
open Go.RowKit

theorem index_hit (b : List UInt8) (c : UInt8) : ∀ l : List UInt8, 0 ≤ Lib.indexByte l c → Lib.indexByte (l ++ b) c = Lib.indexByte l c
  | [], h => by simp [Lib.indexByte] at h
  | x :: l, h => by
    have ge := Lib.indexByte_ge l c
    simp only [List.cons_append, Lib.indexByte] at h ⊢
    by_cases hx : (x == c) = true
    · rw [if_pos hx, if_pos hx]
    · rw [if_neg hx] at h ⊢
      rw [if_neg hx]
      by_cases hl : (Lib.indexByte l c == -1) = true
      · rw [if_pos hl] at h; omega
      · have hl' : ¬ Lib.indexByte l c = -1 := by simpa using hl
        rw [index_hit b c l (by omega)]
theorem index_miss (b : List UInt8) (c : UInt8) : ∀ l : List UInt8, ¬ 0 ≤ Lib.indexByte l c → 0 ≤ Lib.indexByte (l ++ b) c → (l.length : Int) ≤ Lib.indexByte (l ++ b) c
  | [], _, h => by simpa using h
  | x :: l, h, h2 => by
    have ge := Lib.indexByte_ge l c
    have ge2 := Lib.indexByte_ge (l ++ b) c
    simp only [List.cons_append, Lib.indexByte, List.length_cons] at h h2 ⊢
    by_cases hx : (x == c) = true
    · rw [if_pos hx] at h; omega
    · rw [if_neg hx] at h h2 ⊢
      by_cases hl : (Lib.indexByte l c == -1) = true
      · have hl' : Lib.indexByte l c = -1 := by simpa using hl
        by_cases hb : (Lib.indexByte (l ++ b) c == -1) = true
        · rw [if_pos hb] at h2; omega
        · rw [if_neg hb] at h2 ⊢
          have hb' : ¬ Lib.indexByte (l ++ b) c = -1 := by simpa using hb
          have := index_miss b c l (by omega) (by omega)
          omega
      · have hl' : ¬ Lib.indexByte l c = -1 := by simpa using hl
        rw [if_neg hl] at h
        omega
theorem lineL_app {r t r' : List UInt8} {x : Bool} (b : List UInt8) (h : lineL r = some (t, x, r')) : lineL (r ++ b) = some (t, x, r' ++ b) := by
  unfold lineL at h ⊢
  have hlt := indexByte_lt 10 r
  split at h
  · rename_i h0
    rw [index_hit b 10 r h0, if_pos h0]
    simp only [Option.some.injEq, Prod.mk.injEq] at h
    rw [List.take_append_of_le_length (by omega), List.drop_append_of_le_length (by omega), h.1, h.2.1, h.2.2]
  · cases h
theorem trimSuffix_ge (s p : List UInt8) : s.length ≤ (Lib.trimSuffix s p).length + p.length := by
  unfold Lib.trimSuffix
  split
  · rw [List.length_take]; omega
  · omega
theorem lineL_far {r t r' b : List UInt8} {x : Bool} (h : lineL r = none) (h2 : lineL (r ++ b) = some (t, x, r')) : r'.length < b.length ∧ r.length ≤ t.length + 1 := by
  unfold lineL at h h2
  have hlt := indexByte_lt 10 (r ++ b)
  split at h
  · cases h
  · rename_i h0
    split at h2
    · rename_i h1
      have := index_miss b 10 r h0 h1
      simp only [Option.some.injEq, Prod.mk.injEq] at h2
      have hts := trimSuffix_ge ((r ++ b).take (Lib.indexByte (r ++ b) 10).toNat) [13]
      rw [h2.1, List.length_take, List.length_append] at hts
      rw [← h2.2.2, List.length_drop, List.length_append]
      rw [List.length_append] at hlt
      simp only [List.length_singleton] at hts
      constructor <;> omega
    · cases h2
theorem blockGo_app {least : Nat} (b : List UInt8) : ∀ (f : Nat) (texts : List (List UInt8)) (bare : Bool) (r : List UInt8) (ts : List (List UInt8)) (x : Bool) (r' : List UInt8), blockGo least f texts bare r = some (ts, x, r') → ∀ f', f ≤ f' → blockGo least f' texts bare (r ++ b) = some (ts, x, r' ++ b)
  | 0, _, _, _, _, _, _, h, _, _ => by cases h
  | f + 1, texts, bare, r, ts, x, r', h, f', hf => by
    obtain ⟨g, rfl⟩ : ∃ g, f' = g + 1 := ⟨f' - 1, by omega⟩
    unfold blockGo at h ⊢
    cases hl : lineL r with
    | none => rw [hl] at h; cases h
    | some p =>
      obtain ⟨t, is, next⟩ := p
      rw [hl] at h
      rw [lineL_app b hl]
      dsimp only at h ⊢
      split
      · rename_i hc
        rw [if_pos hc] at h
        simp only [Option.some.injEq, Prod.mk.injEq] at h ⊢
        exact ⟨h.1, h.2.1, by rw [h.2.2]⟩
      · rename_i hc
        rw [if_neg hc] at h
        exact blockGo_app b f _ _ _ _ _ _ h g (by omega)
theorem len_flatten : ∀ (L : List (List UInt8)) (y : List UInt8), y ∈ L → y.length ≤ L.flatten.length
  | [], y, h => by cases h
  | x :: L, y, h => by
    rw [List.flatten_cons, List.length_append]
    rcases List.mem_cons.1 h with rfl | h
    · omega
    · have := len_flatten L y h
      omega
theorem blockGo_far {least : Nat} (b : List UInt8) : ∀ (f : Nat) (texts : List (List UInt8)) (bare : Bool) (r : List UInt8) (ts : List (List UInt8)) (x : Bool) (r' : List UInt8) (f' : Nat), r.length < f → blockGo least f texts bare r = none → blockGo least f' texts bare (r ++ b) = some (ts, x, r') → r'.length < b.length
  | 0, _, _, r, _, _, _, _, hf, _, _ => by omega
  | f + 1, texts, bare, r, ts, x, r', 0, _, _, h2 => by cases h2
  | f + 1, texts, bare, r, ts, x, r', f' + 1, hf, h, h2 => by
    unfold blockGo at h h2
    cases hl : lineL r with
    | none =>
      cases hl2 : lineL (r ++ b) with
      | none => rw [hl2] at h2; cases h2
      | some p =>
        obtain ⟨t, is, next⟩ := p
        have hfar := (lineL_far hl hl2).1
        rw [hl2] at h2
        dsimp only at h2
        split at h2
        · simp only [Option.some.injEq, Prod.mk.injEq] at h2
          rw [← h2.2.2]; exact hfar
        · have := (blockGo_len least f' _ _ _ _ _ _ (next.length + (texts ++ [t]).flatten.length) h2 (by omega) (fun y hy => by
            have := len_flatten _ y hy
            omega)).1
          omega
    | some p =>
      obtain ⟨t, is, next⟩ := p
      have hln := lineL_len hl
      rw [hl] at h
      rw [lineL_app b hl] at h2
      dsimp only at h h2
      split at h
      · cases h
      · rename_i hc
        rw [if_neg hc] at h2
        exact blockGo_far b f _ _ _ _ _ _ f' (by omega) h h2
theorem blockL_app {least : Nat} {r r' : List UInt8} {ts : List (List UInt8)} {x : Bool} (b : List UInt8) (h : blockL r least = some (ts, x, r')) : blockL (r ++ b) least = some (ts, x, r' ++ b) :=
  blockGo_app b _ _ _ _ _ _ _ h _ (by rw [List.length_append]; omega)
theorem blockL_far {least : Nat} {r r' b : List UInt8} {ts : List (List UInt8)} {x : Bool} (h : blockL r least = none) (h2 : blockL (r ++ b) least = some (ts, x, r')) : r'.length < b.length :=
  blockGo_far b _ _ _ _ _ _ _ _ (Nat.lt_succ_self _) h h2
/-- A reader with more bytes behind. -/
def Ps.plus (s : Ps) (b : List UInt8) : Ps := { s with rest := s.rest ++ b }
/-- A step that was taken is taken with more bytes behind, too. -/
def Same2 (s : Ps) (b : List UInt8) (r r2 : Ps × Option Pd) : Prop := r = (s, none) ∨ (r2.2 = r.2 ∧ r2.1 = if r.1.stage = 5 then r.1 else r.1.plus b)
theorem Same2.fail (s : Ps) (b : List UInt8) (st : Int) : Same2 s b (failS st) (failS st) := .inr ⟨rfl, rfl⟩
theorem Same2.done (s s' : Ps) (b : List UInt8) : Same2 s b (doneS s') (doneS (s'.plus b)) := by
  unfold doneS Ps.plus
  dsimp only
  cases s'.req.keep
  · exact .inr ⟨rfl, rfl⟩
  · exact .inr ⟨rfl, rfl⟩
theorem Same2.judge (s s' : Ps) (b : List UInt8) (texts : List (List UInt8)) (bare : Bool) (_hs : s'.stage = 0) : Same2 s b (judgeS s' texts bare) (judgeS (s'.plus b) texts bare) := by
  unfold judgeS
  dsimp only [Ps.plus]
  split
  · exact Same2.fail _ _ _
  split
  · exact Same2.fail _ _ _
  split
  · exact Same2.fail _ _ _
  split
  · exact Same2.fail _ _ _
  split
  · exact Same2.fail _ _ _
  split
  · exact Same2.fail _ _ _
  split
  · exact Same2.done _ _ _
  · refine .inr ⟨rfl, ?_⟩
    dsimp only
    rw [if_neg (framing_stage _)]
    rfl
end Go.Proofs.YtldbcdiomkkinaaGreatDoor
