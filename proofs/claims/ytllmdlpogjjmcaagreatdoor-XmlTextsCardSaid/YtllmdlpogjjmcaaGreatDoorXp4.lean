/- XML, plainly: an element with its beginning; bounds of what is read. It speaks of no program. -/
import Derived.Test.YtllmdlpogjjmcaaGreatDoorXp3
namespace Go.Proofs.YtllmdlpogjjmcaaGreatDoor
open Go.RowKit
set_option linter.unusedVariables false
set_option linter.unusedSimpArgs false

/-- An element from behind its < on. -/
def elmL (n : Nat) (up : List (Bs × Bs)) (r : Bs) (deep cnt : Nat) (full : Bool) : Option Res := match beginL up r with
  | none => none
  | some (g, emp, r', k) => if emp then some (g.el, r', cnt + 1, fullB full (cnt + 1) deep k) else inL n r' g deep (cnt + 1) (fullB full (cnt + 1) deep k)
theorem inL_lt {n : Nat} {r : Bs} {f : Fr} {deep cnt : Nat} {full : Bool} (h1 : Lib.hasPrefix r noteO = false) (h2 : Lib.hasPrefix r cdO = false) (h3 : Lib.hasPrefix r [60, 47] = false) (h4 : Lib.hasPrefix r [60] = true) :
    inL (n + 1) r f deep cnt full = match elmL n f.bs (Lib.trimPrefix r [60]) (deep + 1) cnt full with
      | none => none
      | some x => inL n x.2.1 (f.kid x.1) deep x.2.2.1 x.2.2.2 := by
  conv => lhs; unfold inL
  rw [h1, h2, h3, h4]
  simp only [Bool.false_eq_true, if_false, if_true]
  unfold elmL
  cases hb : beginL f.bs (Lib.trimPrefix r [60]) with
  | none => rfl
  | some y =>
    obtain ⟨g, emp, r', k⟩ := y
    cases emp
    · simp only [Bool.false_eq_true, if_false]
      cases hi : inL n r' g (deep + 1) (cnt + 1) (fullB full (cnt + 1) (deep + 1) k) with
      | none => rfl
      | some x => rfl
    · rfl
theorem attrsL_sum {n : Nat} {r r' : Bs} {acc l : List At} {b : Bool} (h : attrsL n r acc = some (l, b, r')) : l.length + r'.length ≤ acc.length + r.length := by
  induction n generalizing r acc with
  | zero => cases h
  | succ n ih =>
    unfold attrsL at h
    have h0 := trimS_len r
    split at h
    · rename_i h1
      have := trimP_len h1
      cases h; omega
    · split at h
      · rename_i h1
        have := trimP_len h1
        cases h; omega
      · split at h
        · split at h
          · cases h
          · rename_i a r2 h2
            have := oneL_len h2
            split at h
            · cases h
            · have := ih h; simp only [List.length_append, List.length_cons, List.length_nil] at this; omega
        · cases h
theorem attrsA_sum {r r' : Bs} {l : List At} {b : Bool} (h : attrsA r = some (l, b, r')) : l.length + r'.length ≤ r.length := by
  have := attrsL_sum h
  simp only [List.length_nil] at this; omega
theorem attrsA_len {r r' : Bs} {l : List At} {b : Bool} (h : attrsA r = some (l, b, r')) : r'.length < r.length := attrsL_len h
theorem bindB_len (l : List At) : ∀ bs, (bindB l bs).length ≤ bs.length + l.length := by
  induction l with
  | nil => intro bs; exact Nat.le_refl _
  | cons a l ih =>
    intro bs
    have := ih (if isNs a then (nsOf a, a.2.2) :: bs else bs)
    show (bindB l _).length ≤ _
    refine Nat.le_trans this ?_
    split <;> simp only [List.length_cons] <;> omega
theorem inL_cnt : ∀ (n : Nat) {r : Bs} {f : Fr} {deep cnt : Nat} {full : Bool} {x : Res}, inL n r f deep cnt full = some x → x.2.1.length + x.2.2.1 ≤ r.length + cnt := by
  intro n
  induction n with
  | zero => intro _ _ _ _ _ _ h; cases h
  | succ n ih =>
    intro r f deep cnt full x h
    unfold inL at h
    split at h
    · rename_i h1
      have := trimP_len h1
      have := cut_len (Lib.trimPrefix r noteO) noteC
      split at h
      · have := ih h; omega
      · cases h
    split at h
    · rename_i h1
      have := trimP_len h1
      have := cut_len (Lib.trimPrefix r cdO) cdC
      split at h
      · have := ih h; omega
      · cases h
    split at h
    · rename_i h1
      have := trimP_len h1
      obtain ⟨r', h2, rfl⟩ := Option.map_eq_some_iff.1 h
      have := endL_len h2
      simp only; omega
    split at h
    · rename_i h1
      have := trimP_len h1
      split at h
      · cases h
      · rename_i h2; have := beginL_len h2; have := ih h; omega
      · rename_i h2
        have := beginL_len h2
        split at h
        · cases h
        · rename_i h3; have := ih h3; have := ih h; simp only at *; omega
    rename_i h4
    split at h
    · cases h
    · rename_i h5
      split at h
      · cases h
      · have := ih h
        simp only [List.length_drop] at this; omega
theorem elmL_cnt {n : Nat} {up : List (Bs × Bs)} {r : Bs} {deep cnt : Nat} {full : Bool} {x : Res} (h : elmL n up r deep cnt full = some x) : x.2.1.length < r.length ∧ x.2.1.length + x.2.2.1 ≤ r.length + cnt := by
  unfold elmL at h
  split at h
  · cases h
  · rename_i g emp r' k hb
    have := beginL_len hb
    split at h
    · cases h; exact ⟨this, by simp only; omega⟩
    · have h1 := inL_len n h
      have h2 := inL_cnt n h
      exact ⟨by omega, by omega⟩
/-- The root: from the place behind the first < on. -/
theorem rootL_elm (up : List (Bs × Bs)) (r : Bs) : rootL up r = elmL (r.length + 1) up r 1 0 false := by
  unfold rootL stepBegin elmL
  cases hb : beginL up r with
  | none => rfl
  | some y =>
    obtain ⟨g, emp, r', k⟩ := y
    have hl := beginL_len hb
    cases emp
    · show runL (r'.length + 1) ⟨r', [g], 0 + 1, _⟩ = _
      rw [run_in (r.length + 1) r' g [] _ _ (by omega)]
      simp only [Bool.false_eq_true, if_false, List.length_nil]
      cases inL (r.length + 1) r' g (0 + 1) (0 + 1) (fullB false (0 + 1) (0 + 1) k) with
      | none => rfl
      | some x => rfl
    · rfl
theorem elemL_none {p n : Bs} {l : List At} {up : List (Bs × Bs)} (h : (bindOk l && (spcL (bindB l up) p).2 && (attB (bindB l up) l []).2) = false) : elemL p n l up = none := by
  unfold elemL; rw [h]; rfl
theorem elemL_some {p n : Bs} {l : List At} {up : List (Bs × Bs)} (h : (bindOk l && (spcL (bindB l up) p).2 && (attB (bindB l up) l []).2) = true) : elemL p n l up = some ⟨p, n, (spcL (bindB l up) p).1, (attB (bindB l up) l []).1, [], .nil, bindB l up⟩ := by
  unfold elemL; rw [h]; rfl
theorem attB_at (bs : List (Bs × Bs)) (a : At) (l acc : List At) (h : isNs a = false) : attB bs (a :: l) acc = ((attB bs l (acc ++ [((atSp bs a.1).1, a.2.1, a.2.2)])).1, (atSp bs a.1).2 && !acc.any (sameA (atSp bs a.1).1 a.2.1) && (attB bs l (acc ++ [((atSp bs a.1).1, a.2.1, a.2.2)])).2) := by
  conv => lhs; unfold attB
  rw [h]; rfl
end Go.Proofs.YtllmdlpogjjmcaaGreatDoor
