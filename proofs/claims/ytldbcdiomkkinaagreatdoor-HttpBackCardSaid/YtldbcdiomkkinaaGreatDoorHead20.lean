/- HeadMade and HeadParts: the plain laws. -/
import Derived.Test.YtldbcdiomkkinaaGreatDoorHead19
namespace Go.Proofs.YtldbcdiomkkinaaGreatDoor
open Go.RowKit

theorem tok_ne : ∀ c, tokC c = true → c ≠ 58 ∧ c ≠ 32 := all_bytes (by decide +kernel)
theorem vis_ne : ∀ c, visC c = true → blk c = false ∧ okC c = true ∧ c ≠ 32 := all_bytes (by decide +kernel)
theorem stP_app : ∀ (a b : List UInt8), a.count 32 = 0 → stP (a ++ 32 :: b) = a
  | [], b, _ => stP_blank b
  | x :: a, b, h => by
    by_cases hx : x = 32
    · subst hx; simp at h
    · rw [List.count_cons_of_ne (by simpa using hx)] at h
      rw [List.cons_append, stP_cons x _ hx, stP_app a b h]
theorem stD_app (a b : List UInt8) (h : a.count 32 = 0) : stD (a ++ 32 :: b) = b := by
  unfold stD
  rw [stP_app a b h, ← List.drop_drop]
  simp
theorem count_none {l : List UInt8} {p : UInt8 → Bool} (h : l.all p = true) (hp : ∀ c, p c = true → c ≠ 32) : l.count 32 = 0 := by
  rw [List.count_eq_zero]
  intro hm
  rw [List.all_eq_true] at h
  exact hp _ (h _ hm) rfl
/-- The text of three parts. -/
theorem st_parts (m t r : List UInt8) (hm : m.count 32 = 0) (ht : t.count 32 = 0) (hr : r.count 32 = 0) :
    stOk (m ++ 32 :: (t ++ 32 :: r)) = (tokB m && !t.isEmpty && decide (t.length ≤ 512) && t.all visC && (r == h11 || r == h10)) ∧
    stR (m ++ 32 :: (t ++ 32 :: r)) = if (tokB m && !t.isEmpty && decide (t.length ≤ 512) && t.all visC && (r == h11 || r == h10)) then (m, t, if r == h11 then 1 else 0, true) else ([], [], 0, false) := by
  have h1 : stP (m ++ 32 :: (t ++ 32 :: r)) = m := stP_app _ _ hm
  have h2 : stD (m ++ 32 :: (t ++ 32 :: r)) = t ++ 32 :: r := stD_app _ _ hm
  have h3 : stP (t ++ 32 :: r) = t := stP_app _ _ ht
  have h4 : stD (t ++ 32 :: r) = r := stD_app _ _ ht
  have h5 : (m ++ 32 :: (t ++ 32 :: r)).count 32 = 2 := by simp [List.count_append, hm, ht, hr]
  have e : stOk (m ++ 32 :: (t ++ 32 :: r)) = (tokB m && !t.isEmpty && decide (t.length ≤ 512) && t.all visC && (r == h11 || r == h10)) := by
    unfold stOk; rw [h1, h2, h3, h4, h5]; rfl
  exact ⟨e, by unfold stR; rw [e, h1, h2, h3, h4]⟩
theorem st_many {l : List UInt8} (h : 2 < l.count 32) : (stR l).2.2.2 = false := by rw [stR_no (st_three (by omega))]
/-- The text of HeadParts, up to the version's last digit. -/
def ptL (m t : List UInt8) (c : UInt8) : List UInt8 := m ++ 32 :: (t ++ 32 :: [72, 84, 84, 80, 47, 49, 46, c])
theorem pt_other (m t : List UInt8) (c : UInt8) : (stR (ptL m t c)).2.2.2 = ((stR (ptL m t 49)).2.2.2 && (c == 48 || c == 49)) := by
  by_cases hm : m.count 32 = 0
  · by_cases ht : t.count 32 = 0
    · by_cases hc : c = 32
      · subst hc
        rw [st_many (by simp [ptL, List.count_append, hm, ht])]; simp
      · unfold ptL
        rw [(st_parts m t _ hm ht (by simp [hc])).2, (st_parts m t [72, 84, 84, 80, 47, 49, 46, 49] hm ht (by decide)).2]
        have e1 : (([72, 84, 84, 80, 47, 49, 46, c] : List UInt8) == h11 || ([72, 84, 84, 80, 47, 49, 46, c] : List UInt8) == h10) = (c == 48 || c == 49) := by
          simp [h11, h10, Bool.or_comm]
        have e2 : (([72, 84, 84, 80, 47, 49, 46, 49] : List UInt8) == h11 || ([72, 84, 84, 80, 47, 49, 46, 49] : List UInt8) == h10) = true := by decide
        rw [e1, e2, Bool.and_true]
        generalize (tokB m && !t.isEmpty && decide (t.length ≤ 512) && t.all visC) = K
        cases K <;> cases (c == 48 || c == 49) <;> rfl
    · have h : ∀ d, 2 < (ptL m t d).count 32 := fun d => by simp [ptL, List.count_append]; omega
      rw [st_many (h c), st_many (h 49)]; rfl
  · have h : ∀ d, 2 < (ptL m t d).count 32 := fun d => by simp [ptL, List.count_append]; omega
    rw [st_many (h c), st_many (h 49)]; rfl
theorem pt_wide (m t : List UInt8) : (stR (m ++ 32 :: 32 :: (t ++ 32 :: h11))).2.2.2 = false :=
  st_many (by simp [List.count_append]; omega)
theorem pt_more (m t : List UInt8) : (stR (ptL m t 49 ++ [32])).2.2.2 = false :=
  st_many (by simp [ptL, List.count_append]; omega)
/-- HeadMade's texts. -/
theorem tok_none {n : List UInt8} (h : tokB n = true) : n.count 32 = 0 ∧ (∀ x, lnP (n ++ 58 :: x) = n) := by
  have ha : n.all tokC = true := by unfold tokB at h; simp only [Bool.and_eq_true] at h; exact h.1.1
  refine ⟨count_none ha (fun c hc => (tok_ne c hc).2), fun x => ?_⟩
  clear h
  induction n with
  | nil => exact lnP_colon x
  | cons b n ih =>
    simp only [List.all_cons, Bool.and_eq_true] at ha
    rw [List.cons_append, lnP_cons _ _ (tok_ne _ ha.1).1, ih ha.2]
theorem drop_blk : ∀ (a b : List UInt8), a.all blk = true → (a ++ b).dropWhile blk = b.dropWhile blk
  | [], b, _ => rfl
  | x :: a, b, h => by
    simp only [List.all_cons, Bool.and_eq_true] at h
    rw [List.cons_append, List.dropWhile_cons, h.1]
    exact drop_blk a b h.2
theorem trim_made (p v q : List UInt8) (hp : p.all blk = true) (hv : v.all visC = true) (hq : q.all blk = true) : Lib.trimS (p ++ v ++ q) [32, 9] = v := by
  rw [trimS_eq, List.append_assoc, drop_blk _ _ hp]
  cases v with
  | nil =>
    have : q.dropWhile blk = [] := by have := drop_blk q [] hq; simpa using this
    rw [List.nil_append, this]; rfl
  | cons x v =>
    have hx : blk x = false := by simp only [List.all_cons, Bool.and_eq_true] at hv; exact (vis_ne _ hv.1).1
    have e1 : (x :: v ++ q).dropWhile blk = x :: v ++ q := by rw [List.cons_append, List.dropWhile_cons, hx]; rfl
    rw [e1]
    unfold rdB
    rw [List.reverse_append, drop_blk _ _ (by rw [List.all_reverse]; exact hq)]
    have hl : ∃ y z, (x :: v).reverse = y :: z := by
      cases h : (x :: v).reverse with
      | nil => simp at h
      | cons y z => exact ⟨y, z, rfl⟩
    obtain ⟨y, z, hyz⟩ := hl
    have hy : blk y = false := by
      have : (x :: v).reverse.all visC = true := by rw [List.all_reverse]; exact hv
      rw [hyz] at this
      simp only [List.all_cons, Bool.and_eq_true] at this
      exact (vis_ne _ this.1).1
    rw [hyz, List.dropWhile_cons, hy]
    rw [← hyz]; simp
theorem line_made (n p v q : List UInt8) (hn : tokB n = true) (hp : p.all blk = true) (hv : v.all visC = true) (hq : q.all blk = true) :
    lnR (n ++ 58 :: (p ++ v ++ q)) = (lowL n, v, true) := by
  have hP := (tok_none hn).2 (p ++ v ++ q)
  have hC : cutB (n ++ 58 :: (p ++ v ++ q)) 58 = (n, p ++ v ++ q, true) := by
    rw [cut58, hP, if_pos (by simp)]
    unfold lnD
    rw [hP, ← List.drop_drop]; simp
  have hV : lnV (n ++ 58 :: (p ++ v ++ q)) = v := by unfold lnV lnC; rw [hC]; exact trim_made p v q hp hv hq
  have ho : v.all okC = true := by
    rw [List.all_eq_true] at hv ⊢
    exact fun c hc => (vis_ne c (hv c hc)).2.1
  have hO : lnOk (n ++ 58 :: (p ++ v ++ q)) = true := by unfold lnOk; rw [hV]; unfold lnC; rw [hC, ho, hn]; rfl
  unfold lnR
  rw [if_pos hO, hV]; unfold lnC; rw [hC]
theorem start_made (n v : List UInt8) (hn : tokB n = true) (hv : v.all visC = true) :
    stR (n ++ 32 :: (v ++ 32 :: h11)) = if (!v.isEmpty && decide (v.length ≤ 512)) then (n, v, 1, true) else ([], [], 0, false) := by
  rw [(st_parts n v h11 (tok_none hn).1 (count_none hv (fun c hc => (vis_ne c hc).2.2)) (by decide)).2, hn, hv]
  simp
end Go.Proofs.YtldbcdiomkkinaaGreatDoor
