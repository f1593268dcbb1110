/- SsdpFinds, plain: lines by CRLF. It speaks of no program. -/
import Derived.Lib.Split
namespace Go.Proofs.YtnapfecalckajaaDoor

def crlfL : List UInt8 := [13, 10]
/-- What lies between CRLFs. -/
def lns : List UInt8 → List (List UInt8)
  | [] => [[]]
  | c :: s => if c = 13 ∧ s.head? = some 10 then [] :: lns s.tail else match lns s with | p :: ps => (c :: p) :: ps | [] => [[c]]
termination_by s => s.length
decreasing_by all_goals (simp; try omega)
theorem lns_nil : lns [] = [[]] := by unfold lns; rfl
theorem lns_cut (s : List UInt8) : lns (13 :: 10 :: s) = [] :: lns s := by rw [lns]; simp
theorem lns_cons {c : UInt8} {s : List UInt8} (h : ¬ (c = 13 ∧ s.head? = some 10)) : lns (c :: s) = match lns s with | p :: ps => (c :: p) :: ps | [] => [[c]] := by
  rw [lns, if_neg h]
theorem lns_ne : ∀ s, lns s ≠ []
  | [] => by rw [lns_nil]; simp
  | c :: s => by
    by_cases h : c = 13 ∧ s.head? = some 10
    · rw [lns, if_pos h]; simp
    · rw [lns_cons h]
      have := lns_ne s
      cases hs : lns s with
      | nil => exact absurd hs this
      | cons p ps => simp
theorem pre_crlf (c : UInt8) (s : List UInt8) : crlfL.isPrefixOf (c :: s) = true ↔ c = 13 ∧ s.head? = some 10 := by
  unfold crlfL
  cases s with
  | nil => simp
  | cons d s => simp; constructor <;> rintro ⟨h1, h2⟩ <;> exact ⟨h1.symm, h2.symm⟩
theorem lns_index : ∀ s : List UInt8, (Lib.index s crlfL = -1 → lns s = [s]) ∧ (∀ i : Nat, Lib.index s crlfL = i → lns s = s.take i :: lns (s.drop (i + 2)))
  | [] => ⟨fun _ => lns_nil, fun i h => by simp [Lib.index, crlfL] at h⟩
  | c :: s => by
    have ih := lns_index s
    have hge := Lib.index_ge s crlfL
    unfold Lib.index
    by_cases h : c = 13 ∧ s.head? = some 10
    · rw [if_pos ((pre_crlf c s).2 h)]
      refine ⟨fun e => by omega, fun i e => ?_⟩
      obtain rfl : i = 0 := by omega
      obtain ⟨rfl, hs⟩ := h
      cases s with
      | nil => simp at hs
      | cons d s =>
        obtain rfl : d = 10 := by simpa using hs
        rw [lns_cut]; simp
    · rw [if_neg (fun e => h ((pre_crlf c s).1 e)), lns_cons h]
      by_cases hm : Lib.index s crlfL = -1
      · rw [if_pos (beq_iff_eq.2 hm)]
        refine ⟨fun _ => ?_, fun i e => by omega⟩
        rw [ih.1 hm]
      · rw [if_neg (fun e => hm (beq_iff_eq.1 e))]
        refine ⟨fun e => by omega, fun i e => ?_⟩
        obtain ⟨k, rfl⟩ : ∃ k, i = k + 1 := ⟨i - 1, by omega⟩
        rw [ih.2 k (by omega)]
        simp
theorem split_lns (n : Nat) : ∀ s : List UInt8, s.length ≤ n → Lib.split s crlfL = lns s := by
  induction n with
  | zero =>
    intro s h
    obtain rfl : s = [] := List.length_eq_zero_iff.1 (by omega)
    rw [lns_nil]; rfl
  | succ n ih =>
    intro s h
    unfold Lib.split
    rcases Lib.index_spec s crlfL with ⟨hm, _⟩ | ⟨i, hi, hil, _, _⟩
    · rw [Lib.count_miss hm, (lns_index s).1 hm]; rfl
    · have hr := Lib.index_room s crlfL (by omega)
      rw [hi] at hr
      have hl2 : crlfL.length = 2 := rfl
      rw [Lib.count_hit (by decide) hi, Nat.add_comm, (lns_index s).2 i hi, hl2, ← ih (s.drop (i + 2)) (by rw [List.length_drop]; omega)]
      unfold Lib.splitK
      rw [if_neg (fun e => by have := beq_iff_eq.1 e; omega), hi, hl2]
      simp [Lib.split]
theorem lns_app (r : List UInt8) : ∀ b : List UInt8, lns (b ++ 13 :: 10 :: r) = lns b ++ lns r
  | [] => by rw [List.nil_append, lns_cut, lns_nil]; rfl
  | c :: b => by
    by_cases h : c = 13 ∧ b.head? = some 10
    · obtain ⟨rfl, hb⟩ := h
      cases b with
      | nil => simp at hb
      | cons d b =>
        obtain rfl : d = 10 := by simpa using hb
        rw [List.cons_append, List.cons_append, lns_cut, lns_cut, lns_app r b]; rfl
    · have h' : ¬ (c = 13 ∧ (b ++ 13 :: 10 :: r).head? = some 10) := by
        cases b with
        | nil => simp
        | cons d b => simpa using h
      rw [List.cons_append, lns_cons h', lns_cons h, lns_app r b]
      have := lns_ne b
      cases hb : lns b with
      | nil => exact absurd hb this
      | cons p ps => rfl
/-- The reference's lines, from the pieces: up to the first empty one; true: it is at the very end. -/
def refL : List (List UInt8) → List (List UInt8) × Bool
  | [] => ([], false)
  | [_] => ([], false)
  | p :: q :: r => if p = [] then ([[]], decide (q = [] ∧ r = [])) else (p :: (refL (q :: r)).1, (refL (q :: r)).2)
theorem refL_good : ∀ ps : List (List UInt8), (∀ p ∈ ps, p ≠ []) → refL (ps ++ [[], []]) = (ps ++ [[]], true)
  | [], _ => rfl
  | p :: ps, h => by
    have hp := h p (List.mem_cons_self ..)
    have ih := refL_good ps (fun q hq => h q (List.mem_cons_of_mem _ hq))
    obtain ⟨q, r, e⟩ : ∃ q r, ps ++ [[], []] = q :: r := by cases ps <;> simp
    rw [List.cons_append, e]
    unfold refL
    rw [if_neg hp, ← e, ih]
    rfl
theorem refL_true : ∀ (P ls : List (List UInt8)), refL P = (ls, true) → ∃ ps, (∀ p ∈ ps, p ≠ []) ∧ P = ps ++ [[], []] ∧ ls = ps ++ [[]]
  | [], _, h => by simp [refL] at h
  | [_], _, h => by simp [refL] at h
  | p :: q :: r, ls, h => by
    unfold refL at h
    by_cases hp : p = []
    · rw [if_pos hp] at h
      simp only [Prod.mk.injEq, decide_eq_true_eq] at h
      obtain ⟨rfl, rfl, rfl⟩ := h
      exact ⟨[], fun _ hx => by simp at hx, by rw [hp]; rfl, rfl⟩
    · rw [if_neg hp] at h
      simp only [Prod.mk.injEq] at h
      obtain ⟨ps, h1, h2, h3⟩ := refL_true (q :: r) (refL (q :: r)).1 (Prod.ext rfl h.2)
      refine ⟨p :: ps, fun x hx => ?_, by rw [h2]; rfl, by rw [← h.1, h3]; rfl⟩
      rcases List.mem_cons.1 hx with rfl | hx
      · exact hp
      · exact h1 x hx
/-- Joined again. -/
def jn : List (List UInt8) → List UInt8
  | [] => []
  | [p] => p
  | p :: q :: r => p ++ 13 :: 10 :: jn (q :: r)
theorem jn_lns : ∀ s : List UInt8, jn (lns s) = s
  | [] => by rw [lns_nil]; rfl
  | c :: s => by
    by_cases h : c = 13 ∧ s.head? = some 10
    · obtain ⟨rfl, hs⟩ := h
      cases s with
      | nil => simp at hs
      | cons d s =>
        obtain rfl : d = 10 := by simpa using hs
        have ih := jn_lns s
        rw [lns_cut]
        cases hl : lns s with
        | nil => exact absurd hl (lns_ne s)
        | cons p ps => rw [hl] at ih; unfold jn; rw [ih]; rfl
    · have ih := jn_lns s
      rw [lns_cons h]
      cases hl : lns s with
      | nil => exact absurd hl (lns_ne s)
      | cons p ps =>
        rw [hl] at ih
        cases ps with
        | nil => unfold jn at ih ⊢; rw [ih]
        | cons q r => unfold jn at ih ⊢; rw [← ih]; rfl
theorem jn_end : ∀ ps : List (List UInt8), ps ≠ [] → jn (ps ++ [[], []]) = jn ps ++ [13, 10, 13, 10]
  | [], h => absurd rfl h
  | [p], _ => by simp [jn]
  | p :: q :: r, _ => by
    have ih := jn_end (q :: r) (by simp)
    rw [List.cons_append, List.cons_append, jn, ← List.cons_append, ih, jn]
    simp
theorem lns_end {t : List UInt8} {ps : List (List UInt8)} (h : lns t = ps ++ [[], []]) (hp : ps ≠ []) : ∃ b, t = b ++ [13, 10, 13, 10] ∧ lns b = ps := by
  have e : t = jn ps ++ [13, 10, 13, 10] := by rw [← jn_end ps hp, ← h, jn_lns]
  refine ⟨jn ps, e, ?_⟩
  have h2 := lns_app [13, 10] (jn ps)
  rw [show jn ps ++ 13 :: 10 :: [13, 10] = t from e.symm, h, lns_cut, lns_nil] at h2
  exact (List.append_cancel_right h2).symm
/-- What the program takes (its suffix cut, each piece not empty) and what the reference takes are one. -/
theorem lines_same (t : List UInt8) (ps : List (List UInt8)) (hp : ps ≠ []) (hg : ∀ p ∈ ps, p ≠ []) : (∃ b, t = b ++ [13, 10, 13, 10] ∧ lns b = ps) ↔ refL (lns t) = (ps ++ [[]], true) := by
  constructor
  · rintro ⟨b, rfl, hb⟩
    have h2 := lns_app [13, 10] b
    rw [lns_cut, lns_nil, hb] at h2
    rw [show b ++ [13, 10, 13, 10] = b ++ 13 :: 10 :: [13, 10] from rfl, h2]
    exact refL_good ps hg
  · intro h
    obtain ⟨qs, _, h2, h3⟩ := refL_true _ _ h
    have : ps = qs := List.append_cancel_right h3
    subst this
    exact lns_end h2 hp
end Go.Proofs.YtnapfecalckajaaDoor
