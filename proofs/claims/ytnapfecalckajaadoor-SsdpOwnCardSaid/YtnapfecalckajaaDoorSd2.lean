/- SsdpFinds, plain: the reference's loop over lines; what a search asks for. It speaks of no program. -/
import Derived.Test.YtnapfecalckajaaDoorSd1
namespace Go.Proofs.YtnapfecalckajaaDoor

/-- A CRLF lies at j. -/
def cr (s : List UInt8) (j : Nat) : Prop := s[j]? = some 13 ∧ s[j + 1]? = some 10
theorem cr_zero (c : UInt8) (s : List UInt8) : cr (c :: s) 0 ↔ c = 13 ∧ s.head? = some 10 := by
  unfold cr
  rw [List.head?_eq_getElem?]
  simp
theorem cr_succ (c : UInt8) (s : List UInt8) (j : Nat) : cr (c :: s) (j + 1) ↔ cr s j := by unfold cr; simp
theorem cr_drop (s : List UInt8) (f j : Nat) : cr (s.drop f) j ↔ cr s (f + j) := by
  unfold cr; rw [List.getElem?_drop, List.getElem?_drop, Nat.add_assoc]
theorem lns_first : ∀ (n : Nat) (s : List UInt8), (∀ j, j < n → ¬ cr s j) → cr s n → lns s = s.take n :: lns (s.drop (n + 2))
  | n, [], _, h => by simp [cr] at h
  | 0, c :: s, _, h => by
    obtain ⟨rfl, hs⟩ := (cr_zero c s).1 h
    cases s with
    | nil => simp at hs
    | cons d s =>
      obtain rfl : d = 10 := by simpa using hs
      rw [lns_cut]; rfl
  | n + 1, c :: s, hno, h => by
    have h0 := hno 0 (by omega)
    rw [cr_zero] at h0
    rw [lns_cons h0, lns_first n s (fun j hj => by have := hno (j + 1) (by omega); rwa [cr_succ] at this) ((cr_succ c s n).1 h)]
    rfl
theorem lns_none : ∀ s : List UInt8, (∀ j, ¬ cr s j) → lns s = [s]
  | [], _ => lns_nil
  | c :: s, hno => by
    have h0 := hno 0
    rw [cr_zero] at h0
    rw [lns_cons h0, lns_none s (fun j => by have := hno (j + 1); rwa [cr_succ] at this)]
theorem lns_unit (s : List UInt8) (q : List UInt8) (r : List (List UInt8)) (h : lns s = q :: r) : (q = [] ∧ r = []) ↔ s = [] := by
  constructor
  · rintro ⟨rfl, rfl⟩
    have := jn_lns s
    rw [h] at this
    exact this.symm
  · rintro rfl
    rw [lns_nil] at h
    simp only [List.cons.injEq] at h
    exact ⟨h.1.symm, h.2.symm⟩
/-- The loop of Lines: k bytes are seen, the line begins at f, O is out. -/
def LnR (t : List UInt8) (k f : Nat) (O : List (List UInt8)) : Prop :=
  f ≤ k ∧ k ≤ t.length ∧ O.length ≤ k ∧ refL (lns t) = (O ++ (refL (lns (t.drop f))).1, (refL (lns (t.drop f))).2) ∧ ∀ j, f ≤ j → j + 1 < k → ¬ cr t j
theorem LnR.start (t : List UInt8) : LnR t 0 0 [] := ⟨Nat.le_refl _, Nat.zero_le _, Nat.le_refl _, rfl, fun _ _ h => by omega⟩
theorem LnR.skip {t : List UInt8} {k f : Nat} {O : List (List UInt8)} (h : LnR t k f O) (hk : k < t.length) (hn : ¬ (t.getD k 0 = 10 ∧ 1 ≤ k ∧ t.getD (k - 1) 0 = 13 ∧ f ≤ k - 1)) : LnR t (k + 1) f O := by
  obtain ⟨h1, h2, h3, h4, h5⟩ := h
  refine ⟨by omega, by omega, by omega, h4, fun j hj hk2 hc => ?_⟩
  rcases Nat.lt_or_ge (j + 1) k with hl | hg
  · exact h5 j hj hl hc
  · obtain rfl : k = j + 1 := by omega
    apply hn
    obtain ⟨a, b⟩ := hc
    simp only [List.getD_eq_getElem?_getD, a, b, Nat.add_sub_cancel]
    simp; omega
theorem at_cr {t : List UInt8} {k : Nat} (hk : k < t.length) (h1 : 1 ≤ k) (a : t.getD k 0 = 10) (b : t.getD (k - 1) 0 = 13) : cr t (k - 1) := by
  unfold cr
  rw [show k - 1 + 1 = k by omega, List.getElem?_eq_getElem (by omega), List.getElem?_eq_getElem hk]
  rw [List.getD_eq_getElem?_getD, List.getElem?_eq_getElem hk] at a
  rw [List.getD_eq_getElem?_getD, List.getElem?_eq_getElem (by omega)] at b
  exact ⟨congrArg some b, congrArg some a⟩
theorem LnR.cut {t : List UInt8} {k f : Nat} {O : List (List UInt8)} (h : LnR t k f O) (hk : k < t.length) (h1 : 1 ≤ k) (a : t.getD k 0 = 10) (b : t.getD (k - 1) 0 = 13) (hf : f ≤ k - 1) :
    lns (t.drop f) = (t.drop f).take (k - 1 - f) :: lns (t.drop (k + 1)) := by
  obtain ⟨_, _, _, _, h5⟩ := h
  have hc := at_cr hk h1 a b
  have := lns_first (k - 1 - f) (t.drop f) (fun j hj => by rw [cr_drop]; exact h5 _ (by omega) (by omega)) (by rw [cr_drop, show f + (k - 1 - f) = k - 1 by omega]; exact hc)
  rw [this, List.drop_drop, show f + (k - 1 - f + 2) = k + 1 by omega]
theorem LnR.last {t : List UInt8} {k f : Nat} {O : List (List UInt8)} (h : LnR t k f O) (hk : k < t.length) (h1 : 1 ≤ k) (a : t.getD k 0 = 10) (b : t.getD (k - 1) 0 = 13) (hf : k - 1 = f) :
    refL (lns t) = (O ++ [[]], decide (k = t.length - 1)) := by
  have hc := h.cut hk h1 a b (by omega)
  obtain ⟨_, _, _, h4, _⟩ := h
  rw [h4, hc, show k - 1 - f = 0 by omega, List.take_zero]
  obtain ⟨q, r, hq⟩ : ∃ q r, lns (t.drop (k + 1)) = q :: r := by
    cases hl : lns (t.drop (k + 1)) with
    | nil => exact absurd hl (lns_ne _)
    | cons q r => exact ⟨q, r, rfl⟩
  have hu := lns_unit _ q r hq
  rw [hq]
  unfold refL
  rw [if_pos rfl]
  have e : (q = [] ∧ r = []) ↔ (k = t.length - 1) := by
    rw [hu, List.drop_eq_nil_iff]; omega
  simp only [Prod.mk.injEq, true_and, decide_eq_decide]
  exact e
theorem LnR.next {t : List UInt8} {k f : Nat} {O : List (List UInt8)} (h : LnR t k f O) (hk : k < t.length) (h1 : 1 ≤ k) (a : t.getD k 0 = 10) (b : t.getD (k - 1) 0 = 13) (hf : f ≤ k - 1) (hne : k - 1 ≠ f) :
    LnR t (k + 1) (k + 1) (O ++ [(t.drop f).take (k - 1 - f)]) := by
  have hc := h.cut hk h1 a b hf
  obtain ⟨_, _, h3, h4, _⟩ := h
  refine ⟨Nat.le_refl _, by omega, by simp; omega, ?_, fun j hj hk2 => by omega⟩
  rw [h4, hc]
  obtain ⟨q, r, hq⟩ : ∃ q r, lns (t.drop (k + 1)) = q :: r := by
    cases hl : lns (t.drop (k + 1)) with
    | nil => exact absurd hl (lns_ne _)
    | cons q r => exact ⟨q, r, rfl⟩
  rw [hq]
  have hp : (t.drop f).take (k - 1 - f) ≠ [] := by
    intro e
    have := congrArg List.length e
    simp at this; omega
  rw [show refL ((t.drop f).take (k - 1 - f) :: q :: r) = ((t.drop f).take (k - 1 - f) :: (refL (q :: r)).1, (refL (q :: r)).2) by rw [refL, if_neg hp]]
  simp
theorem LnR.done {t : List UInt8} {f : Nat} {O : List (List UInt8)} (h : LnR t t.length f O) : refL (lns t) = (O, false) := by
  obtain ⟨h1, _, _, h4, h5⟩ := h
  rw [h4, lns_none (t.drop f) (fun j hc => by
    rw [cr_drop] at hc
    have hlt : f + j + 1 < t.length := (List.getElem?_eq_some_iff.1 hc.2).1
    exact h5 (f + j) (by omega) hlt hc)]
  simp [refL]
end Go.Proofs.YtnapfecalckajaaDoor
