/- What a replacer of bytes by texts gives, plainly. It speaks of no program but for the rows of Rp2. -/
import Derived.Test.YtmofnoconhgjmaaGreatDoorRp3
import Derived.Lib.Strings
namespace Go.Proofs.YtmofnoconhgjmaaGreatDoor
open Go.RowKit
set_option linter.unusedVariables false
set_option linter.unusedSimpArgs false

/-- What a byte becomes; is it one that becomes something else? -/
def rpC (prs : Prs) (c : UInt8) : List UInt8 := match prs.find? (fun x => x.1 == c) with
  | some x => x.2
  | none => [c]
def hitC (prs : Prs) (c : UInt8) : Bool := prs.any fun x => x.1 == c
def repL (prs : Prs) (s : List UInt8) : List UInt8 := s.flatMap (rpC prs)
theorem find_nodup {prs : Prs} (hnd : (prs.map (·.1)).Nodup) {x : UInt8 × List UInt8} (hx : x ∈ prs) : prs.find? (fun y => y.1 == x.1) = some x := by
  induction prs with
  | nil => cases hx
  | cons y l ih =>
    rw [List.map_cons, List.nodup_cons] at hnd
    rw [List.find?_cons]
    rcases List.mem_cons.1 hx with rfl | hx
    · simp
    · have hne : (y.1 == x.1) = false := by
        simp only [beq_eq_false_iff_ne]
        intro e
        exact hnd.1 (List.mem_map.2 ⟨x, hx, e.symm⟩)
      rw [hne]
      exact ih hnd.2 hx
theorem rpC_hit {prs : Prs} (hnd : (prs.map (·.1)).Nodup) {x : UInt8 × List UInt8} (hx : x ∈ prs) : rpC prs x.1 = x.2 ∧ hitC prs x.1 = true := by
  refine ⟨?_, List.any_eq_true.2 ⟨x, hx, by simp⟩⟩
  unfold rpC
  rw [find_nodup hnd hx]
theorem rpC_miss {prs : Prs} {c : UInt8} (h : ∀ x ∈ prs, x.1 ≠ c) : rpC prs c = [c] ∧ hitC prs c = false := by
  have h1 : prs.find? (fun x => x.1 == c) = none := List.find?_eq_none.2 fun x hx => by simpa using h x hx
  refine ⟨by unfold rpC; rw [h1], ?_⟩
  unfold hitC
  rw [List.any_eq_false]
  intro x hx
  simpa using h x hx
/-- The replacements' row, by bytes. -/
theorem BsC.at {w : World} {cs : Array Value} {prs : Prs} (h : BsC w cs prs) (hnd : (prs.map (·.1)).Nodup) (c : UInt8) : (hitC prs c = false ∧ rpC prs c = [c] ∧ cs[c.toNat]? = some (.slice none 0 0)) ∨ (hitC prs c = true ∧ (∃ x ∈ prs, x.1 = c ∧ x.2 = rpC prs c) ∧ ∃ g cap, cs[c.toNat]? = some (.slice (some ⟨g, 0, none⟩) (rpC prs c).length cap) ∧ Row8 w 5 g cap (rpC prs c)) := by
  rcases h.2 c with ⟨h1, h2⟩ | ⟨x, hx, rfl, g, cap, h2, h3⟩
  · obtain ⟨a, b⟩ := rpC_miss h1
    exact .inl ⟨b, a, h2⟩
  · obtain ⟨a, b⟩ := rpC_hit hnd hx
    exact .inr ⟨b, ⟨x, hx, rfl, a.symm⟩, g, cap, by rw [a]; exact h2, by rw [a]; exact h3⟩
/-- How much more there is by each pair. -/
def szK (s : List UInt8) : Prs → Nat
  | [] => 0
  | x :: l => Lib.countByte s x.1 * (x.2.length - 1) + szK s l
theorem szK_app (s : List UInt8) (l l' : Prs) : szK s (l ++ l') = szK s l + szK s l' := by
  induction l with
  | nil => simp [szK]
  | cons x l ih => simp only [List.cons_append, szK, ih]; omega
theorem szK_rev (s : List UInt8) (l : Prs) : szK s l.reverse = szK s l := by
  induction l with
  | nil => rfl
  | cons x l ih => rw [List.reverse_cons, szK_app, ih]; simp only [szK]; omega
def szB (prs : Prs) (s : List UInt8) : Nat := (s.map fun c => (rpC prs c).length - 1).sum
theorem count_cons (c b : UInt8) (s : List UInt8) : Lib.countByte (c :: s) b = (if c = b then 1 else 0) + Lib.countByte s b := by
  unfold Lib.countByte
  rw [List.count_cons]
  by_cases h : c = b
  · simp [h]; omega
  · simp [h]
theorem szK_cons (prs : Prs) (c : UInt8) (s : List UInt8) (hnd : (prs.map (·.1)).Nodup) (h2 : ∀ x ∈ prs, 2 ≤ x.2.length) : szK (c :: s) prs = ((rpC prs c).length - 1) + szK s prs := by
  induction prs with
  | nil => rfl
  | cons x l ih =>
    rw [List.map_cons, List.nodup_cons] at hnd
    have ih := ih hnd.2 (fun y hy => h2 y (List.mem_cons_of_mem _ hy))
    simp only [szK, count_cons, ih]
    by_cases h : c = x.1
    · subst h
      have hm : ∀ y ∈ l, y.1 ≠ x.1 := fun y hy e => hnd.1 (List.mem_map.2 ⟨y, hy, e⟩)
      rw [(rpC_miss hm).1]
      have : rpC (x :: l) x.1 = x.2 := by unfold rpC; simp
      rw [this]
      simp only [if_true, List.length_cons, List.length_nil, Nat.add_mul]
      omega
    · have : rpC (x :: l) c = rpC l c := by
        unfold rpC
        rw [List.find?_cons]
        have : (x.1 == c) = false := by simp only [beq_eq_false_iff_ne]; exact fun e => h e.symm
        rw [this]
      rw [this, if_neg h, Nat.zero_add]
      omega
theorem szK_szB (prs : Prs) (s : List UInt8) (hnd : (prs.map (·.1)).Nodup) (h2 : ∀ x ∈ prs, 2 ≤ x.2.length) : szK s prs = szB prs s := by
  induction s with
  | nil =>
    show szK [] prs = 0
    induction prs with
    | nil => rfl
    | cons x l ih =>
      rw [List.map_cons, List.nodup_cons] at hnd
      simp only [szK, ih hnd.2 (fun y hy => h2 y (List.mem_cons_of_mem _ hy)), Lib.countByte, List.count_nil, Nat.zero_mul]
  | cons c s ih => rw [szK_cons prs c s hnd h2, ih]; rfl
theorem repL_len (prs : Prs) (s : List UInt8) (h2 : ∀ x ∈ prs, 2 ≤ x.2.length) : (repL prs s).length = s.length + szB prs s := by
  induction s with
  | nil => rfl
  | cons c s ih =>
    have h1 : 1 ≤ (rpC prs c).length := by
      unfold rpC
      split
      · rename_i x hx
        have := h2 x (List.mem_of_find?_eq_some hx)
        omega
      · simp
    unfold repL at ih ⊢
    rw [List.flatMap_cons, List.length_append, ih]
    simp only [szB, List.map_cons, List.sum_cons, List.length_cons]
    omega
theorem repL_take (prs : Prs) (s : List UInt8) (i : Nat) (c : UInt8) (h : s[i]? = some c) : repL prs (s.take (i + 1)) = repL prs (s.take i) ++ rpC prs c := by
  unfold repL
  rw [List.take_add_one, h, List.flatMap_append]
  simp
theorem szB_take (prs : Prs) (s : List UInt8) (i : Nat) (c : UInt8) (h : s[i]? = some c) : szB prs (s.take (i + 1)) = szB prs (s.take i) + ((rpC prs c).length - 1) := by
  unfold szB
  rw [List.take_add_one, h, List.map_append, List.sum_append]
  simp
theorem repL_miss (prs : Prs) (s : List UInt8) (h : s.any (hitC prs) = false) : repL prs s = s := by
  induction s with
  | nil => rfl
  | cons c s ih =>
    rw [List.any_cons, Bool.or_eq_false_iff] at h
    unfold repL at ih ⊢
    rw [List.flatMap_cons, ih h.2]
    have h1 : ∀ x ∈ prs, x.1 ≠ c := by
      intro x hx e
      have := h.1
      unfold hitC at this
      rw [List.any_eq_false] at this
      exact this x hx (by simpa using e)
    rw [(rpC_miss h1).1]
    rfl
theorem any_count (prs : Prs) (s : List UInt8) : s.any (hitC prs) = prs.any (fun x => decide (Lib.countByte s x.1 ≠ 0)) := by
  rw [Bool.eq_iff_iff, List.any_eq_true, List.any_eq_true]
  constructor
  · rintro ⟨c, hc, h⟩
    unfold hitC at h
    obtain ⟨x, hx, e⟩ := List.any_eq_true.1 h
    obtain rfl : x.1 = c := by simpa using e
    refine ⟨x, hx, ?_⟩
    simp only [decide_eq_true_eq]
    unfold Lib.countByte
    intro e0
    exact List.count_eq_zero.1 e0 hc
  · rintro ⟨x, hx, h⟩
    simp only [decide_eq_true_eq] at h
    unfold Lib.countByte at h
    exact ⟨x.1, List.count_pos_iff.1 (Nat.pos_of_ne_zero h), List.any_eq_true.2 ⟨x, hx, by simp⟩⟩
theorem szK_take (s : List UInt8) (l : Prs) (i : Nat) : szK s (l.take i) ≤ szK s l := by
  have := szK_app s (l.take i) (l.drop i)
  rw [List.take_append_drop] at this
  omega
theorem rpC_len (prs : Prs) (c : UInt8) (h2 : ∀ x ∈ prs, 2 ≤ x.2.length ∧ x.2.length ≤ 1000) : 1 ≤ (rpC prs c).length ∧ (rpC prs c).length ≤ 1000 := by
  unfold rpC
  split
  · rename_i x hx
    have := h2 x (List.mem_of_find?_eq_some hx)
    omega
  · simp
theorem szB_le (prs : Prs) (s : List UInt8) (h2 : ∀ x ∈ prs, 2 ≤ x.2.length ∧ x.2.length ≤ 1000) : szB prs s ≤ s.length * 999 := by
  induction s with
  | nil => exact Nat.le_refl _
  | cons c s ih =>
    have := rpC_len prs c h2
    unfold szB at ih ⊢
    rw [List.map_cons, List.sum_cons, List.length_cons]
    omega
theorem szB_take_le (prs : Prs) (s : List UInt8) (i : Nat) : szB prs (s.take i) ≤ szB prs s := by
  have h : szB prs (s.take i ++ s.drop i) = szB prs (s.take i) + szB prs (s.drop i) := by
    unfold szB
    rw [List.map_append, List.sum_append]
  rw [List.take_append_drop] at h
  omega
end Go.Proofs.YtmofnoconhgjmaaGreatDoor
