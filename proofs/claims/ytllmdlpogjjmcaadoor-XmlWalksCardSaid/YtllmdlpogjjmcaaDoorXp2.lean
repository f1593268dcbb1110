/- What a text stands for, byte by byte; an entity as the document's answer tells it. It speaks of no program. -/
import Derived.Test.YtllmdlpogjjmcaaDoorXp1
namespace Go.Proofs.YtllmdlpogjjmcaaDoor
open Go.RowKit
set_option linter.unusedVariables false
set_option linter.unusedSimpArgs false

theorem pre_one (c q : UInt8) (t : Bs) : Lib.hasPrefix (c :: t) [q] = (q == c) := by
  unfold Lib.hasPrefix
  simp [List.isPrefixOf]
theorem pre_nil (q : UInt8) : Lib.hasPrefix [] [q] = false := rfl
theorem idx_cons (c q : UInt8) (t : Bs) (h : c ≠ q) : Lib.index (c :: t) [q] = if Lib.index t [q] = -1 then -1 else Lib.index t [q] + 1 := by
  have hp : [q].isPrefixOf (c :: t) = false := by simp [List.isPrefixOf]; exact fun e => h e.symm
  conv => lhs; unfold Lib.index
  rw [hp]
  simp
theorem cut_cons (c q : UInt8) (t : Bs) (h : c ≠ q) : Lib.cut (c :: t) [q] = (c :: (Lib.cut t [q]).1, (Lib.cut t [q]).2.1, (Lib.cut t [q]).2.2) := by
  have h1 := index_le [q] t
  have h2 := idx_cons c q t h
  unfold Lib.cut
  by_cases h0 : 0 ≤ Lib.index t [q]
  · rw [if_pos h0]
    rw [if_neg (by omega)] at h2
    rw [h2, if_pos (by omega)]
    obtain ⟨k, hk⟩ : ∃ k : Nat, Lib.index t [q] = k := ⟨(Lib.index t [q]).toNat, by omega⟩
    rw [hk, show ((k : Int) + 1).toNat = k + 1 by omega, show ((k : Int)).toNat = k by omega]
    simp [Nat.add_right_comm]
  · rw [if_neg h0]
    rw [if_pos (by omega)] at h2
    rw [h2, if_neg (by omega)]
theorem cut_same (q : UInt8) (t : Bs) : Lib.cut (q :: t) [q] = ([], t, true) := by
  have hp : [q].isPrefixOf (q :: t) = true := by simp [List.isPrefixOf]
  unfold Lib.cut Lib.index
  rw [hp]
  simp
theorem cut_nil (q : UInt8) : Lib.cut [] [q] = ([], [], false) := rfl
theorem unesc_fuel : ∀ (n k : Nat) (s : Bs), s.length < n → s.length < k → unesc n s = unesc k s := by
  intro n
  induction n with
  | zero => intro k s h; omega
  | succ n ih =>
    intro k s h1 h2
    obtain ⟨k, rfl⟩ : ∃ j, k = j + 1 := ⟨k - 1, by omega⟩
    unfold unesc
    have hl1 := cut_lens (l := s) (s := [38])
    have hl2 := cut_lens (l := (Lib.cut s [38]).2.1) (s := [59])
    cases h3 : (Lib.cut s [38]).2.2
    · rfl
    · have hl1' := hl1 h3
      cases h4 : (Lib.cut (Lib.cut s [38]).2.1 [59]).2.2
      · rfl
      · have hl2' := hl2 h4
        simp only [List.length_cons, List.length_nil] at hl1' hl2'
        rw [ih k _ (by omega) (by omega)]
theorem unescA_nil : unescA [] = some [] := rfl
theorem unescA_char (c : UInt8) (t : Bs) (h : c ≠ 38) : unescA (c :: t) = (unescA t).map (c :: ·) := by
  unfold unescA
  rw [show (c :: t).length + 1 = (t.length + 1) + 1 from rfl]
  conv => lhs; unfold unesc
  conv => rhs; unfold unesc
  rw [cut_cons c 38 t h]
  have hl1 := cut_lens (l := t) (s := [38])
  have hl2 := cut_lens (l := (Lib.cut t [38]).2.1) (s := [59])
  cases h3 : (Lib.cut t [38]).2.2
  · rfl
  · cases h4 : (Lib.cut (Lib.cut t [38]).2.1 [59]).2.2
    · simp only [if_true, h4]; rfl
    · have hl1' := hl1 h3
      have hl2' := hl2 h4
      simp only [List.length_cons, List.length_nil] at hl1' hl2'
      simp only [if_true, h4]
      rw [unesc_fuel (t.length + 1) t.length _ (by omega) (by omega)]
      cases entL (Lib.cut (Lib.cut t [38]).2.1 [59]).1 with
      | none => rfl
      | some e =>
        cases unesc t.length (Lib.cut (Lib.cut t [38]).2.1 [59]).2.1 with
        | none => rfl
        | some o => rfl
theorem unescA_amp (t : Bs) : unescA (38 :: t) = if (Lib.cut t [59]).2.2 then (entL (Lib.cut t [59]).1).bind fun e => (unescA (Lib.cut t [59]).2.1).map fun o => e ++ o else none := by
  unfold unescA
  conv => lhs; unfold unesc
  rw [cut_same]
  have hl2 := cut_lens (l := t) (s := [59])
  cases h4 : (Lib.cut t [59]).2.2
  · simp only [if_true, h4]; rfl
  · have hl2' := hl2 h4
    simp only [List.length_cons, List.length_nil] at hl2'
    simp only [if_true, h4]
    rw [unesc_fuel _ ((Lib.cut t [59]).2.1.length + 1) _ (by simp only [List.length_cons]; omega) (by omega)]
    rfl
/-- The entities' names and characters. -/
def entN : List Bs := [[108, 116], [103, 116], [97, 109, 112], [113, 117, 111, 116], [97, 112, 111, 115]]
def entC : List Bs := [[60], [62], [38], [34], [39]]
/-- What the first m of them give. -/
def fndE (w : Bs) (m : Nat) : Bool := (entN.take m).any fun n => decide (w = n)
def chrE (w : Bs) (m : Nat) : Bs := (((entN.zip entC).take m).map fun x => if w = x.1 then x.2 else []).flatten
theorem chrE_len (w : Bs) : ∀ m, (chrE w m).length ≤ 5 := by
  intro m
  have h1 : ∀ l : List (Bs × Bs), (∀ x ∈ l, x.2.length ≤ 1) → ((l.map fun x => if w = x.1 then x.2 else []).flatten).length ≤ l.length := by
    intro l
    induction l with
    | nil => intro _; simp
    | cons x l ih =>
      intro h
      have := ih (fun y hy => h y (List.mem_cons_of_mem _ hy))
      have h2 := h x List.mem_cons_self
      simp only [List.map_cons, List.flatten_cons, List.length_append, List.length_cons]
      split
      · omega
      · simp only [List.length_nil]; omega
  have h3 := h1 ((entN.zip entC).take m) (fun x hx => by
    have hm : x ∈ [(([108, 116] : Bs), ([60] : Bs)), ([103, 116], [62]), ([97, 109, 112], [38]), ([113, 117, 111, 116], [34]), ([97, 112, 111, 115], [39])] := List.mem_of_mem_take hx
    simp only [List.mem_cons, List.not_mem_nil, or_false] at hm
    rcases hm with rfl | rfl | rfl | rfl | rfl <;> decide)
  have h4 : ((entN.zip entC).take m).length ≤ 5 := by rw [List.length_take]; have : (entN.zip entC).length = 5 := rfl; omega
  unfold chrE
  omega
theorem fndE_step (w : Bs) (m : Nat) (hm : m < 5) : fndE w (m + 1) = (fndE w m || decide (w = entN.getD m [])) := by
  match m, hm with
  | 0, _ => simp [fndE, entN]
  | 1, _ => simp [fndE, entN]
  | 2, _ => simp [fndE, entN, Bool.or_assoc]
  | 3, _ => simp [fndE, entN, Bool.or_assoc]
  | 4, _ => simp [fndE, entN, Bool.or_assoc]
theorem chrE_step (w : Bs) (m : Nat) (hm : m < 5) : chrE w (m + 1) = chrE w m ++ (if w = entN.getD m [] then entC.getD m [] else []) := by
  match m, hm with
  | 0, _ => simp [chrE, entN, entC]
  | 1, _ => simp [chrE, entN, entC]
  | 2, _ => simp [chrE, entN, entC]
  | 3, _ => simp [chrE, entN, entC]
  | 4, _ => simp [chrE, entN, entC]
/-- The number that an entity tells. -/
def numE (w : Bs) : Int × Bool :=
  if 2 < w.length ∧ w.take 2 = [35, 120] ∧ w.length ≤ 8 then numR 16 1114111 (w.drop 2) else if 1 < w.length ∧ w.getD 0 0 = 35 ∧ w.getD 1 0 ≠ 120 then numR 10 1114111 (w.drop 1) else (0, false)
theorem numR_nil (b m : Int) : numR b m [] = (0, false) := rfl
theorem chrO_no (n : Int) : chrO (n, false) = none := by unfold chrO; simp
theorem ent_found (w : Bs) (h : fndE w 5 = true) : entL w = some (chrE w 5) := by
  simp only [fndE, entN, List.take, List.any_cons, List.any_nil, Bool.or_false, Bool.or_eq_true, decide_eq_true_eq] at h
  rcases h with rfl | rfl | rfl | rfl | rfl <;> decide
theorem ent_not (w : Bs) (h : fndE w 5 = false) : chrE w 5 = [] ∧ entL w = chrO (numE w) := by
  simp only [fndE, entN, List.take, List.any_cons, List.any_nil, Bool.or_false, Bool.or_eq_false_iff, decide_eq_false_iff_not] at h
  obtain ⟨h1, h2, h3, h4, h5⟩ := h
  refine ⟨by simp [chrE, entN, entC, h1, h2, h3, h4, h5], ?_⟩
  unfold entL
  rw [if_neg h1, if_neg h2, if_neg h3, if_neg h4, if_neg h5]
  match w with
  | [] => rfl
  | [c] =>
    rw [pre_one]
    have hn : numE [c] = (0, false) := rfl
    rw [hn, chrO_no]
    cases hc : ((35 : UInt8) == c)
    · rfl
    · obtain rfl : 35 = c := by simpa using hc
      rfl
  | c :: d :: t =>
    rw [pre_one]
    cases hc : ((35 : UInt8) == c)
    · have hn : numE (c :: d :: t) = (0, false) := by
        have : ¬ c = 35 := fun e => by rw [e] at hc; simp at hc
        unfold numE
        rw [if_neg (by simp [this]), if_neg (by simp [this])]
      rw [hn, chrO_no]; rfl
    · obtain rfl : 35 = c := by simpa using hc
      have ht : Lib.trimPrefix (35 :: d :: t) [35] = d :: t := by unfold Lib.trimPrefix; rw [pre_one]; simp
      rw [ht, if_pos rfl]
      unfold entD
      rw [pre_one]
      cases hd : ((120 : UInt8) == d)
      · have hd' : ¬ d = 120 := fun e => by rw [e] at hd; simp at hd
        have hn : numE (35 :: d :: t) = numR 10 1114111 (d :: t) := by
          unfold numE
          rw [if_neg (by simp [hd']), if_pos (by simp [hd'])]
          rfl
        rw [hn]; rfl
      · obtain rfl : 120 = d := by simpa using hd
        rw [if_pos rfl]
        unfold entH
        have ht2 : Lib.trimPrefix (120 :: t) [120] = t := by unfold Lib.trimPrefix; rw [pre_one]; simp
        rw [ht2]
        by_cases h6 : t.length ≤ 6
        · rw [if_pos h6]
          match t, h6 with
          | [], _ =>
            have hn : numE [35, 120] = (0, false) := by unfold numE; rw [if_neg (by simp), if_neg (by simp)]
            rw [hn, numR_nil]
          | x :: t, h6 =>
            have hn : numE (35 :: 120 :: x :: t) = numR 16 1114111 (x :: t) := by
              unfold numE
              rw [if_pos ⟨by simp, rfl, by simp at h6 ⊢; omega⟩]
              rfl
            rw [hn]
        · rw [if_neg h6]
          have hn : numE (35 :: 120 :: t) = (0, false) := by
            unfold numE
            rw [if_neg (by simp; omega), if_neg (by simp)]
          rw [hn, chrO_no]
theorem numGo_lo {base : Int} (hb : 0 ≤ base) : ∀ {l : Bs} {n x : Int}, 0 ≤ n → numGo base n l = some x → 0 ≤ x := by
  intro l
  induction l with
  | nil => intro n x hn h; simp [numGo] at h; omega
  | cons c l ih =>
    intro n x hn h
    unfold numGo at h
    split at h
    · cases h
    · exact ih (by have := (valN_bd c).1; have := Int.mul_nonneg hn hb; omega) h
theorem numR_bd {base most : Int} {l : Bs} (hb : 0 ≤ base) (h0 : 0 ≤ most) : 0 ≤ (numR base most l).1 ∧ (numR base most l).1 ≤ most := by
  unfold numR
  split
  · exact ⟨Int.le_refl _, h0⟩
  · unfold numFin
    split
    · exact ⟨Int.le_refl _, h0⟩
    · rename_i n hn
      have := numGo_lo hb (Int.le_refl 0) hn
      split
      · exact ⟨Int.le_refl _, h0⟩
      · exact ⟨this, by simp only; omega⟩
theorem numE_bd (w : Bs) : 0 ≤ (numE w).1 ∧ (numE w).1 ≤ 1114111 := by
  unfold numE
  split
  · exact numR_bd (by omega) (by omega)
  · split
    · exact numR_bd (by omega) (by omega)
    · exact ⟨Int.le_refl _, by simp⟩
end Go.Proofs.YtllmdlpogjjmcaaDoor
