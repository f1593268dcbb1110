/- The plain law: soap.Header's answer is hearthref18.Header's. -/
import Derived.Test.YtdfhdnnkpeodhaaSoap1
import Derived.Test.YtdfhdnnkpeodhaaSoap2
namespace Go.Proofs.Ytdfhdnnkpeodhaa

def GoodH (l a b : List UInt8) : Prop := l = 34 :: (a ++ 35 :: b) ++ [34] ∧ a ≠ [] ∧ b ≠ [] ∧ 34 ∉ a ∧ 34 ∉ b ∧ 35 ∉ a ∧ 35 ∉ b

theorem cntN_count (l : List UInt8) (c : UInt8) : ∀ k, k ≤ l.length → cntN l c k = (l.take k).count c
  | 0, _ => by simp [cntN]
  | k + 1, h => by
    have ih := cntN_count l c k (by omega)
    simp only [cntN]
    rw [List.take_succ_eq_append_getElem (by omega), List.count_append, ih, List.getElem?_eq_getElem (by omega)]
    by_cases hc : l[k] = c
    · simp [hc]
    · simp [hc]
theorem cntN_all (l : List UInt8) (c : UInt8) : cntN l c l.length = l.count c := by rw [cntN_count l c _ (Nat.le_refl _), List.take_length]
theorem atN_eq (l : List UInt8) (i : Nat) (hi : l[i]? = some 35) : ∀ k, i < k → (∀ j, i < j → j < k → l[j]? ≠ some 35) → atN l k = i
  | 0, h, _ => by omega
  | k + 1, h, hj => by
    simp only [atN]
    by_cases hk : k = i
    · subst hk; rw [if_pos hi]
    · rw [if_neg (hj k (by omega) (by omega))]
      exact atN_eq l i hi k (by omega) (fun j h1 h2 => hj j h1 (by omega))
theorem indexByte_mem (c : UInt8) : ∀ l : List UInt8, (0 ≤ Lib.indexByte l c ↔ c ∈ l)
  | [] => by simp [Lib.indexByte]
  | b :: l => by
    have ih := indexByte_mem c l
    have hb := indexByte_lt c l
    simp only [Lib.indexByte, List.mem_cons]
    by_cases h : b = c
    · simp [h]
    · have h' : (b == c) = false := by simpa using h
      have hc : ¬ c = b := fun e => h e.symm
      rw [h']
      simp only [Bool.false_eq_true, if_false, hc, false_or]
      rw [← ih]
      split
      · rename_i h2; simp at h2; omega
      · rename_i h2; simp at h2; omega
theorem indexByte_app (c : UInt8) : ∀ (a b : List UInt8), c ∉ a → Lib.indexByte (a ++ c :: b) c = a.length
  | [], b, _ => by simp [Lib.indexByte]
  | x :: a, b, h => by
    have hx : ¬ x = c := fun e => h (by simp [e])
    have ih := indexByte_app c a b (fun e => h (by simp [e]))
    have h' : (x == c) = false := by simpa using hx
    simp only [List.cons_append, Lib.indexByte, h', ih, Bool.false_eq_true, if_false]
    have h2 : ((a.length : Int) == -1) = false := by simp <;> omega
    rw [h2]
    simp
theorem cutB_app (a b : List UInt8) (c : UInt8) (h : c ∉ a) : cutB (a ++ c :: b) c = (a, b, true) := by
  unfold cutB
  rw [indexByte_app c a b h, if_pos (by omega)]
  simp [List.drop_append]
theorem cutB_none (l : List UInt8) (c : UInt8) (h : c ∉ l) : cutB l c = (l, [], false) := by
  unfold cutB
  rw [if_neg (by rw [indexByte_mem]; exact h)]
theorem good_hdr {l a b : List UInt8} (h : GoodH l a b) : hdrOk l = true ∧ (hdrC l).1 = a ∧ (hdrC l).2.1 = b := by
  obtain ⟨rfl, ha, hb, h1, h2, h3, h4⟩ := h
  have e0 : hdr0 (34 :: (a ++ 35 :: b) ++ [34]) = (a ++ 35 :: b) ++ [34] := by simp [hdr0, Lib.trimPrefix, Lib.hasPrefix]
  have e1 : hdr1 (34 :: (a ++ 35 :: b) ++ [34]) = a ++ 35 :: b := by
    have : Lib.hasSuffix ((a ++ 35 :: b) ++ [34]) [34] = true := by
      simp [Lib.hasSuffix, List.isSuffixOf_iff_suffix]
      exact ⟨a ++ 35 :: b, by simp⟩
    rw [hdr1, e0, Lib.trimSuffix, if_pos this, List.length_append]
    exact List.take_left' (by simp)
  have eC : hdrC (34 :: (a ++ 35 :: b) ++ [34]) = (a, b, true) := by rw [hdrC, e1]; exact cutB_app a b 35 h3
  have hs : Lib.hasSuffix ((a ++ 35 :: b) ++ [34]) [34] = true := by
    simp [Lib.hasSuffix, List.isSuffixOf_iff_suffix]
    exact ⟨a ++ 35 :: b, by simp⟩
  refine ⟨?_, by rw [eC], by rw [eC]⟩
  unfold hdrOk
  rw [eC, e1, e0, hs]
  have i1 : ¬ 0 ≤ Lib.indexByte (a ++ 35 :: b) 34 := by rw [indexByte_mem]; simp [h1, h2]
  have i2 : ¬ 0 ≤ Lib.indexByte b 35 := by rw [indexByte_mem]; exact h4
  have ha' : a.isEmpty = false := by cases a <;> simp_all
  have hb' : b.isEmpty = false := by cases b <;> simp_all
  have hp : Lib.hasPrefix (34 :: (a ++ 35 :: b) ++ [34]) [34] = true := by simp [Lib.hasPrefix]
  rw [hp, decide_eq_false i1, decide_eq_false i2, ha', hb']
  rfl
theorem hdr_good {l : List UInt8} (h : hdrOk l = true) : ∃ a b, GoodH l a b := by
  unfold hdrOk at h
  simp only [Bool.and_eq_true, Bool.not_eq_true'] at h
  obtain ⟨⟨⟨⟨⟨⟨h1, h2⟩, h3⟩, h4⟩, h5⟩, h6⟩, h7⟩ := h
  have hp : [34] <+: l := by simpa [Lib.hasPrefix, List.isPrefixOf_iff_prefix] using h1
  obtain ⟨t, rfl⟩ := hp
  have e0 : hdr0 ([34] ++ t) = t := by simp [hdr0, Lib.trimPrefix, Lib.hasPrefix]
  rw [e0] at h2
  have h2' := h2
  simp only [Lib.hasSuffix, List.isSuffixOf_iff_suffix] at h2
  obtain ⟨m, rfl⟩ := h2
  have e1 : hdr1 ([34] ++ (m ++ [34])) = m := by rw [hdr1, e0, Lib.trimSuffix, if_pos h2']; simp
  rw [hdrC, e1] at h3 h4 h5 h7
  rw [e1] at h6
  by_cases hm : (35 : UInt8) ∈ m
  · obtain ⟨a, b, rfl, ha⟩ := List.eq_append_cons_of_mem hm
    rw [cutB_app a b 35 ha] at h4 h5 h7
    simp only [decide_eq_false_iff_not, indexByte_mem] at h6 h7
    refine ⟨a, b, by simp, ?_, ?_, ?_, ?_, ha, h7⟩
    · intro e; subst e; simp at h4
    · intro e; subst e; simp at h5
    · intro e; exact h6 (by simp [e])
    · intro e; exact h6 (by simp [e])
  · rw [cutB_none m 35 hm] at h3; simp at h3
theorem good_rhdr {l a b : List UInt8} (h : GoodH l a b) : rhdrNo l = false ∧ (l.take (atN l l.length)).drop 1 = a ∧ (l.take (l.length - 1)).drop (atN l l.length + 1) = b := by
  obtain ⟨rfl, ha, hb, h1, h2, h3, h4⟩ := h
  have hl : (34 :: (a ++ 35 :: b) ++ [34]).length = a.length + b.length + 3 := by simp <;> omega
  have hat : atN (34 :: (a ++ 35 :: b) ++ [34]) (34 :: (a ++ 35 :: b) ++ [34]).length = a.length + 1 := by
    refine atN_eq _ (a.length + 1) ?_ _ (by omega) ?_
    · simp
    · intro j hj1 hj2
      rw [hl] at hj2
      obtain ⟨t, rfl⟩ : ∃ t, j = a.length + 2 + t := ⟨j - (a.length + 2), by omega⟩
      have : (34 :: (a ++ 35 :: b) ++ [34])[a.length + 2 + t]? = (b ++ [34])[t]? := by
        rw [show 34 :: (a ++ 35 :: b) ++ [34] = (34 :: a ++ [35]) ++ (b ++ [34]) by simp]
        rw [List.getElem?_append_right (by simp <;> omega)]
        congr 1; simp <;> omega
      rw [this]
      intro e
      have hm := List.mem_of_getElem? e
      simp at hm
      exact h4 hm
  have c35 : cntN (34 :: (a ++ 35 :: b) ++ [34]) 35 (34 :: (a ++ 35 :: b) ++ [34]).length = 1 := by
    rw [cntN_all]; simp [List.count_append, List.count_eq_zero.2 h3, List.count_eq_zero.2 h4]
  have c34 : cntN (34 :: (a ++ 35 :: b) ++ [34]) 34 (34 :: (a ++ 35 :: b) ++ [34]).length = 2 := by
    rw [cntN_all]; simp [List.count_append, List.count_eq_zero.2 h1, List.count_eq_zero.2 h2]
  have hap : 0 < a.length := List.length_pos_iff.2 ha
  have hbp : 0 < b.length := List.length_pos_iff.2 hb
  refine ⟨?_, ?_, ?_⟩
  · unfold rhdrNo
    rw [hat, c35, c34, hl]
    have z0 : (34 :: (a ++ 35 :: b) ++ [34])[0]? = some 34 := rfl
    have zl : (34 :: (a ++ 35 :: b) ++ [34])[a.length + b.length + 3 - 1]? = some 34 := by
      rw [List.getElem?_append_right (by simp <;> omega)]
      rw [show a.length + b.length + 3 - 1 - (34 :: (a ++ 35 :: b)).length = 0 by simp <;> omega]
      rfl
    rw [z0, zl]
    have : (decide (a.length + b.length + 3 < 2)) = false := by simp
    have q1 : (a.length + 1 == 1) = false := by simp <;> omega
    have q2 : (a.length + 1 == a.length + b.length + 3 - 2) = false := by simp <;> omega
    rw [this, q1, q2]
    rfl
  · rw [hat]; simp
  · rw [hat, hl]
    rw [show a.length + b.length + 3 - 1 = (34 :: (a ++ 35 :: b)).length by simp <;> omega, List.take_left' rfl]
    simp [List.drop_append]
theorem rhdr_good {l : List UInt8} (h : rhdrNo l = false) : ∃ a b, GoodH l a b := by
  unfold rhdrNo at h
  simp only [Bool.or_eq_false_iff, decide_eq_false_iff_not, bne_eq_false_iff_eq, beq_eq_false_iff_ne] at h
  obtain ⟨⟨⟨⟨⟨⟨h1, h2⟩, h3⟩, h4⟩, h5⟩, h6⟩, h7⟩ := h
  rw [cntN_all] at h4 h5
  rcases l with _ | ⟨x, t⟩
  · simp at h1
  obtain rfl : x = 34 := by simpa using h2
  have ht : t ≠ [] := by intro e; subst e; simp at h1
  obtain ⟨m, y, rfl⟩ : ∃ m y, t = m ++ [y] := ⟨t.dropLast, t.getLast ht, (List.dropLast_concat_getLast ht).symm⟩
  obtain rfl : y = 34 := by
    have : (34 :: (m ++ [y])).length - 1 = (34 :: m).length := by simp
    rw [this] at h3
    rw [show 34 :: (m ++ [y]) = (34 :: m) ++ [y] by simp, List.getElem?_append_right (by simp)] at h3
    simpa using h3
  have hm : (35 : UInt8) ∈ m := by
    have : m.count 35 = 1 := by simpa [List.count_cons, List.count_append] using h4
    exact List.count_pos_iff.1 (by omega)
  have h34 : (34 : UInt8) ∉ m := by
    have : m.count 34 = 0 := by
      have := h5; simp [List.count_append] at this; exact List.count_eq_zero.2 (by first | exact this | exact List.count_eq_zero.1 this)
    exact List.count_eq_zero.1 this
  obtain ⟨a, b, rfl, ha⟩ := List.eq_append_cons_of_mem hm
  have hb : (35 : UInt8) ∉ b := by
    have : (a ++ 35 :: b).count 35 = 1 := by simpa [List.count_cons, List.count_append] using h4
    rw [List.count_append, List.count_cons_self] at this
    exact List.count_eq_zero.1 (by omega)
  have hat : atN (34 :: ((a ++ 35 :: b) ++ [34])) (34 :: ((a ++ 35 :: b) ++ [34])).length = a.length + 1 := by
    refine atN_eq _ (a.length + 1) (by simp) _ (by simp <;> omega) ?_
    intro j hj1 hj2
    simp at hj2
    obtain ⟨t, rfl⟩ : ∃ t, j = a.length + 2 + t := ⟨j - (a.length + 2), by omega⟩
    have : (34 :: ((a ++ 35 :: b) ++ [34]))[a.length + 2 + t]? = (b ++ [34])[t]? := by
      rw [show 34 :: ((a ++ 35 :: b) ++ [34]) = (34 :: a ++ [35]) ++ (b ++ [34]) by simp]
      rw [List.getElem?_append_right (by simp <;> omega)]
      congr 1; simp <;> omega
    rw [this]
    intro e
    have hmm := List.mem_of_getElem? e
    simp at hmm
    exact hb hmm
  rw [hat] at h6 h7
  refine ⟨a, b, by simp, ?_, ?_, fun e => h34 (by simp [e]), fun e => h34 (by simp [e]), ha, hb⟩
  · intro e; subst e; simp at h6
  · intro e; subst e; simp at h7
theorem hdr_rhdr (l : List UInt8) : hdr l = rhdr l := by
  unfold hdr rhdr
  cases h : hdrOk l with
  | true =>
    obtain ⟨a, b, hg⟩ := hdr_good h
    obtain ⟨_, e1, e2⟩ := good_hdr hg
    obtain ⟨e3, e4, e5⟩ := good_rhdr hg
    rw [e1, e2, e3, e4, e5]
    rfl
  | false =>
    cases h2 : rhdrNo l with
    | true => rfl
    | false =>
      obtain ⟨a, b, hg⟩ := rhdr_good h2
      rw [(good_hdr hg).1] at h
      cases h
end Go.Proofs.Ytdfhdnnkpeodhaa
