/- hearthref22.Callback. -/
import Derived.Test.YtfceodbpkghkaaaDoorGn2
namespace Go.Proofs.YtfceodbpkghkaaaDoor
open Go.RowKit
set_option linter.unusedVariables false
set_option linter.unusedSimpArgs false

theorem tw_ne (q : UInt8) : ∀ (p : Gs) (i : Nat), i < (tw q p).length → p.getD i 0 ≠ q
  | [], i, h => by simp [tw] at h
  | c :: p, i, h => by
    by_cases hc : c = q
    · subst hc; rw [tw_cons_eq] at h; simp at h
    · rw [tw_cons_ne p hc] at h
      cases i with
      | zero => simpa using hc
      | succ i => simpa using tw_ne q p i (by simpa using h)
theorem tw_at (q : UInt8) : ∀ (p : Gs), (tw q p).length < p.length → p.getD (tw q p).length 0 = q
  | [], h => by simp at h
  | c :: p, h => by
    by_cases hc : c = q
    · subst hc; rw [tw_cons_eq]; rfl
    · rw [tw_cons_ne p hc] at h ⊢
      simpa using tw_at q p (by simpa using h)
theorem tw_has (q : UInt8) (p : Gs) : p.contains q = decide ((tw q p).length < p.length) := by
  have h := congrArg List.length (tw_dw q p)
  rw [List.length_append] at h
  have h2 := dw_nil_iff q p
  cases hc : p.contains q
  · rw [h2.2 hc] at h; simp at h; simp; omega
  · have : dw q p ≠ [] := fun e => by rw [h2.1 e] at hc; cases hc
    have := List.length_pos_iff.2 this
    simp; omega
theorem tw_pre (q : UInt8) (p : Gs) (i : Nat) (h : i < (tw q p).length) : p.getD i 0 = (tw q p).getD i 0 := by
  conv => lhs; rw [← tw_dw q p]
  rw [List.getD_eq_getElem?_getD, List.getD_eq_getElem?_getD, List.getElem?_append_left h]
/-- What a search for a byte, from o up to n, meets. -/
structure Seek (l : Gs) (q : UInt8) (o e n : Nat) : Prop where
  ge : o ≤ e
  le : e ≤ n
  ne : ∀ i, o ≤ i → i < e → l.getD i 0 ≠ q
  hit : e < n → l.getD e 0 = q
theorem seek_tw (l p : Gs) (q : UInt8) (o : Nat) (h : ∀ i, i < p.length → l.getD (o + i) 0 = p.getD i 0) : Seek l q o (o + (tw q p).length) (o + p.length) where
  ge := by omega
  le := by have := tw_len q p; omega
  ne := fun i h1 h2 => by
    have := tw_len q p
    have := h (i - o) (by omega)
    rw [show o + (i - o) = i by omega] at this
    rw [this]
    exact tw_ne q p _ (by omega)
  hit := fun h1 => by
    rw [h _ (by omega)]
    exact tw_at q p (by omega)
theorem gext (l : Gs) (i j : Nat) : (⟨l.toArray⟩ : ByteArray).extract i j = ⟨((l.drop i).take (j - i)).toArray⟩ := by
  ext1
  simp [ByteArray.data_extract, List.extract_eq_take_drop]
theorem hpre_take (l p : Gs) : Lib.hasPrefix l p = decide (l.take p.length = p) := by
  unfold Lib.hasPrefix
  rw [Bool.eq_iff_iff, List.isPrefixOf_iff_prefix, decide_eq_true_iff, List.prefix_iff_eq_take]
  exact ⟨fun h => h.symm, fun h => h.symm⟩
structure CbP (l a x t nm d : Gs) (e f g : Nat) : Prop where
  s1 : Seek l 62 8 e l.length
  s2 : Seek l 47 8 f e
  s3 : Seek l 58 8 g f
  et : (l.drop f).take (e - f) = t
  en : (l.drop 8).take (g - 8) = nm
  ed : g < f → (l.drop (g + 1)).take (f - (g + 1)) = d
  lt : t.length = e - f
  cb : cbL l = if e < l.length ∧ f < e then (if g < f then cbE (prsR nm).1 (vnum 65535 d).1 ((prsR nm).2 && (vnum 65535 d).2 && decide (0 < (vnum 65535 d).1)) t else cbE (prsR nm).1 80 (prsR nm).2 t) else none
theorem cbP_ex (l : Gs) (hp : Lib.hasPrefix l hdH = true) : ∃ a x t nm d e f g, CbP l a x t nm d e f g := by
  obtain ⟨r, hr⟩ : ∃ r, r = l.drop 8 := ⟨_, rfl⟩
  have h8 : 8 ≤ l.length := by
    unfold Lib.hasPrefix at hp
    have := (List.isPrefixOf_iff_prefix.1 hp).length_le
    simpa [hdH] using this
  have hrl : l.length = 8 + r.length := by rw [hr, List.length_drop]; omega
  have hrg : ∀ i, i < r.length → l.getD (8 + i) 0 = r.getD i 0 := fun i _ => by
    rw [hr, List.getD_eq_getElem?_getD, List.getD_eq_getElem?_getD, List.getElem?_drop]
  obtain ⟨a, ha⟩ : ∃ a, a = tw 62 r := ⟨_, rfl⟩
  obtain ⟨x, hx⟩ : ∃ x, x = tw 47 a := ⟨_, rfl⟩
  have q1 := seek_tw l r 62 8 hrg
  rw [← ha, ← hrl] at q1
  have hag : ∀ i, i < a.length → l.getD (8 + i) 0 = a.getD i 0 := fun i h => by
    rw [ha] at h ⊢
    rw [hrg i (by have := tw_len 62 r; omega)]
    exact tw_pre 62 r i h
  have q2 := seek_tw l a 47 8 hag
  rw [← hx] at q2
  have hxg : ∀ i, i < x.length → l.getD (8 + i) 0 = x.getD i 0 := fun i h => by
    rw [hx] at h ⊢
    rw [hag i (by have := tw_len 47 a; omega)]
    exact tw_pre 47 a i h
  have q3 := seek_tw l x 58 8 hxg
  have l1 : (tw 62 r).length + (dw 62 r).length = r.length := by rw [← List.length_append, tw_dw]
  have l2 : (tw 47 a).length + (dw 47 a).length = a.length := by rw [← List.length_append, tw_dw]
  have l3 : (tw 58 x).length + (dw 58 x).length = x.length := by rw [← List.length_append, tw_dw]
  have da : r.take a.length = a := by conv => lhs; arg 2; rw [← tw_dw 62 r, ← ha]
                                      exact List.take_left
  have dt : a.drop x.length = dw 47 a := by conv => lhs; arg 2; rw [← tw_dw 47 a, ← hx]
                                            exact List.drop_left
  have dx : a.take x.length = x := by conv => lhs; arg 2; rw [← tw_dw 47 a, ← hx]
                                      exact List.take_left
  have dn : x.take (tw 58 x).length = tw 58 x := by conv => lhs; arg 2; rw [← tw_dw 58 x]
                                                    exact List.take_left
  have dd : x.drop (tw 58 x).length = dw 58 x := by conv => lhs; arg 2; rw [← tw_dw 58 x]
                                                    exact List.drop_left
  have hal := tw_len 62 r
  have hxl := tw_len 47 a
  have hnl := tw_len 58 x
  rw [← ha] at hal l1
  rw [← hx] at hxl l2
  refine ⟨a, x, dw 47 a, tw 58 x, (dw 58 x).tail, 8 + a.length, 8 + x.length, 8 + (tw 58 x).length, q1, q2, q3, ?_, ?_, ?_, ?_, ?_⟩
  · rw [← List.drop_drop, ← hr, show 8 + a.length - (8 + x.length) = a.length - x.length by omega, ← dt]
    conv => rhs; rw [← da]
    rw [List.drop_take]
  · rw [← hr, show 8 + (tw 58 x).length - 8 = (tw 58 x).length by omega]
    conv => rhs; rw [← dn]
    conv => rhs; arg 2; rw [← dx]
    conv => rhs; arg 2; arg 2; rw [← da]
    rw [List.take_take, List.take_take]
    congr 1; omega
  · intro _
    rw [show 8 + (tw 58 x).length + 1 = 8 + ((tw 58 x).length + 1) by omega, ← List.drop_drop, ← hr, ← List.drop_one, ← dd, List.drop_drop]
    conv => rhs; arg 2; rw [← dx]
    conv => rhs; arg 2; arg 2; rw [← da]
    rw [List.take_take, List.drop_take]
    congr 1; omega
  · omega
  · unfold cbL
    rw [hp, Bool.true_and, ← hr, tw_has 62 r, ← ha]
    by_cases h1 : a.length < r.length
    · rw [decide_eq_true h1, if_pos rfl]
      unfold cbW
      rw [tw_has 47 a, ← hx]
      by_cases h2 : x.length < a.length
      · rw [decide_eq_true h2, if_pos rfl, if_pos (show 8 + a.length < l.length ∧ 8 + x.length < 8 + a.length from ⟨by omega, by omega⟩), tw_has 58 x]
        by_cases h3 : (tw 58 x).length < x.length
        · rw [decide_eq_true h3, if_pos rfl, if_pos (by omega), cbA_some]
        · rw [decide_eq_false h3, if_neg (by decide), if_neg (by omega), cbA_none]
      · rw [decide_eq_false h2, if_neg (by decide), if_neg (by omega)]
    · rw [decide_eq_false h1, if_neg (by decide), if_neg (by omega)]
end Go.Proofs.YtfceodbpkghkaaaDoor
