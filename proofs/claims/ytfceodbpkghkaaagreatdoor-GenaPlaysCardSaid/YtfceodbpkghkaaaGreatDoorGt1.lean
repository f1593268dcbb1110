/- CALLBACK, TIMEOUT and what is told of variables, plainly. It speaks of no program. -/
import Derived.Test.YtfceodbpkghkaaaGreatDoorVr1
import Derived.Test.YtfceodbpkghkaaaGreatDoorRp6
import Derived.Test.YtfceodbpkghkaaaGreatDoorMH
namespace Go.Proofs.YtfceodbpkghkaaaGreatDoor
open Go.RowKit
set_option linter.unusedVariables false
set_option linter.unusedSimpArgs false

abbrev Gs := List UInt8
/-- What is ahead of a byte; what is from it on. -/
def tw (q : UInt8) (l : Gs) : Gs := l.takeWhile (· != q)
def dw (q : UInt8) (l : Gs) : Gs := l.dropWhile (· != q)
theorem tw_dw (q : UInt8) (l : Gs) : tw q l ++ dw q l = l := List.takeWhile_append_dropWhile
theorem tw_len (q : UInt8) (l : Gs) : (tw q l).length ≤ l.length := (List.takeWhile_sublist _).length_le
theorem dw_len (q : UInt8) (l : Gs) : (dw q l).length ≤ l.length := (List.dropWhile_sublist _).length_le
theorem tw_cons_eq (q : UInt8) (l : Gs) : tw q (q :: l) = [] := by simp [tw]
theorem tw_cons_ne {q c : UInt8} (l : Gs) (h : c ≠ q) : tw q (c :: l) = c :: tw q l := by simp [tw, h]
theorem dw_cons_eq (q : UInt8) (l : Gs) : dw q (q :: l) = q :: l := by simp [dw]
theorem dw_cons_ne {q c : UInt8} (l : Gs) (h : c ≠ q) : dw q (c :: l) = dw q l := by simp [dw, h]
theorem dw_nil_iff (q : UInt8) (l : Gs) : dw q l = [] ↔ l.contains q = false := by
  induction l with
  | nil => simp [dw]
  | cons c l ih =>
    by_cases h : c = q
    · subst h; rw [dw_cons_eq]; simp
    · rw [dw_cons_ne l h, ih, List.contains_cons]
      have : (q == c) = false := by rw [beq_eq_false_iff_ne]; exact fun e => h e.symm
      rw [this, Bool.false_or]
theorem gpre_one (c q : UInt8) (t : Gs) : Lib.hasPrefix (c :: t) [q] = (q == c) := by
  unfold Lib.hasPrefix
  simp [List.isPrefixOf]
theorem gindex_le (s : List UInt8) : ∀ l : List UInt8, -1 ≤ Lib.index l s ∧ (0 ≤ Lib.index l s → Lib.index l s + s.length ≤ l.length) := by
  intro l
  induction l with
  | nil =>
    unfold Lib.index
    cases s with
    | nil => simp
    | cons _ _ => simp
  | cons x l ih =>
    unfold Lib.index
    split
    · rename_i h
      have := (List.isPrefixOf_iff_prefix.1 h).length_le
      exact ⟨by omega, fun _ => by omega⟩
    · split
      · exact ⟨by omega, fun h => by omega⟩
      · rename_i h
        have h' : Lib.index l s ≠ -1 := by simpa using h
        refine ⟨by omega, fun h0 => ?_⟩
        have := ih.2 (by omega)
        simp only [List.length_cons]
        omega
theorem gidx_cons (c q : UInt8) (t : Gs) (h : c ≠ q) : Lib.index (c :: t) [q] = if Lib.index t [q] = -1 then -1 else Lib.index t [q] + 1 := by
  have hp : [q].isPrefixOf (c :: t) = false := by simp [List.isPrefixOf]; exact fun e => h e.symm
  conv => lhs; unfold Lib.index
  rw [hp]
  simp
theorem gcut_cons (c q : UInt8) (t : Gs) (h : c ≠ q) : Lib.cut (c :: t) [q] = (c :: (Lib.cut t [q]).1, (Lib.cut t [q]).2.1, (Lib.cut t [q]).2.2) := by
  have h1 := gindex_le [q] t
  have h2 := gidx_cons c q t h
  unfold Lib.cut
  by_cases h0 : 0 ≤ Lib.index t [q]
  · rw [if_pos h0]
    rw [if_neg (by omega)] at h2
    rw [h2, if_pos (by omega)]
    obtain ⟨k, hk⟩ : ∃ k : Nat, Lib.index t [q] = k := ⟨(Lib.index t [q]).toNat, by omega⟩
    rw [hk, show ((k : Int) + 1).toNat = k + 1 by omega, show ((k : Int)).toNat = k by omega]
    simp [Nat.add_right_comm]
  · rw [if_neg h0]
    rw [if_pos (by omega)] at h2
    rw [h2, if_neg (by omega)]
theorem gcut_same (q : UInt8) (t : Gs) : Lib.cut (q :: t) [q] = ([], t, true) := by
  have hp : [q].isPrefixOf (q :: t) = true := by simp [List.isPrefixOf]
  unfold Lib.cut Lib.index
  rw [hp]
  simp
theorem cut_tw (q : UInt8) (l : Gs) : Lib.cut l [q] = (tw q l, (dw q l).tail, l.contains q) := by
  induction l with
  | nil => rfl
  | cons c l ih =>
    by_cases h : c = q
    · subst h
      rw [gcut_same, tw_cons_eq, dw_cons_eq]
      simp
    · rw [gcut_cons c q l h, ih, tw_cons_ne l h, dw_cons_ne l h, List.contains_cons]
      have : (q == c) = false := by rw [beq_eq_false_iff_ne]; exact fun e => h e.symm
      rw [this, Bool.false_or]
theorem ib_tw (q : UInt8) (l : Gs) : Lib.indexByte l q = if l.contains q then ((tw q l).length : Int) else -1 := by
  induction l with
  | nil => rfl
  | cons c l ih =>
    unfold Lib.indexByte
    by_cases h : c = q
    · subst h
      rw [tw_cons_eq]
      simp
    · have h1 : (c == q) = false := by rw [beq_eq_false_iff_ne]; exact h
      have h2 : (q == c) = false := by rw [beq_eq_false_iff_ne]; exact fun e => h e.symm
      rw [h1, tw_cons_ne l h, List.contains_cons, h2, Bool.false_or, ih]
      cases l.contains q
      · simp
      · simp only [if_true, List.length_cons]
        have : (((tw q l).length : Int) == -1) = false := by rw [beq_eq_false_iff_ne]; omega
        rw [this]
        simp
def hdH : Gs := [60, 104, 116, 116, 112, 58, 47, 47]
def secP : Gs := [83, 101, 99, 111, 110, 100, 45]
def cbB (b : UInt8) : Bool := decide (32 < b.toNat) && decide (b.toNat ≤ 126) && b != 60
/-- A CALLBACK's parts. -/
def cbA (nm : Gs) (dig : Option Gs) (tg : Gs) : Option (Nat × Nat × Gs) :=
  if (prsR nm).2 && decide (tg.length ≤ 256) && tg.all cbB then
    match dig with
    | none => some ((prsR nm).1, 80, tg)
    | some d => if (vnum 65535 d).2 && decide (0 < (vnum 65535 d).1) then some ((prsR nm).1, (vnum 65535 d).1.toNat, tg) else none
  else none
def cbW (a : Gs) : Option (Nat × Nat × Gs) := if a.contains 47 then cbA (tw 58 (tw 47 a)) (if (tw 47 a).contains 58 then some (dw 58 (tw 47 a)).tail else none) (dw 47 a) else none
def cbL (s : Gs) : Option (Nat × Nat × Gs) := if Lib.hasPrefix s hdH && (s.drop 8).contains 62 then cbW (tw 62 (s.drop 8)) else none
def secL (s : Gs) : Nat := if Lib.hasPrefix s secP && (numR 10 9999999 (s.drop 7)).2 then min (max (numR 10 9999999 (s.drop 7)).1.toNat 60) 1800 else 1800
def prA : Gs := [60, 101, 58, 112, 114, 111, 112, 101, 114, 116, 121, 62, 60]
def prB : Gs := [60, 47]
def prC : Gs := [62, 60, 47, 101, 58, 112, 114, 111, 112, 101, 114, 116, 121, 62]
def oneP (x : Gs × Gs) : Gs := prA ++ x.1 ++ [62] ++ repL escP x.2 ++ prB ++ x.1 ++ prC
end Go.Proofs.YtfceodbpkghkaaaGreatDoor
