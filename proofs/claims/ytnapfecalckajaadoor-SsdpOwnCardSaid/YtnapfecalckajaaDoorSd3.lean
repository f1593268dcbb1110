/- SsdpFinds, plain: what a search asks for, by the program and by the reference. It speaks of no program. -/
import Derived.Test.YtnapfecalckajaaDoorSd2
import Derived.Test.YtnapfecalckajaaDoorFs
namespace Go.Proofs.YtnapfecalckajaaDoor

def crlf4 : List UInt8 := [13, 10, 13, 10]
def msearchT : List UInt8 := [77, 45, 83, 69, 65, 82, 67, 72]
/-- The fields of pieces whose first one is a search's. -/
def ofPieces (ps : List (List UInt8)) : Option (List (List UInt8 × List UInt8)) :=
  if (stR (ps.headD [])).2.2.2 = true ∧ (stR (ps.headD [])).1 = msearchT ∧ (stR (ps.headD [])).2.1 = [42] ∧ (stR (ps.headD [])).2.2.1 = 1 then fieldsL ps.tail else none
/-- The fields of a search. -/
def ssF (t : List UInt8) : Option (List (List UInt8 × List UInt8)) :=
  if Lib.hasSuffix t crlf4 = true ∧ t.length ≤ 1024 then ofPieces (lns (Lib.trimSuffix t crlf4)) else none
def rfF (t : List UInt8) : Option (List (List UInt8 × List UInt8)) :=
  if (refL (lns t)).2 = true ∧ t.length ≤ 1024 ∧ 2 ≤ (refL (lns t)).1.length then ofPieces (refL (lns t)).1.dropLast else none
theorem hasSuffix_app (b c : List UInt8) : Lib.hasSuffix (b ++ c) c = true := by
  unfold Lib.hasSuffix; simp
theorem suffix_split (t c : List UInt8) (h : Lib.hasSuffix t c = true) : ∃ b, t = b ++ c := by
  unfold Lib.hasSuffix at h
  simp only [List.isSuffixOf_iff_suffix] at h
  obtain ⟨b, hb⟩ := h
  exact ⟨b, hb.symm⟩
theorem trimSuffix_app (b c : List UInt8) : Lib.trimSuffix (b ++ c) c = b := by
  unfold Lib.trimSuffix
  rw [if_pos (hasSuffix_app b c)]
  simp
theorem stR_nil : (stR []).2.2.2 = false := by decide
theorem lnR_nil : (lnR []).2.2 = false := by decide
theorem ofPieces_bad (ps : List (List UInt8)) (h : [] ∈ ps) : ofPieces ps = none := by
  unfold ofPieces
  cases ps with
  | nil => simp at h
  | cons p ps =>
    rcases List.mem_cons.1 h with rfl | h
    · rw [if_neg]
      rintro ⟨hc, _⟩
      rw [List.headD_cons, stR_nil] at hc
      cases hc
    · split
      · have := fieldsL_bad (p :: ps).tail [] h lnR_nil
        cases hf : fieldsL (p :: ps).tail with
        | none => rfl
        | some x => rw [hf] at this; cases this
      · rfl
theorem ssF_rfF (t : List UInt8) : ssF t = rfF t := by
  unfold ssF rfF
  by_cases hs : Lib.hasSuffix t crlf4 = true
  · obtain ⟨b, rfl⟩ := suffix_split t crlf4 hs
    by_cases hg : ∀ p ∈ lns b, p ≠ []
    · have h := (lines_same (b ++ crlf4) (lns b) (lns_ne b) hg).1 ⟨b, rfl, rfl⟩
      rw [h, trimSuffix_app]
      have hl := List.length_pos_iff.2 (lns_ne b)
      by_cases hz : (b ++ crlf4).length ≤ 1024
      · rw [if_pos ⟨hs, hz⟩, if_pos ⟨rfl, hz, by simp; omega⟩]; simp
      · rw [if_neg (fun e => hz e.2), if_neg (fun e => hz e.2.1)]
    · have hb : ([] : List UInt8) ∈ lns b := by
        apply Classical.byContradiction
        intro hn
        exact hg (fun p hp e => hn (e ▸ hp))
      rw [trimSuffix_app, ofPieces_bad _ hb, ite_self]
      have hf : (refL (lns (b ++ crlf4))).2 = false := by
        cases he : (refL (lns (b ++ crlf4))).2 with
        | false => rfl
        | true =>
          exfalso
          obtain ⟨ps, h1, h2, _⟩ := refL_true _ (refL (lns (b ++ crlf4))).1 (Prod.ext rfl he)
          have h3 := lns_app [13, 10] b
          rw [lns_cut, lns_nil, show b ++ 13 :: 10 :: [13, 10] = b ++ crlf4 from rfl, h2] at h3
          have := List.append_cancel_right h3
          exact h1 [] (this ▸ hb) rfl
      rw [hf, if_neg (by simp)]
  · rw [if_neg (fun e => hs e.1)]
    by_cases he : (refL (lns t)).2 = true
    · obtain ⟨ps, h1, h2, h3⟩ := refL_true _ (refL (lns t)).1 (Prod.ext rfl he)
      by_cases hp : ps = []
      · subst hp
        rw [h3, if_neg (by simp)]
      · obtain ⟨b, rfl, _⟩ := lns_end h2 hp
        exact absurd (hasSuffix_app b crlf4) hs
    · rw [if_neg (fun e => he e.1)]
/-- The value of a name, if there is just one. -/
def oneL (fs : List (List UInt8 × List UInt8)) (name : List UInt8) : List UInt8 × Bool := match getL fs name with | [v] => (v, true) | _ => ([], false)
def manT : List UInt8 := [109, 97, 110]
def stT : List UInt8 := [115, 116]
def mxT : List UInt8 := [109, 120]
def discT : List UInt8 := [34, 115, 115, 100, 112, 58, 100, 105, 115, 99, 111, 118, 101, 114, 34]
/-- What a search asks for, if it is one. -/
def askL (o : Option (List (List UInt8 × List UInt8))) : Option (List UInt8) :=
  match o with
  | none => none
  | some fs => if (oneL fs manT).1 = discT ∧ (oneL fs stT).2 = true ∧ (numR 10 9999999 (oneL fs mxT).1).2 = true ∧ (numR 10 9999999 (oneL fs mxT).1).1 ≠ 0 then some (oneL fs stT).1 else none
theorem num_nil : (numR 10 9999999 []).2 = false := by decide
theorem one_false {fs : List (List UInt8 × List UInt8)} {n : List UInt8} (h : (oneL fs n).2 = false) : (oneL fs n).1 = [] := by
  unfold oneL at h ⊢
  split <;> simp_all
end Go.Proofs.YtnapfecalckajaaDoor
