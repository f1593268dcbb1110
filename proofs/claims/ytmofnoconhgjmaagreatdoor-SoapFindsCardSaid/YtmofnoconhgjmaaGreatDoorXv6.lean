/- XmlTurned, plainly: what is turned is read as it was; how long a text is at most. It speaks of no program. -/
import Derived.Test.YtmofnoconhgjmaaGreatDoorXv3
namespace Go.Proofs.YtmofnoconhgjmaaGreatDoor
open Go.RowKit
set_option linter.unusedVariables false
set_option linter.unusedSimpArgs false

theorem sm_sz2 (f : Fo) (h : SmF f) : f.sz ≤ f.cnt * 41 := by
  induction f with
  | nil => exact Nat.le_refl _
  | cons s n ats tx kids next ih1 ih2 =>
    obtain ⟨h0, h1, h2⟩ := h
    have := ih1 h1
    have := ih2 h2
    have := h0.2.1
    simp only [Fo.sz, Fo.cnt] at this ⊢
    omega
theorem pI_len (i : Nat) (hi : i < 100) : (pI i).length ≤ 21 := by
  have : (Lib.decDigits i).length ≤ 20 := by rw [Lib.decDigits_length]; exact Lib.nDigits_le20 i (by omega)
  unfold pI
  rw [List.length_cons]
  omega
theorem oneT_len {i : Nat} {a : At} (hi : i < 100) (h1 : a.1.length ≤ 9000) (h2 : a.2.1.length ≤ 300) (h3 : a.2.2.length ≤ 9000) : (oneT i a).length ≤ 120000 := by
  have q1 := quoL_len a.1
  have q3 := quoL_len a.2.2
  have hp := pI_len i hi
  have hn : nsT.length = 5 := rfl
  unfold oneT spcT atT
  split <;> simp only [List.length_cons, List.length_append, hn] <;> omega
theorem rawK_len {ats : List At} (hl : ats.length ≤ 40) (h : ∀ i, i < ats.length → (ats.getD i at0).2.1.length ≤ 300 ∧ (ats.getD i at0).2.2.length ≤ 9000 ∧ (ats.getD i at0).1.length ≤ 9000) : ∀ i, i ≤ ats.length → (rawK ats i).length ≤ i * 120000 := by
  intro i
  induction i with
  | zero => intro _; rw [rawK_zero]; exact Nat.le_refl _
  | succ i ih =>
    intro hi
    obtain ⟨h1, h2, h3⟩ := h i (by omega)
    rw [rawK_succ (getD_some (show i < ats.length by omega)), List.length_append]
    have := ih (by omega)
    have := oneT_len (i := i) (by omega) h3 h1 h2
    omega
theorem textE_len1 {e : El} (h : SmB e) : (textE e).length ≤ 4990000 + (textF e.kids).length := by
  obtain ⟨s, n, ats, tx, k⟩ := e
  obtain ⟨-, h2, h3, h4, h5, h6⟩ := h
  simp only at h2 h3 h4 h5 h6 ⊢
  have q1 := quoL_len s
  have q2 := txtL_len tx
  have q3 := rawK_len h2 h6 ats.length (Nat.le_refl _)
  have hn : nsT.length = 5 := rfl
  rw [textE_parts]
  unfold hdT enT
  simp only [List.length_cons, List.length_append, List.length_nil, hn]
  omega
theorem textF_len2 : ∀ (f : Fo), SmF f → (textF f).length ≤ f.cnt * 5000000 := by
  intro f
  induction f with
  | nil => intro _; exact Nat.zero_le _
  | cons s n ats tx k next ih1 ih2 =>
    rintro ⟨h0, h1, h2⟩
    have a1 := textE_len1 h0
    have a2 := ih1 h1
    have a3 := ih2 h2
    rw [textF_cons, List.length_append]
    simp only [Fo.cnt] at a1 ⊢
    omega
theorem textE_len {e : El} (h : SmE e) (hc : e.cnt ≤ 300) : (textE e).length ≤ 100000000000 := by
  have a1 := textE_len1 h.1
  have a2 := textF_len2 e.kids h.2
  unfold El.cnt at hc
  omega
theorem flatE_cnt (e : El) : (flatE 0 e).length = e.cnt := by
  unfold flatE El.cnt
  rw [List.length_cons, flat_cnt]
  omega
/-- What is turned, but for its last mark. -/
theorem text_cut (e : El) : ∃ P, textE e = P ++ [62] ∧ ∀ b1 b2, 60 :: bodyT e b1 b2 = P ++ (b1 ++ 62 :: b2) := by
  refine ⟨60 :: (e.n ++ (rawT (rawE e.s e.ats) ++ 62 :: (txtL e.tx ++ (textF e.kids ++ 60 :: (47 :: e.n))))), ?_, fun b1 b2 => ?_⟩
  · unfold textE bodyT; simp
  · unfold bodyT; simp
def padL : Bs := [32, 9, 10, 13, 32, 9, 10, 13]
theorem pad_blank (k : Nat) : ∀ d ∈ padL.take k, blkL.contains d = true := by
  intro d hd
  have := List.mem_of_mem_take hd
  clear hd
  revert d
  decide +kernel
theorem pad_plain (k : Nat) : plainB (padL.take k) = true := by
  unfold plainB
  rw [List.all_eq_true]
  intro d hd
  have := List.mem_of_mem_take hd
  clear hd
  revert d
  decide +kernel
/-- The document that is turned. -/
def turnT (a c d : Nat) (note P : Bs) : Bs := padL.take a ++ 60 :: 33 :: 45 :: 45 :: (note ++ 45 :: 45 :: 62 :: (P ++ (padL.take c ++ 62 :: padL.take d)))
theorem turn_parse {e : El} (h : ∀ y ∈ flatE 0 e, OkX y.1 y.2) (hc : (flatE 0 e).length ≤ 64) {P : Bs} (hP : ∀ b1 b2, 60 :: bodyT e b1 b2 = P ++ (b1 ++ 62 :: b2)) {note : Bs} (hn : ∀ d ∈ note, d ≠ 62) (hp : plainB note = true) (a c d : Nat)
    (hl : (turnT a c d note P).length ≤ 8000) : parseL (turnT a c d note P) = (e, 0) ∧ parseL (declT ++ turnT a c d note P) = (e, 0) := by
  obtain ⟨w1, w2, w3, w4⟩ := ok_wfe h hc
  have e1 : turnT a c d note P = padL.take a ++ 60 :: 33 :: 45 :: 45 :: (note ++ 45 :: 45 :: 62 :: 60 :: bodyT e (padL.take c) (padL.take d)) := by
    unfold turnT; rw [← hP]
  have hpl : plainB (turnT a c d note P) = true := by
    rw [e1]
    simp only [plain_app, plain_cons, pad_plain, hp, body_plain w1 w2 w3 w4]
    decide +kernel
  have hd1 : docL (turnT a c d note P) = some (e, false) := by
    rw [e1]
    exact doc_turned e _ note _ _ w1 (pad_blank a) (pad_blank c) (pad_blank d) hn
  have hd2 : docL (declT ++ turnT a c d note P) = some (e, false) := by
    rw [e1]
    exact doc_decl e _ note _ _ w1 (pad_blank a) (pad_blank c) (pad_blank d) hn
  have hdl : declT.length = 21 := rfl
  constructor
  · unfold parseL
    rw [if_neg (by omega), hd1]
    simp only [hpl]
    rfl
  · unfold parseL
    rw [if_neg (by rw [List.length_append, hdl]; omega), hd2]
    simp only [plain_app, hpl, show plainB declT = true by decide +kernel]
    rfl
end Go.Proofs.YtmofnoconhgjmaaGreatDoor
