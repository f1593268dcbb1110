/- The reader's plain model: what is fed in two parts is read as what is fed at once. It speaks of no program. -/
import Derived.Test.YtldbcdiomkkinaaGreatDoorHw1
import Derived.Test.YtldbcdiomkkinaaGreatDoorHtx
namespace Go.Proofs.YtldbcdiomkkinaaGreatDoor
open Go.RowKit

theorem blockL_none {r : List UInt8} {least : Nat} (h : lineL r = none) : blockL r least = none := by
  unfold blockL blockGo
  rw [h]
theorem plus_head {s : Ps} (b : List UInt8) (hs : s.stage = 0) : Same2 s b (headS s) (headS (s.plus b)) := by
  unfold headS
  have hp : (s.plus b).rest = s.rest ++ b := rfl
  have hk : (s.plus b).skip = s.skip := rfl
  have hfar : ∀ {ts x r2}, blockL s.rest 1 = none → blockL (s.rest ++ b) 1 = some (ts, x, r2) → 4096 ≤ s.rest.length → ¬ (s.rest ++ b).length - r2.length ≤ 4096 := fun h1 h2 h3 => by
    have := blockL_far h1 h2
    rw [List.length_append]; omega
  rw [hp, hk]
  cases hl : lineL s.rest with
  | none =>
    dsimp only
    split
    · rename_i h4
      have h4' : 4096 ≤ (s.rest ++ b).length := by rw [List.length_append]; omega
      cases hl2 : lineL (s.rest ++ b) with
      | none => dsimp only; rw [if_pos h4']; exact Same2.fail _ _ _
      | some p =>
        obtain ⟨t, x, r'⟩ := p
        have hf := (lineL_far hl hl2).2
        dsimp only
        rw [if_neg (fun h => by rw [h.1] at hf; simp at hf; omega)]
        cases hb : blockL (s.rest ++ b) 1 with
        | none => dsimp only; rw [if_pos h4']; exact Same2.fail _ _ _
        | some q =>
          obtain ⟨ts, x2, r2⟩ := q
          dsimp only
          rw [if_neg (hfar (blockL_none hl) hb h4)]
          exact Same2.fail _ _ _
    · exact .inl rfl
  | some p =>
    obtain ⟨t, x, r'⟩ := p
    rw [lineL_app b hl]
    dsimp only
    split
    · refine .inr ⟨rfl, ?_⟩
      dsimp only
      rw [if_neg (by omega)]
      rfl
    · cases hb : blockL s.rest 1 with
      | none =>
        dsimp only
        split
        · rename_i h4
          have h4' : 4096 ≤ (s.rest ++ b).length := by rw [List.length_append]; omega
          cases hb2 : blockL (s.rest ++ b) 1 with
          | none => dsimp only; rw [if_pos h4']; exact Same2.fail _ _ _
          | some q =>
            obtain ⟨ts, x2, r2⟩ := q
            dsimp only
            rw [if_neg (hfar hb hb2 h4)]
            exact Same2.fail _ _ _
        · exact .inl rfl
      | some q =>
        obtain ⟨ts, x2, r2⟩ := q
        rw [blockL_app b hb]
        dsimp only
        rw [show (s.rest ++ b).length - (r2 ++ b).length = s.rest.length - r2.length by rw [List.length_append, List.length_append]; omega]
        split
        · exact Same2.judge s { s with rest := r2 } b ts x2 hs
        · exact Same2.fail _ _ _
theorem plus_body {s : Ps} (b : List UInt8) : Same2 s b (bodyS s) (bodyS (s.plus b)) := by
  unfold bodyS
  have hp : (s.plus b).rest = s.rest ++ b := rfl
  split
  · exact .inl rfl
  · rename_i h
    rw [if_neg (by rw [hp, List.length_append]; show ¬ s.rest.length + b.length < s.left; omega)]
    have := Same2.done s { s with req := { s.req with body := s.rest.take s.left }, rest := s.rest.drop s.left } b
    unfold Ps.plus at this ⊢
    dsimp only at this ⊢
    rw [List.take_append_of_le_length (by omega), List.drop_append_of_le_length (by omega)]
    exact this
theorem four_three (p : Prop) [Decidable p] : ¬ (if p then 4 else 3 : Nat) = 5 := by split <;> decide
theorem plus_size {s : Ps} (b : List UInt8) : Same2 s b (sizeS s) (sizeS (s.plus b)) := by
  unfold sizeS
  have hp : (s.plus b).rest = s.rest ++ b := rfl
  have hq : (s.plus b).req = s.req := rfl
  rw [hp, hq]
  cases hl : lineL s.rest with
  | none =>
    dsimp only
    split
    · cases hl2 : lineL (s.rest ++ b) with
      | none => dsimp only; rw [if_pos (by rw [List.length_append]; omega)]; exact Same2.fail _ _ _
      | some p =>
        obtain ⟨t, x, r'⟩ := p
        have hf := (lineL_far hl hl2).1
        dsimp only
        rw [if_pos (by rw [List.length_append]; omega)]
        exact Same2.fail _ _ _
    · exact .inl rfl
  | some p =>
    obtain ⟨t, x, r'⟩ := p
    rw [lineL_app b hl]
    dsimp only
    rw [show (s.rest ++ b).length - (r' ++ b).length = s.rest.length - r'.length by rw [List.length_append, List.length_append]; omega]
    split
    · exact Same2.fail _ _ _
    · split
      · exact Same2.fail _ _ _
      · split
        · exact Same2.fail _ _ _
        · refine .inr ⟨rfl, ?_⟩
          dsimp only
          rw [if_neg (four_three _)]
          rfl
theorem plus_chunk {s : Ps} (b : List UInt8) : Same2 s b (chunkS s) (chunkS (s.plus b)) := by
  unfold chunkS
  have hp : (s.plus b).rest = s.rest ++ b := rfl
  have hq : (s.plus b).left = s.left := rfl
  rw [hp, hq]
  have hget : ∀ i, i < s.rest.length → (s.rest ++ b).getD i 0 = s.rest.getD i 0 := fun i hi => by
    rw [List.getD_eq_getElem?_getD, List.getD_eq_getElem?_getD, List.getElem?_append_left hi]
  split
  · rename_i h
    rw [if_pos (by
      rw [List.length_append]
      rcases h with h | h
      · exact .inl ⟨by omega, by rw [hget _ h.1]; exact h.2⟩
      · exact .inr ⟨by omega, by rw [hget _ h.1]; exact h.2⟩)]
    exact Same2.fail _ _ _
  · rename_i h
    split
    · exact .inl rfl
    · rename_i h2
      rw [if_neg (by
        rintro (⟨_, h3⟩ | ⟨_, h3⟩)
        · rw [hget _ (by omega)] at h3; exact h (.inl ⟨by omega, h3⟩)
        · rw [hget _ (by omega)] at h3; exact h (.inr ⟨by omega, h3⟩)), if_neg (by rw [List.length_append]; omega)]
      refine .inr ⟨rfl, ?_⟩
      dsimp only
      rw [if_neg (by decide)]
      unfold Ps.plus
      dsimp only
      rw [List.take_append_of_le_length (by omega), List.drop_append_of_le_length (by omega)]
theorem plus_trailer {s : Ps} (b : List UInt8) : Same2 s b (trailerS s) (trailerS (s.plus b)) := by
  unfold trailerS
  have hp : (s.plus b).rest = s.rest ++ b := rfl
  rw [hp]
  cases hb : blockL s.rest 0 with
  | none =>
    dsimp only
    split
    · cases hb2 : blockL (s.rest ++ b) 0 with
      | none => dsimp only; rw [if_pos (by rw [List.length_append]; omega)]; exact Same2.fail _ _ _
      | some q =>
        obtain ⟨ts, x2, r2⟩ := q
        have hf := blockL_far hb hb2
        dsimp only
        rw [if_pos (by rw [List.length_append]; omega)]
        exact Same2.fail _ _ _
    · exact .inl rfl
  | some q =>
    obtain ⟨ts, x2, r2⟩ := q
    rw [blockL_app b hb]
    dsimp only
    rw [show (s.rest ++ b).length - (r2 ++ b).length = s.rest.length - r2.length by rw [List.length_append, List.length_append]; omega]
    split
    · exact Same2.fail _ _ _
    · split
      · exact Same2.fail _ _ _
      · exact Same2.done s { s with rest := r2 } b
theorem plus_step {s : Ps} (b : List UInt8) (h4 : s.stage ≤ 5) (h5 : s.stage ≠ 5) : Same2 s b (stepS s) (stepS (s.plus b)) := by
  unfold stepS
  rw [show (s.plus b).stage = s.stage from rfl]
  rcases s with ⟨rest, stage, skip, req, left⟩
  dsimp only at h4 h5 ⊢
  match stage, h4, h5 with
  | 0, _, _ => exact plus_head b rfl
  | 1, _, _ => exact plus_body b
  | 2, _, _ => exact plus_size b
  | 3, _, _ => exact plus_chunk b
  | 4, _, _ => exact plus_trailer b
  | 5, _, h5 => exact absurd rfl h5
  | n + 6, h4, _ => omega
/-- The ways in which a step ends. -/
theorem step_cases (C : Ps × Option Pd → Prop) (hf : ∀ st, C (failS st)) (hd : ∀ s', C (doneS s')) (he : ∀ r : Ps × Option Pd, r.1.stage ≠ 5 → r.2 = none → C r) {s : Ps} (h4 : s.stage ≤ 5) (h5 : s.stage ≠ 5) : C (stepS s) := by
  have hj : ∀ (s' : Ps) (texts : List (List UInt8)) (bare : Bool), C (judgeS s' texts bare) := fun s' texts bare => by
    unfold judgeS
    dsimp only
    split
    · exact hf _
    split
    · exact hf _
    split
    · exact hf _
    split
    · exact hf _
    split
    · exact hf _
    split
    · exact hf _
    split
    · exact hd _
    · exact he _ (framing_stage _) rfl
  unfold stepS
  rcases s with ⟨rest, stage, skip, req, left⟩
  dsimp only at h4 h5 ⊢
  match stage, h4, h5 with
  | 0, _, h5 =>
    show C (headS _)
    unfold headS
    split
    · split
      · exact hf _
      · exact he _ h5 rfl
    · split
      · exact he _ h5 rfl
      · split
        · split
          · exact hf _
          · exact he _ h5 rfl
        · split
          · exact hj _ _ _
          · exact hf _
  | 1, _, h5 =>
    show C (bodyS _)
    unfold bodyS
    split
    · exact he _ h5 rfl
    · exact hd _
  | 2, _, h5 =>
    show C (sizeS _)
    unfold sizeS
    split
    · split
      · exact hf _
      · exact he _ h5 rfl
    · split
      · exact hf _
      · dsimp only
        split
        · exact hf _
        · split
          · exact hf _
          · exact he _ (by show (if _ = 0 then 4 else 3) ≠ 5; split <;> decide) rfl
  | 3, _, h5 =>
    show C (chunkS _)
    unfold chunkS
    split
    · exact hf _
    · split
      · exact he _ h5 rfl
      · exact he _ (by show (2 : Nat) ≠ 5; decide) rfl
  | 4, _, h5 =>
    show C (trailerS _)
    unfold trailerS
    split
    · split
      · exact hf _
      · exact he _ h5 rfl
    · split
      · exact hf _
      · split
        · exact hf _
        · exact hd _
  | 5, _, h5 => exact absurd rfl h5
  | n + 6, h4, _ => omega
theorem step_dead {s : Ps} (h4 : s.stage ≤ 5) (h5 : s.stage ≠ 5) : (stepS s).1.stage = 5 → (stepS s).1 = Ps.dead := by
  refine step_cases (fun r => r.1.stage = 5 → r.1 = Ps.dead) (fun _ _ => rfl) (fun s' => ?_) (fun r h _ e => absurd e h) h4 h5
  unfold doneS
  cases s'.req.keep
  · exact fun _ => rfl
  · intro h; exact absurd h (by show ¬ (0 : Nat) = 5; decide)
/-- When a step of reading is the last one. -/
def stopB (s : Ps) (r : Ps × Option Pd) : Prop := r.1.stage = 5 ∨ (r.2.isNone = true ∧ r.1.stage = s.stage ∧ r.1.rest.length = s.rest.length)
theorem feedGo_fuel : ∀ (f f' : Nat) (s : Ps) (out : List Pd), PsInv s → s.stage ≠ 5 → muS s < f → muS s < f' → feedGo f s out = feedGo f' s out
  | 0, _, _, _, _, _, h, _ => by omega
  | _, 0, _, _, _, _, _, h => by omega
  | f + 1, f' + 1, s, out, hi, h5, h, h' => by
    have hSF := SF.step hi h5
    unfold feedGo
    dsimp only
    split
    · rfl
    · rename_i hc
      exact feedGo_fuel f f' _ _ hSF.1 (fun e => hc (.inl e)) (fd_mu hSF hc rfl h) (fd_mu hSF hc rfl h')
theorem feedGo_out : ∀ (f : Nat) (s : Ps) (out : List Pd), feedGo f s out = (out ++ (feedGo f s []).1, (feedGo f s []).2)
  | 0, s, out => by simp [feedGo]
  | f + 1, s, out => by
    unfold feedGo
    dsimp only
    split
    · simp
    · rw [feedGo_out f _ (out ++ _), feedGo_out f _ ([] ++ _)]
      simp
theorem feedGo_inv : ∀ (f : Nat) (s : Ps) (out : List Pd), PsInv s → s.stage ≠ 5 → muS s < f → PsInv (feedGo f s out).2 ∧ (feedGo f s out).2.rest.length ≤ s.rest.length
  | 0, _, _, _, _, h => by omega
  | f + 1, s, out, hi, h5, h => by
    have hSF := SF.step hi h5
    have hr : (stepS s).1.stage ≠ 5 → (stepS s).1.rest.length ≤ s.rest.length := fun h => SF.rest hSF h5 (fun e => absurd e h)
    unfold feedGo
    dsimp only
    split
    · refine ⟨hSF.1, ?_⟩
      by_cases hd : (stepS s).1.stage = 5
      · rw [step_dead hi.2.2.2.1 h5 hd]
        exact Nat.zero_le _
      · exact hr hd
    · rename_i hc
      have h5' : (stepS s).1.stage ≠ 5 := fun e => hc (.inl e)
      have := feedGo_inv f _ (out ++ (stepS s).2.toList) hSF.1 h5' (fd_mu hSF hc rfl h)
      exact ⟨this.1, Nat.le_trans this.2 (hr h5')⟩
/-- What is read of two parts. -/
theorem feedGo_plus (b : List UInt8) : ∀ (f : Nat) (s : Ps) (out : List Pd) (F : Nat), PsInv s → PsInv (s.plus b) → s.stage ≠ 5 → muS s < f → muS (s.plus b) < F →
    feedGo F (s.plus b) out = if (feedGo f s out).2.stage = 5 then feedGo f s out else feedGo (2 * ((feedGo f s out).2.rest ++ b).length + 2) ((feedGo f s out).2.plus b) (feedGo f s out).1
  | 0, _, _, _, _, _, _, h, _ => by omega
  | f + 1, s, out, 0, _, _, _, _, h => by omega
  | f + 1, s, out, F + 1, hi, hib, h5, hf, hF => by
    have hSF := SF.step hi h5
    have hSFb := SF.step hib h5
    have hS := plus_step (s := s) b hi.2.2.2.1 h5
    have hmu : ∀ t : Ps, muS t < 2 * t.rest.length + 2 := fun t => by unfold muS; split <;> omega
    by_cases hst : stopB s (stepS s)
    · have e1 : feedGo (f + 1) s out = (out ++ (stepS s).2.toList, (stepS s).1) := by
        unfold feedGo
        exact if_pos hst
      rw [e1]
      dsimp only
      by_cases hd : (stepS s).1.stage = 5
      · rw [if_pos hd]
        rcases hS with hs | ⟨h1, h2⟩
        · rw [hs] at hd; exact absurd hd h5
        · rw [if_pos hd] at h2
          unfold feedGo
          dsimp only
          rw [if_pos (.inl (by rw [h2]; exact hd)), h1, h2]
      · rw [if_neg hd]
        have hsame : (stepS s) = (s, none) := by
          rcases hst with h | ⟨h1, h2, h3⟩
          · exact absurd h hd
          · rcases hSF.2 with h | ⟨h4, h6⟩ | h
            · exact absurd h hd
            · exact Prod.ext h6 h4
            · exfalso; unfold muS at h; rw [h2, h3] at h; omega
        rw [hsame]
        dsimp only
        rw [show out ++ (none : Option Pd).toList = out by simp]
        exact feedGo_fuel _ _ _ _ hib h5 hF (by have := hmu (s.plus b); exact this)
    · have hd : (stepS s).1.stage ≠ 5 := fun e => hst (.inl e)
      have e1 : feedGo (f + 1) s out = feedGo f (stepS s).1 (out ++ (stepS s).2.toList) := by
        conv => lhs; unfold feedGo
        exact if_neg hst
      rcases hS with hs | ⟨h1, h2⟩
      · exact absurd (.inr ⟨by rw [hs]; rfl, by rw [hs], by rw [hs]⟩) hst
      · rw [if_neg hd] at h2
        have hstb : ¬ stopB (s.plus b) (stepS (s.plus b)) := by
          rintro (h | ⟨g1, g2, g3⟩)
          · rw [h2] at h; exact hd h
          · refine hst (.inr ⟨by rw [← h1]; exact g1, by rw [h2] at g2; exact g2, ?_⟩)
            rw [h2] at g3
            have g4 : ((stepS s).1.rest ++ b).length = (s.rest ++ b).length := g3
            rw [List.length_append, List.length_append] at g4
            omega
        have e2 : feedGo (F + 1) (s.plus b) out = feedGo F ((stepS s).1.plus b) (out ++ (stepS s).2.toList) := by
          conv => lhs; unfold feedGo
          refine (if_neg hstb).trans ?_
          rw [h1, h2]
        have hmb := fd_mu hSFb hstb rfl hF
        have hib1 := hSFb.1
        rw [h2] at hmb hib1
        rw [e1, e2]
        exact feedGo_plus b f _ _ _ hSF.1 hib1 hd (fd_mu hSF hst rfl hf) hmb
theorem feedL_inv {s : Ps} {l : List UInt8} (hi : PsInv s) (hl : s.rest.length + l.length ≤ 200000) : PsInv (feedL s l).2 ∧ (feedL s l).2.rest.length ≤ s.rest.length + l.length := by
  unfold feedL
  by_cases h5 : s.stage = 5
  · rw [if_pos h5]
    exact ⟨hi, Nat.le_add_right _ _⟩
  · rw [if_neg h5]
    have := feedGo_inv (2 * (s.rest ++ l).length + 2) { s with rest := s.rest ++ l } [] ⟨by show (s.rest ++ l).length ≤ 200000; rw [List.length_append]; exact hl, hi.2⟩ h5 (by unfold muS; dsimp only; split <;> omega)
    refine ⟨this.1, ?_⟩
    have h2 := this.2
    exact Nat.le_trans h2 (Nat.le_of_eq List.length_append)
/-- What is fed in two parts is read as what is fed at once. -/
theorem feedL_app {s : Ps} {a b : List UInt8} (hi : PsInv s) (hl : s.rest.length + (a.length + b.length) ≤ 200000) :
    feedL s (a ++ b) = ((feedL s a).1 ++ (feedL (feedL s a).2 b).1, (feedL (feedL s a).2 b).2) := by
  by_cases h5 : s.stage = 5
  · have e1 : ∀ x, feedL s x = ([], s) := fun x => by unfold feedL; exact if_pos h5
    rw [e1, e1, e1]
    rfl
  · have e1 : ∀ x, feedL s x = feedGo (2 * (s.rest ++ x).length + 2) (s.plus x) [] := fun x => by unfold feedL; exact if_neg h5
    have hinv : ∀ x : List UInt8, x.length ≤ a.length + b.length → PsInv (s.plus x) := fun x hx => ⟨by show (s.rest ++ x).length ≤ 200000; rw [List.length_append]; omega, hi.2⟩
    have hmu : ∀ x : List UInt8, muS (s.plus x) < 2 * (s.rest ++ x).length + 2 := fun x => by unfold muS Ps.plus; dsimp only; split <;> omega
    have hpp : (s.plus a).plus b = s.plus (a ++ b) := by unfold Ps.plus; dsimp only; rw [List.append_assoc]
    have hmain := feedGo_plus b _ (s.plus a) [] (2 * (s.rest ++ (a ++ b)).length + 2) (hinv a (by omega)) (by rw [hpp]; exact hinv _ (by rw [List.length_append]; omega)) h5 (hmu a) (by rw [hpp]; exact hmu _)
    rw [hpp, ← e1, ← e1] at hmain
    rw [hmain]
    generalize feedL s a = r
    obtain ⟨o, s1⟩ := r
    dsimp only
    by_cases h6 : s1.stage = 5
    · rw [if_pos h6, show feedL s1 b = ([], s1) by unfold feedL; exact if_pos h6, List.append_nil]
    · rw [if_neg h6, show feedL s1 b = feedGo (2 * (s1.rest ++ b).length + 2) (s1.plus b) [] by unfold feedL; exact if_neg h6]
      exact feedGo_out _ _ _
theorem feedL_nil : feedL Ps.new [] = ([], Ps.new) := by kernel_rfl
end Go.Proofs.YtldbcdiomkkinaaGreatDoor
