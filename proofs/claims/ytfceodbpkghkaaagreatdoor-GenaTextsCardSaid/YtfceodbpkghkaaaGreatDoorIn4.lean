/- The plain law of an address's text: what the two readers of a text compute is the same. -/
import Derived.Test.YtfceodbpkghkaaaGreatDoorIn3
import Derived.Lib.SplitLaws
namespace Go.Proofs.YtfceodbpkghkaaaGreatDoor
open Go.RowKit

/-- The reference's reader, byte by byte. -/
def prs : List UInt8 → Nat → Nat → Nat → Nat → Nat × Bool
  | [], a, n, d, s => if s = 0 ∨ 255 < n ∨ d ≠ 3 then (0, false) else (256 * a + n, true)
  | c :: l, a, n, d, s =>
    if c = 46 then (if s = 0 ∨ 255 < n ∨ 3 ≤ d then (0, false) else prs l (256 * a + n) 0 (d + 1) 0)
    else if c.toNat < 48 ∨ 57 < c.toNat ∨ s = 3 ∨ (0 < s ∧ n = 0) then (0, false) else prs l a (10 * n + (c.toNat - 48)) d (s + 1)
def prsR (l : List UInt8) : Nat × Bool := prs l 0 0 0 0
theorem digit_ne (m : Nat) (h : m < 10) : UInt8.ofNat (48 + m) ≠ 46 ∧ (UInt8.ofNat (48 + m)).toNat = 48 + m := by
  have h1 : (UInt8.ofNat (48 + m)).toNat = 48 + m := by simp; omega
  exact ⟨fun e => by rw [e] at h1; simp at h1; omega, h1⟩
theorem prs_digit (m : Nat) (h : m < 10) (l : List UInt8) (a n d s : Nat) (hs : s < 3) (hn : 0 < s → n ≠ 0) : prs (UInt8.ofNat (48 + m) :: l) a n d s = prs l a (10 * n + m) d (s + 1) := by
  obtain ⟨h1, h2⟩ := digit_ne m h
  rw [prs, if_neg h1, h2, if_neg (by omega)]
  rw [show 48 + m - 48 = m by omega]
theorem prs_digX (b : Nat) (hb : b < 256) (r : List UInt8) (a d : Nat) : prs (digX b ++ r) a 0 d 0 = prs r a b d (digX b).length := by
  unfold digX
  by_cases h1 : b < 10
  · rw [if_pos h1]
    show prs (UInt8.ofNat (48 + b) :: r) a 0 d 0 = _
    rw [prs_digit b h1 r a 0 d 0 (by omega) (by omega)]; simp
  · rw [if_neg h1]
    by_cases h2 : b < 100
    · rw [if_pos h2]
      show prs (UInt8.ofNat (48 + b / 10) :: UInt8.ofNat (48 + b % 10) :: r) a 0 d 0 = _
      rw [prs_digit _ (by omega) _ a 0 d 0 (by omega) (by omega), prs_digit _ (by omega) _ a _ d _ (by omega) (by omega)]
      rw [show 10 * (10 * 0 + b / 10) + b % 10 = b by omega]; rfl
    · rw [if_neg h2]
      show prs (UInt8.ofNat (48 + b / 100) :: UInt8.ofNat (48 + b / 10 % 10) :: UInt8.ofNat (48 + b % 10) :: r) a 0 d 0 = _
      rw [prs_digit _ (by omega) _ a 0 d 0 (by omega) (by omega), prs_digit _ (by omega) _ a _ d _ (by omega) (by omega), prs_digit _ (by omega) _ a _ d _ (by omega) (by omega)]
      rw [show 10 * (10 * (10 * 0 + b / 100) + b / 10 % 10) + b % 10 = b by omega]; rfl
theorem prs_dot (r : List UInt8) (a n d s : Nat) (hs : 1 ≤ s) (hn : n < 256) (hd : d < 3) : prs (46 :: r) a n d s = prs r (256 * a + n) 0 (d + 1) 0 := by
  rw [prs, if_pos rfl, if_neg (by omega)]
theorem digX_pos (b : Nat) : 1 ≤ (digX b).length := by unfold digX; split <;> (try split) <;> simp
def dotted (a b c d : Nat) : List UInt8 := digX a ++ 46 :: (digX b ++ 46 :: (digX c ++ 46 :: digX d))
theorem prs_dotted (a b c d : Nat) (ha : a < 256) (hb : b < 256) (hc : c < 256) (hd : d < 256) : prsR (dotted a b c d) = (256 * (256 * (256 * a + b) + c) + d, true) := by
  unfold prsR dotted
  rw [prs_digX a ha, prs_dot _ _ _ _ _ (digX_pos a) ha (by omega), prs_digX b hb, prs_dot _ _ _ _ _ (digX_pos b) hb (by omega), prs_digX c hc, prs_dot _ _ _ _ _ (digX_pos c) hc (by omega)]
  have h := prs_digX d hd [] (256 * (256 * (256 * 0 + a) + b) + c) (0 + 1 + 1 + 1)
  rw [List.append_nil] at h
  rw [h, prs, if_neg (by have := digX_pos d; omega)]
  simp
/-- What stands of a number, so far. -/
def pre (n s : Nat) : List UInt8 := if s = 0 then [] else digX n
def Inv (n s : Nat) : Prop := (s = 0 ∧ n = 0) ∨ (1 ≤ s ∧ s ≤ 3 ∧ (digX n).length = s ∧ n < 1000)
theorem digX_snoc (n e : Nat) (h1 : 1 ≤ n) (h2 : n < 100) (he : e < 10) : digX (10 * n + e) = digX n ++ [UInt8.ofNat (48 + e)] := by
  unfold digX
  rw [if_neg (show ¬ 10 * n + e < 10 by omega)]
  by_cases h3 : n < 10
  · rw [if_pos (show 10 * n + e < 100 by omega), if_pos h3, show (10 * n + e) / 10 = n by omega, show (10 * n + e) % 10 = e by omega]; rfl
  · rw [if_neg (show ¬ 10 * n + e < 100 by omega), if_neg h3, if_pos h2, show (10 * n + e) / 100 = n / 10 by omega, show (10 * n + e) / 10 % 10 = n % 10 by omega, show (10 * n + e) % 10 = e by omega]; rfl
theorem inv_step (n s e : Nat) (h : Inv n s) (hs : s ≠ 3) (hn : ¬ (0 < s ∧ n = 0)) (he : e < 10) : Inv (10 * n + e) (s + 1) ∧ pre (10 * n + e) (s + 1) = pre n s ++ [UInt8.ofNat (48 + e)] := by
  rcases h with ⟨rfl, rfl⟩ | ⟨h1, h2, h3, h4⟩
  · refine ⟨.inr ⟨by omega, by omega, ?_, by omega⟩, ?_⟩
    · unfold digX; rw [if_pos (by omega)]; rfl
    · unfold pre digX; rw [if_neg (by omega), if_pos (by omega), if_pos rfl]; simp
  · have hn1 : 1 ≤ n := by omega
    have hn2 : n < 100 := by
      apply Nat.lt_of_not_le; intro h
      unfold digX at h3
      rw [if_neg (by omega), if_neg (by omega)] at h3
      simp at h3; omega
    have hx := digX_snoc n e hn1 hn2 he
    refine ⟨.inr ⟨by omega, by omega, by rw [hx]; simp [h3], by omega⟩, ?_⟩
    unfold pre; rw [if_neg (by omega), if_neg (by omega), hx]
def jn : List Nat → List UInt8
  | [] => []
  | [n] => digX n
  | n :: m :: ns => digX n ++ 46 :: jn (m :: ns)
theorem jn_cons (n : Nat) (ns : List Nat) (h : ns ≠ []) : jn (n :: ns) = digX n ++ 46 :: jn ns := by
  cases ns with
  | nil => exact absurd rfl h
  | cons m ns => rfl
theorem prs_sound : ∀ (l : List UInt8) (a n d s x : Nat), Inv n s → d ≤ 3 → prs l a n d s = (x, true) →
    ∃ ns : List Nat, ns.length + d = 4 ∧ (∀ m ∈ ns, m < 256) ∧ pre n s ++ l = jn ns ∧ x = ns.foldl (fun a m => 256 * a + m) a
  | [], a, n, d, s, x, hi, hd, h => by
    rw [prs] at h
    by_cases hc : s = 0 ∨ 255 < n ∨ d ≠ 3
    · rw [if_pos hc] at h; simp at h
    · rw [if_neg hc] at h
      obtain rfl : 256 * a + n = x := by simpa using h
      exact ⟨[n], by simp; omega, by simp; omega, by unfold pre; rw [if_neg (by omega)]; simp [jn], rfl⟩
  | c :: l, a, n, d, s, x, hi, hd, h => by
    rw [prs] at h
    by_cases h46 : c = 46
    · rw [if_pos h46] at h
      by_cases hc : s = 0 ∨ 255 < n ∨ 3 ≤ d
      · rw [if_pos hc] at h; simp at h
      · rw [if_neg hc] at h
        obtain ⟨ns, h1, h2, h3, h4⟩ := prs_sound l _ _ _ _ x (.inl ⟨rfl, rfl⟩) (by omega) h
        refine ⟨n :: ns, by simp; omega, by simp; exact ⟨by omega, h2⟩, ?_, by rw [List.foldl_cons]; exact h4⟩
        have hne : ns ≠ [] := fun e => by rw [e] at h1; simp at h1; omega
        rw [jn_cons n ns hne, ← h3, h46]
        unfold pre; rw [if_neg (by omega), if_pos rfl]; simp
    · rw [if_neg h46] at h
      by_cases hc : c.toNat < 48 ∨ 57 < c.toNat ∨ s = 3 ∨ (0 < s ∧ n = 0)
      · rw [if_pos hc] at h; simp at h
      · rw [if_neg hc] at h
        obtain ⟨i1, i2⟩ := inv_step n s (c.toNat - 48) hi (by omega) (by omega) (by omega)
        obtain ⟨ns, h1, h2, h3, h4⟩ := prs_sound l _ _ _ _ x i1 hd h
        refine ⟨ns, h1, h2, ?_, h4⟩
        rw [← h3, i2]
        have : UInt8.ofNat (48 + (c.toNat - 48)) = c := by rw [show 48 + (c.toNat - 48) = c.toNat by omega]; simp
        rw [this]; simp
theorem textL_dotted (x : Nat) (hx : x < 4294967296) : ∃ a b c d, a < 256 ∧ b < 256 ∧ c < 256 ∧ d < 256 ∧ textL x = dotted a b c d ∧ x = 256 * (256 * (256 * a + b) + c) + d := by
  refine ⟨x / 16777216 % 256, x / 65536 % 256, x / 256 % 256, x % 256, by omega, by omega, by omega, by omega, ?_, by omega⟩
  unfold textL dotted
  rw [beL4]
  have e : ∀ m, m < 256 → digL (UInt8.ofNat m) = digX m := fun m hm => by rw [digL_X]; congr 1; simp; omega
  rw [← e _ (show x / 16777216 % 256 < 256 by omega), ← e _ (show x / 65536 % 256 < 256 by omega), ← e _ (show x / 256 % 256 < 256 by omega), ← e _ (show x % 256 < 256 by omega)]
  exact join4 _ _ _ _
theorem prs_text (x : Nat) (hx : x < 4294967296) : prsR (textL x) = (x, true) := by
  obtain ⟨a, b, c, d, ha, hb, hc, hd, e, ex⟩ := textL_dotted x hx
  rw [e, prs_dotted a b c d ha hb hc hd, ← ex]
theorem dotted_text (a b c d : Nat) (ha : a < 256) (hb : b < 256) (hc : c < 256) (hd : d < 256) : textL (256 * (256 * (256 * a + b) + c) + d) = dotted a b c d := by
  obtain ⟨a', b', c', d', ha', hb', hc', hd', e, ex⟩ := textL_dotted (256 * (256 * (256 * a + b) + c) + d) (by omega)
  obtain rfl : d' = d := by omega
  obtain rfl : c' = c := by omega
  obtain rfl : b' = b := by omega
  obtain rfl : a' = a := by omega
  exact e
theorem text_prs (l : List UInt8) (x : Nat) (h : prsR l = (x, true)) : x < 4294967296 ∧ l = textL x := by
  obtain ⟨ns, h1, h2, h3, h4⟩ := prs_sound l 0 0 0 0 x (.inl ⟨rfl, rfl⟩) (by omega) h
  match ns, h1 with
  | [a, b, c, d], _ =>
    simp at h2
    obtain ⟨ha, hb, hc, hd⟩ := h2
    have hx : x = 256 * (256 * (256 * a + b) + c) + d := by rw [h4]; simp
    refine ⟨by omega, ?_⟩
    rw [hx, dotted_text a b c d ha hb hc hd]
    simpa [pre, jn, dotted] using h3
end Go.Proofs.YtfceodbpkghkaaaGreatDoor
