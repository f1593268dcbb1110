/- The plain law of inet.Parse. -/
import Derived.Test.YtfceodbpkghkaaaGreatDoorIn4
namespace Go.Proofs.YtfceodbpkghkaaaGreatDoor
open Go.RowKit

theorem prs_form : ∀ (l : List UInt8) (a n d s : Nat), (prs l a n d s).2 = false → prs l a n d s = (0, false)
  | [], a, n, d, s, h => by
    rw [prs] at h ⊢
    by_cases hc : s = 0 ∨ 255 < n ∨ d ≠ 3
    · rw [if_pos hc]
    · rw [if_neg hc] at h; simp at h
  | c :: l, a, n, d, s, h => by
    rw [prs] at h ⊢
    by_cases h46 : c = 46
    · rw [if_pos h46] at h ⊢
      by_cases hc : s = 0 ∨ 255 < n ∨ 3 ≤ d
      · rw [if_pos hc]
      · rw [if_neg hc] at h ⊢; exact prs_form l _ _ _ _ h
    · rw [if_neg h46] at h ⊢
      by_cases hc : c.toNat < 48 ∨ 57 < c.toNat ∨ s = 3 ∨ (0 < s ∧ n = 0)
      · rw [if_pos hc]
      · rw [if_neg hc] at h ⊢; exact prs_form l _ _ _ _ h
/-- The number that a part makes, as Go reckons it; what the parts make. -/
def valP (p : List UInt8) : Int := p.foldl (fun n c => n * 10 + (c.toNat : Int) - 48) 0
def accA (a : Nat) (p : List UInt8) : Nat := (a * 256 + (valP p % 256).toNat) % 4294967296
def partsB (s : ByteArray) : List ByteArray := Lib.splitB ⟨#[46]⟩ 0 (Lib.countB s ⟨#[46]⟩) s
def accB (ps : List ByteArray) : Nat := ps.foldl (fun a p => accA a p.data.toList) 0
def parseB (s : ByteArray) : Nat × Bool := if s.size ≤ 15 ∧ textL (accB (partsB s)) = s.data.toList then (accB (partsB s), true) else (0, false)
theorem accA_lt (a : Nat) (p : List UInt8) : accA a p < 4294967296 := Nat.mod_lt _ (by omega)
theorem accB_lt (ps : List ByteArray) : accB ps < 4294967296 := by
  unfold accB
  suffices h : ∀ (ps : List ByteArray) a, a < 4294967296 → ps.foldl (fun a p => accA a p.data.toList) a < 4294967296 from h ps 0 (by omega)
  intro ps
  induction ps with
  | nil => intro a h; exact h
  | cons p ps ih => intro a _; exact ih _ (accA_lt _ _)
theorem index46 : ∀ (p r : List UInt8), p.count 46 = 0 → Lib.index (p ++ 46 :: r) [46] = (p.length : Int)
  | [], r, _ => by rw [List.nil_append, Lib.index]; simp [List.isPrefixOf]
  | b :: p, r, h => by
    by_cases hb : b = 46
    · subst hb; simp at h
    · rw [List.count_cons_of_ne (by simpa using hb)] at h
      have hp : ([46] : List UInt8).isPrefixOf (b :: (p ++ 46 :: r)) = false := by simp [List.isPrefixOf, Ne.symm hb]
      rw [List.cons_append, Lib.index, hp, index46 p r h]
      simp
theorem ba_eq {a : ByteArray} {x : List UInt8} (h : a.data.toList = x) : a = ⟨x.toArray⟩ := by subst h; rfl
theorem split46 (p r : List UInt8) (k : Nat) (h : p.count 46 = 0) :
    Lib.splitB ⟨#[46]⟩ 0 (k + 1) ⟨(p ++ 46 :: r).toArray⟩ = ⟨p.toArray⟩ :: Lib.splitB ⟨#[46]⟩ 0 k ⟨r.toArray⟩ := by
  have hi : Lib.indexB ⟨(p ++ 46 :: r).toArray⟩ ⟨#[46]⟩ = (p.length : Nat) := by
    show Lib.index (p ++ 46 :: r) [46] = _
    exact index46 p r h
  rw [Lib.splitB_hit _ _ _ _ _ hi]
  congr 1
  · apply ba_eq
    rw [Lib.extract_from_zero, Nat.add_zero]
    simp
  · congr 1
    apply ba_eq
    rw [Lib.extract_to_end]
    show List.drop (p.length + 1) (p ++ 46 :: r) = r
    rw [← List.drop_drop]; simp
theorem digX_no : ∀ b : UInt8, (digX b.toNat).count 46 = 0 := all_bytes (by decide +kernel)
theorem digX_val : ∀ b : UInt8, valP (digX b.toNat) = (b.toNat : Int) := all_bytes (by decide +kernel)
theorem dig_nv (n : Nat) (h : n < 256) : (digX n).count 46 = 0 ∧ valP (digX n) = (n : Int) := by
  have e : (UInt8.ofNat n).toNat = n := by simp; omega
  exact ⟨by rw [← e]; exact digX_no _, by have := digX_val (UInt8.ofNat n); rwa [e] at this⟩
theorem parts_dotted (s : ByteArray) (a b c d : Nat) (ha : a < 256) (hb : b < 256) (hc : c < 256) (hd : d < 256) (h : s.data.toList = dotted a b c d) :
    accB (partsB s) = 256 * (256 * (256 * a + b) + c) + d := by
  obtain ⟨a1, a2⟩ := dig_nv a ha
  obtain ⟨b1, b2⟩ := dig_nv b hb
  obtain ⟨c1, c2⟩ := dig_nv c hc
  obtain ⟨d1, d2⟩ := dig_nv d hd
  have hs : s = ⟨(dotted a b c d).toArray⟩ := ba_eq h
  have hcount : Lib.countB s ⟨#[46]⟩ = 3 := by
    have e : Lib.countB s ⟨#[46]⟩ = s.data.toList.count 46 := Lib.count_one 46 _
    rw [e, h]; simp [dotted, List.count_append, a1, b1, c1, d1]
  unfold partsB
  rw [hcount, hs]
  unfold dotted
  rw [split46 _ _ 2 a1, split46 _ _ 1 b1, split46 _ _ 0 c1]
  show accB [⟨(digX a).toArray⟩, ⟨(digX b).toArray⟩, ⟨(digX c).toArray⟩, ⟨(digX d).toArray⟩] = _
  unfold accB accA
  simp only [List.foldl_cons, List.foldl_nil, a2, b2, c2, d2]
  omega
/-- Both readers compute the same. -/
theorem parse_same (s : ByteArray) : parseB s = prsR s.data.toList := by
  cases h : (prsR s.data.toList).2
  · have h0 := prs_form _ _ _ _ _ h
    unfold prsR; rw [h0]
    unfold parseB
    rw [if_neg]
    rintro ⟨_, h2⟩
    have h3 := prs_text (accB (partsB s)) (accB_lt _)
    rw [h2] at h3
    rw [h3] at h; simp at h
  · obtain ⟨x, hx⟩ : ∃ x, prsR s.data.toList = (x, true) := ⟨(prsR s.data.toList).1, by rw [← h]⟩
    obtain ⟨hl, ht⟩ := text_prs _ x hx
    obtain ⟨a, b, c, d, ha, hb, hc, hd, e, ex⟩ := textL_dotted x hl
    have hp := parts_dotted s a b c d ha hb hc hd (ht.trans e)
    have hsz : s.size ≤ 15 := by
      rw [Lib.size_eq, ht]
      exact join4_len _ (beL_len 4 x)
    rw [hx]
    unfold parseB
    rw [if_pos ⟨hsz, by rw [hp, ← ex, ht]⟩, hp, ← ex]
end Go.Proofs.YtfceodbpkghkaaaGreatDoor
