/- hearthref15.Line: the plain law of its places. -/
import Derived.Test.YtnapfecalckajaaDoorHead15
import Derived.Lib.SlTrimSet
namespace Go.Proofs.YtnapfecalckajaaDoor
open Go.RowKit

def blk (c : UInt8) : Bool := [32, 9].contains c
theorem blk_yes : ∀ c, blk c = true → (c.toNat : Int) = 32 ∨ (c.toNat : Int) = 9 := all_bytes (by decide +kernel)
theorem blk_no : ∀ c, blk c = false → (c.toNat : Int) ≠ 32 ∧ (c.toNat : Int) ≠ 9 := all_bytes (by decide +kernel)
def lnP (l : List UInt8) : List UInt8 := l.takeWhile (· != 58)
def lnD (l : List UInt8) : List UInt8 := l.drop ((lnP l).length + 1)
theorem lnP_cons (b : UInt8) (l : List UInt8) (h : b ≠ 58) : lnP (b :: l) = b :: lnP l := by
  unfold lnP; rw [List.takeWhile_cons, if_pos (by simpa using h)]
theorem lnP_colon (l : List UInt8) : lnP (58 :: l) = [] := by
  unfold lnP; rw [List.takeWhile_cons, if_neg (by simp)]
theorem lnP_le : ∀ l : List UInt8, (lnP l).length ≤ l.length
  | [] => by simp [lnP]
  | b :: l => by
    by_cases hb : b = 58
    · subst hb; rw [lnP_colon]; simp
    · rw [lnP_cons b l hb]; have := lnP_le l; simp; omega
theorem lnP_take (l : List UInt8) : l.take (lnP l).length = lnP l := by
  have h : lnP l <+: l := List.takeWhile_prefix _
  exact (List.prefix_iff_eq_take.1 h).symm
theorem lnP_at : ∀ (l : List UInt8) (k : Nat), k < (lnP l).length → l.getD k 0 ≠ 58
  | [], k, h => by simp [lnP] at h
  | b :: l, k, h => by
    by_cases hb : b = 58
    · subst hb; rw [lnP_colon] at h; simp at h
    · rw [lnP_cons b l hb] at h
      cases k with
      | zero => simpa using hb
      | succ k => simpa using lnP_at l k (by simpa using h)
theorem lnP_end : ∀ (l : List UInt8), (lnP l).length < l.length → l.getD (lnP l).length 0 = 58
  | [], h => by simp at h
  | b :: l, h => by
    by_cases hb : b = 58
    · subst hb; rw [lnP_colon]; simp
    · rw [lnP_cons b l hb] at h ⊢
      simpa using lnP_end l (by simpa using h)
theorem ix58 : ∀ l : List UInt8, Lib.indexByte l 58 = if (lnP l).length < l.length then ((lnP l).length : Int) else -1
  | [] => by simp [Lib.indexByte]
  | b :: l => by
    by_cases h : b = 58
    · subst h; rw [lnP_colon]; simp [Lib.indexByte]
    · rw [lnP_cons b l h]
      have ih := ix58 l
      by_cases hc : (lnP l).length < l.length
      · rw [if_pos hc] at ih
        rw [if_pos (by simpa using hc)]
        simp [Lib.indexByte, h, ih]
      · rw [if_neg hc] at ih
        rw [if_neg (by simpa using hc)]
        simp [Lib.indexByte, h, ih]
theorem cut58 (l : List UInt8) : cutB l 58 = if (lnP l).length < l.length then (lnP l, lnD l, true) else (l, [], false) := by
  unfold cutB
  rw [ix58]
  by_cases h : (lnP l).length < l.length
  · rw [if_pos h, if_pos (by simp), if_pos h]
    simp only [Int.toNat_natCast]
    rw [lnP_take]; rfl
  · rw [if_neg h, if_neg (by simp), if_neg h]
/-- The blanks ahead, and behind. -/
def rdB (l : List UInt8) : List UInt8 := (l.reverse.dropWhile blk).reverse
theorem rdB_nil : rdB [] = [] := rfl
theorem dropWhile_snoc (p : UInt8 → Bool) (l : List UInt8) (x : UInt8) : (l ++ [x]).dropWhile p = if l.dropWhile p = [] then (if p x then [] else [x]) else l.dropWhile p ++ [x] := by
  induction l with
  | nil => simp [List.dropWhile]; cases p x <;> rfl
  | cons y l ih =>
    simp only [List.cons_append, List.dropWhile_cons]
    cases hy : p y
    · simp
    · simp only [if_true]; exact ih
theorem rdB_cons (x : UInt8) (l : List UInt8) : rdB (x :: l) = if rdB l = [] then (if blk x then [] else [x]) else x :: rdB l := by
  unfold rdB
  rw [List.reverse_cons, dropWhile_snoc]
  by_cases h : l.reverse.dropWhile blk = []
  · rw [h]; cases blk x <;> simp
  · rw [if_neg h, if_neg (by simpa using h)]; simp
theorem trim_swap : ∀ l : List UInt8, (rdB l).dropWhile blk = rdB (l.dropWhile blk)
  | [] => rfl
  | x :: l => by
    rw [rdB_cons]
    cases hx : blk x
    · have e : (x :: l).dropWhile blk = x :: l := by rw [List.dropWhile_cons, hx]; rfl
      rw [e, rdB_cons, hx]
      by_cases h : rdB l = []
      · rw [if_pos h]; simp [hx]
      · rw [if_neg h, List.dropWhile_cons, hx]; rfl
    · have e : (x :: l).dropWhile blk = l.dropWhile blk := by rw [List.dropWhile_cons, hx]; rfl
      rw [e, ← trim_swap l]
      by_cases h : rdB l = []
      · rw [if_pos h, h]; rfl
      · rw [if_neg h, List.dropWhile_cons, hx]; rfl
theorem trimS_eq (l : List UInt8) : Lib.trimS l [32, 9] = rdB (l.dropWhile blk) := by
  rw [← trim_swap]; rfl
/-- How many blanks stand ahead. -/
def loN (l : List UInt8) : Nat := (l.takeWhile blk).length
theorem lo_drop (l : List UInt8) : l.drop (loN l) = l.dropWhile blk := by
  have h := List.takeWhile_append_dropWhile (p := blk) (l := l)
  unfold loN
  have e : l.drop (l.takeWhile blk).length = (l.takeWhile blk ++ l.dropWhile blk).drop (l.takeWhile blk).length := by rw [h]
  rw [e]
  exact List.drop_left
theorem lo_at : ∀ (l : List UInt8) (k : Nat), k < loN l → blk (l.getD k 0) = true
  | [], k, h => by simp [loN] at h
  | b :: l, k, h => by
    unfold loN at h
    rw [List.takeWhile_cons] at h
    cases hb : blk b
    · rw [hb] at h; simp at h
    · rw [hb] at h
      cases k with
      | zero => simpa using hb
      | succ k => simpa using lo_at l k (by unfold loN; simpa using h)
theorem lo_end : ∀ (l : List UInt8), loN l < l.length → blk (l.getD (loN l) 0) = false
  | [], h => by simp at h
  | b :: l, h => by
    unfold loN at h ⊢
    rw [List.takeWhile_cons] at h ⊢
    cases hb : blk b
    · simp [hb]
    · rw [hb] at h
      have := lo_end l (by unfold loN; simpa using h)
      simpa [hb, loN] using this
theorem rd_split (l : List UInt8) : ∃ t : List UInt8, l = rdB l ++ t ∧ t.all blk = true ∧ (rdB l ≠ [] → blk ((rdB l).getD ((rdB l).length - 1) 0) = false) := by
  refine ⟨(l.reverse.takeWhile blk).reverse, ?_, ?_, fun h => ?_⟩
  · have h := List.takeWhile_append_dropWhile (p := blk) (l := l.reverse)
    have h2 := congrArg List.reverse h
    rw [List.reverse_append, List.reverse_reverse] at h2
    exact h2.symm
  · rw [List.all_reverse]; simp
  · unfold rdB at h ⊢
    cases hd : l.reverse.dropWhile blk with
    | nil => rw [hd] at h; simp at h
    | cons x y =>
      have hx : blk x = false := by
        have := List.head?_dropWhile_not blk l.reverse
        rw [hd] at this
        simpa using this
      simp [List.getD_eq_getElem?_getD]
      simpa using hx
end Go.Proofs.YtnapfecalckajaaDoor
