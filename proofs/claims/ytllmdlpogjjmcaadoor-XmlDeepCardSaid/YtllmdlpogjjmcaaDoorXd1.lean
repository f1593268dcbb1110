/- The text that XmlDeep makes, and what is read of it. It speaks of no program. -/
import Derived.Test.YtllmdlpogjjmcaaDoorML
namespace Go.Proofs.YtllmdlpogjjmcaaDoor
open Go.RowKit
set_option linter.unusedVariables false
set_option linter.unusedSimpArgs false

theorem full_a (r : Bs) : fullL (97 :: 62 :: r) = (([], [97], true), 62 :: r) := by kernel_rfl
theorem full_b (r : Bs) : fullL (98 :: 47 :: 62 :: r) = (([], [98], true), 47 :: 62 :: r) := by kernel_rfl
theorem attrs_a (r : Bs) : attrsA (62 :: r) = some ([], false, r) := rfl
theorem attrs_b (r : Bs) : attrsA (47 :: 62 :: r) = some ([], true, r) := rfl
theorem begin_a (bs : List (Bs × Bs)) (r : Bs) (h : spcL bs [] = ([], true)) : beginL bs (97 :: 62 :: r) = some (⟨[], [97], [], [], [], .nil, bs⟩, false, r, 0) := by
  unfold beginL
  rw [full_a]
  simp only [if_true, attrs_a]
  unfold elemL
  simp [bindOk, bindB, attB, h]
theorem begin_b (bs : List (Bs × Bs)) (r : Bs) (h : spcL bs [] = ([], true)) : beginL bs (98 :: 47 :: 62 :: r) = some (⟨[], [98], [], [], [], .nil, bs⟩, true, r, 0) := by
  unfold beginL
  rw [full_b]
  simp only [if_true, attrs_b]
  unfold elemL
  simp [bindOk, bindB, attB, h]
/-- A 'b' more. -/
theorem in_b (n : Nat) (r : Bs) (f : Fr) (deep cnt : Nat) (full : Bool) (h : spcL f.bs [] = ([], true)) : inL (n + 1) (60 :: 98 :: 47 :: 62 :: r) f deep cnt full = inL n r (f.kid ⟨[], [98], [], [], .nil⟩) deep (cnt + 1) (fullB full (cnt + 1) (deep + 1) 0) := by
  rw [inL_lt rfl rfl rfl rfl]
  unfold elmL
  rw [show Lib.trimPrefix (60 :: 98 :: 47 :: 62 :: r) [60] = 98 :: 47 :: 62 :: r from rfl, begin_b _ _ h]
  rfl
/-- The end of an 'a'. -/
theorem in_e (n : Nat) (r : Bs) (f : Fr) (deep cnt : Nat) (full : Bool) (h : f.p = [] ∧ f.n = [97]) : inL (n + 1) (60 :: 47 :: 97 :: 62 :: r) f deep cnt full = some (f.el, r, cnt, full) := by
  conv => lhs; unfold inL
  rw [show Lib.hasPrefix (60 :: 47 :: 97 :: 62 :: r) noteO = false from rfl, show Lib.hasPrefix (60 :: 47 :: 97 :: 62 :: r) cdO = false from rfl, show Lib.hasPrefix (60 :: 47 :: 97 :: 62 :: r) [60, 47] = true from rfl]
  simp only [Bool.false_eq_true, if_false, if_true]
  rw [show Lib.trimPrefix (60 :: 47 :: 97 :: 62 :: r) [60, 47] = 97 :: 62 :: r from rfl]
  unfold endL
  rw [full_a, h.1, h.2]
  rfl
/-- An 'a' in it. -/
theorem in_a (n : Nat) (r : Bs) (f : Fr) (deep cnt : Nat) (full : Bool) (h : spcL f.bs [] = ([], true)) : inL (n + 1) (60 :: 97 :: 62 :: r) f deep cnt full = match inL n r ⟨[], [97], [], [], [], .nil, f.bs⟩ (deep + 1) (cnt + 1) (fullB full (cnt + 1) (deep + 1) 0) with
    | none => none
    | some x => inL n x.2.1 (f.kid x.1) deep x.2.2.1 x.2.2.2 := by
  rw [inL_lt rfl rfl rfl rfl]
  unfold elmL
  rw [show Lib.trimPrefix (60 :: 97 :: 62 :: r) [60] = 97 :: 62 :: r from rfl, begin_a _ _ h]
  rfl
def bE : El := ⟨[], [98], [], [], .nil⟩
/-- '<b/>' so many times. -/
def bsT : Nat → Bs
  | 0 => []
  | k + 1 => 60 :: 98 :: 47 :: 62 :: bsT k
def addB : Nat → Fr → Fr
  | 0, f => f
  | k + 1, f => addB k (f.kid bE)
def fullK : Nat → Bool → Nat → Nat → Bool
  | 0, full, _, _ => full
  | k + 1, full, cnt, deep => fullK k (fullB full (cnt + 1) (deep + 1) 0) (cnt + 1) deep
theorem in_bs (k : Nat) : ∀ (n : Nat) (r : Bs) (f : Fr) (deep cnt : Nat) (full : Bool), spcL f.bs [] = ([], true) → inL (n + k) (bsT k ++ r) f deep cnt full = inL n r (addB k f) deep (cnt + k) (fullK k full cnt deep) := by
  induction k with
  | zero => intro n r f deep cnt full _; rfl
  | succ k ih =>
    intro n r f deep cnt full h
    rw [show n + (k + 1) = (n + k) + 1 by omega, show bsT (k + 1) ++ r = 60 :: 98 :: 47 :: 62 :: (bsT k ++ r) from rfl, in_b _ _ _ _ _ _ h]
    rw [show f.kid ⟨[], [98], [], [], .nil⟩ = f.kid bE from rfl, ih n r (f.kid bE) deep (cnt + 1) _ h, show cnt + 1 + k = cnt + (k + 1) by omega]
    rfl
theorem addB_keep (k : Nat) : ∀ (f : Fr), (addB k f).p = f.p ∧ (addB k f).n = f.n ∧ (addB k f).bs = f.bs ∧ (addB k f).ats = f.ats ∧ (addB k f).tx = f.tx ∧ (addB k f).s = f.s ∧ (addB k f).kids.sz = f.kids.sz + k := by
  induction k with
  | zero => intro f; exact ⟨rfl, rfl, rfl, rfl, rfl, rfl, rfl⟩
  | succ k ih =>
    intro f
    obtain ⟨h1, h2, h3, h4, h5, h6, h7⟩ := ih (f.kid bE)
    refine ⟨h1, h2, h3, h4, h5, h6, ?_⟩
    show (addB k (f.kid bE)).kids.sz = _
    rw [h7, Fr.kid, Fo.sz_snoc]
    simp [bE, Fo.sz]
    omega
def endT : Bs := [60, 47, 97, 62]
/-- What stands in an 'a': d more of them in one another, and n 'b' in the last one. -/
def dT : Nat → Nat → Bs
  | 0, n => bsT n
  | d + 1, n => 60 :: 97 :: 62 :: (dT d n ++ endT)
def newA (bs : List (Bs × Bs)) : Fr := ⟨[], [97], [], [], [], .nil, bs⟩
def elD : Nat → Nat → Fr → El
  | 0, n, f => (addB n f).el
  | d + 1, n, f => (f.kid (elD d n (newA f.bs))).el
def fulD : Nat → Nat → Bool → Nat → Nat → Bool
  | 0, n, full, cnt, deep => fullK n full cnt deep
  | d + 1, n, full, cnt, deep => fulD d n (fullB full (cnt + 1) (deep + 1) 0) (cnt + 1) (deep + 1)
theorem in_d (n : Nat) : ∀ (d N : Nat) (r : Bs) (f : Fr) (deep cnt : Nat) (full : Bool), f.p = [] → f.n = [97] → spcL f.bs [] = ([], true) → d + n + 1 ≤ N →
    inL N (dT d n ++ (endT ++ r)) f deep cnt full = some (elD d n f, r, cnt + d + n, fulD d n full cnt deep) := by
  intro d
  induction d with
  | zero =>
    intro N r f deep cnt full hp hn hs hN
    obtain ⟨N', rfl⟩ : ∃ N', N = (N' + 1) + n := ⟨N - n - 1, by omega⟩
    obtain ⟨h1, h2, -⟩ := addB_keep n f
    show inL (N' + 1 + n) (bsT n ++ (endT ++ r)) f deep cnt full = _
    rw [in_bs n (N' + 1) (endT ++ r) f deep cnt full hs, show endT ++ r = 60 :: 47 :: 97 :: 62 :: r from rfl, in_e N' r (addB n f) deep _ _ ⟨h1.trans hp, h2.trans hn⟩]
    rfl
  | succ d ih =>
    intro N r f deep cnt full hp hn hs hN
    obtain ⟨N', rfl⟩ : ∃ N', N = N' + 1 := ⟨N - 1, by omega⟩
    obtain ⟨M, rfl⟩ : ∃ M, N' = M + 1 := ⟨N' - 1, by omega⟩
    rw [show dT (d + 1) n ++ (endT ++ r) = 60 :: 97 :: 62 :: (dT d n ++ (endT ++ (endT ++ r))) by simp [dT]]
    rw [in_a (M + 1) _ f deep cnt full hs, ih (M + 1) (endT ++ r) ⟨[], [97], [], [], [], .nil, f.bs⟩ (deep + 1) (cnt + 1) _ rfl rfl hs (by omega)]
    simp only
    rw [show endT ++ r = 60 :: 47 :: 97 :: 62 :: r from rfl, in_e M r (f.kid _) deep _ _ ⟨hp, hn⟩, show cnt + 1 + d + n = cnt + (d + 1) + n by omega]
    rfl
theorem elD_sz (n : Nat) : ∀ (d : Nat) (f : Fr), (elD d n f).kids.sz = f.kids.sz + d + n ∧ (elD d n f).ats = f.ats ∧ (elD d n f).n = f.n := by
  intro d
  induction d with
  | zero =>
    intro f
    obtain ⟨-, h2, -, h4, -, -, h7⟩ := addB_keep n f
    exact ⟨by show (addB n f).kids.sz = _; rw [h7]; rfl, h4, h2⟩
  | succ d ih =>
    intro f
    obtain ⟨h1, h2, -⟩ := ih (newA f.bs)
    refine ⟨?_, rfl, rfl⟩
    show (f.kids.snoc (elD d n (newA f.bs))).sz = _
    rw [Fo.sz_snoc, h1, h2]
    simp [newA, Fo.sz]
    omega
theorem root_d (d n : Nat) : rootL xmlB (97 :: 62 :: (dT d n ++ endT)) = some (elD d n (newA xmlB), [], 1 + d + n, fulD d n false 1 1) := by
  rw [rootL_elm]
  unfold elmL
  rw [begin_a xmlB _ (by kernel_rfl)]
  simp only [Bool.false_eq_true, if_false]
  have h := in_d n d ((97 :: 62 :: (dT d n ++ endT)).length + 1) [] (newA xmlB) 1 (0 + 1) (fullB false (0 + 1) 1 0) rfl rfl (by kernel_rfl) (by
    have hb : ∀ k, (bsT k).length = 4 * k := by
      intro k
      induction k with
      | zero => rfl
      | succ k ih => simp only [bsT, List.length_cons, ih]; omega
    have hd : ∀ k, (dT k n).length = 7 * k + 4 * n := by
      intro k
      induction k with
      | zero => simp only [dT, hb]; omega
      | succ k ih => simp only [dT, List.length_cons, List.length_append, ih, endT, List.length_nil]; omega
    simp only [List.length_cons, List.length_append, hd]
    omega)
  rw [List.append_nil] at h
  exact h
theorem beg_d (x : Bs) : docBeg (60 :: 97 :: 62 :: x) = some (97 :: 62 :: x) := by kernel_rfl
theorem doc_d (d n : Nat) : docL (60 :: 97 :: 62 :: (dT d n ++ endT)) = some (elD d n (newA xmlB), fulD d n false 1 1) := by
  unfold docL
  rw [beg_d]
  simp only [Option.bind_some, root_d]
  rw [if_pos (by kernel_rfl)]
theorem fullK_is (k : Nat) : ∀ (full : Bool) (cnt deep : Nat), fullK k full cnt deep = true ↔ full = true ∨ (0 < k ∧ (64 < cnt + k ∨ 8 < deep + 1)) := by
  induction k with
  | zero => intro full cnt deep; simp [fullK]
  | succ k ih =>
    intro full cnt deep
    unfold fullK
    rw [ih]
    simp only [fullB, Bool.or_eq_true, decide_eq_true_eq]
    by_cases hf : full = true
    · simp [hf]
    · simp only [hf, Bool.false_eq_true, false_or]; omega
theorem fulD_is (n : Nat) : ∀ (d : Nat) (full : Bool) (cnt deep : Nat), fulD d n full cnt deep = true ↔ full = true ∨ (0 < d + n ∧ (64 < cnt + d + n ∨ 8 < deep + d + min n 1)) := by
  intro d
  induction d with
  | zero =>
    intro full cnt deep
    unfold fulD
    rw [fullK_is]
    by_cases hf : full = true
    · simp [hf]
    · simp only [hf, Bool.false_eq_true, false_or]; omega
  | succ d ih =>
    intro full cnt deep
    unfold fulD
    rw [ih]
    simp only [fullB, Bool.or_eq_true, decide_eq_true_eq]
    by_cases hf : full = true
    · simp [hf]
    · simp only [hf, Bool.false_eq_true, false_or]; omega
theorem plain_app (a b : Bs) : plainB (a ++ b) = (plainB a && plainB b) := by
  unfold plainB; rw [List.all_append]
theorem plain_b (n : Nat) : plainB (bsT n) = true := by
  induction n with
  | zero => rfl
  | succ n ih => rw [show bsT (n + 1) = [60, 98, 47, 62] ++ bsT n from rfl, plain_app, ih]; kernel_rfl
theorem plain_d (n d : Nat) : plainB (dT d n) = true := by
  induction d with
  | zero => exact plain_b n
  | succ d ih => rw [show dT (d + 1) n = [60, 97, 62] ++ (dT d n ++ endT) from rfl, plain_app, plain_app, ih]; kernel_rfl
theorem dT_len (n : Nat) : ∀ k, (dT k n).length = 7 * k + 4 * n := by
  have hb : ∀ k, (bsT k).length = 4 * k := by
    intro k
    induction k with
    | zero => rfl
    | succ k ih => simp only [bsT, List.length_cons, ih]; omega
  intro k
  induction k with
  | zero => simp only [dT, hb]; omega
  | succ k ih => simp only [dT, List.length_cons, List.length_append, ih, endT, List.length_nil]; omega
/-- What is read of d + 1 'a' in one another, and n 'b' in the last one. -/
theorem parse_d (d n : Nat) (hd : d ≤ 100) (hn : n ≤ 1000) : parseL (60 :: 97 :: 62 :: (dT d n ++ endT)) = if 0 < d + n ∧ (63 < d + n ∨ 7 < d + min n 1) then (El.zero, 20) else (elD d n (newA xmlB), 0) := by
  unfold parseL
  rw [if_neg (by simp only [List.length_cons, List.length_append, dT_len, endT, List.length_nil]; omega), doc_d]
  simp only
  rw [show plainB (60 :: 97 :: 62 :: (dT d n ++ endT)) = true by
    rw [show (60 :: 97 :: 62 :: (dT d n ++ endT) : Bs) = [60, 97, 62] ++ (dT d n ++ endT) from rfl, plain_app, plain_app, plain_d]; kernel_rfl]
  simp only [Bool.not_true, Bool.false_eq_true, if_false]
  have h := fulD_is n d false 1 1
  simp only [Bool.false_eq_true, false_or] at h
  by_cases hx : 0 < d + n ∧ (63 < d + n ∨ 7 < d + min n 1)
  · rw [if_pos hx, if_pos (h.2 (by omega))]
  · rw [if_neg hx, if_neg (fun e => hx (by have := h.1 e; omega))]
end Go.Proofs.YtllmdlpogjjmcaaDoor
