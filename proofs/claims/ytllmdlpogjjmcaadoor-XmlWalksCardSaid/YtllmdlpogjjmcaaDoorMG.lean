/- Texts of one proof, put together: Xd1, Xe2. -/
import Derived.Test.YtllmdlpogjjmcaaDoorML
import Derived.Test.YtllmdlpogjjmcaaDoorMF
/- The text that XmlDeep makes, and what is read of it. It speaks of no program. -/
namespace Go.Proofs.YtllmdlpogjjmcaaDoor
open Go.RowKit
set_option linter.unusedVariables false
set_option linter.unusedSimpArgs false

theorem full_a (r : Bs) : fullL (97 :: 62 :: r) = (([], [97], true), 62 :: r) := by kernel_rfl
theorem full_b (r : Bs) : fullL (98 :: 47 :: 62 :: r) = (([], [98], true), 47 :: 62 :: r) := by kernel_rfl
theorem attrs_a (r : Bs) : attrsA (62 :: r) = some ([], false, r) := rfl
theorem attrs_b (r : Bs) : attrsA (47 :: 62 :: r) = some ([], true, r) := rfl
theorem begin_a (bs : List (Bs × Bs)) (r : Bs) (h : spcL bs [] = ([], true)) : beginL bs (97 :: 62 :: r) = some (⟨[], [97], [], [], [], .nil, bs⟩, false, r, 0) := by
  unfold beginL
  rw [full_a]
  simp only [if_true, attrs_a]
  unfold elemL
  simp [bindOk, bindB, attB, h]
theorem begin_b (bs : List (Bs × Bs)) (r : Bs) (h : spcL bs [] = ([], true)) : beginL bs (98 :: 47 :: 62 :: r) = some (⟨[], [98], [], [], [], .nil, bs⟩, true, r, 0) := by
  unfold beginL
  rw [full_b]
  simp only [if_true, attrs_b]
  unfold elemL
  simp [bindOk, bindB, attB, h]
/-- A 'b' more. -/
theorem in_b (n : Nat) (r : Bs) (f : Fr) (deep cnt : Nat) (full : Bool) (h : spcL f.bs [] = ([], true)) : inL (n + 1) (60 :: 98 :: 47 :: 62 :: r) f deep cnt full = inL n r (f.kid ⟨[], [98], [], [], .nil⟩) deep (cnt + 1) (fullB full (cnt + 1) (deep + 1) 0) := by
  rw [inL_lt rfl rfl rfl rfl]
  unfold elmL
  rw [show Lib.trimPrefix (60 :: 98 :: 47 :: 62 :: r) [60] = 98 :: 47 :: 62 :: r from rfl, begin_b _ _ h]
  rfl
/-- The end of an 'a'. -/
theorem in_e (n : Nat) (r : Bs) (f : Fr) (deep cnt : Nat) (full : Bool) (h : f.p = [] ∧ f.n = [97]) : inL (n + 1) (60 :: 47 :: 97 :: 62 :: r) f deep cnt full = some (f.el, r, cnt, full) := by
  conv => lhs; unfold inL
  rw [show Lib.hasPrefix (60 :: 47 :: 97 :: 62 :: r) noteO = false from rfl, show Lib.hasPrefix (60 :: 47 :: 97 :: 62 :: r) cdO = false from rfl, show Lib.hasPrefix (60 :: 47 :: 97 :: 62 :: r) [60, 47] = true from rfl]
  simp only [Bool.false_eq_true, if_false, if_true]
  rw [show Lib.trimPrefix (60 :: 47 :: 97 :: 62 :: r) [60, 47] = 97 :: 62 :: r from rfl]
  unfold endL
  rw [full_a, h.1, h.2]
  rfl
/-- An 'a' in it. -/
theorem in_a (n : Nat) (r : Bs) (f : Fr) (deep cnt : Nat) (full : Bool) (h : spcL f.bs [] = ([], true)) : inL (n + 1) (60 :: 97 :: 62 :: r) f deep cnt full = match inL n r ⟨[], [97], [], [], [], .nil, f.bs⟩ (deep + 1) (cnt + 1) (fullB full (cnt + 1) (deep + 1) 0) with
    | none => none
    | some x => inL n x.2.1 (f.kid x.1) deep x.2.2.1 x.2.2.2 := by
  rw [inL_lt rfl rfl rfl rfl]
  unfold elmL
  rw [show Lib.trimPrefix (60 :: 97 :: 62 :: r) [60] = 97 :: 62 :: r from rfl, begin_a _ _ h]
  rfl
def bE : El := ⟨[], [98], [], [], .nil⟩
/-- '<b/>' so many times. -/
def bsT : Nat → Bs
  | 0 => []
  | k + 1 => 60 :: 98 :: 47 :: 62 :: bsT k
def addB : Nat → Fr → Fr
  | 0, f => f
  | k + 1, f => addB k (f.kid bE)
def fullK : Nat → Bool → Nat → Nat → Bool
  | 0, full, _, _ => full
  | k + 1, full, cnt, deep => fullK k (fullB full (cnt + 1) (deep + 1) 0) (cnt + 1) deep
theorem in_bs (k : Nat) : ∀ (n : Nat) (r : Bs) (f : Fr) (deep cnt : Nat) (full : Bool), spcL f.bs [] = ([], true) → inL (n + k) (bsT k ++ r) f deep cnt full = inL n r (addB k f) deep (cnt + k) (fullK k full cnt deep) := by
  induction k with
  | zero => intro n r f deep cnt full _; rfl
  | succ k ih =>
    intro n r f deep cnt full h
    rw [show n + (k + 1) = (n + k) + 1 by omega, show bsT (k + 1) ++ r = 60 :: 98 :: 47 :: 62 :: (bsT k ++ r) from rfl, in_b _ _ _ _ _ _ h]
    rw [show f.kid ⟨[], [98], [], [], .nil⟩ = f.kid bE from rfl, ih n r (f.kid bE) deep (cnt + 1) _ h, show cnt + 1 + k = cnt + (k + 1) by omega]
    rfl
theorem addB_keep (k : Nat) : ∀ (f : Fr), (addB k f).p = f.p ∧ (addB k f).n = f.n ∧ (addB k f).bs = f.bs ∧ (addB k f).ats = f.ats ∧ (addB k f).tx = f.tx ∧ (addB k f).s = f.s ∧ (addB k f).kids.sz = f.kids.sz + k := by
  induction k with
  | zero => intro f; exact ⟨rfl, rfl, rfl, rfl, rfl, rfl, rfl⟩
  | succ k ih =>
    intro f
    obtain ⟨h1, h2, h3, h4, h5, h6, h7⟩ := ih (f.kid bE)
    refine ⟨h1, h2, h3, h4, h5, h6, ?_⟩
    show (addB k (f.kid bE)).kids.sz = _
    rw [h7, Fr.kid, Fo.sz_snoc]
    simp [bE, Fo.sz]
    omega
def endT : Bs := [60, 47, 97, 62]
/-- What stands in an 'a': d more of them in one another, and n 'b' in the last one. -/
def dT : Nat → Nat → Bs
  | 0, n => bsT n
  | d + 1, n => 60 :: 97 :: 62 :: (dT d n ++ endT)
def newA (bs : List (Bs × Bs)) : Fr := ⟨[], [97], [], [], [], .nil, bs⟩
def elD : Nat → Nat → Fr → El
  | 0, n, f => (addB n f).el
  | d + 1, n, f => (f.kid (elD d n (newA f.bs))).el
def fulD : Nat → Nat → Bool → Nat → Nat → Bool
  | 0, n, full, cnt, deep => fullK n full cnt deep
  | d + 1, n, full, cnt, deep => fulD d n (fullB full (cnt + 1) (deep + 1) 0) (cnt + 1) (deep + 1)
theorem in_d (n : Nat) : ∀ (d N : Nat) (r : Bs) (f : Fr) (deep cnt : Nat) (full : Bool), f.p = [] → f.n = [97] → spcL f.bs [] = ([], true) → d + n + 1 ≤ N →
    inL N (dT d n ++ (endT ++ r)) f deep cnt full = some (elD d n f, r, cnt + d + n, fulD d n full cnt deep) := by
  intro d
  induction d with
  | zero =>
    intro N r f deep cnt full hp hn hs hN
    obtain ⟨N', rfl⟩ : ∃ N', N = (N' + 1) + n := ⟨N - n - 1, by omega⟩
    obtain ⟨h1, h2, -⟩ := addB_keep n f
    show inL (N' + 1 + n) (bsT n ++ (endT ++ r)) f deep cnt full = _
    rw [in_bs n (N' + 1) (endT ++ r) f deep cnt full hs, show endT ++ r = 60 :: 47 :: 97 :: 62 :: r from rfl, in_e N' r (addB n f) deep _ _ ⟨h1.trans hp, h2.trans hn⟩]
    rfl
  | succ d ih =>
    intro N r f deep cnt full hp hn hs hN
    obtain ⟨N', rfl⟩ : ∃ N', N = N' + 1 := ⟨N - 1, by omega⟩
    obtain ⟨M, rfl⟩ : ∃ M, N' = M + 1 := ⟨N' - 1, by omega⟩
    rw [show dT (d + 1) n ++ (endT ++ r) = 60 :: 97 :: 62 :: (dT d n ++ (endT ++ (endT ++ r))) by simp [dT]]
    rw [in_a (M + 1) _ f deep cnt full hs, ih (M + 1) (endT ++ r) ⟨[], [97], [], [], [], .nil, f.bs⟩ (deep + 1) (cnt + 1) _ rfl rfl hs (by omega)]
    simp only
    rw [show endT ++ r = 60 :: 47 :: 97 :: 62 :: r from rfl, in_e M r (f.kid _) deep _ _ ⟨hp, hn⟩, show cnt + 1 + d + n = cnt + (d + 1) + n by omega]
    rfl
theorem elD_sz (n : Nat) : ∀ (d : Nat) (f : Fr), (elD d n f).kids.sz = f.kids.sz + d + n ∧ (elD d n f).ats = f.ats ∧ (elD d n f).n = f.n := by
  intro d
  induction d with
  | zero =>
    intro f
    obtain ⟨-, h2, -, h4, -, -, h7⟩ := addB_keep n f
    exact ⟨by show (addB n f).kids.sz = _; rw [h7]; rfl, h4, h2⟩
  | succ d ih =>
    intro f
    obtain ⟨h1, h2, -⟩ := ih (newA f.bs)
    refine ⟨?_, rfl, rfl⟩
    show (f.kids.snoc (elD d n (newA f.bs))).sz = _
    rw [Fo.sz_snoc, h1, h2]
    simp [newA, Fo.sz]
    omega
theorem root_d (d n : Nat) : rootL xmlB (97 :: 62 :: (dT d n ++ endT)) = some (elD d n (newA xmlB), [], 1 + d + n, fulD d n false 1 1) := by
  rw [rootL_elm]
  unfold elmL
  rw [begin_a xmlB _ (by kernel_rfl)]
  simp only [Bool.false_eq_true, if_false]
  have h := in_d n d ((97 :: 62 :: (dT d n ++ endT)).length + 1) [] (newA xmlB) 1 (0 + 1) (fullB false (0 + 1) 1 0) rfl rfl (by kernel_rfl) (by
    have hb : ∀ k, (bsT k).length = 4 * k := by
      intro k
      induction k with
      | zero => rfl
      | succ k ih => simp only [bsT, List.length_cons, ih]; omega
    have hd : ∀ k, (dT k n).length = 7 * k + 4 * n := by
      intro k
      induction k with
      | zero => simp only [dT, hb]; omega
      | succ k ih => simp only [dT, List.length_cons, List.length_append, ih, endT, List.length_nil]; omega
    simp only [List.length_cons, List.length_append, hd]
    omega)
  rw [List.append_nil] at h
  exact h
theorem beg_d (x : Bs) : docBeg (60 :: 97 :: 62 :: x) = some (97 :: 62 :: x) := by kernel_rfl
theorem doc_d (d n : Nat) : docL (60 :: 97 :: 62 :: (dT d n ++ endT)) = some (elD d n (newA xmlB), fulD d n false 1 1) := by
  unfold docL
  rw [beg_d]
  simp only [Option.bind_some, root_d]
  rw [if_pos (by kernel_rfl)]
theorem fullK_is (k : Nat) : ∀ (full : Bool) (cnt deep : Nat), fullK k full cnt deep = true ↔ full = true ∨ (0 < k ∧ (64 < cnt + k ∨ 8 < deep + 1)) := by
  induction k with
  | zero => intro full cnt deep; simp [fullK]
  | succ k ih =>
    intro full cnt deep
    unfold fullK
    rw [ih]
    simp only [fullB, Bool.or_eq_true, decide_eq_true_eq]
    by_cases hf : full = true
    · simp [hf]
    · simp only [hf, Bool.false_eq_true, false_or]; omega
theorem fulD_is (n : Nat) : ∀ (d : Nat) (full : Bool) (cnt deep : Nat), fulD d n full cnt deep = true ↔ full = true ∨ (0 < d + n ∧ (64 < cnt + d + n ∨ 8 < deep + d + min n 1)) := by
  intro d
  induction d with
  | zero =>
    intro full cnt deep
    unfold fulD
    rw [fullK_is]
    by_cases hf : full = true
    · simp [hf]
    · simp only [hf, Bool.false_eq_true, false_or]; omega
  | succ d ih =>
    intro full cnt deep
    unfold fulD
    rw [ih]
    simp only [fullB, Bool.or_eq_true, decide_eq_true_eq]
    by_cases hf : full = true
    · simp [hf]
    · simp only [hf, Bool.false_eq_true, false_or]; omega
theorem plain_app (a b : Bs) : plainB (a ++ b) = (plainB a && plainB b) := by
  unfold plainB; rw [List.all_append]
theorem plain_b (n : Nat) : plainB (bsT n) = true := by
  induction n with
  | zero => rfl
  | succ n ih => rw [show bsT (n + 1) = [60, 98, 47, 62] ++ bsT n from rfl, plain_app, ih]; kernel_rfl
theorem plain_d (n d : Nat) : plainB (dT d n) = true := by
  induction d with
  | zero => exact plain_b n
  | succ d ih => rw [show dT (d + 1) n = [60, 97, 62] ++ (dT d n ++ endT) from rfl, plain_app, plain_app, ih]; kernel_rfl
theorem dT_len (n : Nat) : ∀ k, (dT k n).length = 7 * k + 4 * n := by
  have hb : ∀ k, (bsT k).length = 4 * k := by
    intro k
    induction k with
    | zero => rfl
    | succ k ih => simp only [bsT, List.length_cons, ih]; omega
  intro k
  induction k with
  | zero => simp only [dT, hb]; omega
  | succ k ih => simp only [dT, List.length_cons, List.length_append, ih, endT, List.length_nil]; omega
/-- What is read of d + 1 'a' in one another, and n 'b' in the last one. -/
theorem parse_d (d n : Nat) (hd : d ≤ 100) (hn : n ≤ 1000) : parseL (60 :: 97 :: 62 :: (dT d n ++ endT)) = if 0 < d + n ∧ (63 < d + n ∨ 7 < d + min n 1) then (El.zero, 20) else (elD d n (newA xmlB), 0) := by
  unfold parseL
  rw [if_neg (by simp only [List.length_cons, List.length_append, dT_len, endT, List.length_nil]; omega), doc_d]
  simp only
  rw [show plainB (60 :: 97 :: 62 :: (dT d n ++ endT)) = true by
    rw [show (60 :: 97 :: 62 :: (dT d n ++ endT) : Bs) = [60, 97, 62] ++ (dT d n ++ endT) from rfl, plain_app, plain_app, plain_d]; kernel_rfl]
  simp only [Bool.not_true, Bool.false_eq_true, if_false]
  have h := fulD_is n d false 1 1
  simp only [Bool.false_eq_true, false_or] at h
  by_cases hx : 0 < d + n ∧ (63 < d + n ∨ 7 < d + min n 1)
  · rw [if_pos hx, if_pos (h.2 (by omega))]
  · rw [if_neg hx, if_neg (fun e => hx (by have := h.1 e; omega))]
end Go.Proofs.YtllmdlpogjjmcaaDoor
/- xml.All; the closure of XmlDeep; the text that XmlDeep makes, put together from its ends. -/
namespace Go.Proofs.YtllmdlpogjjmcaaDoor
open Go.RowKit
set_option linter.unusedVariables false
set_option linter.unusedSimpArgs false

theorem i64_andm (n : Int) (j m : Nat) (hm : (BitVec.ofInt 64 (m : Int)).toNat = 2 ^ j - 1) (hj : 2 ^ j ≤ 4294967296) : bits .and .i64 n (m : Int) = n % ((2 ^ j : Nat) : Int) := by
  have key : (BitVec.ofInt 64 n &&& BitVec.ofInt 64 (m : Int)).toNat = (n % ((2 ^ 64 : Nat) : Int)).toNat % 2 ^ j := by
    rw [BitVec.toNat_and, BitVec.toNat_ofInt, hm, Nat.and_two_pow_sub_one_eq_mod]
  have hp : 0 < 2 ^ j := Nat.pow_pos (by decide)
  show IntKind.i64.wrap ((BitVec.ofInt 64 n &&& BitVec.ofInt 64 (m : Int)).toNat : Nat) = _
  rw [key, IntKind.wrap_i64]
  have hlt := Nat.mod_lt (n % ((2 ^ 64 : Nat) : Int)).toNat hp
  have hjle : j ≤ 64 := by
    rcases Nat.lt_or_ge 64 j with h | h
    · have := Nat.pow_le_pow_right (show 0 < 2 by decide) (Nat.le_of_lt h)
      omega
    · exact h
  have hdvd : (2 ^ j) ∣ 2 ^ 64 := Nat.pow_dvd_pow 2 hjle
  have e1 : (((n % ((2 ^ 64 : Nat) : Int)).toNat % 2 ^ j : Nat) : Int) = n % ((2 ^ j : Nat) : Int) := by
    rw [Int.natCast_emod, Int.toNat_of_nonneg (Int.emod_nonneg _ (by decide))]
    exact Int.emod_emod_of_dvd n (Int.natCast_dvd_natCast.2 hdvd)
  rw [e1]
  have := Int.emod_nonneg n (show ((2 ^ j : Nat) : Int) ≠ 0 by omega)
  have := Int.emod_lt_of_pos n (show 0 < ((2 ^ j : Nat) : Int) by omega)
  generalize ((2 ^ j : Nat) : Int) = P at *
  omega
theorem all_any (w : World) (s n tx : Bs) (a b : Option Addr) (la lb c d : Nat) : Calls Tryd.prog 12 #[.agg #[.string ⟨s.toArray⟩, .string ⟨n.toArray⟩, .slice a la c, .string ⟨tx.toArray⟩, .slice b lb d]] w fun e' w' => e' = .returned (.func (Fn.func 22) #[] #[.pointer (some ⟨w.heap.size, 0, none⟩)]) ∧ w.alloc (.cells #[.string ⟨s.toArray⟩, .string ⟨n.toArray⟩, .slice a la c, .string ⟨tx.toArray⟩, .slice b lb d] 27) = w' := by
  have hmf : ∀ (fn : Fn) (first cap : Array Value) (w : World), (Instr.makeFunc fn first cap).run Tryd.prog w = .ok (.func fn first cap) w := fun _ _ _ _ => rfl
  go_enter Tryd.func12, Tryd.ntmps12
  go_wp2
  go_ret
  exact ⟨rfl, rfl⟩
def All1Post (X : Nat → Prop) (J : List (Nat × El) → World → Prop) (Jx : World → Prop) (w : World) (q : List (Nat × El)) (e' : Ending) (w' : World) : Prop := e' = .returned (.tuple #[]) ∧ KX X w w' ∧ (J q w' ∨ Jx w')
set_option maxRecDepth 20000 in
theorem all1_any (y : FuncId) (hcf : ∀ (args : Array Value) (w : World), (callFunc y args).run Tryd.prog w = .ok (.enter y args) w) (caps : Array Value) (X : Nat → Prop) (e : El) (J : List (Nat × El) → World → Prop) (Jx : World → Prop) (hY : Yields y caps X (flatE 0 e) J Jx) (hJ : ∀ pre w w', J pre w → w.grownBy w' none → J pre w')
    (w : World) (bx : Nat) (av kv : Value) (hz : e.kids.sz ≤ 1000000) (hX : ∀ b, X b → b < w.heap.size) (hj : J [] w) (hE : ElB w bx e.s e.n av e.tx kv) (ha : AtsAt w X av e.ats) (hk : KidV w X kv e.kids) :
    Calls Tryd.prog 22 #[.func (.func y) #[] caps, .pointer (some ⟨bx, 0, none⟩)] w (All1Post X J Jx w (flatE 0 e)) := by
  have CALL := hid (walk_el y hcf caps X (flatE 0 e) J Jx hY hJ (e.kids.sz + 1) e 0 [] _ w (Nat.lt_succ_self _) (by omega) (by rw [List.nil_append]; exact List.prefix_refl _) hX hj ⟨av, kv, rfl, ha, hk⟩)
  obtain ⟨s0, s1, s2, s3, s4⟩ := ElB.cells hE
  unfold elV str at CALL
  obtain ⟨a, c, rfl, -⟩ := ha
  obtain ⟨b, d, rfl, -⟩ := hk
  clear hY hJ hE hX hj
  go_enter Tryd.func22, Tryd.ntmps22
  go_wp2_with fail
  refine CALL.out.mono ?_
  rintro e' w2 ⟨k2, hr⟩
  have HF := hid (show J (flatE 0 e) w2 ∨ Jx w2 from hr.elim (fun h => .inl (by have := h.2; rwa [List.nil_append] at this)) (fun h => .inr h.2))
  have K2 := hid k2
  clear CALL k2
  rcases hr with ⟨rfl, -⟩ | ⟨rfl, -⟩
  · go_wp2
    go_end0
    exact ⟨rfl, K2.out, HF.out⟩
  · go_wp2
    go_end0
    exact ⟨rfl, K2.out, HF.out⟩
/-- What the law counts. -/
def CntJ (g : Nat) (pre : List (Nat × El)) (w : World) : Prop := w.heap[g]? = some (.cells #[.int .i64 (pre.length : Int)] 3 (0, 0))
set_option maxRecDepth 20000 in
theorem deep1_any (g : Nat) (L : List (Nat × El)) (hL : L.length ≤ 1000000) : Yields 14 #[.pointer (some ⟨g, 0, none⟩)] (fun b => b = g) L (CntJ g) (fun _ => False) := by
  intro pre d e v w hp hj he
  have HJ := hid hj
  have hl : (pre.length : Int) + 1 ≤ 1000001 := by
    have := hp.length_le
    rw [List.length_append] at this
    simp at this
    omega
  obtain ⟨av, kv, rfl, ⟨a, c, rfl, -⟩, b, d', rfl, -⟩ := he
  unfold elV str
  have G1 := hid (gr_alloc (gr_refl w none) (.cells #[.string ⟨e.s.toArray⟩, .string ⟨e.n.toArray⟩, .slice a e.ats.length c, .string ⟨e.tx.toArray⟩, .slice b e.kids.len d'] 27))
  have N1 := gr_keep G1.out HJ.out (by simp)
  have c0 := (cell_of_block N1 0).trans (show _ = some (Value.int .i64 (pre.length : Int)) from rfl)
  have f0 := free_of_block N1 0
  have HN1 := hid N1
  clear N1 hj hp
  go_enter Tryd.func14, Tryd.ntmps14
  go_wp2
  go_ret
  refine ⟨(KX.of_none G1.out).trans ⟨rfl, rfl, rfl, by simp [World.setCell], fun i hi hx => heap_set_other hx⟩, .inl ⟨rfl, ?_⟩⟩
  have := heap_set (o := 0) (v := .int .i64 ((pre.length : Int) + 1)) HN1.out
  unfold CntJ
  rw [List.length_append]
  exact this
theorem cf_deep : ∀ (args : Array Value) (w : World), (callFunc 14 args).run Tryd.prog w = .ok (.enter 14 args) w := by
  intro args w
  go_simp
/-- A text so many times. -/
def repT (t : Bs) : Nat → Bs
  | 0 => []
  | k + 1 => repT t k ++ t
theorem rep_head (t : Bs) (k : Nat) : repT t (k + 1) = t ++ repT t k := by
  induction k with
  | zero => simp [repT]
  | succ k ih => show repT t (k + 1) ++ t = t ++ (repT t k ++ t); rw [ih, List.append_assoc]
theorem rep_len (t : Bs) (k : Nat) : (repT t k).length = t.length * k := by
  induction k with
  | zero => rfl
  | succ k ih => rw [repT, List.length_append, ih, Nat.mul_succ]
theorem bsT_rep (n : Nat) : bsT n = repT [60, 98, 47, 62] n := by
  induction n with
  | zero => rfl
  | succ n ih => rw [rep_head, ← ih]; rfl
theorem dT_rep (n d : Nat) : repT [60, 97, 62] d ++ repT [60, 98, 47, 62] n ++ repT [60, 47, 97, 62] d = dT d n := by
  induction d with
  | zero => rw [← bsT_rep]; simp [repT, dT]
  | succ d ih => rw [rep_head, repT, dT, ← ih]; simp [endT, List.append_assoc]
theorem ba_app2 (a b : List UInt8) : ((⟨a.toArray⟩ : ByteArray) ++ (⟨b.toArray⟩ : ByteArray)) = ⟨(a ++ b).toArray⟩ := by
  apply ByteArray.ext
  simp
/-- How many elements there are. -/
theorem flatF_len (x : Nat) (f : Fo) (e : El) : (flatF x (f.snoc e)).length = (flatF x f).length + 1 + (flatF (x + 1) e.kids).length := by
  induction f generalizing x with
  | nil => simp [Fo.snoc, flatF]; omega
  | cons s n ats tx kids next _ ih => simp only [Fo.snoc, flatF, List.length_cons, List.length_append, ih]; omega
theorem addB_flat (x k : Nat) : ∀ (f : Fr), (flatF x (addB k f).kids).length = (flatF x f.kids).length + k := by
  induction k with
  | zero => intro f; rfl
  | succ k ih =>
    intro f
    show (flatF x (addB k (f.kid bE)).kids).length = _
    rw [ih, Fr.kid, flatF_len]
    simp [bE, flatF]
    omega
theorem elD_flat (n : Nat) : ∀ (d x : Nat) (f : Fr), (flatF x (elD d n f).kids).length = (flatF x f.kids).length + d + n := by
  intro d
  induction d with
  | zero => intro x f; show (flatF x (addB n f).kids).length = _; rw [addB_flat]; rfl
  | succ d ih =>
    intro x f
    show (flatF x (f.kids.snoc (elD d n (newA f.bs)))).length = _
    rw [flatF_len, ih]
    simp [newA, flatF]
    omega
end Go.Proofs.YtllmdlpogjjmcaaDoor
