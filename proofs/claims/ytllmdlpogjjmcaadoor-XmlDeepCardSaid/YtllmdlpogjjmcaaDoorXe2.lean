/- xml.All; the closure of XmlDeep; the text that XmlDeep makes, put together from its ends. -/
import Derived.Test.YtllmdlpogjjmcaaDoorXe1
import Derived.Test.YtllmdlpogjjmcaaDoorXd1
namespace Go.Proofs.YtllmdlpogjjmcaaDoor
open Go.RowKit
set_option linter.unusedVariables false
set_option linter.unusedSimpArgs false

theorem i64_andm (n : Int) (j m : Nat) (hm : (BitVec.ofInt 64 (m : Int)).toNat = 2 ^ j - 1) (hj : 2 ^ j ≤ 4294967296) : bits .and .i64 n (m : Int) = n % ((2 ^ j : Nat) : Int) := by
  have key : (BitVec.ofInt 64 n &&& BitVec.ofInt 64 (m : Int)).toNat = (n % ((2 ^ 64 : Nat) : Int)).toNat % 2 ^ j := by
    rw [BitVec.toNat_and, BitVec.toNat_ofInt, hm, Nat.and_two_pow_sub_one_eq_mod]
  have hp : 0 < 2 ^ j := Nat.pow_pos (by decide)
  show IntKind.i64.wrap ((BitVec.ofInt 64 n &&& BitVec.ofInt 64 (m : Int)).toNat : Nat) = _
  rw [key, IntKind.wrap_i64]
  have hlt := Nat.mod_lt (n % ((2 ^ 64 : Nat) : Int)).toNat hp
  have hjle : j ≤ 64 := by
    rcases Nat.lt_or_ge 64 j with h | h
    · have := Nat.pow_le_pow_right (show 0 < 2 by decide) (Nat.le_of_lt h)
      omega
    · exact h
  have hdvd : (2 ^ j) ∣ 2 ^ 64 := Nat.pow_dvd_pow 2 hjle
  have e1 : (((n % ((2 ^ 64 : Nat) : Int)).toNat % 2 ^ j : Nat) : Int) = n % ((2 ^ j : Nat) : Int) := by
    rw [Int.natCast_emod, Int.toNat_of_nonneg (Int.emod_nonneg _ (by decide))]
    exact Int.emod_emod_of_dvd n (Int.natCast_dvd_natCast.2 hdvd)
  rw [e1]
  have := Int.emod_nonneg n (show ((2 ^ j : Nat) : Int) ≠ 0 by omega)
  have := Int.emod_lt_of_pos n (show 0 < ((2 ^ j : Nat) : Int) by omega)
  generalize ((2 ^ j : Nat) : Int) = P at *
  omega
theorem all_any (w : World) (s n tx : Bs) (a b : Option Addr) (la lb c d : Nat) : Calls Tryd.prog 12 #[.agg #[.string ⟨s.toArray⟩, .string ⟨n.toArray⟩, .slice a la c, .string ⟨tx.toArray⟩, .slice b lb d]] w fun e' w' => e' = .returned (.func (Fn.func 22) #[] #[.pointer (some ⟨w.heap.size, 0, none⟩)]) ∧ w.alloc (.cells #[.string ⟨s.toArray⟩, .string ⟨n.toArray⟩, .slice a la c, .string ⟨tx.toArray⟩, .slice b lb d] 27) = w' := by
  have hmf : ∀ (fn : Fn) (first cap : Array Value) (w : World), (Instr.makeFunc fn first cap).run Tryd.prog w = .ok (.func fn first cap) w := fun _ _ _ _ => rfl
  go_enter Tryd.func12, Tryd.ntmps12
  go_wp2
  go_ret
  exact ⟨rfl, rfl⟩
def All1Post (X : Nat → Prop) (J : List (Nat × El) → World → Prop) (Jx : World → Prop) (w : World) (q : List (Nat × El)) (e' : Ending) (w' : World) : Prop := e' = .returned (.tuple #[]) ∧ KX X w w' ∧ (J q w' ∨ Jx w')
set_option maxRecDepth 20000 in
theorem all1_any (y : FuncId) (hcf : ∀ (args : Array Value) (w : World), (callFunc y args).run Tryd.prog w = .ok (.enter y args) w) (caps : Array Value) (X : Nat → Prop) (e : El) (J : List (Nat × El) → World → Prop) (Jx : World → Prop) (hY : Yields y caps X (flatE 0 e) J Jx) (hJ : ∀ pre w w', J pre w → w.grownBy w' none → J pre w')
    (w : World) (bx : Nat) (av kv : Value) (hz : e.kids.sz ≤ 1000000) (hX : ∀ b, X b → b < w.heap.size) (hj : J [] w) (hE : ElB w bx e.s e.n av e.tx kv) (ha : AtsAt w X av e.ats) (hk : KidV w X kv e.kids) :
    Calls Tryd.prog 22 #[.func (.func y) #[] caps, .pointer (some ⟨bx, 0, none⟩)] w (All1Post X J Jx w (flatE 0 e)) := by
  have CALL := hid (walk_el y hcf caps X (flatE 0 e) J Jx hY hJ (e.kids.sz + 1) e 0 [] _ w (Nat.lt_succ_self _) (by omega) (by rw [List.nil_append]; exact List.prefix_refl _) hX hj ⟨av, kv, rfl, ha, hk⟩)
  obtain ⟨s0, s1, s2, s3, s4⟩ := ElB.cells hE
  unfold elV str at CALL
  obtain ⟨a, c, rfl, -⟩ := ha
  obtain ⟨b, d, rfl, -⟩ := hk
  clear hY hJ hE hX hj
  go_enter Tryd.func22, Tryd.ntmps22
  go_wp2_with fail
  refine CALL.out.mono ?_
  rintro e' w2 ⟨k2, hr⟩
  have HF := hid (show J (flatE 0 e) w2 ∨ Jx w2 from hr.elim (fun h => .inl (by have := h.2; rwa [List.nil_append] at this)) (fun h => .inr h.2))
  have K2 := hid k2
  clear CALL k2
  rcases hr with ⟨rfl, -⟩ | ⟨rfl, -⟩
  · go_wp2
    go_end0
    exact ⟨rfl, K2.out, HF.out⟩
  · go_wp2
    go_end0
    exact ⟨rfl, K2.out, HF.out⟩
/-- What the law counts. -/
def CntJ (g : Nat) (pre : List (Nat × El)) (w : World) : Prop := w.heap[g]? = some (.cells #[.int .i64 (pre.length : Int)] 3 (0, 0))
set_option maxRecDepth 20000 in
theorem deep1_any (g : Nat) (L : List (Nat × El)) (hL : L.length ≤ 1000000) : Yields 14 #[.pointer (some ⟨g, 0, none⟩)] (fun b => b = g) L (CntJ g) (fun _ => False) := by
  intro pre d e v w hp hj he
  have HJ := hid hj
  have hl : (pre.length : Int) + 1 ≤ 1000001 := by
    have := hp.length_le
    rw [List.length_append] at this
    simp at this
    omega
  obtain ⟨av, kv, rfl, ⟨a, c, rfl, -⟩, b, d', rfl, -⟩ := he
  unfold elV str
  have G1 := hid (gr_alloc (gr_refl w none) (.cells #[.string ⟨e.s.toArray⟩, .string ⟨e.n.toArray⟩, .slice a e.ats.length c, .string ⟨e.tx.toArray⟩, .slice b e.kids.len d'] 27))
  have N1 := gr_keep G1.out HJ.out (by simp)
  have c0 := (cell_of_block N1 0).trans (show _ = some (Value.int .i64 (pre.length : Int)) from rfl)
  have f0 := free_of_block N1 0
  have HN1 := hid N1
  clear N1 hj hp
  go_enter Tryd.func14, Tryd.ntmps14
  go_wp2
  go_ret
  refine ⟨(KX.of_none G1.out).trans ⟨rfl, rfl, rfl, by simp [World.setCell], fun i hi hx => heap_set_other hx⟩, .inl ⟨rfl, ?_⟩⟩
  have := heap_set (o := 0) (v := .int .i64 ((pre.length : Int) + 1)) HN1.out
  unfold CntJ
  rw [List.length_append]
  exact this
theorem cf_deep : ∀ (args : Array Value) (w : World), (callFunc 14 args).run Tryd.prog w = .ok (.enter 14 args) w := by
  intro args w
  go_simp
/-- A text so many times. -/
def repT (t : Bs) : Nat → Bs
  | 0 => []
  | k + 1 => repT t k ++ t
theorem rep_head (t : Bs) (k : Nat) : repT t (k + 1) = t ++ repT t k := by
  induction k with
  | zero => simp [repT]
  | succ k ih => show repT t (k + 1) ++ t = t ++ (repT t k ++ t); rw [ih, List.append_assoc]
theorem rep_len (t : Bs) (k : Nat) : (repT t k).length = t.length * k := by
  induction k with
  | zero => rfl
  | succ k ih => rw [repT, List.length_append, ih, Nat.mul_succ]
theorem bsT_rep (n : Nat) : bsT n = repT [60, 98, 47, 62] n := by
  induction n with
  | zero => rfl
  | succ n ih => rw [rep_head, ← ih]; rfl
theorem dT_rep (n d : Nat) : repT [60, 97, 62] d ++ repT [60, 98, 47, 62] n ++ repT [60, 47, 97, 62] d = dT d n := by
  induction d with
  | zero => rw [← bsT_rep]; simp [repT, dT]
  | succ d ih => rw [rep_head, repT, dT, ← ih]; simp [endT, List.append_assoc]
theorem ba_app2 (a b : List UInt8) : ((⟨a.toArray⟩ : ByteArray) ++ (⟨b.toArray⟩ : ByteArray)) = ⟨(a ++ b).toArray⟩ := by
  apply ByteArray.ext
  simp
/-- How many elements there are. -/
theorem flatF_len (x : Nat) (f : Fo) (e : El) : (flatF x (f.snoc e)).length = (flatF x f).length + 1 + (flatF (x + 1) e.kids).length := by
  induction f generalizing x with
  | nil => simp [Fo.snoc, flatF]; omega
  | cons s n ats tx kids next _ ih => simp only [Fo.snoc, flatF, List.length_cons, List.length_append, ih]; omega
theorem addB_flat (x k : Nat) : ∀ (f : Fr), (flatF x (addB k f).kids).length = (flatF x f.kids).length + k := by
  induction k with
  | zero => intro f; rfl
  | succ k ih =>
    intro f
    show (flatF x (addB k (f.kid bE)).kids).length = _
    rw [ih, Fr.kid, flatF_len]
    simp [bE, flatF]
    omega
theorem elD_flat (n : Nat) : ∀ (d x : Nat) (f : Fr), (flatF x (elD d n f).kids).length = (flatF x f.kids).length + d + n := by
  intro d
  induction d with
  | zero => intro x f; show (flatF x (addB n f).kids).length = _; rw [addB_flat]; rfl
  | succ d ih =>
    intro x f
    show (flatF x (f.kids.snoc (elD d n (newA f.bs)))).length = _
    rw [flatF_len, ih]
    simp [newA, flatF]
    omega
end Go.Proofs.YtllmdlpogjjmcaaDoor
