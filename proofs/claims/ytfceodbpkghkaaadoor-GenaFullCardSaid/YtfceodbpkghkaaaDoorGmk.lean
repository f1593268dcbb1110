/- What GenaFull sees, plainly. -/
import Derived.Test.YtfceodbpkghkaaaDoorGmc
import Derived.Test.YtfceodbpkghkaaaDoorMS
import Derived.Test.YtfceodbpkghkaaaDoorGn8
import Derived.Test.YtfceodbpkghkaaaDoorArg
namespace Go.Proofs.YtfceodbpkghkaaaDoor
open Go.RowKit
set_option linter.unusedVariables false
set_option linter.unusedSimpArgs false

def cbF (who : Nat) : Gs := hdH ++ (textL who ++ [47, 101, 62])
def dgC (c : UInt8) : Bool := c == 46 || (decide (48 ≤ c.toNat) && decide (c.toNat ≤ 57))
theorem digX_dg : ∀ b : UInt8, (digX b.toNat).all dgC = true := all_bytes (by decide +kernel)
theorem dig_dg (n : Nat) (h : n < 256) : (digX n).all dgC = true := by
  have := digX_dg (UInt8.ofNat n)
  rwa [show (UInt8.ofNat n).toNat = n by simp; omega] at this
theorem text_dg (who : Nat) (h : who < 4294967296) : (textL who).all dgC = true := by
  obtain ⟨a, b, c, d, ha, hb, hc, hd, e, -⟩ := textL_dotted who h
  rw [e]
  unfold dotted
  simp only [List.all_append, List.all_cons, dig_dg a ha, dig_dg b hb, dig_dg c hc, dig_dg d hd]
  decide
theorem dg_ne {l : Gs} {q : UInt8} (h : l.all dgC = true) (hq : dgC q = false) : ∀ c ∈ l, c ≠ q := by
  intro c hc e
  have := List.all_eq_true.1 h c hc
  rw [e, hq] at this; cases this
theorem tw_app {l r : Gs} {q : UInt8} (h : ∀ c ∈ l, c ≠ q) : tw q (l ++ q :: r) = l ∧ dw q (l ++ q :: r) = q :: r := by
  induction l with
  | nil => exact ⟨tw_cons_eq q r, dw_cons_eq q r⟩
  | cons c l ih =>
    have hc := h c (List.mem_cons_self ..)
    obtain ⟨h1, h2⟩ := ih (fun d hd => h d (List.mem_cons_of_mem _ hd))
    exact ⟨by rw [List.cons_append, tw_cons_ne _ hc, h1], by rw [List.cons_append, dw_cons_ne _ hc, h2]⟩
theorem tw_all {l : Gs} {q : UInt8} (h : ∀ c ∈ l, c ≠ q) : tw q l = l := by
  induction l with
  | nil => rfl
  | cons c l ih => rw [tw_cons_ne _ (h c (List.mem_cons_self ..)), ih (fun d hd => h d (List.mem_cons_of_mem _ hd))]
theorem cbF_is (who : Nat) (h : who < 4294967296) : cbL (cbF who) = some (who, 80, [47, 101]) := by
  have ht := text_dg who h
  have n62 := dg_ne (q := 62) ht (by decide)
  have n47 := dg_ne (q := 47) ht (by decide)
  have n58 := dg_ne (q := 58) ht (by decide)
  have e8 : (cbF who).drop 8 = textL who ++ [47, 101, 62] := by
    unfold cbF
    rw [List.drop_append_of_le_length (by decide)]; rfl
  have hp : Lib.hasPrefix (cbF who) hdH = true := by
    rw [hpre_take, decide_eq_true_iff]
    unfold cbF
    rw [List.take_append_of_le_length (Nat.le_refl _), List.take_length]
  have hc : (textL who ++ [47, 101, 62]).contains 62 = true := by
    rw [List.contains_iff_mem]; simp
  have ht62 : tw 62 (textL who ++ [47, 101, 62]) = textL who ++ [47, 101] := by
    have := (tw_app (l := textL who ++ [47, 101]) (r := []) (q := 62) (by
      intro c hc
      rcases List.mem_append.1 hc with h1 | h1
      · exact n62 c h1
      · simp only [List.mem_cons, List.not_mem_nil, or_false] at h1
        rcases h1 with rfl | rfl <;> decide)).1
    rwa [List.append_assoc] at this
  unfold cbL
  rw [hp, e8, hc, ht62]
  simp only [Bool.and_self, if_true]
  unfold cbW
  have hc47 : (textL who ++ [47, 101]).contains 47 = true := by rw [List.contains_iff_mem]; simp
  obtain ⟨q1, q2⟩ := tw_app (l := textL who) (r := [101]) (q := 47) n47
  rw [if_pos hc47, q1, q2, tw_all n58]
  have hc58 : (textL who).contains 58 = false := by
    cases hq : (textL who).contains 58 with
    | false => rfl
    | true => exact absurd rfl (n58 58 (List.contains_iff_mem.1 hq))
  rw [hc58]
  simp only [Bool.false_eq_true, if_false]
  rw [cbA_none, prs_text who h]
  unfold cbE
  rw [show ([47, 101] : Gs).all cbB = true by decide]
  rfl
theorem cbF_len (who : Nat) (h : who < 4294967296) : (cbF who).length ≤ 100 := by
  unfold cbF
  have h1 : (textL who).length ≤ 30 := by
    obtain ⟨a, b, c, d, ha, hb, hc, hd, e, -⟩ := textL_dotted who h
    have key : ∀ n, (digX n).length ≤ 3 := by intro n; unfold digX; split <;> (try split) <;> simp
    rw [e]; unfold dotted
    have := key a; have := key b; have := key c; have := key d
    simp only [List.length_append, List.length_cons]; omega
  simp only [List.length_append, hdH, List.length_cons, List.length_nil]
  omega
def fsb (i who : Nat) : Sb := ⟨sidL 7 i, who, 80, [47, 101], 0, 1801, false, 1, []⟩
def fullL : List Nat → Nat → List Sb
  | [], _ => []
  | x :: l, k => fsb k x :: fullL l (k + 1)
theorem fullL_len : ∀ (l : List Nat) (k : Nat), (fullL l k).length = l.length
  | [], _ => rfl
  | x :: l, k => by simp only [fullL, List.length_cons, fullL_len l (k + 1)]
theorem fullL_app (y : Nat) : ∀ (l : List Nat) (k : Nat), fullL (l ++ [y]) k = fullL l k ++ [fsb (k + l.length) y]
  | [], k => rfl
  | x :: l, k => by simp only [List.cons_append, fullL, fullL_app y l (k + 1), List.length_cons]; rw [show k + 1 + l.length = k + (l.length + 1) by omega]
theorem fullL_sid : ∀ (l : List Nat) (k j : Nat) (x : Sb), (fullL l k)[j]? = some x → x.sid = sidL 7 (k + j)
  | [], _, j, x, h => by simp [fullL] at h
  | y :: l, k, 0, x, h => by
    obtain rfl : fsb k y = x := by simpa [fullL] using h
    rfl
  | y :: l, k, j + 1, x, h => by
    rw [show k + (j + 1) = k + 1 + j by omega]
    exact fullL_sid l (k + 1) j x (by simpa [fullL] using h)
set_option maxRecDepth 100000 in
theorem sid_inj : ∀ i j : Fin 64, sidL 7 i.val = sidL 7 j.val → i = j := by decide +kernel
theorem sid_ne {i j : Nat} (hi : i < 64) (hj : j < 64) (h : i ≠ j) : sidL 7 i ≠ sidL 7 j := fun e => h (by have := sid_inj ⟨i, hi⟩ ⟨j, hj⟩ e; simpa using this)
theorem fullL_no (l : List Nat) (k m : Nat) (hk : k + l.length ≤ 64) (hm : m < 64) (h : m < k ∨ k + l.length ≤ m) : findL (fullL l k) (sidL 7 m) = (fullL l k).length :=
  findL_is _ _ _ (Nat.le_refl _) (fun j x hj hx => by
    rw [fullL_len] at hj
    rw [fullL_sid l k j x hx]
    exact sid_ne (by omega) hm (by omega)) (.inl rfl)
theorem full_new (most : Nat) (L : List Sb) (who a b : Nat) (h : who < 4294967296) :
    subsL most L [(kNt, kEvent), (kCall, cbF who)] who 1 a b = if most ≤ L.length ∨ findL L (sidL a b) < L.length then (L, 503, []) else (L ++ [⟨sidL a b, who, 80, [47, 101], 0, 1801, false, 1, []⟩], 200, grantL (sidL a b) 1800) := by
  have e1 : getL [(kNt, kEvent), (kCall, cbF who)] kSid = [] := by simp [getL, kNt, kCall, kSid]
  have e2 : getL [(kNt, kEvent), (kCall, cbF who)] kNt = [kEvent] := by simp [getL, kNt, kCall]
  have e3 : getL [(kNt, kEvent), (kCall, cbF who)] kCall = [cbF who] := by simp [getL, kNt, kCall]
  have e4 : secsL [(kNt, kEvent), (kCall, cbF who)] = 1800 := by unfold secsL; rw [show getL [(kNt, kEvent), (kCall, cbF who)] kTime = [] by simp [getL, kNt, kCall, kTime]]
  rw [subsL_new e1, e2, e3, e4]
  simp only [if_true, cbF_is who h]
  rw [if_neg (by simp)]
  rfl
theorem one_get (s : Gs) : getL [(kSid, s)] kSid = [s] ∧ getL [(kSid, s)] kNt = [] ∧ getL [(kSid, s)] kCall = [] ∧ secsL [(kSid, s)] = 1800 := by
  refine ⟨by simp [getL], by simp [getL, kSid, kNt], by simp [getL, kSid, kCall], ?_⟩
  unfold secsL; rw [show getL [(kSid, s)] kTime = [] by simp [getL, kSid, kTime]]
theorem full_renew (most : Nat) (x : Sb) (L : List Sb) (who now a b : Nat) : subsL most (x :: L) [(kSid, x.sid)] who now a b = if x.host = who then ({ x with ends := laterL now 1800 } :: L, 200, grantL x.sid 1800) else (x :: L, 412, []) := by
  obtain ⟨e1, e2, e3, e4⟩ := one_get x.sid
  have e5 : findL (x :: L) x.sid = 0 := by unfold findL; rw [if_pos rfl]
  rw [subsL_sid e1, e2, e3, e4, e5, if_neg (by simp)]
  rfl
theorem full_unsub (x : Sb) (L : List Sb) (who : Nat) : unsubL (x :: L) [(kSid, x.sid)] who = if x.host = who then (L, 200) else (x :: L, 412) := by
  obtain ⟨e1, e2, e3, e4⟩ := one_get x.sid
  have e5 : findL (x :: L) x.sid = 0 := by unfold findL; rw [if_pos rfl]
  unfold unsubL
  rw [e1, e2, e3]
  dsimp only
  rw [e5]
  simp
theorem full_none (L : List Sb) (s : Gs) (who : Nat) (h : findL L s = L.length) : unsubL L [(kSid, s)] who = (L, 412) := by
  obtain ⟨e1, e2, e3, e4⟩ := one_get s
  unfold unsubL
  rw [e1, e2, e3]
  dsimp only
  rw [h]
  simp
end Go.Proofs.YtfceodbpkghkaaaDoor
