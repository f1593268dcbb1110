/- Writing a packet: the plain law. -/
import Derived.Test.YtjpkmbgpkdomnaaDoorSa1
import Derived.Test.YtjpkmbgpkdomnaaDoorRdk
namespace Go.Proofs.YtjpkmbgpkdomnaaDoor
open Go.RowKit

structure Pk.Ok (p : Pk) : Prop where
  ttl : p.ttl < 256
  proto : p.proto < 256
  id : p.id < 65536
  src : p.src < 4294967296
  dst : p.dst < 4294967296
/-- A header, its flags and its check sum. -/
def hdF (p : Pk) (f c : Nat) : List UInt8 := [69, 0] ++ (beL 2 (20 + p.body.length) ++ (beL 2 p.id ++ (beL 2 f ++ ([UInt8.ofNat p.ttl, UInt8.ofNat p.proto] ++ (beL 2 c ++ (beL 4 p.src ++ beL 4 p.dst))))))
def hdS (p : Pk) (f : Nat) : List UInt8 := hdF p f (sum16 (hdF p f 0))
def wrF (p : Pk) (f : Nat) : List UInt8 := hdS p f ++ p.body
def wrL (p : Pk) : List UInt8 := wrF p 16384
theorem hdF_len (p : Pk) (f c : Nat) : (hdF p f c).length = 20 := by simp [hdF, beL_len]
theorem wrF_len (p : Pk) (f : Nat) : (wrF p f).length = 20 + p.body.length := by simp [wrF, hdS, hdF_len]
theorem hdF_tot (p : Pk) (f c : Nat) (hc : c ≤ 65535) : tot (prL (hdF p f c)) = tot (prL (hdF p f 0)) + c ∧ 0 < tot (prL (hdF p f 0)) := by
  simp [hdF, beL, prL, tot]
  omega
theorem sum_zero_iff (l : List UInt8) : sum16 l = 0 ↔ (0 < tot (prL l) ∧ tot (prL l) % 65535 = 0) := by
  unfold sum16 rnd
  split <;> omega
theorem hdS_sum (p : Pk) (f : Nat) : sum16 (hdS p f) = 0 := by
  have hle : sum16 (hdF p f 0) ≤ 65535 := sum16_bd _
  obtain ⟨h1, h2⟩ := hdF_tot p f _ hle
  rw [sum_zero_iff]
  unfold hdS
  rw [h1]
  clear hle h1
  unfold sum16
  generalize tot (prL (hdF p f 0)) = T at *
  unfold rnd
  rw [if_neg (by omega)]
  omega
theorem wrF_take (p : Pk) (f : Nat) : (wrF p f).take 20 = hdS p f := by
  unfold wrF
  rw [List.take_append_of_le_length (by simp [hdS, hdF_len]), List.take_of_length_le (by simp [hdS, hdF_len])]
theorem ofNat_nat (n : Nat) (h : n < 256) : (UInt8.ofNat n).toNat = n := by simp; omega
theorem b8_wrF (p : Pk) (f : Nat) (hb : p.body.length ≤ 1480) : b8 (wrF p f) 0 = 69 ∧ rdAll (wrF p f) = 20 + p.body.length ∧ 256 * b8 (wrF p f) 6 + b8 (wrF p f) 7 = f % 65536 := by
  unfold wrF hdS hdF rdAll b8
  simp [beL]
  omega
theorem wrF_code (p : Pk) (f : Nat) (hb : p.body.length ≤ 1480) : rdCode (wrF p f) = if f % 16384 ≠ 0 then 13 else 0 := by
  obtain ⟨h1, h2, h3⟩ := b8_wrF p f hb
  have hl := wrF_len p f
  unfold rdCode
  rw [if_neg (by omega), if_neg (by omega), if_neg (by omega), if_neg (by omega), if_neg (by omega), wrF_take, hdS_sum, if_neg (by omega), h3]
  by_cases hf : f % 16384 = 0
  · rw [if_neg (by omega), if_neg (by omega)]
  · rw [if_pos (by omega), if_pos hf]
theorem wrL_code (p : Pk) (hb : p.body.length ≤ 1480) : rdCode (wrL p) = 0 := by
  unfold wrL; rw [wrF_code p _ hb]; simp
theorem beN4 (n : Nat) (h : n < 4294967296) : beN (beL 4 n) = n := by
  simp [beL, beN]
  omega
theorem wrF_fields (p : Pk) (f : Nat) (ok : p.Ok) : b8 (wrF p f) 8 = p.ttl ∧ b8 (wrF p f) 9 = p.proto ∧ 256 * b8 (wrF p f) 4 + b8 (wrF p f) 5 = p.id := by
  have h1 := ok.ttl
  have h2 := ok.proto
  have h3 := ok.id
  unfold wrF hdS hdF b8
  simp [beL]
  omega
theorem wrF_src (p : Pk) (f : Nat) : ((wrF p f).drop 12).take 4 = beL 4 p.src ∧ ((wrF p f).drop 16).take 4 = beL 4 p.dst ∧ (wrF p f).drop 20 = p.body := by
  unfold wrF hdS hdF
  simp [beL]
theorem wrL_pk (p : Pk) (ok : p.Ok) (hb : p.body.length ≤ 1480) : rdPk (wrL p) = p := by
  obtain ⟨-, h2, -⟩ := b8_wrF p 16384 hb
  obtain ⟨f1, f2, f3⟩ := wrF_fields p 16384 ok
  obtain ⟨g1, g2, g3⟩ := wrF_src p 16384
  unfold rdPk
  rw [if_pos (wrL_code p hb)]
  unfold wrL
  rw [f1, f2, f3, g1, g2, h2, beN4 _ ok.src, beN4 _ ok.dst, ← wrF_len p 16384, List.take_length, g3]
theorem wrL_inj (p q : Pk) (hp : p.Ok) (hq : q.Ok) (bp : p.body.length ≤ 1480) (bq : q.body.length ≤ 1480) : wrL p = wrL q ↔ p = q := by
  refine ⟨fun h => ?_, fun h => by rw [h]⟩
  rw [← wrL_pk p hp bp, h, wrL_pk q hq bq]
theorem b8_take (l : List UInt8) (k i : Nat) (h : i < k) : b8 (l.take k) i = b8 l i := by
  unfold b8
  rw [List.getD_eq_getElem?_getD, List.getElem?_take, if_pos h, List.getD_eq_getElem?_getD]
theorem wrL_cut (p : Pk) (hb : p.body.length ≤ 1480) (k : Nat) (hk : k < (wrL p).length) : rdCode ((wrL p).take k) = 10 := by
  have hl : ((wrL p).take k).length = k := by simp; omega
  obtain ⟨h1, h2, h3⟩ := b8_wrF p 16384 hb
  have hw := wrF_len p 16384
  unfold rdCode
  rw [hl]
  by_cases h20 : k < 20
  · rw [if_pos h20]
  · have e0 : b8 ((wrL p).take k) 0 = 69 := by rw [b8_take _ _ _ (by omega)]; exact h1
    have e2 : rdAll ((wrL p).take k) = 20 + p.body.length := by unfold rdAll; rw [b8_take _ _ _ (by omega), b8_take _ _ _ (by omega)]; exact h2
    have hk2 : k < 20 + p.body.length := by rw [← hw]; exact hk
    rw [if_neg h20, e0, e2, if_neg (by omega), if_neg (by omega), if_pos (by omega)]
theorem rdCode_le (l : List UInt8) : rdCode l ≤ 14 := by
  unfold rdCode
  repeat' split
  all_goals omega
/-- A byte's weight in the sum. -/
def wgt (i : Nat) : Nat := if i % 2 = 0 then 256 else 1
theorem tot_set : ∀ (l : List UInt8) (i : Nat) (x : UInt8), i < l.length → tot (prL (l.set i x)) + wgt i * (l.getD i 0).toNat = tot (prL l) + wgt i * x.toNat
  | [], i, x, h => by simp at h
  | [a], i, x, h => by
    obtain rfl : i = 0 := by simp at h; omega
    simp [prL, tot, wgt]; omega
  | a :: b :: l, 0, x, h => by simp [prL, tot, wgt]; omega
  | a :: b :: l, 1, x, h => by simp [prL, tot, wgt]; omega
  | a :: b :: l, i + 2, x, h => by
    have ih := tot_set l i x (by simp at h; omega)
    have hw : wgt (i + 2) = wgt i := by unfold wgt; rw [Nat.add_mod_right]
    have hg : (a :: b :: l).getD (i + 2) 0 = l.getD i 0 := rfl
    rw [hw, hg]
    simp only [List.set_cons_succ, prL]
    unfold tot at *
    rw [List.sum_cons, List.sum_cons]
    omega
theorem set_take (l : List UInt8) (i k : Nat) (x : UInt8) : (l.set i x).take k = (l.take k).set i x := by
  rw [List.take_set]
theorem flip_byte (a : UInt8) (j : Nat) (h : j < 8) : (a ^^^ UInt8.ofNat (2 ^ j)).toNat = a.toNat + 2 ^ j ∨ (a ^^^ UInt8.ofNat (2 ^ j)).toNat + 2 ^ j = a.toNat := by
  revert a
  have : ∀ j, j < 8 → ∀ a : Fin 256, ((UInt8.ofNat a.1) ^^^ UInt8.ofNat (2 ^ j)).toNat = a.1 + 2 ^ j ∨ ((UInt8.ofNat a.1) ^^^ UInt8.ofNat (2 ^ j)).toNat + 2 ^ j = a.1 := by decide +kernel
  intro a
  have h1 := this j h ⟨a.toNat, UInt8.toNat_lt a⟩
  simpa using h1
theorem wrL_turned (p : Pk) (k : Nat) (hk : k < 160) (x : UInt8) (hx : x = (wrL p).getD (k / 8) 0 ^^^ UInt8.ofNat (2 ^ (k % 8))) : rdCode ((wrL p).set (k / 8) x) ≠ 0 := by
  intro h0
  have h1 := (rd_ok h0).2.2.2.2.2.2.1
  rw [set_take _ _ _ _, show (wrL p).take 20 = hdS p 16384 from wrF_take p 16384] at h1
  have h2 := hdS_sum p 16384
  have hl : k / 8 < (hdS p 16384).length := by unfold hdS; rw [hdF_len]; omega
  have ht := tot_set (hdS p 16384) (k / 8) x hl
  have hg : (hdS p 16384).getD (k / 8) 0 = (wrL p).getD (k / 8) 0 := by
    unfold wrL wrF
    rw [List.getD_eq_getElem?_getD, List.getD_eq_getElem?_getD, List.getElem?_append_left hl]
  have hf := flip_byte ((wrL p).getD (k / 8) 0) (k % 8) (by omega)
  rw [← hx, ← hg] at hf
  rw [sum_zero_iff] at h1 h2
  have h1' := h1.2
  have h2' := h2.2
  generalize tot (prL ((hdS p 16384).set (k / 8) x)) = T at *
  generalize tot (prL (hdS p 16384)) = T0 at *
  generalize ((hdS p 16384).getD (k / 8) 0).toNat = a at *
  generalize x.toNat = y at *
  have hp : ∀ j, j < 8 → (2 ^ j) % 65535 ≠ 0 ∧ (256 * 2 ^ j) % 65535 ≠ 0 ∧ 2 ^ j < 65535 ∧ 256 * 2 ^ j < 65535 := by decide
  obtain ⟨q1, q2, q3, q4⟩ := hp (k % 8) (by omega)
  generalize 2 ^ (k % 8) = z at *
  unfold wgt at ht
  have hz : 0 < z := by refine Nat.pos_of_ne_zero fun e => ?_; rw [e] at q1; simp at q1
  split at ht <;> rcases hf with hf | hf <;> omega
end Go.Proofs.YtjpkmbgpkdomnaaDoor
