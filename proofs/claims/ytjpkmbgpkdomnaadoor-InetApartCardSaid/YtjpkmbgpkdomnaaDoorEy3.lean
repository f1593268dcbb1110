/- (*octet.Eye).Num. -/
import Derived.Test.YtjpkmbgpkdomnaaDoorEy2
namespace Go.Proofs.YtjpkmbgpkdomnaaDoor
open Go.RowKit

/-- The number of bytes, the great one ahead. -/
def beN (l : List UInt8) : Nat := l.foldl (fun n b => 256 * n + b.toNat) 0
theorem beN_snoc (l : List UInt8) (b : UInt8) : beN (l ++ [b]) = 256 * beN l + b.toNat := by unfold beN; rw [List.foldl_append]; rfl
theorem beN_take (l : List UInt8) (k : Nat) (h : k < l.length) : beN (l.take (k + 1)) = 256 * beN (l.take k) + (l.getD k 0).toNat := by
  rw [List.take_succ_eq_append_getElem h, beN_snoc]
  rw [show l.getD k 0 = l[k] by rw [List.getD_eq_getElem?_getD, List.getElem?_eq_getElem h]; rfl]
def pw256 : Nat → Nat
  | 0 => 1
  | k + 1 => 256 * pw256 k
theorem pw256_le : ∀ k, k ≤ 7 → pw256 k ≤ 72057594037927936 := by decide
theorem beN_bd (l : List UInt8) : ∀ k, k ≤ l.length → beN (l.take k) + 1 ≤ pw256 k
  | 0, _ => by simp [beN, pw256]
  | k + 1, h => by
    have ih := beN_bd l k (by omega)
    have hb := UInt8.toNat_lt (l.getD k 0)
    rw [beN_take l k (by omega)]
    show _ ≤ 256 * pw256 k
    omega
theorem u64_join (n y : Nat) (hn : n < 72057594037927936) (hy : y < 256) : bits .or .u64 ((n : Int) * 256) (y : Int) = ((256 * n + y : Nat) : Int) := by
  have h := u64_or_nat (n * 256) y (by omega) (by omega)
  rw [nat_join 8 (n * 256) y (by omega) (by omega)] at h
  rw [show (n : Int) * 256 = ((n * 256 : Nat) : Int) by omega, h]; omega
def NumPost2 (m : Nat) (w : World) (p : Nat) (x : Nat) (r : List UInt8) (bad : Bool) (e : Ending) (w' : World) : Prop := e = .returned (.int .u64 x) ∧ EyeAt m w' p r bad ∧ w.grownBy w' (some p)
set_option maxRecDepth 20000 in
set_option maxHeartbeats 4000000 in
theorem eye_num (m p : Nat) (l : List UInt8) (bad : Bool) (k : Nat) (w : World) (hE : EyeAt m w p l bad) (hk1 : 1 ≤ k) (hk8 : k ≤ 8) (hk : k ≤ l.length) (hl : l.length ≤ 100000) :
    Calls Tryd.prog 50 #[.pointer (some ⟨p, 0, none⟩), .int .i64 k] w (NumPost2 m w p (beN (l.take k)) (l.drop k) bad) := by
  have h := hid (eye_bytes m p l bad k w hE hk hl (by omega))
  have hw := hid (fun W => width_any k hk8 W)
  obtain ⟨t, ht⟩ : ∃ t, t = l.take k := ⟨_, rfl⟩
  have htl : t.length = k := by rw [ht]; simp; omega
  rw [← ht] at h ⊢
  clear hE ht
  go_enter Tryd.func50, Tryd.ntmps50
  go_wp2_with fail
  refine (hw.out w).mono ?_
  rintro e w1 ⟨rfl, rfl⟩
  go_wp2_with fail
  refine h.out.mono ?_
  rintro e w1 ⟨v, rfl, hv, hE2, g1, -⟩
  obtain ⟨a, c, rfl, h1, h2, h3⟩ := hv
  obtain ⟨b, o, rfl, hc⟩ := h3 (by intro e; rw [e] at htl; simp at htl; omega)
  have HC := hid hc
  have HL := hid htl
  rw [htl]
  clear h3 hc htl
  go_wp2_with fail
  go_loop [4, 12] (fun vn vi => ∃ i : Nat, i ≤ k ∧ vi = .int .i64 i ∧ vn = .int .u64 (beN (t.take i))) (fun _ vi => k - (intOf vi).toNat)
  case atStart => exact ⟨0, Nat.zero_le _, rfl, rfl⟩
  case round =>
    obtain ⟨i, hi, rfl, rfl⟩ := hrel
    by_cases hlt : i < k
    · have hcx := HC.out i (by rw [HL.out]; exact hlt)
      have hbd := beN_bd t i (by rw [HL.out]; omega)
      have hpw := pw256_le i (by omega)
      have hst := hid (beN_take t i (by rw [HL.out]; exact hlt))
      have hy := UInt8.toNat_lt (t.getD i 0)
      have hj := u64_join (beN (t.take i)) (t.getD i 0).toNat (by omega) hy
      have hn2 : ((beN (t.take i) : Nat) : Int) * 256 ≤ 18446744073709551615 := by omega
      generalize (t.getD i 0).toNat = y at *
      generalize beN (t.take i) = n at *
      have hn3 : (0 : Int) ≤ (n : Int) * 256 := by omega
      clear hbd hpw
      go_wp2
      go_round
      case rel => exact ⟨i + 1, by omega, by go_num, by rw [hst.out]; first | done | rfl | go_num⟩
      case measure => simp [intOf]; omega
    · obtain rfl : i = k := by omega
      rw [show t.take i = t by rw [← HL.out, List.take_length]]
      go_wp2
      go_ret
      exact ⟨rfl, hE2, g1⟩
end Go.Proofs.YtjpkmbgpkdomnaaDoor
