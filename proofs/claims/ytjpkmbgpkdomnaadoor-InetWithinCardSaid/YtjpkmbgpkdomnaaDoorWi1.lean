/- inet.Within and hearthref04.Within: what they compute; the walk of InetWithin. -/
import Derived.Test.YtjpkmbgpkdomnaaDoorIn8
namespace Go.Proofs.YtjpkmbgpkdomnaaDoor
open Go.RowKit

/-- How many bits count. -/
def bitsN (b : Int) : Nat := (min (max b 0) 32).toNat
def withinB (a n : Nat) (b : Int) : Bool := decide (a / 2 ^ (32 - bitsN b) = n / 2 ^ (32 - bitsN b))
theorem xor_zero (a n : Nat) : a ^^^ n = 0 ↔ a = n := by
  constructor
  · intro h
    apply Nat.eq_of_testBit_eq
    intro i
    have := congrArg (fun x => x.testBit i) h
    simp only [Nat.testBit_xor, Nat.zero_testBit] at this
    cases ha : a.testBit i <;> cases hn : n.testBit i <;> simp_all
  · rintro rfl; exact Nat.xor_self a
theorem xor_div (a n k : Nat) : (a ^^^ n) / 2 ^ k = 0 ↔ a / 2 ^ k = n / 2 ^ k := by
  rw [← Nat.shiftRight_eq_div_pow, ← Nat.shiftRight_eq_div_pow, ← Nat.shiftRight_eq_div_pow, Nat.shiftRight_xor_distrib]
  exact xor_zero _ _
set_option maxHeartbeats 2000000 in
theorem within_any (a n : Nat) (ha : a < 4294967296) (hn : n < 4294967296) (b : Int) (w : World) :
    Calls Tryd.prog 28 #[.int .u32 a, .int .u32 n, .int .i64 b] w fun e w' => e = .returned (.bool (withinB a n b)) ∧ w = w' := by
  have hx := u32_xor_nat a n ha hn
  go_enter Tryd.func28, Tryd.ntmps28
  go_wp2
  go_ret
  refine ⟨?_, rfl⟩
  show Ending.returned (.bool (((a ^^^ n : Nat) : Int) / 2 ^ (32 - min (max b 0) 32).toNat == 0)) = _
  have hk : (32 - min (max b 0) 32).toNat = 32 - bitsN b := by unfold bitsN; omega
  rw [hk]
  unfold withinB
  generalize 32 - bitsN b = k
  have e : ((a ^^^ n : Nat) : Int) / 2 ^ k = (((a ^^^ n) / 2 ^ k : Nat) : Int) := by simp
  rw [e]
  have h := xor_div a n k
  congr 2
  rw [Bool.eq_iff_iff, beq_iff_eq, decide_eq_true_iff, ← h]
  omega
theorem bit_of (a k : Nat) (ha : a < 4294967296) : bits .and .u32 ((a : Int) / 2 ^ k) 1 = ((a / 2 ^ k % 2 : Nat) : Int) := by
  have e : (a : Int) / 2 ^ k = ((a / 2 ^ k : Nat) : Int) := by simp
  have h := u32_and_nat (a / 2 ^ k) 1 (Nat.lt_of_le_of_lt (Nat.div_le_self _ _) ha) (by omega)
  rw [e]
  rw [show ((1 : Int)) = ((1 : Nat) : Int) from rfl, h, nat_mask1]
theorem div_step (a i : Nat) (hi : i < 32) : a / 2 ^ (31 - i) = 2 * (a / 2 ^ (32 - i)) + a / 2 ^ (31 - i) % 2 := by
  have e : 32 - i = (31 - i) + 1 := by omega
  rw [e, Nat.pow_succ, ← Nat.div_div_eq_div_mul]
  omega
theorem div_more (a n j k : Nat) (h : a / 2 ^ j = n / 2 ^ j) (hj : j ≤ k) : a / 2 ^ k = n / 2 ^ k := by
  obtain ⟨d, rfl⟩ : ∃ d, k = j + d := ⟨k - j, by omega⟩
  rw [Nat.pow_add, ← Nat.div_div_eq_div_mul, ← Nat.div_div_eq_div_mul, h]
set_option maxHeartbeats 2000000 in
theorem rwithin_any (a n : Nat) (ha : a < 4294967296) (hn : n < 4294967296) (b : Int) (w : World) :
    Calls Tryd.prog 29 #[.int .u32 a, .int .u32 n, .int .i64 b] w fun e w' => e = .returned (.bool (withinB a n b)) ∧ w = w' := by
  have Ha := hid ha
  have Hn := hid hn
  clear ha hn
  go_enter Tryd.func29, Tryd.ntmps29
  go_wp2_with fail
  go_loop [7] (fun vi => ∃ i : Nat, i ≤ bitsN b ∧ vi = .int .i64 i ∧ Hid (a / 2 ^ (32 - i) = n / 2 ^ (32 - i))) (fun vi => 33 - (intOf vi).toNat)
  case atStart =>
    refine ⟨0, Nat.zero_le _, rfl, ?_⟩
    show _ = _
    have h1 := Ha.out
    have h2 := Hn.out
    rw [Nat.div_eq_of_lt (by omega), Nat.div_eq_of_lt (by omega)]
  case round =>
    obtain ⟨i, hi, rfl, he⟩ := hrel
    by_cases hc : i < bitsN b
    · have hi32 : i < 32 := by unfold bitsN at hc; omega
      have hib : (i : Int) < b := by unfold bitsN at hc; omega
      have b1 := bit_of a (31 - i) Ha.out
      have b2 := bit_of n (31 - i) Hn.out
      have s1 := hid (div_step a i hi32)
      have s2 := hid (div_step n i hi32)
      have hk : (31 - (i : Int)).toNat = 31 - i := by omega
      by_cases hb : a / 2 ^ (31 - i) % 2 = n / 2 ^ (31 - i) % 2
      · have R := hid (show a / 2 ^ (32 - (i + 1)) = n / 2 ^ (32 - (i + 1)) by
          rw [show 32 - (i + 1) = 31 - i by omega, s1.out, s2.out, he.out, hb])
        rw [hb] at b1
        generalize n / 2 ^ (31 - i) % 2 = q at b1 b2
        clear hb hk
        go_wp2
        go_round
        case rel => exact ⟨i + 1, by omega, by go_num, R⟩
        case measure => simp [intOf]; omega
      · have R := hid (show withinB a n b = false by
          unfold withinB
          rw [decide_eq_false_iff_not]
          intro h
          exact hb (by rw [div_more a n _ (31 - i) h (by omega)]))
        have hne : (((a / 2 ^ (31 - i) % 2 : Nat) : Int) != ((n / 2 ^ (31 - i) % 2 : Nat) : Int)) = true := by simp only [bne_iff_ne, ne_eq]; omega
        generalize a / 2 ^ (31 - i) % 2 = p at b1 hne
        generalize n / 2 ^ (31 - i) % 2 = q at b2 hne
        clear hb hk
        go_wp2
        go_ret
        exact ⟨by rw [R.out]; rfl, rfl⟩
    · have R := hid (show withinB a n b = true by
        unfold withinB
        obtain rfl : i = bitsN b := by omega
        rw [he.out]; simp)
      have hcc : ¬ (i : Int) < 32 ∨ ((i : Int) < 32 ∧ ¬ (i : Int) < b) := by unfold bitsN at hc hi; omega
      rcases hcc with h1 | ⟨h0, h1⟩
      · go_wp2
        go_ret
        exact ⟨by rw [R.out]; rfl, rfl⟩
      · go_wp2
        go_ret
        exact ⟨by rw [R.out]; rfl, rfl⟩
set_option maxHeartbeats 1000000 in
theorem inet_within_walk (a n : Nat) (ha : a < 4294967296) (hn : n < 4294967296) (b : Int) (m : Int) (w : World) (hm : Hid (MaxCell m w)) (h10 : Hid (P10 w)) :
    Calls Tryd.prog 5 #[.int .u32 a, .int .u32 n, .int .i64 b] w fun e w' => e = .returned (.bool true) ∧ w.grownBy w' none := by
  have hsp := hid (ispeaks_true m w hm h10)
  have h1 := hid (fun W => within_any a n ha hn b W)
  have h2 := hid (fun W => rwithin_any a n ha hn b W)
  have h3 := fun W => within_any a a ha ha b W
  rw [show withinB a a b = true by unfold withinB; simp] at h3
  have H3 := hid h3
  generalize withinB a n b = x at *
  clear h3 ha hn
  go_enter Tryd.func5, Tryd.ntmps5
  go_wp2_with fail
  refine hsp.out.mono ?_
  rintro e w1 ⟨rfl, g1⟩
  go_wp2_with fail
  refine (h1.out w1).mono ?_
  rintro e w2 ⟨rfl, rfl⟩
  go_wp2_with fail
  refine (h2.out w1).mono ?_
  rintro e w2 ⟨rfl, rfl⟩
  go_wp2_with fail
  refine (H3.out w1).mono ?_
  rintro e w2 ⟨rfl, rfl⟩
  go_wp2
  go_ret
  exact ⟨rfl, g1⟩
end Go.Proofs.YtjpkmbgpkdomnaaDoor
