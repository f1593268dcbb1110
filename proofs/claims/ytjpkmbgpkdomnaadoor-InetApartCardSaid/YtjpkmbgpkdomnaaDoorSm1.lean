/- Check sums: the plain law; fold, Add. -/
import Derived.Test.YtjpkmbgpkdomnaaDoorOct1
import Derived.Test.YtjpkmbgpkdomnaaDoorIn3
namespace Go.Proofs.YtjpkmbgpkdomnaaDoor
open Go.RowKit

/-- The numbers of two bytes each. -/
def prL : List UInt8 → List Nat
  | [] => []
  | [a] => [256 * a.toNat]
  | a :: b :: l => (256 * a.toNat + b.toNat) :: prL l
def tot (l : List Nat) : Nat := l.sum
/-- A sum with the carry brought round. -/
def rnd (t : Nat) : Nat := if t = 0 then 0 else (t - 1) % 65535 + 1
theorem rnd_le (t : Nat) : rnd t ≤ 65535 := by unfold rnd; split <;> omega
theorem rnd_add (t x : Nat) (hx : x ≤ 65535) : (if 65535 < rnd t + x then rnd t + x - 65535 else rnd t + x) = rnd (t + x) := by
  unfold rnd
  by_cases h0 : t = 0
  · subst h0
    by_cases hx0 : x = 0
    · subst hx0; simp
    · rw [if_pos rfl, if_neg (by omega), if_neg (by omega)]; omega
  · rw [if_neg h0, if_neg (show ¬ t + x = 0 by omega)]
    split <;> omega
def sum16 (l : List UInt8) : Nat := 65535 - rnd (tot (prL l))
theorem prL_bd : ∀ l : List UInt8, ∀ x ∈ prL l, x ≤ 65535
  | [], x, h => by simp [prL] at h
  | [a], x, h => by simp [prL] at h; have := UInt8.toNat_lt a; omega
  | a :: b :: l, x, h => by
    rw [prL, List.mem_cons] at h
    rcases h with h | h
    · have := UInt8.toNat_lt a; have := UInt8.toNat_lt b; omega
    · exact prL_bd l x h
theorem prL_len : ∀ l : List UInt8, (prL l).length = (l.length + 1) / 2
  | [] => rfl
  | [a] => by simp [prL]
  | a :: b :: l => by rw [prL, List.length_cons, prL_len l]; simp; omega
theorem prL_at : ∀ (l : List UInt8) (k : Nat), 2 * k < l.length → (prL l).getD k 0 = 256 * (l.getD (2 * k) 0).toNat + (l.getD (2 * k + 1) 0).toNat
  | [], k, h => by simp at h
  | [a], k, h => by
    obtain rfl : k = 0 := by simp at h; omega
    simp [prL]
  | a :: b :: l, 0, h => by simp [prL]
  | a :: b :: l, k + 1, h => by
    rw [prL]
    have := prL_at l k (by simp at h; omega)
    simpa [Nat.mul_add] using this
theorem tot_take (l : List Nat) (k : Nat) (h : k < l.length) : tot (l.take (k + 1)) = tot (l.take k) + l.getD k 0 := by
  unfold tot
  rw [List.take_succ_eq_append_getElem h, List.sum_append]
  rw [show l.getD k 0 = l[k] by rw [List.getD_eq_getElem?_getD, List.getElem?_eq_getElem h]; rfl]
  simp
theorem tot_bd (l : List Nat) (h : ∀ x ∈ l, x ≤ 65535) : tot l ≤ 65535 * l.length := by
  induction l with
  | nil => simp [tot]
  | cons x l ih =>
    have h1 := h x (by simp)
    have h2 := ih (fun y hy => h y (by simp [hy]))
    unfold tot at *
    simp; omega
theorem fold_step (t : Nat) (h : 65535 < t) : rnd (t / 65536 + t % 65536) = rnd t := by
  unfold rnd
  rw [if_neg (by omega), if_neg (by omega)]
  omega
set_option maxRecDepth 20000 in
set_option maxHeartbeats 1000000 in
theorem fold_any (t : Nat) (ht : t < 1099511627776) (w : World) :
    Calls Tryd.prog 71 #[.int .u64 t] w fun e w' => e = .returned (.int .u16 (rnd t)) ∧ w = w' := by
  go_enter Tryd.func71, Tryd.ntmps71
  go_wp2_with fail
  go_loop [0] (fun vt => ∃ x : Nat, vt = .int .u64 x ∧ x < 1099511627776 ∧ Hid (rnd x = rnd t)) (fun vt => (intOf vt).toNat)
  case atStart => exact ⟨t, rfl, ht, rfl⟩
  case round =>
    obtain ⟨x, rfl, hx, hr⟩ := hrel
    have hand : bits .and .u64 (x : Int) 65535 = ((x % 65536 : Nat) : Int) := by
      have h := u64_and_nat x 65535 (by omega) (by omega)
      rw [show ((65535 : Int)) = ((65535 : Nat) : Int) from rfl, h, nat_mask16]
    have hx2 : x / 65536 + x % 65536 < 1099511627776 := by omega
    have Hx2 := hid hx2
    have hx3 : (x : Int) ≤ 1099511627775 := by omega
    clear hx hx2 ht
    by_cases hc : 65535 < x
    · have hy := hid (show rnd (x / 65536 + x % 65536) = rnd t by rw [fold_step x hc]; exact hr.out)
      have hci : (65535 : Int) < (x : Int) := by omega
      have Hm := hid (show x / 65536 + x % 65536 < x by omega)
      clear hc
      go_wp2
      go_round
      case rel => exact ⟨x / 65536 + x % 65536, by go_num, Hx2.out, hy⟩
      case measure => have := Hm.out; simp [intOf]; omega
    · have hz := hid (show rnd t = x by
        rw [← hr.out]; unfold rnd; split <;> omega)
      have hci : (x : Int) ≤ 65535 := by omega
      clear hc
      go_wp2
      go_ret
      exact ⟨by rw [hz.out]; rfl, rfl⟩
set_option maxRecDepth 20000 in
set_option maxHeartbeats 1000000 in
theorem add_any (t x : Nat) (hx : x ≤ 65535) (w : World) :
    Calls Tryd.prog 58 #[.int .u16 (rnd t), .int .u16 x] w fun e w' => e = .returned (.int .u16 (rnd (t + x))) ∧ w = w' := by
  have h := rnd_add t x hx
  have hb := rnd_le t
  generalize rnd t = a at *
  generalize rnd (t + x) = b at *
  have H := hid h
  clear h
  by_cases hc : 65535 < a + x
  · have R := hid (show a + x - 65535 = b by rw [← H.out, if_pos hc])
    have hci : (65535 : Int) < (a : Int) + (x : Int) := by omega
    have hai : (a : Int) ≤ 65535 := by omega
    have hxi : (x : Int) ≤ 65535 := by omega
    have Hc := hid hc
    clear hc hx hb
    go_enter Tryd.func58, Tryd.ntmps58
    go_wp2
    go_ret
    refine ⟨?_, rfl⟩
    rw [← R.out]
    show Ending.returned (.int .u16 ((a : Int) + (x : Int) - 65535)) = _
    have := Hc.out
    rw [show (a : Int) + (x : Int) - 65535 = ((a + x - 65535 : Nat) : Int) by omega]
  · have R := hid (show a + x = b by rw [← H.out, if_neg hc])
    have hci : (a : Int) + (x : Int) ≤ 65535 := by omega
    have hai : (a : Int) ≤ 65535 := by omega
    have hxi : (x : Int) ≤ 65535 := by omega
    clear hc hx hb
    go_enter Tryd.func58, Tryd.ntmps58
    go_wp2
    go_ret
    refine ⟨?_, rfl⟩
    rw [← R.out]
    show Ending.returned (.int .u16 ((a : Int) + (x : Int))) = _
    rw [show (a : Int) + (x : Int) = ((a + x : Nat) : Int) by omega]
end Go.Proofs.YtjpkmbgpkdomnaaDoor
