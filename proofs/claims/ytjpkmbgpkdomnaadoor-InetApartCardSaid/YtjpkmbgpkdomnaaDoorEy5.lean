/- hearthref01: Size, Eye.Num. -/
import Derived.Test.YtjpkmbgpkdomnaaDoorEy4
namespace Go.Proofs.YtjpkmbgpkdomnaaDoor
open Go.RowKit

theorem size_any (k : Nat) (hk : k ≤ 8) (w : World) : Calls Tryd.prog 68 #[.int .i64 k] w fun e w' => e = .returned (.int .i64 k) ∧ w = w' := by
  go_enter Tryd.func68, Tryd.ntmps68
  go_wp2
  go_ret
  exact ⟨rfl, rfl⟩
def RNumPost (w : World) (p : Nat) (x : Nat) (l : List UInt8) (i : Nat) (bad : Bool) (e : Ending) (w' : World) : Prop := e = .returned (.int .u64 x) ∧ REyeAt w' p l i bad ∧ w.grownBy w' (some p)
set_option maxRecDepth 20000 in
set_option maxHeartbeats 4000000 in
theorem reye_num (p : Nat) (l : List UInt8) (bad : Bool) (i k : Nat) (w : World) (hE : REyeAt w p l i bad) (hk1 : 1 ≤ k) (hk8 : k ≤ 8) (hk : i + k ≤ l.length) (hl : l.length ≤ 100000) :
    Calls Tryd.prog 53 #[.pointer (some ⟨p, 0, none⟩), .int .i64 k] w (RNumPost w p (beN ((l.drop i).take k)) l (i + k) bad) := by
  have h := hid (reye_bytes p l bad i k w hE hk1 hk hl)
  have hw := hid (fun W => size_any k hk8 W)
  obtain ⟨t, ht⟩ : ∃ t, t = (l.drop i).take k := ⟨_, rfl⟩
  have htl : t.length = k := by rw [ht]; simp; omega
  rw [← ht] at h ⊢
  clear hE ht
  go_enter Tryd.func53, Tryd.ntmps53
  go_wp2_with fail
  refine (hw.out w).mono ?_
  rintro e w1 ⟨rfl, rfl⟩
  go_wp2_with fail
  refine h.out.mono ?_
  rintro e w1 ⟨v, rfl, hv, hE2, g1⟩
  obtain ⟨a, c, rfl, h1, h2, h3⟩ := hv
  obtain ⟨b, o, rfl, hc⟩ := h3 (by intro e; rw [e] at htl; simp at htl; omega)
  have HC := hid hc
  have HL := hid htl
  rw [htl]
  clear h3 hc htl
  go_wp2_with fail
  go_loop [6, 7] (fun vn vi => ∃ i : Nat, i ≤ k ∧ vi = .int .i64 i ∧ vn = .int .u64 (beN (t.take i))) (fun _ vi => k - (intOf vi).toNat)
  case atStart => exact ⟨0, Nat.zero_le _, rfl, rfl⟩
  case round =>
    obtain ⟨i, hi, rfl, rfl⟩ := hrel
    by_cases hlt : i < k
    · have hcx := HC.out i (by rw [HL.out]; exact hlt)
      have hbd := beN_bd t i (by rw [HL.out]; omega)
      have hpw := pw256_le i (by omega)
      have hst := hid (beN_take t i (by rw [HL.out]; exact hlt))
      have hy := UInt8.toNat_lt (t.getD i 0)
      have hn2 : 256 * ((beN (t.take i) : Nat) : Int) + (((t.getD i 0).toNat : Nat) : Int) ≤ 18446744073709551615 := by omega
      generalize (t.getD i 0).toNat = y at *
      generalize beN (t.take i) = n at *
      have hn3 : 256 * (n : Int) ≤ 18446744073709551615 := by omega
      have hn4 : (0 : Int) ≤ 256 * (n : Int) := by omega
      clear hbd hpw
      go_wp2
      go_round
      case rel => exact ⟨i + 1, by omega, by go_num, by rw [hst.out]; first | done | rfl | go_num⟩
      case measure => simp [intOf]; omega
    · obtain rfl : i = k := by omega
      rw [show t.take i = t by rw [← HL.out, List.take_length]]
      go_wp2
      go_ret
      exact ⟨rfl, hE2, g1⟩
end Go.Proofs.YtjpkmbgpkdomnaaDoor
