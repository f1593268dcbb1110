/- hearthref01.Num. -/
import Derived.Test.YtjpkmbgpkdomnaaDoorWr2
import Derived.Test.YtjpkmbgpkdomnaaDoorEy5
namespace Go.Proofs.YtjpkmbgpkdomnaaDoor
open Go.RowKit

def RNPost (w : World) (l : List UInt8) (e : Ending) (w' : World) : Prop := ∃ v, e = .returned v ∧ Own8 w' w.heap.size v l ∧ w.grownBy w' none
set_option maxRecDepth 20000 in
set_option maxHeartbeats 2000000 in
theorem rnum_any (k : Nat) (hk : k ≤ 8) (n : Nat) (hn : n < 18446744073709551616) (w : World) :
    Calls Tryd.prog 56 #[.int .i64 k, .int .u64 n] w (RNPost w (beL k n)) := by
  have hw := hid (fun W => size_any k hk W)
  have hN := hid hn
  clear hn
  go_enter Tryd.func56, Tryd.ntmps56
  go_wp2_with fail
  go_loopw [5, 6, 7] (fun vo vx vi wr => ∃ i : Nat, i ≤ k ∧ vi = .int .i64 i ∧ vx = .int .u64 ((n / 256 ^ i : Nat) : Int) ∧ Own8 wr w.heap.size vo (beL i n) ∧ w.grownBy wr none) (fun _ _ vi _ => k - (intOf vi).toNat)
  case atStart => exact ⟨0, Nat.zero_le _, rfl, by simp, own8_of (heap_alloc_new w _) (Nat.le_refl _) rfl rfl (by simp [maxLen]), World.grownBy_alloc w _ none⟩
  case round =>
    obtain ⟨i, hi, rfl, rfl, hown, gw⟩ := hrel
    go_wp2_with fail
    refine (hw.out wr).mono ?_
    rintro e w1 ⟨rfl, rfl⟩
    by_cases hlt : i < k
    · have hnb : n / 256 ^ i < 18446744073709551616 := Nat.lt_of_le_of_lt (Nat.div_le_self _ _) hN.out
      have hdd := hid (show n / 256 ^ i / 256 = n / 256 ^ (i + 1) by rw [Nat.div_div_eq_div_mul, Nat.pow_succ])
      have hcons := hid (beL_cons i n)
      have hlen := beL_len i n
      have hbyte : ((UInt8.ofNat (n / 256 ^ i % 256)).toNat : Int) = (((n / 256 ^ i : Nat) : Int)) % 256 := by simp
      generalize UInt8.ofNat (n / 256 ^ i % 256) = x at *
      generalize n / 256 ^ i = m at *
      have hb1 : IntKind.u8.wrap ((m : Int) % 256) = (m : Int) % 256 := IntWalk.u8_in _ (by omega)
      have hmb : (m : Int) ≤ 18446744073709551615 := by omega
      have HO := hid hown
      have HX := hid hbyte
      have hbs := hid hown.bytes
      clear hnb hown hbyte
      go_wp2_with (at_builtin; refine wpl_app8 (base := w.heap.size) (xs := [x]) (l := beL i n) rfl _ _ rfl rfl rfl (own8_of (l := [x]) (heap_alloc_new wr _) gw.size rfl (by simp [bv, HX.out]) (by simp [maxLen])) (hbs.out.grown (World.grownBy_alloc _ _ none)) (by simp [hlen]; omega) (Nat.le_trans gw.size (World.grownBy_alloc _ _ none).size) ?_; intro v2 w2 hown2 g2)
      have G2 := gr_new (gr_alloc gw _) g2 gw.size
      rw [List.singleton_append, ← hcons.out] at hown2
      go_wp2
      go_roundw
      case rel => exact ⟨i + 1, by omega, by go_num, by rw [← hdd.out]; first | done | rfl | go_num, hown2, G2⟩
      case measure => simp [intOf]; omega
    · obtain rfl : i = k := by omega
      go_wp2
      go_ret
      exact ⟨_, rfl, hown, gw⟩
end Go.Proofs.YtjpkmbgpkdomnaaDoor
