/- hearthref04.Text. -/
import Derived.Test.YtjpkmbgpkdomnaaDoorIn2
import Derived.Laws.BitsAllLaws
namespace Go.Proofs.YtjpkmbgpkdomnaaDoor
open Go.RowKit

theorem i64_and255 (n : Int) : bits .and .i64 n 255 = n % 256 := by
  have h255 : (BitVec.ofInt 64 255).toNat = 2 ^ 8 - 1 := by decide
  have key : (BitVec.ofInt 64 n &&& BitVec.ofInt 64 255).toNat = (n % ((2 ^ 64 : Nat) : Int)).toNat % 2 ^ 8 := by
    rw [BitVec.toNat_and, BitVec.toNat_ofInt, h255, Nat.and_two_pow_sub_one_eq_mod]
  show IntKind.i64.wrap ((BitVec.ofInt 64 n &&& BitVec.ofInt 64 255).toNat : Nat) = n % 256
  rw [key, IntKind.wrap_i64]
  omega
theorem beL4 (a : Nat) : beL 4 a = [UInt8.ofNat (a / 16777216 % 256), UInt8.ofNat (a / 65536 % 256), UInt8.ofNat (a / 256 % 256), UInt8.ofNat (a % 256)] := by
  rw [beL_cons, beL_cons, beL_cons, beL_cons]; simp [beL]
theorem digL_size (b : UInt8) : (ByteArray.mk (digL b).toArray).size ≤ 3 := by rw [Lib.size_eq]; exact (digL_len b).1
set_option maxHeartbeats 2000000 in
theorem rtext_in (a : Nat) (ha : a < 4294967296) (w : World) :
    Calls Tryd.prog 27 #[.int .u32 a] w fun e w' => e = .returned (str (textL a)) ∧ w.grownBy w' none := by
  obtain ⟨b0, e0⟩ : ∃ b, b = UInt8.ofNat (a / 16777216 % 256) := ⟨_, rfl⟩
  obtain ⟨b1, e1⟩ : ∃ b, b = UInt8.ofNat (a / 65536 % 256) := ⟨_, rfl⟩
  obtain ⟨b2, e2⟩ : ∃ b, b = UInt8.ofNat (a / 256 % 256) := ⟨_, rfl⟩
  obtain ⟨b3, e3⟩ : ∃ b, b = UInt8.ofNat (a % 256) := ⟨_, rfl⟩
  have q0 : bits .and .i64 ((a : Int) / 16777216) 255 = (b0.toNat : Int) := by rw [i64_and255, e0]; simp <;> omega
  have q1 : bits .and .i64 ((a : Int) / 65536) 255 = (b1.toNat : Int) := by rw [i64_and255, e1]; simp <;> omega
  have q2 : bits .and .i64 ((a : Int) / 256) 255 = (b2.toNat : Int) := by rw [i64_and255, e2]; simp <;> omega
  have q3 : bits .and .i64 (a : Int) 255 = (b3.toNat : Int) := by rw [i64_and255, e3]; simp <;> omega
  have hT : textL a = digL b0 ++ 46 :: (digL b1 ++ 46 :: (digL b2 ++ 46 :: digL b3)) := by
    unfold textL; rw [beL4, ← e0, ← e1, ← e2, ← e3]; exact join4 _ _ _ _
  rw [hT]
  have s0 := digL_size b0
  have t0 := (digL_len b0).1
  have s1 := digL_size b1
  have t1 := (digL_len b1).1
  have s2 := digL_size b2
  have t2 := (digL_len b2).1
  have s3 := digL_size b3
  have t3 := (digL_len b3).1
  have D0 := hid (fun W => rdigits b0 W)
  have D1 := hid (fun W => rdigits b1 W)
  have D2 := hid (fun W => rdigits b2 W)
  have D3 := hid (fun W => rdigits b3 W)
  generalize digL b0 = l0 at *
  generalize digL b1 = l1 at *
  generalize digL b2 = l2 at *
  generalize digL b3 = l3 at *
  clear hT e0 e1 e2 e3
  have sd : (ByteArray.mk #[46]).size ≤ 1 := Nat.le_refl _
  go_enter Tryd.func27, Tryd.ntmps27
  go_wp2_with fail
  refine (D0.out _).mono ?_
  rintro e w1 ⟨rfl, g1⟩
  unfold str
  go_wp2_with fail
  refine (D1.out _).mono ?_
  rintro e w2 ⟨rfl, g2⟩
  unfold str
  go_wp2_with fail
  refine (D2.out _).mono ?_
  rintro e w3 ⟨rfl, g3⟩
  unfold str
  go_wp2_with fail
  refine (D3.out _).mono ?_
  rintro e w4 ⟨rfl, g4⟩
  unfold str
  go_wp2
  go_ret
  refine ⟨?_, gr_trans (gr_trans (gr_trans g1 g2) g3) g4⟩
  show Ending.returned (.string (ByteArray.mk l0.toArray ++ ByteArray.mk #[46] ++ ByteArray.mk l1.toArray ++ ByteArray.mk #[46] ++ ByteArray.mk l2.toArray ++ ByteArray.mk #[46] ++ ByteArray.mk l3.toArray)) = _
  simp only [ByteArray.mk_append_mk]
  simp [str]
end Go.Proofs.YtjpkmbgpkdomnaaDoor
