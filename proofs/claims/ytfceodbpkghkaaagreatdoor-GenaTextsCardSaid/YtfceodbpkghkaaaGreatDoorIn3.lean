/- hearthref04.Text. -/
import Derived.Test.YtfceodbpkghkaaaGreatDoorIn2
import Derived.Laws.BitsAllLaws
namespace Go.Proofs.YtfceodbpkghkaaaGreatDoor
open Go.RowKit

theorem i64_and255 (n : Int) : bits .and .i64 n 255 = n % 256 := by
  have h255 : (BitVec.ofInt 64 255).toNat = 2 ^ 8 - 1 := by decide
  have key : (BitVec.ofInt 64 n &&& BitVec.ofInt 64 255).toNat = (n % ((2 ^ 64 : Nat) : Int)).toNat % 2 ^ 8 := by
    rw [BitVec.toNat_and, BitVec.toNat_ofInt, h255, Nat.and_two_pow_sub_one_eq_mod]
  show IntKind.i64.wrap ((BitVec.ofInt 64 n &&& BitVec.ofInt 64 255).toNat : Nat) = n % 256
  rw [key, IntKind.wrap_i64]
  omega
theorem beL4 (a : Nat) : beL 4 a = [UInt8.ofNat (a / 16777216 % 256), UInt8.ofNat (a / 65536 % 256), UInt8.ofNat (a / 256 % 256), UInt8.ofNat (a % 256)] := by
  rw [beL_cons, beL_cons, beL_cons, beL_cons]; simp [beL]
theorem digL_size (b : UInt8) : (ByteArray.mk (digL b).toArray).size ≤ 3 := by rw [Lib.size_eq]; exact (digL_len b).1
end Go.Proofs.YtfceodbpkghkaaaGreatDoor
