/- octet.width, octet.Num: numbers as bytes. -/
import Derived.Test.YtfceodbpkghkaaaGreatDoorRows
import Derived.Test.YtfceodbpkghkaaaGreatDoorPairs
import Derived.OwnWalk
import Derived.BigQuiet
import Derived.Deep.QuietTactic
namespace Go.Proofs.YtfceodbpkghkaaaGreatDoor
open Go.RowKit

theorem infoU8 : (Tryz.prog.info? 5).map (fun i => (i.zero, i.size, i.bytes)) = some (some (.int .u8 0), 1, 1) := by kernel_rfl
theorem infoStr : (Tryz.prog.info? 9).map (fun i => (i.zero, i.size, i.bytes)) = some (some (.string ⟨#[]⟩), 1, 16) := by kernel_rfl
/-- A byte as a value. -/
def bv (b : UInt8) : Value := .int .u8 (b.toNat : Int)
/-- The last k bytes of a number, the great one ahead. -/
def beL : Nat → Nat → List UInt8
  | 0, _ => []
  | k + 1, n => beL k (n / 256) ++ [UInt8.ofNat (n % 256)]
theorem beL_len : ∀ k n, (beL k n).length = k
  | 0, _ => rfl
  | k + 1, n => by simp [beL, beL_len k]
theorem beL_cons : ∀ k n, beL (k + 1) n = UInt8.ofNat (n / 256 ^ k % 256) :: beL k n
  | 0, n => by simp [beL]
  | k + 1, n => by
    have h1 : beL (k + 1 + 1) n = beL (k + 1) (n / 256) ++ [UInt8.ofNat (n % 256)] := rfl
    have h2 : beL (k + 1) n = beL k (n / 256) ++ [UInt8.ofNat (n % 256)] := rfl
    have h3 : n / 256 / 256 ^ k = n / 256 ^ (k + 1) := by rw [Nat.div_div_eq_div_mul, Nat.pow_succ, Nat.mul_comm]
    rw [h1, beL_cons k (n / 256), List.cons_append, ← h2, h3]
theorem width_any (k : Nat) (hk : k ≤ 8) (w : World) : Calls Tryz.prog 108 #[.int .i64 k] w fun e w' => e = .returned (.int .i64 k) ∧ w = w' := by
  go_enter Tryz.func108, Tryz.ntmps108
  go_wp2
  go_ret
  exact ⟨rfl, rfl⟩
/-- How the bytes come: the last one first. -/
theorem beL_step (k i n : Nat) (h : i < k) : (List.replicate (k - i) (0 : UInt8) ++ beL i n).set (k - 1 - i) (UInt8.ofNat (n / 256 ^ i % 256)) = List.replicate (k - (i + 1)) 0 ++ beL (i + 1) n := by
  obtain ⟨d, rfl⟩ : ∃ d, k = i + 1 + d := ⟨k - (i + 1), by omega⟩
  have e1 : i + 1 + d - i = d + 1 := by omega
  have e2 : i + 1 + d - 1 - i = d := by omega
  have e3 : i + 1 + d - (i + 1) = d := by omega
  rw [e1, e2, e3, beL_cons]
  rw [List.set_append_left _ _ (by simp)]
  have : (List.replicate (d + 1) (0 : UInt8)).set d (UInt8.ofNat (n / 256 ^ i % 256)) = List.replicate d 0 ++ [UInt8.ofNat (n / 256 ^ i % 256)] := by
    rw [List.replicate_succ', List.set_append_right _ _ (by simp)]
    simp
  rw [this]; simp
def NumPost (w : World) (l : List UInt8) (e : Ending) (w' : World) : Prop := ∃ v, e = .returned v ∧ w'.ownsRow w.heap.size 5 1 v l.length (l.map bv) ∧ Bytes w' v l ∧ w.grownBy w' none
set_option maxHeartbeats 2000000 in
theorem onum_any (k : Nat) (hk1 : 1 ≤ k) (hk : k ≤ 8) (n : Nat) (hn : n < 18446744073709551616) (w : World) :
    Calls Tryz.prog 80 #[.int .i64 k, .int .u64 n] w (NumPost w (beL k n)) := by
  obtain ⟨i0, hi, hz0, hz1, hz2⟩ := info_parts infoU8
  go_enter Tryz.func80, Tryz.ntmps80
  go_wp2_with fail
  refine (width_any k hk w).mono ?_
  rintro e w1 ⟨rfl, rfl⟩
  go_wp2_with (refine wpList_make_full _ rfl _ _ 37 rfl w.heap.size 5 i0 _ 1 Tryz.underlying37 hi hz0 hz1 .i64 .i64 (k : Int) (k : Int) k rfl rfl rfl rfl (by rw [hz2]; omega) (by unfold maxLen; omega) (Nat.le_refl _) ?_; intro w2 hown g2)
  have hrow : (madeCells (Value.int .u8 0).cells (k * 1)).toList = (List.replicate (k - 0) (0 : UInt8) ++ beL 0 n).map bv := by
    rw [show (Value.int .u8 0).cells = #[.int .u8 0] from rfl, toList_madeCells_one]
    simp [beL, bv]
  rw [hrow] at hown
  clear hrow hi hz0 hz1 hz2 i0
  go_wp2_with fail
  go_loopw [1, 12] (fun vn vi wr => ∃ i : Nat, i ≤ k ∧ vi = .int .i64 i ∧ vn = .int .u64 ((n / 256 ^ i : Nat) : Int) ∧ wr.ownsRow w.heap.size 5 1 (.slice (some ⟨w.heap.size, 0, none⟩) k k) k ((List.replicate (k - i) (0 : UInt8) ++ beL i n).map bv) ∧ w.grownBy wr none) (fun _ vi _ => k - (intOf vi).toNat)
  case atStart => exact ⟨0, Nat.zero_le _, rfl, by simp, hown, g2⟩
  case round =>
    obtain ⟨i, hi, rfl, rfl, hown, gw⟩ := hrel
    by_cases hlt : i < k
    · have hst := beL_step k i n hlt
      have hlen : (List.replicate (k - i) (0 : UInt8) ++ beL i n).length = k := by simp [beL_len]; omega
      have hnb : n / 256 ^ i < 18446744073709551616 := Nat.lt_of_le_of_lt (Nat.div_le_self _ _) hn
      have hdd : n / 256 ^ i / 256 = n / 256 ^ (i + 1) := by rw [Nat.div_div_eq_div_mul, Nat.pow_succ]
      obtain ⟨u, hu⟩ : ∃ u, wr.cell? ⟨w.heap.size, k - 1 - i, none⟩ = some u := by
        rw [hown.cellAt (k - 1 - i) (by omega)]
        exact ⟨_, List.getElem?_eq_getElem (by simp only [List.length_map, hlen]; omega)⟩
      have hfr := hown.frozenAt (k - 1 - i)
      have hbyte : (((n / 256 ^ i : Nat) : Int)) % 256 = ((UInt8.ofNat (n / 256 ^ i % 256)).toNat : Int) := by simp
      have hst2 := hown.stored (k - 1 - i) (bv (UInt8.ofNat (n / 256 ^ i % 256)))
      rw [← List.map_set, hst] at hst2
      generalize UInt8.ofNat (n / 256 ^ i % 256) = x at hbyte hst2
      generalize n / 256 ^ i = m at *
      have hdd' : (m / 256 : Nat) = n / 256 ^ (i + 1) := hdd
      have Hdd := hid hdd'
      clear hdd hdd'
      have Hst := hid hst2
      have Hb := hid hbyte
      clear hst hlen hst2 hbyte hown
      go_wp2
      go_roundw
      case rel => exact ⟨i + 1, by omega, by go_num, by rw [← Hdd.out]; first | done | rfl | go_num, by rw [Hb.out]; exact Hst.out.1, by rw [Hb.out]; exact gr_new gw Hst.out.2 (Nat.le_refl _)⟩
      case measure => simp [intOf]; omega
    · obtain rfl : i = k := by omega
      go_wp2
      go_ret
      rw [Nat.sub_self, List.replicate_zero, List.nil_append] at hown
      exact ⟨_, rfl, by rw [beL_len]; exact hown, bytes_of_own hown, gw⟩
end Go.Proofs.YtfceodbpkghkaaaGreatDoor
