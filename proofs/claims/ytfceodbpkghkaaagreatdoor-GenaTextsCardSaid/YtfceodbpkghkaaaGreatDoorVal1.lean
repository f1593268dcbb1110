/- hearthref19.Text; value.Yes, Way, Flag, Proto and the references' kin. -/
import Derived.Test.YtfceodbpkghkaaaGreatDoorUint
namespace Go.Proofs.YtfceodbpkghkaaaGreatDoor
open Go.RowKit

theorem dd_small {m : Nat} (h : m < 10) : Lib.decDigits m = [UInt8.ofNat (48 + m)] := by rw [Lib.decDigits, dif_pos h]
theorem dd_big {m : Nat} (h : ¬ m < 10) : Lib.decDigits m = Lib.decDigits (m / 10) ++ [UInt8.ofNat (48 + m % 10)] := by rw [Lib.decDigits, dif_neg h]
theorem bytes_one (w : World) (t : TypeId) (c : UInt8) : Bytes (w.alloc (.cells #[.int .u8 (c.toNat : Int)] t)) (.slice (some ⟨w.heap.size, 0, none⟩) 1 1) [c] :=
  ⟨_, 1, rfl, by simp, by simp [maxLen], fun _ => ⟨_, 0, rfl, fun i hi => by
    obtain rfl : i = 0 := by simpa using hi
    exact (cell_of_block (heap_alloc_new w _) 0).trans rfl⟩⟩
set_option maxRecDepth 20000 in
set_option maxHeartbeats 2000000 in
theorem rtext_any (n : Nat) (hn : n < 18446744073709551616) (w : World) :
    Calls Tryz.prog 111 #[.int .u64 n] w fun e w' => e = .returned (str (Lib.decDigits n)) ∧ w.grownBy w' none := by
  have hlen : (Lib.decDigits n).length ≤ 20 := by
    rw [Lib.decDigits_length]
    by_cases h : 1 ≤ n
    · have := Lib.numDigits_eq n h hn; split at this <;> omega
    · obtain rfl : n = 0 := by omega
      decide +kernel
  go_enter Tryz.func111, Tryz.ntmps111
  go_wp2_with fail
  go_loopw [0, 3] (fun vn vo wr => ∃ (m : Nat) (o : List UInt8), m ≤ n ∧ vn = .int .u64 m ∧ vo = .string ⟨o.toArray⟩ ∧ w.grownBy wr none ∧ Hid (Lib.decDigits n = Lib.decDigits m ++ o)) (fun vn _ _ => (intOf vn).toNat)
  case atStart => exact ⟨n, [], Nat.le_refl _, rfl, rfl, gr_refl _ _, by show _ = _; simp⟩
  case round =>
    obtain ⟨m, o, hm, rfl, rfl, gw, hd⟩ := hrel
    have hol : (ByteArray.mk o.toArray).size ≤ 20 := by
      have := congrArg List.length hd.out
      rw [List.length_append] at this
      rw [Lib.size_eq]; simp; omega
    obtain ⟨c, hc⟩ : ∃ c : UInt8, c = UInt8.ofNat (48 + m % 10) := ⟨_, rfl⟩
    have hcn : (c.toNat : Int) = 48 + (m : Int) % 10 := by rw [hc]; simp; omega
    have hcn' : (48 : Int) + (m : Int) % 10 = (c.toNat : Int) := hcn.symm
    have Hc := hid hc
    have Hcn := hid hcn'
    clear hc hcn hcn'
    have hb : Bytes (wr.alloc (.cells #[.int .u8 (48 + (m : Int) % 10)] 5)) (.slice (some ⟨wr.heap.size, 0, none⟩) 1 1) [c] := by
      rw [Hcn.out]; exact bytes_one wr _ c
    have happ : Value.string (ByteArray.mk #[c] ++ ByteArray.mk o.toArray) = .string ⟨(c :: o).toArray⟩ := by
      rw [ByteArray.mk_append_mk]; simp
    have hc1 : (ByteArray.mk #[c]).size ≤ 1 := Nat.le_refl _
    have Happ := hid happ
    clear happ
    by_cases h10 : m < 10
    · have R := hid (show Lib.decDigits n = c :: o by rw [hd.out, dd_small h10, Hc.out, Nat.mod_eq_of_lt h10]; rfl)
      have hz : (((m : Int) / 10) == 0) = true := by simp; omega
      go_wp2_with (refine wpl_b2s rfl 37 9 5 _ rfl Tryz.underlying37 Tryz.underlying5 Tryz.underlying9 _ [c] rfl hb ?_; unfold str)
      go_ret
      refine ⟨?_, by (repeat (first | exact gr_refl _ _ | assumption | refine gr_drew ?_ | refine gr_drewN _ ?_ | refine gr_alloc ?_ _ | refine gr_set ?_ | refine gr_set_new ?_ (by first | omega | (simp; omega))))⟩
      rw [R.out]
      exact congrArg Ending.returned Happ.out
    · have R := hid (show Lib.decDigits n = Lib.decDigits (m / 10) ++ (c :: o) by rw [hd.out, dd_big h10, Hc.out]; simp)
      have hz : (((m : Int) / 10) == 0) = false := by simp; omega
      go_wp2_with (refine wpl_b2s rfl 37 9 5 _ rfl Tryz.underlying37 Tryz.underlying5 Tryz.underlying9 _ [c] rfl hb ?_; unfold str)
      go_roundw
      case rel => exact ⟨m / 10, c :: o, by omega, by rfl, Happ.out, by (repeat (first | exact gr_refl _ _ | assumption | refine gr_drew ?_ | refine gr_drewN _ ?_ | refine gr_alloc ?_ _ | refine gr_set ?_ | refine gr_set_new ?_ (by first | omega | (simp; omega)))), R⟩
      case measure => simp [intOf]; omega
end Go.Proofs.YtfceodbpkghkaaaGreatDoor
