/- strings.Cut at a separator of one byte: no condition. -/
import Derived.Test.YtmofnoconhgjmaaGreatDoorRows
import Derived.Test.YtmofnoconhgjmaaGreatDoorMA
import Derived.Test.YtmofnoconhgjmaaGreatDoorShelf
import Derived.BigQuiet
import Derived.Deep.QuietTactic
import Derived.Lib.IndexMore
import Derived.Lib.IndexBytes
import Derived.Lib.Strings
import Derived.Handy
namespace Go.Proofs.YtmofnoconhgjmaaGreatDoor
open Go.RowKit

theorem indexByte_lt (c : UInt8) : ∀ l : List UInt8, -1 ≤ Lib.indexByte l c ∧ Lib.indexByte l c < l.length
  | [] => by simp [Lib.indexByte]
  | b :: l => by
    have := indexByte_lt c l
    simp only [Lib.indexByte, List.length_cons]
    split
    · omega
    · split <;> omega
def cutB (l : List UInt8) (c : UInt8) : List UInt8 × List UInt8 × Bool :=
  if 0 ≤ Lib.indexByte l c then (l.take (Lib.indexByte l c).toNat, l.drop ((Lib.indexByte l c).toNat + 1), true) else (l, [], false)
set_option maxHeartbeats 1000000 in
theorem slcut_one (s : ByteArray) (c : UInt8) (w : World) (hs : s.size ≤ 9223372036854775806) :
    Calls Tryz.prog 190 #[.string s, .string ⟨#[c]⟩] w fun e w' =>
      e = .returned (.tuple #[str (cutB s.data.toList c).1, str (cutB s.data.toList c).2.1, .bool (cutB s.data.toList c).2.2]) ∧ w.grownBy w' none := by
  obtain ⟨i, hi⟩ : ∃ i, i = Lib.indexByte s.data.toList c := ⟨_, rfl⟩
  have hb := indexByte_lt c s.data.toList
  have hsz := Lib.size_eq s
  rw [← hi] at hb
  unfold cutB
  rw [← hi]
  have hi0 : i < s.size := by omega
  clear hsz
  have Hi := hid hi
  clear hi
  by_cases h0 : 0 ≤ i
  · rw [if_pos h0]
    obtain ⟨k, rfl⟩ := Int.eq_ofNat_of_zero_le h0
    have hk1 : IntKind.i64.wrap (k + 1) = k + 1 := IntWalk.i64_in _ (by omega)
    have hk2 : ((k : Int) + 1).toNat = k + 1 := by omega
    have hk3 : (0 : Int) ≤ (k : Int) + 1 := by omega
    have hk4 : (k : Int) + 1 ≤ s.size := by omega
    have hk5 : (k : Int) ≤ s.size := by omega
    go_enter Tryz.func190, Tryz.ntmps190
    go_wp2_with fail
    refine (Tryz.stringslite_Index_one s c w).mono ?_
    rintro e w' ⟨rfl, hw⟩
    rw [hw, ← Hi.out]
    clear hw w'
    go_wp2_with fail
    go_quiet (fail)
    go_wp2
    go_ret3
    refine ⟨?_, by (repeat (first | exact gr_refl _ _ | assumption | refine gr_drew ?_ | refine gr_drewN _ ?_ | refine gr_alloc ?_ _ | refine gr_set ?_ | refine gr_set_new ?_ (by first | omega | (simp; omega))))⟩
    show Ending.returned (.tuple #[Value.string (s.extract 0 k), Value.string (s.extract (k + 1) s.size), .bool true]) = _
    rw [str_of (s.extract 0 k), str_of (s.extract (k + 1) s.size), Lib.extract_data, Lib.extract_to_end]
    simp
  · rw [if_neg h0]
    go_enter Tryz.func190, Tryz.ntmps190
    go_wp2_with fail
    refine (Tryz.stringslite_Index_one s c w).mono ?_
    rintro e w' ⟨rfl, hw⟩
    rw [hw, ← Hi.out]
    clear hw w'
    go_wp2_with fail
    go_ret3
    exact ⟨rfl, by (repeat (first | exact gr_refl _ _ | assumption | refine gr_drew ?_ | refine gr_drewN _ ?_ | refine gr_alloc ?_ _ | refine gr_set ?_ | refine gr_set_new ?_ (by first | omega | (simp; omega))))⟩
theorem cut_one (s : ByteArray) (c : UInt8) (w : World) (hs : s.size ≤ 9223372036854775806) :
    Calls Tryz.prog 114 #[.string s, .string ⟨#[c]⟩] w fun e w' =>
      e = .returned (.tuple #[str (cutB s.data.toList c).1, str (cutB s.data.toList c).2.1, .bool (cutB s.data.toList c).2.2]) ∧ w.grownBy w' none := by
  generalize hb : cutB s.data.toList c = x
  have Hb := hid hb
  clear hb
  go_enter Tryz.func114, Tryz.ntmps114
  go_wp2_with fail
  refine (slcut_one s c w hs).mono ?_
  rintro e w' ⟨rfl, g⟩
  rw [Hb.out]
  go_wp2
  go_ret3
  exact ⟨rfl, g⟩
end Go.Proofs.YtmofnoconhgjmaaGreatDoor
