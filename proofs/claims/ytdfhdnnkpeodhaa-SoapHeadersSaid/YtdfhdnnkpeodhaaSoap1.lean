/- soap.Header: what it computes. -/
import Derived.Test.YtdfhdnnkpeodhaaStrs
namespace Go.Proofs.Ytdfhdnnkpeodhaa
open Go.RowKit

def hdr0 (s : List UInt8) : List UInt8 := Lib.trimPrefix s [34]
def hdr1 (s : List UInt8) : List UInt8 := Lib.trimSuffix (hdr0 s) [34]
def hdrC (s : List UInt8) : List UInt8 × List UInt8 × Bool := cutB (hdr1 s) 35
def hdrOk (s : List UInt8) : Bool :=
  Lib.hasPrefix s [34] && Lib.hasSuffix (hdr0 s) [34] && (hdrC s).2.2 && !(hdrC s).1.isEmpty && !(hdrC s).2.1.isEmpty && !decide (0 ≤ Lib.indexByte (hdr1 s) 34) && !decide (0 ≤ Lib.indexByte (hdrC s).2.1 35)
def hdr (s : List UInt8) : List UInt8 × List UInt8 × Bool := if hdrOk s then ((hdrC s).1, (hdrC s).2.1, true) else ([], [], false)
theorem trimPrefix_le (s p : List UInt8) : (Lib.trimPrefix s p).length ≤ s.length := by unfold Lib.trimPrefix; split <;> simp
theorem trimSuffix_le (s p : List UInt8) : (Lib.trimSuffix s p).length ≤ s.length := by unfold Lib.trimSuffix; split <;> simp
theorem str_isEmpty (l : List UInt8) : (ByteArray.mk l.toArray).toList = l := by rw [Lib.toList_data]
set_option maxHeartbeats 1000000 in
theorem header_any (s : ByteArray) (w : World) (hs : s.size ≤ 9223372036854775806) :
    Calls Try.prog 5 #[.string s] w fun e w' =>
      e = .returned (.tuple #[str (hdr s.data.toList).1, str (hdr s.data.toList).2.1, .bool (hdr s.data.toList).2.2]) ∧ w.grownBy w' none := by
  obtain ⟨l, hl⟩ : ∃ l, l = s.data.toList := ⟨_, rfl⟩
  have hsz : l.length ≤ 9223372036854775806 := by rw [hl, ← Lib.size_eq]; exact hs
  have e0 := trimPrefix_le l [34]
  have e1 := trimSuffix_le (hdr0 l) [34]
  have z1 : (hdr1 l).length ≤ 9223372036854775806 := by unfold hdr1; unfold hdr0 at e1 ⊢; omega
  have z0 : (hdr0 l).length ≤ 9223372036854775806 := by unfold hdr0; omega
  rw [← hl]
  have Hl := hid hl
  clear hl e0 e1
  unfold hdr hdrOk
  generalize hb0 : Lib.hasPrefix l [34] = b0
  generalize hb1 : Lib.hasSuffix (hdr0 l) [34] = b1
  generalize hC : hdrC l = C
  generalize hi1 : decide (0 ≤ Lib.indexByte (hdr1 l) 34) = i1
  generalize hi2 : decide (0 ≤ Lib.indexByte C.2.1 35) = i2
  have B0 := hid hb0
  have B1 := hid hb1
  have HC := hid hC
  have I1 := hid hi1
  have I2 := hid hi2
  clear hb0 hb1 hC hi1 hi2
  go_enter Try.func5, Try.ntmps5
  go_wp2_with fail
  refine (Try.strings_CutPrefix s ⟨#[34]⟩ w).mono ?_
  rintro e w' ⟨rfl, hw⟩
  rw [hw, ← Hl.out]
  rw [show (Lib.hasPrefix l (ByteArray.mk #[34]).data.toList) = b0 from B0.out, show Lib.trimPrefix l (ByteArray.mk #[34]).data.toList = hdr0 l from rfl]
  clear hw w'
  go_wp2_with fail
  refine (Try.strings_CutSuffix ⟨(hdr0 l).toArray⟩ ⟨#[34]⟩ w (by rw [Lib.size_eq]; simp; omega)).mono ?_
  rintro e w' ⟨rfl, hw⟩
  rw [hw]
  rw [show (Lib.hasSuffix (ByteArray.mk (hdr0 l).toArray).data.toList (ByteArray.mk #[34]).data.toList) = b1 from B1.out, show Lib.trimSuffix (ByteArray.mk (hdr0 l).toArray).data.toList (ByteArray.mk #[34]).data.toList = hdr1 l from rfl]
  clear hw w'
  go_wp2_with fail
  refine (cut_one ⟨(hdr1 l).toArray⟩ 35 w (by rw [Lib.size_eq]; simp; omega)).mono ?_
  rintro e w1 ⟨rfl, g⟩
  rw [show cutB (ByteArray.mk (hdr1 l).toArray).data.toList 35 = C from HC.out]
  obtain ⟨c1, c2, c3⟩ := C
  simp only []
  unfold str
  cases b0 <;> cases b1 <;> cases c3 <;> rcases c1 with _ | ⟨x1, c1⟩ <;> rcases c2 with _ | ⟨x2, c2⟩
  all_goals try (go_wp2_with fail; go_ret3; exact ⟨by first | (simp; done) | (simp; rfl) | (simp; exact ⟨rfl, rfl⟩), g⟩)
  go_wp2_with fail
  refine (Try.strings_Contains_one ⟨(hdr1 l).toArray⟩ 34 w1).mono ?_
  rintro e w2 ⟨rfl, hw⟩
  rw [hw]
  rw [show decide (0 ≤ Lib.indexByte (ByteArray.mk (hdr1 l).toArray).data.toList 34) = i1 from I1.out]
  clear hw w2
  cases i1
  · go_wp2_with fail
    refine (Try.strings_Contains_one ⟨(x2 :: c2).toArray⟩ 35 w1).mono ?_
    rintro e w2 ⟨rfl, hw⟩
    rw [hw]
    rw [show decide (0 ≤ Lib.indexByte (ByteArray.mk (x2 :: c2).toArray).data.toList 35) = i2 from I2.out]
    clear hw w2
    cases i2
    · go_wp2
      go_ret3
      exact ⟨by first | (simp; done) | (simp; rfl) | (simp; exact ⟨rfl, rfl⟩), g⟩
    · go_wp2
      go_ret3
      exact ⟨by first | (simp; done) | (simp; rfl) | (simp; exact ⟨rfl, rfl⟩), g⟩
  · go_wp2
    go_ret3
    exact ⟨by first | (simp; done) | (simp; rfl) | (simp; exact ⟨rfl, rfl⟩), g⟩
end Go.Proofs.Ytdfhdnnkpeodhaa
