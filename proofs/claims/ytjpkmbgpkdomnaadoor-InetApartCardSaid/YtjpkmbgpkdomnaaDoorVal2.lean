/- value.Flag, Proto, Yes, Way and the references' kin. -/
import Derived.Test.YtjpkmbgpkdomnaaDoorVal1
namespace Go.Proofs.YtjpkmbgpkdomnaaDoor
open Go.RowKit

def flagR (l : List UInt8) : Bool × Bool :=
  if l = [49] ∨ l = [116, 114, 117, 101] ∨ l = [121, 101, 115] then (true, true) else if l = [48] ∨ l = [102, 97, 108, 115, 101] ∨ l = [110, 111] then (false, true) else (false, false)
def protoR (l : List UInt8) : Int × Bool := if l = [84, 67, 80] then (6, true) else if l = [85, 68, 80] then (17, true) else (0, false)
def yesR (b : Bool) : List UInt8 := if b then [49] else [48]
def wayR (p : Int) : List UInt8 := if p = 6 then [84, 67, 80] else if p = 17 then [85, 68, 80] else []
set_option maxHeartbeats 1000000 in
theorem flag_any (s : ByteArray) (w : World) :
    Calls Tryd.prog 16 #[.string s] w fun e w' => e = .returned (.tuple #[.bool (flagR s.data.toList).1, .bool (flagR s.data.toList).2]) ∧ w = w' := by
  have hl := Lib.toList_data s
  generalize s.data.toList = l at *
  by_cases h0 : l = [49]
  · have e0 : (s.toList == [49]) = true := by rw [hl]; simpa using h0
    have R := hid (show flagR l = (true, true) by rw [h0]; rfl)
    clear hl h0
    go_enter Tryd.func16, Tryd.ntmps16
    go_wp2
    go_ret2
    exact ⟨by rw [R.out]; rfl, rfl⟩
  have e0 : (s.toList == [49]) = false := by rw [hl]; simpa using h0
  by_cases h1 : l = [116, 114, 117, 101]
  · have e1 : (s.toList == [116, 114, 117, 101]) = true := by rw [hl]; simpa using h1
    have R := hid (show flagR l = (true, true) by rw [h1]; rfl)
    clear hl h0 h1
    go_enter Tryd.func16, Tryd.ntmps16
    go_wp2
    go_ret2
    exact ⟨by rw [R.out]; rfl, rfl⟩
  have e1 : (s.toList == [116, 114, 117, 101]) = false := by rw [hl]; simpa using h1
  by_cases h2 : l = [121, 101, 115]
  · have e2 : (s.toList == [121, 101, 115]) = true := by rw [hl]; simpa using h2
    have R := hid (show flagR l = (true, true) by rw [h2]; rfl)
    clear hl h0 h1 h2
    go_enter Tryd.func16, Tryd.ntmps16
    go_wp2
    go_ret2
    exact ⟨by rw [R.out]; rfl, rfl⟩
  have e2 : (s.toList == [121, 101, 115]) = false := by rw [hl]; simpa using h2
  by_cases h3 : l = [48]
  · have e3 : (s.toList == [48]) = true := by rw [hl]; simpa using h3
    have R := hid (show flagR l = (false, true) by rw [h3]; rfl)
    clear hl h0 h1 h2 h3
    go_enter Tryd.func16, Tryd.ntmps16
    go_wp2
    go_ret2
    exact ⟨by rw [R.out]; rfl, rfl⟩
  have e3 : (s.toList == [48]) = false := by rw [hl]; simpa using h3
  by_cases h4 : l = [102, 97, 108, 115, 101]
  · have e4 : (s.toList == [102, 97, 108, 115, 101]) = true := by rw [hl]; simpa using h4
    have R := hid (show flagR l = (false, true) by rw [h4]; rfl)
    clear hl h0 h1 h2 h3 h4
    go_enter Tryd.func16, Tryd.ntmps16
    go_wp2
    go_ret2
    exact ⟨by rw [R.out]; rfl, rfl⟩
  have e4 : (s.toList == [102, 97, 108, 115, 101]) = false := by rw [hl]; simpa using h4
  by_cases h5 : l = [110, 111]
  · have e5 : (s.toList == [110, 111]) = true := by rw [hl]; simpa using h5
    have R := hid (show flagR l = (false, true) by rw [h5]; rfl)
    clear hl h0 h1 h2 h3 h4 h5
    go_enter Tryd.func16, Tryd.ntmps16
    go_wp2
    go_ret2
    exact ⟨by rw [R.out]; rfl, rfl⟩
  have e5 : (s.toList == [110, 111]) = false := by rw [hl]; simpa using h5
  have R := hid (show flagR l = (false, false) by simp [flagR, h0, h1, h2, h3, h4, h5])
  clear hl h0 h1 h2 h3 h4 h5
  go_enter Tryd.func16, Tryd.ntmps16
  go_wp2
  go_ret2
  exact ⟨by rw [R.out]; rfl, rfl⟩
set_option maxHeartbeats 1000000 in
theorem proto_any (s : ByteArray) (w : World) :
    Calls Tryd.prog 18 #[.string s] w fun e w' => e = .returned (.tuple #[.int .u8 (protoR s.data.toList).1, .bool (protoR s.data.toList).2]) ∧ w = w' := by
  have hl := Lib.toList_data s
  generalize s.data.toList = l at *
  by_cases h0 : l = [84, 67, 80]
  · have e0 : (s.toList == [84, 67, 80]) = true := by rw [hl]; simpa using h0
    have R := hid (show protoR l = (6, true) by rw [h0]; rfl)
    clear hl h0
    go_enter Tryd.func18, Tryd.ntmps18
    go_wp2
    go_ret2
    exact ⟨by rw [R.out]; rfl, rfl⟩
  have e0 : (s.toList == [84, 67, 80]) = false := by rw [hl]; simpa using h0
  by_cases h1 : l = [85, 68, 80]
  · have e1 : (s.toList == [85, 68, 80]) = true := by rw [hl]; simpa using h1
    have R := hid (show protoR l = (17, true) by rw [h1]; rfl)
    clear hl h0 h1
    go_enter Tryd.func18, Tryd.ntmps18
    go_wp2
    go_ret2
    exact ⟨by rw [R.out]; rfl, rfl⟩
  have e1 : (s.toList == [85, 68, 80]) = false := by rw [hl]; simpa using h1
  have R := hid (show protoR l = (0, false) by simp [protoR, h0, h1])
  clear hl h0 h1
  go_enter Tryd.func18, Tryd.ntmps18
  go_wp2
  go_ret2
  exact ⟨by rw [R.out]; rfl, rfl⟩
theorem yes_any (b : Bool) (w : World) : Calls Tryd.prog 17 #[.bool b] w fun e w' => e = .returned (str (yesR b)) ∧ w = w' := by
  cases b
  all_goals
    go_enter Tryd.func17, Tryd.ntmps17
    go_wp2
    go_ret
    exact ⟨rfl, rfl⟩
theorem ryes_any (b : Bool) (w : World) : Calls Tryd.prog 21 #[.bool b] w fun e w' => e = .returned (str (yesR b)) ∧ w = w' := by
  cases b
  all_goals
    go_enter Tryd.func21, Tryd.ntmps21
    go_wp2
    go_ret
    exact ⟨rfl, rfl⟩
theorem way_any (p : Int) (w : World) : Calls Tryd.prog 19 #[.int .u8 p] w fun e w' => e = .returned (str (wayR p)) ∧ w = w' := by
  by_cases h1 : p = 6
  · subst h1
    go_enter Tryd.func19, Tryd.ntmps19
    go_wp2
    go_ret
    exact ⟨rfl, rfl⟩
  · have e1 : (p == 6) = false := by simpa using h1
    by_cases h2 : p = 17
    · subst h2
      go_enter Tryd.func19, Tryd.ntmps19
      go_wp2
      go_ret
      exact ⟨rfl, rfl⟩
    · have e2 : (p == 17) = false := by simpa using h2
      have R := hid (show wayR p = [] by simp [wayR, h1, h2])
      clear h1 h2
      go_enter Tryd.func19, Tryd.ntmps19
      go_wp2
      go_ret
      exact ⟨by rw [R.out]; rfl, rfl⟩
theorem rway_any (p : Int) (w : World) : Calls Tryd.prog 22 #[.int .u8 p] w fun e w' => e = .returned (str (wayR p)) ∧ w = w' := by
  by_cases h1 : p = 6
  · subst h1
    go_enter Tryd.func22, Tryd.ntmps22
    go_wp2
    go_ret
    exact ⟨rfl, rfl⟩
  · have e1 : (p == 6) = false := by simpa using h1
    by_cases h2 : p = 17
    · subst h2
      go_enter Tryd.func22, Tryd.ntmps22
      go_wp2
      go_ret
      exact ⟨rfl, rfl⟩
    · have e2 : (p == 17) = false := by simpa using h2
      have R := hid (show wayR p = [] by simp [wayR, h1, h2])
      clear h1 h2
      go_enter Tryd.func22, Tryd.ntmps22
      go_wp2
      go_ret
      exact ⟨by rw [R.out]; rfl, rfl⟩
end Go.Proofs.YtjpkmbgpkdomnaaDoor
