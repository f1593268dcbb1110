/- hearthref19.Flag, Proto; the walk of ValueReads. -/
import Derived.Test.YtjpkmbgpkdomnaaDoorVr2
namespace Go.Proofs.YtjpkmbgpkdomnaaDoor
open Go.RowKit

set_option maxHeartbeats 1000000 in
theorem rflag_any (s : ByteArray) (w : World) :
    Calls Tryd.prog 32 #[.string s] w fun e w' => e = .returned (.tuple #[.bool (flagR s.data.toList).1, .bool (flagR s.data.toList).2]) ∧ w = w' := by
  have hl := Lib.toList_data s
  generalize s.data.toList = l at *
  by_cases h0 : l = [49]
  · have e0 : (s.toList == [49]) = true := by rw [hl]; simpa using h0
    have R := hid (show flagR l = (true, true) by rw [h0]; rfl)
    clear hl h0
    go_enter Tryd.func32, Tryd.ntmps32
    go_wp2
    go_ret2
    exact ⟨by rw [R.out]; rfl, rfl⟩
  have e0 : (s.toList == [49]) = false := by rw [hl]; simpa using h0
  by_cases h1 : l = [116, 114, 117, 101]
  · have e1 : (s.toList == [116, 114, 117, 101]) = true := by rw [hl]; simpa using h1
    have R := hid (show flagR l = (true, true) by rw [h1]; rfl)
    clear hl h0 h1
    go_enter Tryd.func32, Tryd.ntmps32
    go_wp2
    go_ret2
    exact ⟨by rw [R.out]; rfl, rfl⟩
  have e1 : (s.toList == [116, 114, 117, 101]) = false := by rw [hl]; simpa using h1
  by_cases h2 : l = [121, 101, 115]
  · have e2 : (s.toList == [121, 101, 115]) = true := by rw [hl]; simpa using h2
    have R := hid (show flagR l = (true, true) by rw [h2]; rfl)
    clear hl h0 h1 h2
    go_enter Tryd.func32, Tryd.ntmps32
    go_wp2
    go_ret2
    exact ⟨by rw [R.out]; rfl, rfl⟩
  have e2 : (s.toList == [121, 101, 115]) = false := by rw [hl]; simpa using h2
  by_cases h3 : l = [48]
  · have e3 : (s.toList == [48]) = true := by rw [hl]; simpa using h3
    have R := hid (show flagR l = (false, true) by rw [h3]; rfl)
    clear hl h0 h1 h2 h3
    go_enter Tryd.func32, Tryd.ntmps32
    go_wp2
    go_ret2
    exact ⟨by rw [R.out]; rfl, rfl⟩
  have e3 : (s.toList == [48]) = false := by rw [hl]; simpa using h3
  by_cases h4 : l = [102, 97, 108, 115, 101]
  · have e4 : (s.toList == [102, 97, 108, 115, 101]) = true := by rw [hl]; simpa using h4
    have R := hid (show flagR l = (false, true) by rw [h4]; rfl)
    clear hl h0 h1 h2 h3 h4
    go_enter Tryd.func32, Tryd.ntmps32
    go_wp2
    go_ret2
    exact ⟨by rw [R.out]; rfl, rfl⟩
  have e4 : (s.toList == [102, 97, 108, 115, 101]) = false := by rw [hl]; simpa using h4
  by_cases h5 : l = [110, 111]
  · have e5 : (s.toList == [110, 111]) = true := by rw [hl]; simpa using h5
    have R := hid (show flagR l = (false, true) by rw [h5]; rfl)
    clear hl h0 h1 h2 h3 h4 h5
    go_enter Tryd.func32, Tryd.ntmps32
    go_wp2
    go_ret2
    exact ⟨by rw [R.out]; rfl, rfl⟩
  have e5 : (s.toList == [110, 111]) = false := by rw [hl]; simpa using h5
  have R := hid (show flagR l = (false, false) by simp [flagR, h0, h1, h2, h3, h4, h5])
  clear hl h0 h1 h2 h3 h4 h5
  go_enter Tryd.func32, Tryd.ntmps32
  go_wp2
  go_ret2
  exact ⟨by rw [R.out]; rfl, rfl⟩
set_option maxHeartbeats 1000000 in
theorem rproto_any (s : ByteArray) (w : World) :
    Calls Tryd.prog 34 #[.string s] w fun e w' => e = .returned (.tuple #[.int .u8 (protoR s.data.toList).1, .bool (protoR s.data.toList).2]) ∧ w = w' := by
  have hl := Lib.toList_data s
  generalize s.data.toList = l at *
  by_cases h0 : l = [84, 67, 80]
  · have e0 : (s.toList == [84, 67, 80]) = true := by rw [hl]; simpa using h0
    have R := hid (show protoR l = (6, true) by rw [h0]; rfl)
    clear hl h0
    go_enter Tryd.func34, Tryd.ntmps34
    go_wp2
    go_ret2
    exact ⟨by rw [R.out]; rfl, rfl⟩
  have e0 : (s.toList == [84, 67, 80]) = false := by rw [hl]; simpa using h0
  by_cases h1 : l = [85, 68, 80]
  · have e1 : (s.toList == [85, 68, 80]) = true := by rw [hl]; simpa using h1
    have R := hid (show protoR l = (17, true) by rw [h1]; rfl)
    clear hl h0 h1
    go_enter Tryd.func34, Tryd.ntmps34
    go_wp2
    go_ret2
    exact ⟨by rw [R.out]; rfl, rfl⟩
  have e1 : (s.toList == [85, 68, 80]) = false := by rw [hl]; simpa using h1
  have R := hid (show protoR l = (0, false) by simp [protoR, h0, h1])
  clear hl h0 h1
  go_enter Tryd.func34, Tryd.ntmps34
  go_wp2
  go_ret2
  exact ⟨by rw [R.out]; rfl, rfl⟩
set_option maxHeartbeats 2000000 in
theorem value_reads_walk (s : ByteArray) (most : Int) (m : Int) (w : World) (hm : Hid (MaxCell m w)) (h10 : Hid (P10 w)) :
    Calls Tryd.prog 6 #[.string s, .int .u64 most] w fun e w' => e = .returned (.bool true) ∧ w.grownBy w' none := by
  by_cases h1 : 1000 < s.size
  · go_enter Tryd.func6, Tryd.ntmps6
    go_wp2_with fail
    refine (vspeaks_true w).mono ?_
    rintro e w1 ⟨rfl, g1⟩
    go_wp2
    go_ret
    exact ⟨rfl, g1⟩
  have h2 : s.size ≤ 1000 := by omega
  have a1 := fun W => num_any s most W (by omega)
  have a2 := fun W => flag_any s W
  have a3 := fun W h k => vaddr_any s m W h k
  have a4 := fun W => proto_any s W
  have b1 := fun W => rnum_any s most W h2
  have b2 := fun W => rflag_any s W
  have b3 := fun W => raddr_any s W (by omega)
  have b4 := fun W => rproto_any s W
  have c1 := fun W => words_any s W h2
  have c2 := fun W => rwords_any s W h2
  generalize vnum most s.data.toList = r1 at *
  generalize flagR s.data.toList = r2 at *
  generalize addrR s.data.toList = r3 at *
  generalize protoR s.data.toList = r4 at *
  generalize wordsB s.data.toList = r5 at *
  obtain ⟨x1, y1⟩ := r1
  obtain ⟨x2, y2⟩ := r2
  obtain ⟨x3, y3⟩ := r3
  obtain ⟨x4, y4⟩ := r4
  simp only [] at a1 a2 a3 a4 b1 b2 b3 b4
  have A1 := hid a1
  have A2 := hid a2
  have A3 := hid a3
  have A4 := hid a4
  have B1 := hid b1
  have B2 := hid b2
  have B3 := hid b3
  have B4 := hid b4
  have C1 := hid c1
  have C2 := hid c2
  clear a1 a2 a3 a4 b1 b2 b3 b4 c1 c2 h1
  go_enter Tryd.func6, Tryd.ntmps6
  go_wp2_with fail
  refine (vspeaks_true w).mono ?_
  rintro e w1 ⟨rfl, g1⟩
  go_wp2_with fail
  refine (A1.out w1).mono ?_
  rintro e w2 ⟨rfl, g2⟩
  have G2 := gr_trans g1 g2
  clear g1 g2
  go_wp2_with fail
  refine (A2.out w2).mono ?_
  rintro e w3 ⟨rfl, rfl⟩
  go_wp2_with fail
  refine (A3.out w2 (hid (G2.cell hm.out (by simp))) (hid (h10.out.grown G2))).mono ?_
  rintro e w3 ⟨rfl, g3⟩
  have G3 := gr_trans G2 g3
  clear G2 g3
  go_wp2_with fail
  refine (A4.out w3).mono ?_
  rintro e w4 ⟨rfl, rfl⟩
  go_wp2_with fail
  refine (B1.out w3).mono ?_
  rintro e w4 ⟨rfl, rfl⟩
  go_wp2_with fail
  refine (B2.out w3).mono ?_
  rintro e w4 ⟨rfl, rfl⟩
  go_wp2_with fail
  refine (B3.out w3).mono ?_
  rintro e w4 ⟨rfl, rfl⟩
  go_wp2_with fail
  refine (B4.out w3).mono ?_
  rintro e w4 ⟨rfl, rfl⟩
  go_wp2_with fail
  refine (C1.out w3).mono ?_
  rintro e w4 ⟨rfl, g4⟩
  go_wp2_with fail
  refine (C2.out w4).mono ?_
  rintro e w5 ⟨rfl, rfl⟩
  go_wp2
  go_ret
  exact ⟨rfl, gr_trans G3 g4⟩
end Go.Proofs.YtjpkmbgpkdomnaaDoor
