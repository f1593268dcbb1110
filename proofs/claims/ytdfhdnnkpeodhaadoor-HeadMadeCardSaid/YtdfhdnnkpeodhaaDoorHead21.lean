/- The walk of HeadParts. -/
import Derived.Test.YtdfhdnnkpeodhaaDoorHead20
namespace Go.Proofs.YtdfhdnnkpeodhaaDoor
open Go.RowKit

theorem cat_toList (a b : ByteArray) : (a ++ b).data.toList = a.data.toList ++ b.data.toList := by
  rw [ByteArray.data_append, Array.toList_append]
theorem bytes_one (w : World) (t : TypeId) (c : UInt8) : Bytes (w.alloc (.cells #[.int .u8 (c.toNat : Int)] t)) (.slice (some ⟨w.heap.size, 0, none⟩) 1 1) [c] :=
  ⟨_, 1, rfl, by simp, by simp [maxLen], fun _ => ⟨_, 0, rfl, fun i hi => by
    obtain rfl : i = 0 := by simpa using hi
    exact (cell_of_block (heap_alloc_new w _) 0).trans rfl⟩⟩
theorem start_of (X : ByteArray) (l a b : List UInt8) (n : Int) (o : Bool) (m : Int) (w : World) (hX : X.data.toList = l) (hr : stR l = (a, b, n, o)) (hm : w.cell? ⟨0, 0, none⟩ = some (.int .i64 m)) (hs : l.length < 4294967281) :
    Calls Tryd.prog 17 #[.string X] w fun e w' => e = .returned (.tuple #[.string ⟨a.toArray⟩, .string ⟨b.toArray⟩, .int .i64 n, .bool o]) ∧ w.grownBy w' none := by
  have h := start_any X m w hm (by rw [Lib.size_eq, hX]; exact hs)
  rw [hX, hr] at h
  exact h
set_option maxHeartbeats 4000000 in
theorem head_parts_walk (s t : ByteArray) (c : UInt8) (m : Int) (w : World) (hm : w.cell? ⟨0, 0, none⟩ = some (.int .i64 m)) :
    Calls Tryd.prog 7 #[.string s, .string t, .int .u8 (c.toNat : Int)] w fun e w' => e = .returned (.bool true) ∧ w.grownBy w' none := by
  by_cases h1 : 200 < s.size
  · go_enter Tryd.func7, Tryd.ntmps7
    go_wp2_with fail
    refine (speaks_true w).mono ?_
    rintro e w1 ⟨rfl, g1⟩
    go_wp2
    go_ret
    exact ⟨rfl, g1⟩
  by_cases h2 : 1000 < t.size
  · go_enter Tryd.func7, Tryd.ntmps7
    go_wp2_with fail
    refine (speaks_true w).mono ?_
    rintro e w1 ⟨rfl, g1⟩
    go_wp2
    go_ret
    exact ⟨rfl, g1⟩
  have hs := Lib.size_eq s
  have ht := Lib.size_eq t
  have hP := fun d => show (ptL s.data.toList t.data.toList d).length < 4294967281 by simp [ptL]; omega
  obtain ⟨⟨a1, b1, n1, o1⟩, r1⟩ : ∃ r, stR (ptL s.data.toList t.data.toList 49) = r := ⟨_, rfl⟩
  obtain ⟨⟨a2, b2, n2, o2⟩, r2⟩ : ∃ r, stR (s.data.toList ++ 32 :: 32 :: (t.data.toList ++ 32 :: h11)) = r := ⟨_, rfl⟩
  obtain ⟨⟨a3, b3, n3, o3⟩, r3⟩ : ∃ r, stR (ptL s.data.toList t.data.toList 49 ++ [32]) = r := ⟨_, rfl⟩
  obtain ⟨⟨a4, b4, n4, o4⟩, r4⟩ : ∃ r, stR (ptL s.data.toList t.data.toList c) = r := ⟨_, rfl⟩
  have e2 := pt_wide s.data.toList t.data.toList
  have e3 := pt_more s.data.toList t.data.toList
  have e4 := pt_other s.data.toList t.data.toList c
  rw [r2] at e2
  rw [r3] at e3
  rw [r4, r1] at e4
  simp only [] at e2 e3 e4
  subst e2 e3
  have R1 := hid r1
  have R2 := hid r2
  have R3 := hid r3
  have R4 := hid r4
  have E4 := hid e4
  have HP := hid hP
  have Hm := hid hm
  have hs2 : s.data.toList.length ≤ 200 := by omega
  have ht2 : t.data.toList.length ≤ 1000 := by omega
  clear r1 r2 r3 r4 e4 hP hm hs ht
  go_enter Tryd.func7, Tryd.ntmps7
  go_wp2_with fail
  refine (speaks_true w).mono ?_
  rintro e w1 ⟨rfl, g1⟩
  go_wp2_with fail
  refine (start_of _ _ _ _ _ _ m w1 ?_ R1.out (g1.cell Hm.out (by simp)) (HP.out _)).mono ?_
  · simp [ptL]
  rintro e w2 ⟨rfl, g2⟩
  have G2 := gr_trans g1 g2
  clear g1 g2
  go_wp2_with fail
  refine (start_of _ _ _ _ _ _ m w2 ?_ R2.out (G2.cell Hm.out (by simp)) (by simp [h11]; omega)).mono ?_
  · simp [h11]
  rintro e w3 ⟨rfl, g3⟩
  have G3 := gr_trans G2 g3
  clear G2 g3
  go_wp2_with fail
  refine (start_of _ _ _ _ _ _ m w3 ?_ R3.out (G3.cell Hm.out (by simp)) (by have := HP.out 49; simp [ptL]; omega)).mono ?_
  · simp [ptL]
  rintro e w4 ⟨rfl, g4⟩
  have G4 := gr_trans G3 g4
  clear G3 g4
  have hb := bytes_one w4 5 c
  go_wp2_with (refine wpl_b2s rfl 41 9 5 _ rfl Tryd.underlying41 Tryd.underlying5 Tryd.underlying9 _ [c] rfl hb ?_; unfold str)
  refine (start_of _ _ _ _ _ _ m _ ?_ R4.out ((gr_alloc G4 _).cell Hm.out (by simp)) (HP.out _)).mono ?_
  · simp [ptL]
  rintro e w5 ⟨rfl, g5⟩
  have G5 := gr_trans (gr_alloc G4 _) g5
  have q8 : c = 48 ↔ (c.toNat : Int) = 48 := ⟨fun h => by rw [h]; rfl, fun h => UInt8.toNat_inj.1 (by simpa using (by omega : c.toNat = 48))⟩
  have q9 : c = 49 ↔ (c.toNat : Int) = 49 := ⟨fun h => by rw [h]; rfl, fun h => UInt8.toNat_inj.1 (by simpa using (by omega : c.toNat = 49))⟩
  have e8 : (c == 48) = ((c.toNat : Int) == 48) := by rw [Bool.eq_iff_iff]; simpa using q8
  have e9 : (c == 49) = ((c.toNat : Int) == 49) := by rw [Bool.eq_iff_iff]; simpa using q9
  have E5 := hid (show o4 = (o1 && (((c.toNat : Int) == 48) || ((c.toNat : Int) == 49))) by rw [E4.out, e8, e9])
  clear q8 q9 e8 e9 G4 hb
  cases o1
  · obtain rfl : o4 = false := by rw [E5.out]; rfl
    go_wp2
    go_ret
    exact ⟨rfl, G5⟩
  · by_cases x1 : (c.toNat : Int) = 48
    · obtain rfl : o4 = true := by rw [E5.out, x1]; rfl
      have x1' : ((c.toNat : Int) == 48) = true := by simpa using x1
      clear x1
      go_wp2
      go_ret
      exact ⟨rfl, G5⟩
    · have x1' : ((c.toNat : Int) == 48) = false := by simpa using x1
      obtain rfl : o4 = ((c.toNat : Int) == 49) := by rw [E5.out, x1']; rfl
      clear x1
      go_wp2
      go_ret
      refine ⟨?_, G5⟩
      simp
end Go.Proofs.YtdfhdnnkpeodhaaDoor
