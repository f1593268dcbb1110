/- http.Reason. -/
import Derived.Test.YtldbcdiomkkinaaGreatDoorHr1
import Derived.Test.YtldbcdiomkkinaaGreatDoorMap
namespace Go.Proofs.YtldbcdiomkkinaaGreatDoor
open Go.RowKit

def reasonT : List (Int × List UInt8) := [(200, [79, 75]), (400, [66, 97, 100, 32, 82, 101, 113, 117, 101, 115, 116]), (404, [78, 111, 116, 32, 70, 111, 117, 110, 100]), (405, [77, 101, 116, 104, 111, 100, 32, 78, 111, 116, 32, 65, 108, 108, 111, 119, 101, 100]), (411, [76, 101, 110, 103, 116, 104, 32, 82, 101, 113, 117, 105, 114, 101, 100]), (412, [80, 114, 101, 99, 111, 110, 100, 105, 116, 105, 111, 110, 32, 70, 97, 105, 108, 101, 100]), (413, [67, 111, 110, 116, 101, 110, 116, 32, 84, 111, 111, 32, 76, 97, 114, 103, 101]), (415, [85, 110, 115, 117, 112, 112, 111, 114, 116, 101, 100, 32, 77, 101, 100, 105, 97, 32, 84, 121, 112, 101]), (431, [82, 101, 113, 117, 101, 115, 116, 32, 72, 101, 97, 100, 101, 114, 32, 70, 105, 101, 108, 100, 115, 32, 84, 111, 111, 32, 76, 97, 114, 103, 101]), (500, [73, 110, 116, 101, 114, 110, 97, 108, 32, 83, 101, 114, 118, 101, 114, 32, 69, 114, 114, 111, 114]), (501, [78, 111, 116, 32, 73, 109, 112, 108, 101, 109, 101, 110, 116, 101, 100]), (503, [83, 101, 114, 118, 105, 99, 101, 32, 85, 110, 97, 118, 97, 105, 108, 97, 98, 108, 101])]
def statusL : List UInt8 := [83, 116, 97, 116, 117, 115]
def reasonL (n : Int) : List UInt8 := match reasonT.find? (fun p => n == p.1) with | some p => p.2 | none => statusL
set_option maxRecDepth 20000 in
set_option maxHeartbeats 4000000 in
theorem reason_http (n : Int) (w : World) : Calls Tryz.prog 13 #[.int .i64 n] w fun e w' => e = .returned (.string ⟨(reasonL n).toArray⟩) ∧ w.grownBy w' none := by
  have hmm := @run_makeMap Tryz.prog
  have hm0 := map_new (w := w) (w' := w.alloc (.map #[] 0)) (heap_alloc_new w (.map #[] 0))
  have g0 := World.grownBy_alloc w (.map #[] 0) none
  go_enter Tryz.func13, Tryz.ntmps13
  go_wp2_with fail
  revert hm0 g0
  generalize w.alloc (.map #[] 0) = w0
  obtain ⟨r, hr⟩ : ∃ r, r = w.heap.size := ⟨_, rfl⟩
  rw [← hr]
  intro hm0 g0
  have HR := hid hr
  clear hr
  have HG0 := hid g0
  have HM0 := hid hm0
  clear hm0 g0 hmm
  obtain ⟨w1, hr1, hm1, g1⟩ := run_mput Tryz.underlying57 Tryz.underlying3 HM0.out 200 [79, 75] (by decide)
  rw [hr1]
  have HM1 := hid hm1
  have HG1 := hid (gr_new HG0.out g1 (by rw [HR.out]; exact Nat.le_refl _))
  clear hr1 hm1 g1 HM0 HG0
  go_simp
  go_wp2_with fail
  obtain ⟨w2, hr2, hm2, g2⟩ := run_mput Tryz.underlying57 Tryz.underlying3 HM1.out 400 [66, 97, 100, 32, 82, 101, 113, 117, 101, 115, 116] (by decide)
  rw [hr2]
  have HM2 := hid hm2
  have HG2 := hid (gr_new HG1.out g2 (by rw [HR.out]; exact Nat.le_refl _))
  clear hr2 hm2 g2 HM1 HG1
  go_simp
  go_wp2_with fail
  obtain ⟨w3, hr3, hm3, g3⟩ := run_mput Tryz.underlying57 Tryz.underlying3 HM2.out 404 [78, 111, 116, 32, 70, 111, 117, 110, 100] (by decide)
  rw [hr3]
  have HM3 := hid hm3
  have HG3 := hid (gr_new HG2.out g3 (by rw [HR.out]; exact Nat.le_refl _))
  clear hr3 hm3 g3 HM2 HG2
  go_simp
  go_wp2_with fail
  obtain ⟨w4, hr4, hm4, g4⟩ := run_mput Tryz.underlying57 Tryz.underlying3 HM3.out 405 [77, 101, 116, 104, 111, 100, 32, 78, 111, 116, 32, 65, 108, 108, 111, 119, 101, 100] (by decide)
  rw [hr4]
  have HM4 := hid hm4
  have HG4 := hid (gr_new HG3.out g4 (by rw [HR.out]; exact Nat.le_refl _))
  clear hr4 hm4 g4 HM3 HG3
  go_simp
  go_wp2_with fail
  obtain ⟨w5, hr5, hm5, g5⟩ := run_mput Tryz.underlying57 Tryz.underlying3 HM4.out 411 [76, 101, 110, 103, 116, 104, 32, 82, 101, 113, 117, 105, 114, 101, 100] (by decide)
  rw [hr5]
  have HM5 := hid hm5
  have HG5 := hid (gr_new HG4.out g5 (by rw [HR.out]; exact Nat.le_refl _))
  clear hr5 hm5 g5 HM4 HG4
  go_simp
  go_wp2_with fail
  obtain ⟨w6, hr6, hm6, g6⟩ := run_mput Tryz.underlying57 Tryz.underlying3 HM5.out 412 [80, 114, 101, 99, 111, 110, 100, 105, 116, 105, 111, 110, 32, 70, 97, 105, 108, 101, 100] (by decide)
  rw [hr6]
  have HM6 := hid hm6
  have HG6 := hid (gr_new HG5.out g6 (by rw [HR.out]; exact Nat.le_refl _))
  clear hr6 hm6 g6 HM5 HG5
  go_simp
  go_wp2_with fail
  obtain ⟨w7, hr7, hm7, g7⟩ := run_mput Tryz.underlying57 Tryz.underlying3 HM6.out 413 [67, 111, 110, 116, 101, 110, 116, 32, 84, 111, 111, 32, 76, 97, 114, 103, 101] (by decide)
  rw [hr7]
  have HM7 := hid hm7
  have HG7 := hid (gr_new HG6.out g7 (by rw [HR.out]; exact Nat.le_refl _))
  clear hr7 hm7 g7 HM6 HG6
  go_simp
  go_wp2_with fail
  obtain ⟨w8, hr8, hm8, g8⟩ := run_mput Tryz.underlying57 Tryz.underlying3 HM7.out 415 [85, 110, 115, 117, 112, 112, 111, 114, 116, 101, 100, 32, 77, 101, 100, 105, 97, 32, 84, 121, 112, 101] (by decide)
  rw [hr8]
  have HM8 := hid hm8
  have HG8 := hid (gr_new HG7.out g8 (by rw [HR.out]; exact Nat.le_refl _))
  clear hr8 hm8 g8 HM7 HG7
  go_simp
  go_wp2_with fail
  obtain ⟨w9, hr9, hm9, g9⟩ := run_mput Tryz.underlying57 Tryz.underlying3 HM8.out 431 [82, 101, 113, 117, 101, 115, 116, 32, 72, 101, 97, 100, 101, 114, 32, 70, 105, 101, 108, 100, 115, 32, 84, 111, 111, 32, 76, 97, 114, 103, 101] (by decide)
  rw [hr9]
  have HM9 := hid hm9
  have HG9 := hid (gr_new HG8.out g9 (by rw [HR.out]; exact Nat.le_refl _))
  clear hr9 hm9 g9 HM8 HG8
  go_simp
  go_wp2_with fail
  obtain ⟨w10, hr10, hm10, g10⟩ := run_mput Tryz.underlying57 Tryz.underlying3 HM9.out 500 [73, 110, 116, 101, 114, 110, 97, 108, 32, 83, 101, 114, 118, 101, 114, 32, 69, 114, 114, 111, 114] (by decide)
  rw [hr10]
  have HM10 := hid hm10
  have HG10 := hid (gr_new HG9.out g10 (by rw [HR.out]; exact Nat.le_refl _))
  clear hr10 hm10 g10 HM9 HG9
  go_simp
  go_wp2_with fail
  obtain ⟨w11, hr11, hm11, g11⟩ := run_mput Tryz.underlying57 Tryz.underlying3 HM10.out 501 [78, 111, 116, 32, 73, 109, 112, 108, 101, 109, 101, 110, 116, 101, 100] (by decide)
  rw [hr11]
  have HM11 := hid hm11
  have HG11 := hid (gr_new HG10.out g11 (by rw [HR.out]; exact Nat.le_refl _))
  clear hr11 hm11 g11 HM10 HG10
  go_simp
  go_wp2_with fail
  obtain ⟨w12, hr12, hm12, g12⟩ := run_mput Tryz.underlying57 Tryz.underlying3 HM11.out 503 [83, 101, 114, 118, 105, 99, 101, 32, 85, 110, 97, 118, 97, 105, 108, 97, 98, 108, 101] (by decide)
  rw [hr12]
  have HM12 := hid hm12
  have HG12 := hid (gr_new HG11.out g12 (by rw [HR.out]; exact Nat.le_refl _))
  clear hr12 hm12 g12 HM11 HG11
  go_simp
  go_wp2_with fail
  have hget : (Instr.lookup 57 (.map (some r)) (.int .i64 n) true).run Tryz.prog w12 = .ok (foundV (reasonT.find? (fun p => n == p.1))) w12 := run_mget Tryz.underlying57 Tryz.underlying3 (fun w => by exact Tryz.zeroValue9 w) HM12.out n
  rcases hfi : reasonT.find? (fun p => n == p.1) with _ | p
  · have HF := hid (show reasonL n = statusL by unfold reasonL; rw [hfi])
    rw [hfi] at hget
    rw [hget]
    clear hfi hget
    unfold foundV
    go_simp
    go_wp2_with fail
    go_ret
    exact ⟨by rw [HF.out]; rfl, HG12.out⟩
  · have HF := hid (show reasonL n = p.2 by unfold reasonL; rw [hfi])
    rw [hfi] at hget
    rw [hget]
    clear hfi hget
    unfold foundV
    go_simp
    go_wp2_with fail
    go_ret
    exact ⟨by rw [HF.out]; rfl, HG12.out⟩
end Go.Proofs.YtldbcdiomkkinaaGreatDoor
