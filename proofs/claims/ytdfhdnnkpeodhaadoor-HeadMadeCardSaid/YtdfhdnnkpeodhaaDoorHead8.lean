/- The document's example; the walk of HeadNumbers. -/
import Derived.Test.YtdfhdnnkpeodhaaDoorHead7
namespace Go.Proofs.YtdfhdnnkpeodhaaDoor
open Go.RowKit

def exL : List UInt8 := [83, 79, 65, 80, 65, 99, 116, 105, 111, 110, 58, 32, 32, 97, 32]
theorem exL_R : lnR exL = ([115, 111, 97, 112, 97, 99, 116, 105, 111, 110], [97], true) := by decide +kernel
set_option maxHeartbeats 1000000 in
theorem speaks_true (w : World) : Calls Tryd.prog 8 #[] w fun e w' => e = .returned (.bool true) ∧ w.grownBy w' none := by
  have hln := line_any ⟨exL.toArray⟩ w (by decide)
  rw [show (ByteArray.mk exL.toArray).data.toList = exL from rfl, exL_R] at hln
  have Hln := hid hln
  clear hln
  go_enter Tryd.func8, Tryd.ntmps8
  go_wp2_with fail
  refine Hln.out.mono ?_
  rintro e w1 ⟨rfl, g1⟩
  unfold str
  go_wp2_with fail
  refine (number_any ⟨#[48, 65]⟩ 16 99 _ (by decide)).mono ?_
  rintro e w2 ⟨rfl, g2⟩
  rw [show numR 16 99 (ByteArray.mk #[48, 65]).data.toList = (10, true) by decide +kernel]
  have b1 := gr_keep g2 (heap_alloc_new w1 _) (by simp)
  have k0 := cell_of_block b1 0
  have k1 := cell_of_block b1 1
  go_wp2_with fail
  refine (number_any ⟨#[48, 65]⟩ 10 99 _ (by decide)).mono ?_
  rintro e w3 ⟨rfl, g3⟩
  rw [show numR 10 99 (ByteArray.mk #[48, 65]).data.toList = (0, false) by decide +kernel]
  have b2 := gr_keep g3 b1 (by simp)
  have j0 := cell_of_block b2 0
  have j1 := cell_of_block b2 1
  simp at j0 j1
  clear b1 b2 k0 k1
  go_wp2
  go_ret
  exact ⟨rfl, gr_trans (gr_trans (gr_alloc g1 _) g2) g3⟩
set_option maxHeartbeats 1000000 in
theorem head_numbers_walk (s : ByteArray) (base most : Int) (w : World) (hs : s.size ≤ 9223372036854775807) :
    Calls Tryd.prog 3 #[.string s, .int .i64 base, .int .i64 most] w fun e w' => e = .returned (.bool true) ∧ w.grownBy w' none := by
  by_cases h1 : 1000 < s.size
  · go_enter Tryd.func3, Tryd.ntmps3
    go_wp2_with fail
    refine (speaks_true w).mono ?_
    rintro e w1 ⟨rfl, g1⟩
    go_wp2
    go_ret
    exact ⟨rfl, g1⟩
  · have h2 : s.size ≤ 1000 := by omega
    clear h1
    generalize hx : numR base most s.data.toList = x
    have X := hid hx
    clear hx
    obtain ⟨x1, x2⟩ := x
    go_enter Tryd.func3, Tryd.ntmps3
    go_wp2_with fail
    refine (speaks_true w).mono ?_
    rintro e w1 ⟨rfl, g1⟩
    go_wp2_with fail
    refine (number_any s base most w1 hs).mono ?_
    rintro e w2 ⟨rfl, g2⟩
    rw [X.out]
    simp only []
    go_wp2_with fail
    refine (rnumber_any s base most w2 hs).mono ?_
    rintro e w3 ⟨rfl, g3⟩
    rw [X.out]
    simp only []
    go_wp2
    go_ret
    exact ⟨rfl, gr_trans (gr_trans g1 g2) g3⟩
end Go.Proofs.YtdfhdnnkpeodhaaDoor
