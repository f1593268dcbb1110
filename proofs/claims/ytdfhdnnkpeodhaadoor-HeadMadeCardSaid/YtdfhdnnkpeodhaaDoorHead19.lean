/- The walk of HeadLines. -/
import Derived.Test.YtdfhdnnkpeodhaaDoorHead18
import Derived.Test.YtdfhdnnkpeodhaaDoorHead13
namespace Go.Proofs.YtdfhdnnkpeodhaaDoor
open Go.RowKit

set_option maxHeartbeats 4000000 in
theorem head_lines_walk (s : ByteArray) (m : Int) (w : World) (hm : w.cell? ⟨0, 0, none⟩ = some (.int .i64 m)) :
    Calls Tryd.prog 5 #[.string s] w fun e w' => e = .returned (.bool true) ∧ w.grownBy w' none := by
  by_cases h1 : 3000 < s.size
  · go_enter Tryd.func5, Tryd.ntmps5
    go_wp2_with fail
    refine (speaks_true w).mono ?_
    rintro e w1 ⟨rfl, g1⟩
    go_wp2
    go_ret
    exact ⟨rfl, g1⟩
  have h2 : s.size ≤ 3000 := by omega
  have hln := fun w => line_any s w (by omega)
  have hrln := fun w => rline_any s w (by omega)
  have hst := fun w h => start_any s m w h (by omega)
  have hrst := fun w => rstart_any s w h2
  have htk := fun w => token_any s w (by omega)
  have hrtk := fun w => rtoken_any s w (by omega)
  have hlw := fun w => lower_any s w (by omega)
  have hrlw := fun w => rlower_any s w (by omega)
  generalize lnR s.data.toList = a at *
  generalize stR s.data.toList = b at *
  generalize tokB s.data.toList = t at *
  generalize lowL s.data.toList = p at *
  obtain ⟨a1, a2, a3⟩ := a
  obtain ⟨b1, b2, b3, b4⟩ := b
  simp only [str] at hln hrln hst hrst hlw hrlw
  have Hln := hid hln
  have Hrln := hid hrln
  have Hst := hid hst
  have Hrst := hid hrst
  have Htk := hid htk
  have Hrtk := hid hrtk
  have Hlw := hid hlw
  have Hrlw := hid hrlw
  have Hm := hid hm
  clear hln hrln hst hrst htk hrtk hlw hrlw h1 hm
  go_enter Tryd.func5, Tryd.ntmps5
  go_wp2_with fail
  refine (speaks_true w).mono ?_
  rintro e w1 ⟨rfl, g1⟩
  go_wp2_with fail
  refine (Hln.out w1).mono ?_
  rintro e w2 ⟨rfl, g2⟩
  have G2 := gr_trans g1 g2
  clear g1 g2
  go_wp2_with fail
  refine (Hrln.out _).mono ?_
  rintro e w3 ⟨rfl, g3⟩
  have B3 := gr_keep g3 (heap_alloc_new w2 _) (by simp)
  have k0 := (cell_of_block B3 0).trans (show _ = some (Value.string ⟨a1.toArray⟩) from rfl)
  have k1 := (cell_of_block B3 1).trans (show _ = some (Value.string ⟨a2.toArray⟩) from rfl)
  have z3 := lt_of_block B3
  have BH := hid B3
  have G3 := gr_trans (gr_alloc G2 _) g3
  clear B3 g3 G2
  go_wp2_with fail
  refine (Hst.out _ ((gr_alloc G3 _).cell Hm.out (by simp))).mono ?_
  rintro e w4 ⟨rfl, g4⟩
  have B4 := gr_keep g4 (heap_alloc_new w3 _) (by simp)
  have A4 := gr_keep g4 (gr_keep (World.grownBy_alloc w3 _ none) BH.out (by simp)) (by simp)
  have G4 := gr_trans (gr_alloc G3 _) g4
  clear g4 G3 BH k0 k1 z3
  go_wp2_with fail
  refine (Hrst.out w4).mono ?_
  rintro e w5 ⟨rfl, g5⟩
  replace A4 := gr_keep g5 A4 (by simp)
  replace B4 := gr_keep g5 B4 (by simp)
  have k0 := (cell_of_block A4 0).trans (show _ = some (Value.string ⟨a1.toArray⟩) from rfl)
  have k1 := (cell_of_block A4 1).trans (show _ = some (Value.string ⟨a2.toArray⟩) from rfl)
  have j0 := (cell_of_block B4 0).trans (show _ = some (Value.string ⟨a1.toArray⟩) from rfl)
  have j1 := (cell_of_block B4 1).trans (show _ = some (Value.string ⟨a2.toArray⟩) from rfl)
  have G5 := gr_trans G4 g5
  clear A4 B4 G4 g5
  go_wp2_with fail
  refine (Htk.out w5).mono ?_
  rintro e w6 ⟨rfl, g6⟩
  go_wp2_with fail
  refine (Hrtk.out w6).mono ?_
  rintro e w7 ⟨rfl, rfl⟩
  go_wp2_with fail
  refine (Hlw.out w6).mono ?_
  rintro e w7 ⟨rfl, g7⟩
  go_wp2_with fail
  refine (Hrlw.out w7).mono ?_
  rintro e w8 ⟨rfl, g8⟩
  go_wp2
  go_ret
  exact ⟨rfl, gr_trans (gr_trans (gr_trans G5 g6) g7) g8⟩
end Go.Proofs.YtdfhdnnkpeodhaaDoor
