/- Walks: Accept; the document's example. -/
import Derived.Test.YtcgmbeibhingcaaStr3
namespace Go.Proofs.Ytcgmbeibhingcaa
open Go.RowKit

/-- What Accept makes. -/
def accCn (p q own other wi : Int) : Cn := { src := p, dst := q, own := own, other := other, phase := 1, una := 0, next := 1, most := 1, out := .slice none 0 0, tail := 1, closing := false, window := wi, seen := 1, ended := false, unread := .slice none 0 0, timed := false, due := 0, tries := 0 }
set_option maxHeartbeats 1000000 in
theorem accept_any (w : World) (f t sq ak fl wi ur own now : Int) (oa da : Option Addr) (on oc dn dc : Nat) (hwi : 0 ≤ wi) (hwi' : wi ≤ 65535) :
    Calls Try.prog 11 #[.agg #[.int .u16 f, .int .u16 t, .int .u32 sq, .int .u32 ak, .int .u8 fl, .int .u16 wi, .int .u16 ur, .slice oa on oc, .slice da dn dc], .int .u32 own, .int .u64 now] w fun e w' => ∃ b g, e = .returned (.tuple #[.pointer (some ⟨b, 0, none⟩), .slice (some ⟨g, 0, none⟩) 1 1]) ∧
      w'.heap[g]? = some (.cells (((accCn t f own sq wi).set now).seg 0 2 0 (.slice none 0 0)) 34 (0, 0)) ∧ w.heap.size ≤ g ∧ w.heap.size ≤ b ∧ ConnAt w' b ((accCn t f own sq wi).set now) ∧ w.grownBy w' none := by
  go_enter Try.func11, Try.ntmps11
  go_wp2_with fail
  refine (begin_any (w.heap.size + 1) (accCn t f own sq wi) _ now none 0 0 (by exact heap_new _ _ _ (by simp)) (by simp [accCn]) (by simp [accCn]) rfl (by omega)).mono ?_
  rintro e w1 ⟨g, rfl, hg, hgs, h1, g1⟩
  go_wp2
  go_ret2
  refine ⟨w.heap.size + 1, g, rfl, hg, ?_, by omega, h1, ?_⟩
  · simp at hgs; omega
  · exact gr_new (gr_alloc (gr_alloc (gr_refl _ _) _) _) g1 (by omega)

set_option maxHeartbeats 1000000 in
theorem speaks_true (w : World) : Calls Try.prog 7 #[] w fun e w' => e = .returned (.bool true) ∧ w.grownBy w' none := by
  go_enter Try.func7, Try.ntmps7
  go_wp2_with fail
  refine (accept_any w 5000 80 99 0 2 0 0 7 0 none none 0 0 0 0 (by omega) (by omega)).mono ?_
  rintro e w1 ⟨b, g, rfl, hg, hgs, hbs, h1, g1⟩
  have k2 : w1.cell? ⟨g, 2, none⟩ = some (.int .u32 7) := (cell_of_block hg _).trans (by simp [Cn.seg, accCn, Cn.set])
  have k3 : w1.cell? ⟨g, 3, none⟩ = some (.int .u32 100) := (cell_of_block hg _).trans (by simp [Cn.seg, accCn, Cn.set])
  have k4 : w1.cell? ⟨g, 4, none⟩ = some (.int .u8 18) := (cell_of_block hg _).trans (by simp [Cn.seg, accCn, Cn.set]; decide)
  have k5 : w1.cell? ⟨g, 5, none⟩ = some (.int .u16 4096) := (cell_of_block hg _).trans (by simp [Cn.seg, accCn, Cn.set])
  clear hg h1
  go_wp2
  go_ret
  exact ⟨rfl, g1⟩
end Go.Proofs.Ytcgmbeibhingcaa
