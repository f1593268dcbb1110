/- bytes.Clone of bytes. -/
import Derived.Test.YtcgmbeibhingcaaSw1
namespace Go.Proofs.Ytcgmbeibhingcaa
open Go.RowKit

set_option maxRecDepth 20000 in
theorem clone_own (l : List UInt8) (ad : Addr) (c : Nat) (w : World) (hb : Bytes w (.slice (some ad) l.length c) l) (hl : l.length ≤ 100000) :
    Calls Try.prog 26 #[.slice (some ad) l.length c] w fun e w' => ∃ v, e = .returned v ∧ Own8 w' w.heap.size v l ∧ w.grownBy w' none := by
  have hn := Lib.run_eql_slice_nil (P := Try.prog)
  have HB := hid hb
  clear hb
  go_enter Try.func26, Try.ntmps26
  go_wp2_with (at_builtin; refine wpl_app8 (base := w.heap.size) (xs := []) (l := l) rfl _ _ rfl rfl rfl (own8_of (heap_alloc_new w _) (Nat.le_refl _) rfl rfl (by decide)) (HB.out.grown (by (repeat (first | exact gr_refl _ _ | assumption | refine gr_drew ?_ | refine gr_drewN _ ?_ | refine gr_alloc ?_ _ | refine gr_set ?_ | refine gr_set_new ?_ (by first | omega | (simp; omega)))))) (by simp; omega) (World.grownBy_alloc _ _ none).size ?_; intro v2 w2 hown g2)
  go_ret
  rw [List.nil_append] at hown
  exact ⟨v2, rfl, hown, gr_new (World.grownBy_alloc w _ none) g2 (Nat.le_refl _)⟩
end Go.Proofs.Ytcgmbeibhingcaa
