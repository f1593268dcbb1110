/- hearthref09.Plain, for any seat. -/
import Derived.Test.YtmofnoconhgjmaaGreatDoorStrs
import Derived.Laws.CopyOwn
namespace Go.Proofs.YtmofnoconhgjmaaGreatDoor
open Go.RowKit

def plainC : Array Value := #[.int .u8 2, .int .u8 0, .int .u8 0, .int .u8 0, .int .u8 0, .int .u8 1, .int .u8 2, .int .u8 0, .int .u8 0, .int .u8 0, .int .u8 1, .int .u8 1, .int .u8 2, .int .u8 0, .int .u8 0, .int .u8 0, .int .u8 1, .int .u8 2, .int .u32 3232235777, .int .u32 3405803781, .int .i64 24, .int .i64 8, .int .i64 4, .int .i64 3, .int .i64 2, .slice none 0 0, .int .u32 0, .string ⟨#[48, 48, 48, 48, 48, 48, 48, 48, 45, 49, 49, 49, 49, 45, 50, 50, 50, 50, 45, 51, 51, 51, 51, 45, 52, 52, 52, 52, 52, 52, 52, 52, 52, 52, 52, 52]⟩]
def zeroC : Array Value := #[.int .u8 0, .int .u8 0, .int .u8 0, .int .u8 0, .int .u8 0, .int .u8 0, .int .u8 0, .int .u8 0, .int .u8 0, .int .u8 0, .int .u8 0, .int .u8 0, .int .u8 0, .int .u8 0, .int .u8 0, .int .u8 0, .int .u8 0, .int .u8 0, .int .u32 0, .int .u32 0, .int .i64 0, .int .i64 0, .int .i64 0, .int .i64 0, .int .i64 0, .slice none 0 0, .int .u32 0, .string ⟨#[]⟩]
def plainU : List UInt8 := [48, 48, 48, 48, 48, 48, 48, 48, 45, 49, 49, 49, 49, 45, 50, 50, 50, 50, 45, 51, 51, 51, 51, 45, 52, 52, 52, 52, 52, 52, 52, 52, 52, 52, 52, 52]
section
variable {P : Program} {ops : Array Oper} {rest : List Oper} {o : Oper} {a : Act} {w : World} {Q : Exit → Act → World → Prop}
theorem wpl_build (hg : o.guard = none) (t : TypeId) (parts : Array (Nat × Operand)) (ho : o.op = .build t parts) (cs : Array Value)
    (hb : P.built t (parts.map fun (i, x) => (i, a.eval x)).toList = some cs) (h : wpList P ops Q rest (a.put o.dst (.agg cs)) w) : wpList P ops Q (o :: rest) a w :=
  wpList_build hg t parts ho (by rw [hb]; rfl) (by rw [hb]; exact h)
end
def mac1C : Array Value := #[.int .u8 2, .int .u8 0, .int .u8 0, .int .u8 0, .int .u8 0, .int .u8 1]
def mac2C : Array Value := #[.int .u8 2, .int .u8 0, .int .u8 0, .int .u8 0, .int .u8 1, .int .u8 1]
def mac3C : Array Value := #[.int .u8 2, .int .u8 0, .int .u8 0, .int .u8 0, .int .u8 1, .int .u8 2]
set_option maxRecDepth 100000 in
theorem plain_any (w : World) : Calls Tryz.prog 19 #[] w fun e w' => e = .returned (.agg plainC) ∧ w.grownBy w' none := by
  go_enter Tryz.func19, Tryz.ntmps19
  go_upto_region 1 with fail
  rw [show (Obj.cells #[.int .u8 0, .int .u8 0, .int .u8 0, .int .u8 0, .int .u8 0, .int .u8 0, .int .u8 0, .int .u8 0, .int .u8 0, .int .u8 0, .int .u8 0, .int .u8 0, .int .u8 0, .int .u8 0, .int .u8 0, .int .u8 0, .int .u8 0, .int .u8 0, .int .u32 0, .int .u32 0, .int .i64 0, .int .i64 0, .int .i64 0, .int .i64 0, .int .i64 0, .slice none 0 0, .int .u32 0, .string ⟨#[]⟩] 51) = .cells zeroC 51 from rfl]
  have hn := heap_alloc_new w (.cells zeroC 51)
  have g1 := World.grownBy_alloc w (.cells zeroC 51) none
  obtain ⟨w1, hw1⟩ : ∃ x, w.alloc (.cells zeroC 51) = x := ⟨_, rfl⟩
  rw [hw1] at hn g1 ⊢
  have HN := hid hn
  have G1 := hid g1
  clear hn g1 hw1
  obtain ⟨b, hb⟩ : ∃ x, x = w.heap.size := ⟨_, rfl⟩
  rw [← hb] at HN ⊢
  have HB := hid (show w.heap.size ≤ b by omega)
  clear hb
  go_wp2_with (first
    | ((with_reducible refine wpl_build (o := ⟨some 1, _, _, _, _, _⟩) rfl 48 _ rfl mac1C (by kernel_rfl) ?_))
    | ((with_reducible refine wpl_build (o := ⟨some 2, _, _, _, _, _⟩) rfl 48 _ rfl mac2C (by kernel_rfl) ?_))
    | ((with_reducible refine wpl_build (o := ⟨some 3, _, _, _, _, _⟩) rfl 48 _ rfl mac3C (by kernel_rfl) ?_))
    | ((with_reducible refine wpl_build (o := ⟨some 4, _, _, _, _, _⟩) rfl 51 _ rfl plainC (by kernel_rfl) ?_))
    | ((with_reducible refine wpList_store_row (o := ⟨none, _, _, _, _, _⟩) (w := w1) rfl 51 (.tmp 0) (.tmp 4) rfl b plainC ?h1 ?h2 51 zeroC HN.out (by kernel_rfl) (by kernel_rfl) (by kernel_rfl) ?hm); (case h1 => rfl); (case h2 => rfl)))
  refine bodyPost_ret (v := .agg plainC) ?_ ?_ ?_
  rotate_left
  · rfl
  rotate_left
  · exact results_cell_row rfl _ _ b 51 plainC (0, 0) _ rfl (setRow_heap _ b zeroC plainC _ _ HN.out) Tryz.underlying51 rfl (by kernel_rfl)
  · exact ⟨rfl, gr_of_below (below_setRow (gr_below G1.out) HB.out _)⟩
end Go.Proofs.YtmofnoconhgjmaaGreatDoor
