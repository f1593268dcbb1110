/- Walks of the small methods of a connection: what each does to the block of its receiver. -/
import Derived.Test.YtcgmbeibhingcaaRows
import Derived.Test.YtcgmbeibhingcaaLib
import Derived.RegionTactic
import Derived.BigRegion
import Derived.BigQuiet
import Derived.Deep.QuietTactic
import Derived.ChangeAlike
import Derived.Deep.RegionHeld3
import Derived.StillTailTactics
import Derived.Handy
namespace Go.Proofs.Ytcgmbeibhingcaa
open Go.RowKit

/-- A connection's numbers; the two slices as values. -/
structure Cn where
  src : Int
  dst : Int
  own : Int
  other : Int
  phase : Int
  una : Int
  next : Int
  most : Int
  out : Value
  tail : Int
  closing : Bool
  window : Int
  seen : Int
  ended : Bool
  unread : Value
  timed : Bool
  due : Int
  tries : Int
def Cn.cells (c : Cn) : Array Value := #[.int .u16 c.src, .int .u16 c.dst, .int .u32 c.own, .int .u32 c.other, .int .i64 c.phase, .int .u32 c.una, .int .u32 c.next, .int .u32 c.most, c.out, .int .u32 c.tail, .bool c.closing, .int .u32 c.window, .int .u32 c.seen, .bool c.ended, c.unread, .bool c.timed, .int .u64 c.due, .int .i64 c.tries]
def ConnAt (w : World) (b : Nat) (c : Cn) : Prop := w.heap[b]? = some (.cells c.cells 63 (0, 0))
structure CnCells (w : World) (b : Nat) (c : Cn) : Prop where
  c0 : w.cell? ⟨b, 0, none⟩ = some (.int .u16 c.src)
  c1 : w.cell? ⟨b, 1, none⟩ = some (.int .u16 c.dst)
  c2 : w.cell? ⟨b, 2, none⟩ = some (.int .u32 c.own)
  c3 : w.cell? ⟨b, 3, none⟩ = some (.int .u32 c.other)
  c4 : w.cell? ⟨b, 4, none⟩ = some (.int .i64 c.phase)
  c5 : w.cell? ⟨b, 5, none⟩ = some (.int .u32 c.una)
  c6 : w.cell? ⟨b, 6, none⟩ = some (.int .u32 c.next)
  c7 : w.cell? ⟨b, 7, none⟩ = some (.int .u32 c.most)
  c8 : w.cell? ⟨b, 8, none⟩ = some c.out
  c9 : w.cell? ⟨b, 9, none⟩ = some (.int .u32 c.tail)
  c10 : w.cell? ⟨b, 10, none⟩ = some (.bool c.closing)
  c11 : w.cell? ⟨b, 11, none⟩ = some (.int .u32 c.window)
  c12 : w.cell? ⟨b, 12, none⟩ = some (.int .u32 c.seen)
  c13 : w.cell? ⟨b, 13, none⟩ = some (.bool c.ended)
  c14 : w.cell? ⟨b, 14, none⟩ = some c.unread
  c15 : w.cell? ⟨b, 15, none⟩ = some (.bool c.timed)
  c16 : w.cell? ⟨b, 16, none⟩ = some (.int .u64 c.due)
  c17 : w.cell? ⟨b, 17, none⟩ = some (.int .i64 c.tries)
theorem ConnAt.all {w : World} {b : Nat} {c : Cn} (h : ConnAt w b c) : CnCells w b c := by
  constructor <;> exact (cell_of_block h _).trans rfl
theorem ConnAt.free {w : World} {b : Nat} {c : Cn} (h : ConnAt w b c) (o : Nat) : w.frozen? ⟨b, o, none⟩ = false := free_of_block h o
theorem ConnAt.lt {w : World} {b : Nat} {c : Cn} (h : ConnAt w b c) : b < w.heap.size := lt_of_block h
theorem ConnAt.keep {w w1 : World} {b : Nat} {c : Cn} {row : Option Nat} (h : ConnAt w b c) (g : w.grownBy w1 row) (hr : some b ≠ row) : ConnAt w1 b c := gr_keep g h hr

set_option maxHeartbeats 400000 in
theorem phase_any (b : Nat) (c : Cn) (w : World) (h : ConnAt w b c) :
    Calls Try.prog 10 #[.pointer (some ⟨b, 0, none⟩)] w fun e w' => e = .returned (.int .i64 c.phase) ∧ w = w' := by
  have h4 := h.all.c4
  go_enter Try.func10, Try.ntmps10
  go_wp2
  go_ret
  exact ⟨rfl, rfl⟩

/-- what over answers -/
def overB (c : Cn) : Bool := c.phase == 3 || c.phase == 4
set_option maxHeartbeats 400000 in
theorem over_any (b : Nat) (c : Cn) (w : World) (h : ConnAt w b c) :
    Calls Try.prog 22 #[.pointer (some ⟨b, 0, none⟩)] w fun e w' => e = .returned (.bool (overB c)) ∧ w = w' := by
  have h4 := h.all.c4
  go_enter Try.func22, Try.ntmps22
  go_wp2
  all_goals
    go_ret
    refine ⟨?_, rfl⟩
    simp [overB, *]

def Cn.set (c : Cn) (now : Int) : Cn := { c with timed := true, due := IntKind.u64.wrap (now + IntKind.u64.wrap (3 * 2 ^ c.tries.toNat)) }
set_option maxHeartbeats 400000 in
theorem set_any (b : Nat) (c : Cn) (w : World) (now : Int) (h : ConnAt w b c) (ht : 0 ≤ c.tries) (ht' : c.tries ≤ 6) :
    Calls Try.prog 24 #[.pointer (some ⟨b, 0, none⟩), .int .u64 now] w fun e w' => e = .returned (.tuple #[]) ∧ ConnAt w' b (c.set now) ∧ w.grownBy w' (some b) := by
  have h17 := h.all.c17
  have h15 := h.all.c15
  have h16 := h.all.c16
  have f15 := h.free 15
  have f16 := h.free 16
  go_enter Try.func24, Try.ntmps24
  go_wp2
  go_region
  go_end0
  exact ⟨rfl, heap_set (heap_set h), gr_drew (gr_set (gr_set (gr_refl _ _)))⟩

theorem clone_nil (w : World) :
    Calls Try.prog 26 #[.slice none 0 0] w fun e w' => e = .returned (.slice none 0 0) ∧ w = w' := by
  have hn := Lib.run_eql_slice_nil (P := Try.prog)
  go_enter Try.func26, Try.ntmps26
  go_wp2
  go_ret
  exact ⟨rfl, rfl⟩

/-- A segment without data. -/
def Cn.seg (c : Cn) (place flags : Int) (n : Nat) (data : Value) : Array Value :=
  #[.int .u16 c.src, .int .u16 c.dst, .int .u32 ((c.own + place) % 4294967296), .int .u32 (if c.phase = 0 then 0 else (c.other + c.seen) % 4294967296), .int .u8 (if c.phase = 0 then flags else bits BinOp.or IntKind.u8 flags 16), .int .u16 (4096 - n), .int .u16 0, .slice none 0 0, data]
set_option maxHeartbeats 1000000 in
theorem segment_nil (b : Nat) (c : Cn) (w : World) (place flags : Int) (ua : Option Addr) (un uc : Nat) (h : ConnAt w b c) (hu : c.unread = .slice ua un uc) (hun : un ≤ 4096) :
    Calls Try.prog 23 #[.pointer (some ⟨b, 0, none⟩), .int .u32 place, .int .u8 flags, .slice none 0 0] w fun e w' =>
      e = .returned (.agg (c.seg place flags un (.slice none 0 0))) ∧ w.grownBy w' none := by
  have h0 := h.all.c0
  have h1 := h.all.c1
  have h2 := h.all.c2
  have h3 := h.all.c3
  have h4 := h.all.c4
  have h12 := h.all.c12
  have h14 := h.all.c14
  rw [hu] at h14
  have hlt := h.lt
  go_enter Try.func23, Try.ntmps23
  go_wp2
  go_region_held3 (fun w' => w'.cell? ⟨b, 0, none⟩ = some (.int .u16 c.src) ∧ w'.cell? ⟨b, 1, none⟩ = some (.int .u16 c.dst) ∧ w'.cell? ⟨b, 2, none⟩ = some (.int .u32 c.own) ∧ w'.cell? ⟨b, 14, none⟩ = some (.slice ua un uc))
    (go_keep) (first | (go_at_call 26; refine (clone_nil _).mono ?_; rintro e w' ⟨rfl, rfl⟩))
  all_goals go_wp2
  all_goals try (go_region; go_wp2)
  all_goals
    go_returns
    refine ⟨?_, by (repeat (first | exact gr_refl _ _ | assumption | refine gr_drew ?_ | refine gr_drewN _ ?_ | refine gr_alloc ?_ _ | refine gr_set ?_ | refine gr_set_new ?_ (by first | omega | (simp; omega))))⟩
    rcases Classical.em (c.phase = 0) with hp | hp
    · simp_all [Cn.seg]
    · simp_all [Cn.seg]

end Go.Proofs.Ytcgmbeibhingcaa
