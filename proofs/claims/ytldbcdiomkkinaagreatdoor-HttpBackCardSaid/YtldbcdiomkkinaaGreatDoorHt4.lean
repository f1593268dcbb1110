/- A reader's memory; http.New, fail, done. -/
import Derived.Test.YtldbcdiomkkinaaGreatDoorME
import Derived.Test.YtldbcdiomkkinaaGreatDoorMD
import Derived.BigRegion
import Derived.Deep.DeepCutAuto
namespace Go.Proofs.YtldbcdiomkkinaaGreatDoor
open Go.RowKit

def PsCells (rv : Value) (stage : Int) (skip : Bool) (m t : List UInt8) (minor : Int) (fv bv : Value) (keep : Bool) (left : Int) : Array Value :=
  #[rv, .int .i64 stage, .bool skip, str m, str t, .int .i64 minor, fv, bv, .bool keep, .int .i64 left]
theorem new_http (w : World) : Calls Tryz.prog 15 #[] w fun e w' => e = .returned (.pointer (some ⟨w.heap.size, 0, none⟩)) ∧ w'.heap[w.heap.size]? = some (.cells (PsCells (.slice none 0 0) 0 false [] [] 0 (.slice none 0 0) (.slice none 0 0) false 0) 62 (0, 0)) ∧ w.grownBy w' none := by
  go_enter Tryz.func15, Tryz.ntmps15
  go_wp2
  go_ret
  exact ⟨rfl, heap_alloc_new w _, World.grownBy_alloc w _ none⟩
def PdCells (status : Int) (m t : List UInt8) (minor : Int) (fv bv : Value) (keep : Bool) : Array Value :=
  #[.int .i64 status, str m, str t, .int .i64 minor, fv, bv, .bool keep]
/-- A reader that reads nothing any more. -/
def PDead (w : World) (b : Nat) : Prop :=
  ∃ skip m t minor fv bv keep left, w.heap[b]? = some (.cells (PsCells (.slice none 0 0) 5 skip m t minor fv bv keep left) 62 (0, 0))
set_option maxRecDepth 20000 in
set_option maxHeartbeats 2000000 in
theorem fail_http (b : Nat) (rv fv bv : Value) (stage minor left status : Int) (skip keep : Bool) (m t : List UInt8) (w : World) (h : w.heap[b]? = some (.cells (PsCells rv stage skip m t minor fv bv keep left) 62 (0, 0))) :
    Calls Tryz.prog 54 #[.pointer (some ⟨b, 0, none⟩), .int .i64 status] w fun e w' => e = .returned (.tuple #[.agg (PdCells status [] [] 0 (.slice none 0 0) (.slice none 0 0) false), .bool true]) ∧ PDead w' b ∧ w.grownBy w' (some b) := by
  have hlt := lt_of_block h
  have c0 := (cell_of_block h 0).trans (show _ = some rv from rfl)
  have c1 := (cell_of_block h 1).trans (show _ = some (Value.int .i64 stage) from rfl)
  have f0 := free_of_block h 0
  have f1 := free_of_block h 1
  have H := hid h
  clear h
  go_enter Tryz.func54, Tryz.ntmps54
  go_wp2_with fail
  have hd := heap_set (o := 0) (v := .slice none 0 0) (heap_set (o := 1) (v := .int .i64 5) H.out)
  have g1 : w.grownBy ((w.setCell ⟨b, 1, none⟩ (.int .i64 5)).setCell ⟨b, 0, none⟩ (.slice none 0 0)) (some b) := gr_set (gr_set (gr_refl _ _))
  have hs1 : ((w.setCell ⟨b, 1, none⟩ (.int .i64 5)).setCell ⟨b, 0, none⟩ (.slice none 0 0)).heap.size = w.heap.size := by simp [World.setCell]
  revert hd g1 hs1
  generalize (w.setCell _ _).setCell _ _ = w1
  intro hd g1 hs1
  rw [← hs1]
  have hn := heap_alloc_new w1 (.cells #[.int .i64 status, .string ⟨#[]⟩, .string ⟨#[]⟩, .int .i64 0, .slice none 0 0, .slice none 0 0, .bool false] 46)
  have e0 := cell_of_block hn 0
  have e1 := cell_of_block hn 1
  have e2 := cell_of_block hn 2
  have e3 := cell_of_block hn 3
  have e4 := cell_of_block hn 4
  have e5 := cell_of_block hn 5
  have e6 := cell_of_block hn 6
  refine bodyPost_ret (v := .tuple #[.agg (PdCells status [] [] 0 (.slice none 0 0) (.slice none 0 0) false), .bool true]) ?_ rfl ⟨rfl, ⟨skip, m, t, minor, fv, bv, keep, left, gr_keep (World.grownBy_alloc _ _ none) hd (by simp)⟩, gr_alloc g1 _⟩
  unfold PdCells str
  simp [results, Tryz.results54, go_sem, e0, e1, e2, e3, e4, e5, e6]
/-- Eight cells of a reader written one by one. -/
theorem ps_set8 {w : World} {b : Nat} {T : TypeId} {a0 a1 a2 a3 a4 a5 a6 a7 a8 a9 : Value} (v1 v2 v3 v4 v5 v6 v7 v8 : Value) (h : w.heap[b]? = some (.cells #[a0, a1, a2, a3, a4, a5, a6, a7, a8, a9] T (0, 0))) :
    ((((((((w.setCell ⟨b, 1, none⟩ v1).setCell ⟨b, 2, none⟩ v2).setCell ⟨b, 3, none⟩ v3).setCell ⟨b, 4, none⟩ v4).setCell ⟨b, 5, none⟩ v5).setCell ⟨b, 6, none⟩ v6).setCell ⟨b, 7, none⟩ v7).setCell ⟨b, 8, none⟩ v8).heap[b]? = some (.cells #[a0, v1, v2, v3, v4, v5, v6, v7, v8, a9] T (0, 0)) ∧ w.grownBy ((((((((w.setCell ⟨b, 1, none⟩ v1).setCell ⟨b, 2, none⟩ v2).setCell ⟨b, 3, none⟩ v3).setCell ⟨b, 4, none⟩ v4).setCell ⟨b, 5, none⟩ v5).setCell ⟨b, 6, none⟩ v6).setCell ⟨b, 7, none⟩ v7).setCell ⟨b, 8, none⟩ v8) (some b) ∧ ((((((((w.setCell ⟨b, 1, none⟩ v1).setCell ⟨b, 2, none⟩ v2).setCell ⟨b, 3, none⟩ v3).setCell ⟨b, 4, none⟩ v4).setCell ⟨b, 5, none⟩ v5).setCell ⟨b, 6, none⟩ v6).setCell ⟨b, 7, none⟩ v7).setCell ⟨b, 8, none⟩ v8).heap.size = w.heap.size := by
  obtain ⟨w1, hw1⟩ : ∃ x, x = w.setCell ⟨b, 1, none⟩ v1 := ⟨_, rfl⟩
  have e1 : w1.heap[b]? = some (.cells #[a0, v1, a2, a3, a4, a5, a6, a7, a8, a9] T (0, 0)) := by rw [hw1]; exact heap_set h
  have g1 : w.grownBy w1 (some b) := by rw [hw1]; exact gr_set (gr_refl w (some b))
  have s1 : w1.heap.size = w.heap.size := by rw [hw1]; simp only [World.setCell, Array.size_modify]
  obtain ⟨w2, hw2⟩ : ∃ x, x = w1.setCell ⟨b, 2, none⟩ v2 := ⟨_, rfl⟩
  have e2 : w2.heap[b]? = some (.cells #[a0, v1, v2, a3, a4, a5, a6, a7, a8, a9] T (0, 0)) := by rw [hw2]; exact heap_set e1
  have g2 : w.grownBy w2 (some b) := by rw [hw2]; exact gr_set g1
  have s2 : w2.heap.size = w.heap.size := by rw [hw2]; simp only [World.setCell, Array.size_modify]; exact s1
  obtain ⟨w3, hw3⟩ : ∃ x, x = w2.setCell ⟨b, 3, none⟩ v3 := ⟨_, rfl⟩
  have e3 : w3.heap[b]? = some (.cells #[a0, v1, v2, v3, a4, a5, a6, a7, a8, a9] T (0, 0)) := by rw [hw3]; exact heap_set e2
  have g3 : w.grownBy w3 (some b) := by rw [hw3]; exact gr_set g2
  have s3 : w3.heap.size = w.heap.size := by rw [hw3]; simp only [World.setCell, Array.size_modify]; exact s2
  obtain ⟨w4, hw4⟩ : ∃ x, x = w3.setCell ⟨b, 4, none⟩ v4 := ⟨_, rfl⟩
  have e4 : w4.heap[b]? = some (.cells #[a0, v1, v2, v3, v4, a5, a6, a7, a8, a9] T (0, 0)) := by rw [hw4]; exact heap_set e3
  have g4 : w.grownBy w4 (some b) := by rw [hw4]; exact gr_set g3
  have s4 : w4.heap.size = w.heap.size := by rw [hw4]; simp only [World.setCell, Array.size_modify]; exact s3
  obtain ⟨w5, hw5⟩ : ∃ x, x = w4.setCell ⟨b, 5, none⟩ v5 := ⟨_, rfl⟩
  have e5 : w5.heap[b]? = some (.cells #[a0, v1, v2, v3, v4, v5, a6, a7, a8, a9] T (0, 0)) := by rw [hw5]; exact heap_set e4
  have g5 : w.grownBy w5 (some b) := by rw [hw5]; exact gr_set g4
  have s5 : w5.heap.size = w.heap.size := by rw [hw5]; simp only [World.setCell, Array.size_modify]; exact s4
  obtain ⟨w6, hw6⟩ : ∃ x, x = w5.setCell ⟨b, 6, none⟩ v6 := ⟨_, rfl⟩
  have e6 : w6.heap[b]? = some (.cells #[a0, v1, v2, v3, v4, v5, v6, a7, a8, a9] T (0, 0)) := by rw [hw6]; exact heap_set e5
  have g6 : w.grownBy w6 (some b) := by rw [hw6]; exact gr_set g5
  have s6 : w6.heap.size = w.heap.size := by rw [hw6]; simp only [World.setCell, Array.size_modify]; exact s5
  obtain ⟨w7, hw7⟩ : ∃ x, x = w6.setCell ⟨b, 7, none⟩ v7 := ⟨_, rfl⟩
  have e7 : w7.heap[b]? = some (.cells #[a0, v1, v2, v3, v4, v5, v6, v7, a8, a9] T (0, 0)) := by rw [hw7]; exact heap_set e6
  have g7 : w.grownBy w7 (some b) := by rw [hw7]; exact gr_set g6
  have s7 : w7.heap.size = w.heap.size := by rw [hw7]; simp only [World.setCell, Array.size_modify]; exact s6
  obtain ⟨w8, hw8⟩ : ∃ x, x = w7.setCell ⟨b, 8, none⟩ v8 := ⟨_, rfl⟩
  have e8 : w8.heap[b]? = some (.cells #[a0, v1, v2, v3, v4, v5, v6, v7, v8, a9] T (0, 0)) := by rw [hw8]; exact heap_set e7
  have g8 : w.grownBy w8 (some b) := by rw [hw8]; exact gr_set g7
  have s8 : w8.heap.size = w.heap.size := by rw [hw8]; simp only [World.setCell, Array.size_modify]; exact s7
  rw [← hw1, ← hw2, ← hw3, ← hw4, ← hw5, ← hw6, ← hw7, ← hw8]
  exact ⟨e8, g8, s8⟩
/-- Seven cells written one by one. -/
theorem pd_set7 {w : World} {b : Nat} {T : TypeId} {a0 a1 a2 a3 a4 a5 a6 : Value} (v0 v1 v2 v3 v4 v5 v6 : Value) (h : w.heap[b]? = some (.cells #[a0, a1, a2, a3, a4, a5, a6] T (0, 0))) :
    (((((((w.setCell ⟨b, 0, none⟩ v0).setCell ⟨b, 1, none⟩ v1).setCell ⟨b, 2, none⟩ v2).setCell ⟨b, 3, none⟩ v3).setCell ⟨b, 4, none⟩ v4).setCell ⟨b, 5, none⟩ v5).setCell ⟨b, 6, none⟩ v6).heap[b]? = some (.cells #[v0, v1, v2, v3, v4, v5, v6] T (0, 0)) ∧ w.grownBy (((((((w.setCell ⟨b, 0, none⟩ v0).setCell ⟨b, 1, none⟩ v1).setCell ⟨b, 2, none⟩ v2).setCell ⟨b, 3, none⟩ v3).setCell ⟨b, 4, none⟩ v4).setCell ⟨b, 5, none⟩ v5).setCell ⟨b, 6, none⟩ v6) (some b) := by
  obtain ⟨w1, hw1⟩ : ∃ x, x = w.setCell ⟨b, 0, none⟩ v0 := ⟨_, rfl⟩
  have e0 : w1.heap[b]? = some (.cells #[v0, a1, a2, a3, a4, a5, a6] T (0, 0)) := by rw [hw1]; exact heap_set h
  have g0 : w.grownBy w1 (some b) := by rw [hw1]; exact gr_set (gr_refl w (some b))
  obtain ⟨w2, hw2⟩ : ∃ x, x = w1.setCell ⟨b, 1, none⟩ v1 := ⟨_, rfl⟩
  have e1 : w2.heap[b]? = some (.cells #[v0, v1, a2, a3, a4, a5, a6] T (0, 0)) := by rw [hw2]; exact heap_set e0
  have g1 : w.grownBy w2 (some b) := by rw [hw2]; exact gr_set g0
  obtain ⟨w3, hw3⟩ : ∃ x, x = w2.setCell ⟨b, 2, none⟩ v2 := ⟨_, rfl⟩
  have e2 : w3.heap[b]? = some (.cells #[v0, v1, v2, a3, a4, a5, a6] T (0, 0)) := by rw [hw3]; exact heap_set e1
  have g2 : w.grownBy w3 (some b) := by rw [hw3]; exact gr_set g1
  obtain ⟨w4, hw4⟩ : ∃ x, x = w3.setCell ⟨b, 3, none⟩ v3 := ⟨_, rfl⟩
  have e3 : w4.heap[b]? = some (.cells #[v0, v1, v2, v3, a4, a5, a6] T (0, 0)) := by rw [hw4]; exact heap_set e2
  have g3 : w.grownBy w4 (some b) := by rw [hw4]; exact gr_set g2
  obtain ⟨w5, hw5⟩ : ∃ x, x = w4.setCell ⟨b, 4, none⟩ v4 := ⟨_, rfl⟩
  have e4 : w5.heap[b]? = some (.cells #[v0, v1, v2, v3, v4, a5, a6] T (0, 0)) := by rw [hw5]; exact heap_set e3
  have g4 : w.grownBy w5 (some b) := by rw [hw5]; exact gr_set g3
  obtain ⟨w6, hw6⟩ : ∃ x, x = w5.setCell ⟨b, 5, none⟩ v5 := ⟨_, rfl⟩
  have e5 : w6.heap[b]? = some (.cells #[v0, v1, v2, v3, v4, v5, a6] T (0, 0)) := by rw [hw6]; exact heap_set e4
  have g5 : w.grownBy w6 (some b) := by rw [hw6]; exact gr_set g4
  obtain ⟨w7, hw7⟩ : ∃ x, x = w6.setCell ⟨b, 6, none⟩ v6 := ⟨_, rfl⟩
  have e6 : w7.heap[b]? = some (.cells #[v0, v1, v2, v3, v4, v5, v6] T (0, 0)) := by rw [hw7]; exact heap_set e5
  have g6 : w.grownBy w7 (some b) := by rw [hw7]; exact gr_set g5
  rw [← hw1, ← hw2, ← hw3, ← hw4, ← hw5, ← hw6, ← hw7]
  exact ⟨e6, g6⟩
set_option maxRecDepth 20000 in
set_option maxHeartbeats 2000000 in
theorem done_http (b : Nat) (ra : Option Addr) (rn rc : Nat) (fa : Option Addr) (fn fc : Nat) (ba : Option Addr) (bn bc : Nat) (stage minor left : Int) (skip keep : Bool) (m t : List UInt8) (w : World) (h : w.heap[b]? = some (.cells (PsCells (.slice ra rn rc) stage skip m t minor (.slice fa fn fc) (.slice ba bn bc) keep left) 62 (0, 0))) :
    Calls Tryz.prog 39 #[.pointer (some ⟨b, 0, none⟩)] w fun e w' => e = .returned (.tuple #[.agg (PdCells 0 m t minor (.slice fa fn fc) (.slice ba bn bc) keep), .bool true]) ∧
      (if keep then w'.heap[b]? = some (.cells (PsCells (.slice ra rn rc) 0 false [] [] 0 (.slice none 0 0) (.slice none 0 0) false left) 62 (0, 0)) else PDead w' b) ∧ w.grownBy w' (some b) := by
  have hlt := lt_of_block h
  have c0 := (cell_of_block h 0).trans (show _ = some (Value.slice ra rn rc) from rfl)
  have c1 := (cell_of_block h 1).trans (show _ = some (Value.int .i64 stage) from rfl)
  have c2 := (cell_of_block h 2).trans (show _ = some (Value.bool skip) from rfl)
  have c3 := (cell_of_block h 3).trans (show _ = some (Value.string ⟨m.toArray⟩) from rfl)
  have c4 := (cell_of_block h 4).trans (show _ = some (Value.string ⟨t.toArray⟩) from rfl)
  have c5 := (cell_of_block h 5).trans (show _ = some (Value.int .i64 minor) from rfl)
  have c6 := (cell_of_block h 6).trans (show _ = some (Value.slice fa fn fc) from rfl)
  have c7 := (cell_of_block h 7).trans (show _ = some (Value.slice ba bn bc) from rfl)
  have c8 := (cell_of_block h 8).trans (show _ = some (Value.bool keep) from rfl)
  have f0 := free_of_block h 0
  have f1 := free_of_block h 1
  have f2 := free_of_block h 2
  have f3 := free_of_block h 3
  have f4 := free_of_block h 4
  have f5 := free_of_block h 5
  have f6 := free_of_block h 6
  have f7 := free_of_block h 7
  have f8 := free_of_block h 8
  have H := hid h
  clear h
  go_enter Tryz.func39, Tryz.ntmps39
  go_upto_region 3 with fail
  have H8 := ps_set8 (.int .i64 0) (.bool false) (.string ⟨#[]⟩) (.string ⟨#[]⟩) (.int .i64 0) (.slice none 0 0) (.slice none 0 0) (.bool false) H.out
  revert H8
  generalize (((((((w.setCell _ _).setCell _ _).setCell _ _).setCell _ _).setCell _ _).setCell _ _).setCell _ _).setCell _ _ = w1
  rintro ⟨hb1, g1, s1⟩
  clear c0 c1 c2 c3 c4 c5 c6 c7 c8 f0 f1 f2 f3 f4 f5 f6 f7 f8 hlt
  have hA := heap_alloc_new w1 (.cells #[.int .i64 0, .string ⟨#[]⟩, .string ⟨#[]⟩, .int .i64 0, .slice none 0 0, .slice none 0 0, .bool false] 46)
  have gA := World.grownBy_alloc w1 (.cells #[.int .i64 0, .string ⟨#[]⟩, .string ⟨#[]⟩, .int .i64 0, .slice none 0 0, .slice none 0 0, .bool false] 46) none
  have sA : (w1.alloc (.cells #[.int .i64 0, .string ⟨#[]⟩, .string ⟨#[]⟩, .int .i64 0, .slice none 0 0, .slice none 0 0, .bool false] 46)).heap.size = w.heap.size + 1 := by rw [World.size_alloc, s1]
  rw [s1] at hA
  revert hA gA sA
  generalize w1.alloc _ = w2
  intro hA gA sA
  have hB := heap_alloc_new w2 (.cells #[.string ⟨m.toArray⟩, .string ⟨t.toArray⟩, .int .i64 minor, .slice fa fn fc, .slice ba bn bc, .bool keep] 44)
  have gB := World.grownBy_alloc w2 (.cells #[.string ⟨m.toArray⟩, .string ⟨t.toArray⟩, .int .i64 minor, .slice fa fn fc, .slice ba bn bc, .bool keep] 44) none
  rw [sA] at hB
  revert hB gB
  generalize w2.alloc _ = w3
  intro hB gB
  replace hA := gr_keep gB hA (by simp)
  replace hb1 := gr_keep gB (gr_keep gA hb1 (by simp)) (by simp)
  have G3 := hid (gr_trans g1 (gr_none (gr_trans gA gB)))
  clear g1 gA gB s1 sA H
  have n0 := (cell_of_block hA 0).trans (show _ = some (Value.int .i64 0) from rfl)
  have y0 := free_of_block hA 0
  have n1 := (cell_of_block hA 1).trans (show _ = some (Value.string ⟨#[]⟩) from rfl)
  have y1 := free_of_block hA 1
  have n2 := (cell_of_block hA 2).trans (show _ = some (Value.string ⟨#[]⟩) from rfl)
  have y2 := free_of_block hA 2
  have n3 := (cell_of_block hA 3).trans (show _ = some (Value.int .i64 0) from rfl)
  have y3 := free_of_block hA 3
  have n4 := (cell_of_block hA 4).trans (show _ = some (Value.slice none 0 0) from rfl)
  have y4 := free_of_block hA 4
  have n5 := (cell_of_block hA 5).trans (show _ = some (Value.slice none 0 0) from rfl)
  have y5 := free_of_block hA 5
  have n6 := (cell_of_block hA 6).trans (show _ = some (Value.bool false) from rfl)
  have y6 := free_of_block hA 6
  have r0 := (cell_of_block hB 0).trans (show _ = some (Value.string ⟨m.toArray⟩) from rfl)
  have r1 := (cell_of_block hB 1).trans (show _ = some (Value.string ⟨t.toArray⟩) from rfl)
  have r2 := (cell_of_block hB 2).trans (show _ = some (Value.int .i64 minor) from rfl)
  have r3 := (cell_of_block hB 3).trans (show _ = some (Value.slice fa fn fc) from rfl)
  have r4 := (cell_of_block hB 4).trans (show _ = some (Value.slice ba bn bc) from rfl)
  have r5 := (cell_of_block hB 5).trans (show _ = some (Value.bool keep) from rfl)
  have p0 := (cell_of_block hb1 0).trans (show _ = some (Value.slice ra rn rc) from rfl)
  have p1 := (cell_of_block hb1 1).trans (show _ = some (Value.int .i64 0) from rfl)
  have q0 := free_of_block hb1 0
  have q1 := free_of_block hb1 1
  have lb := lt_of_block hb1
  have lA := lt_of_block hA
  have lB := lt_of_block hB
  have HA := hid hA
  have HB1 := hid hb1
  have hbA : some b ≠ some w.heap.size := blk_ne hb1 hA (by decide)
  have hbA' : b ≠ w.heap.size := fun e => hbA (by rw [e])
  have hbB : b ≠ w.heap.size + 1 := fun e => blk_ne hb1 hB (by decide) (by rw [e])
  clear hA hb1 hB
  cases keep
  · go_wp2_with fail
    have hb4 := heap_set (o := 0) (v := .slice none 0 0) (heap_set (o := 1) (v := .int .i64 5) HB1.out)
    have g34 : w3.grownBy ((w3.setCell ⟨b, 1, none⟩ (.int .i64 5)).setCell ⟨b, 0, none⟩ (.slice none 0 0)) (some b) := gr_set (gr_set (gr_refl _ _))
    have HA4 := gr_keep g34 HA.out hbA.symm
    revert hb4 g34 HA4
    generalize (w3.setCell ⟨b, 1, none⟩ _).setCell ⟨b, 0, none⟩ _ = w4
    intro hb4 g34 HA4
    have H7 := pd_set7 (.int .i64 0) (.string ⟨m.toArray⟩) (.string ⟨t.toArray⟩) (.int .i64 minor) (.slice fa fn fc) (.slice ba bn bc) (.bool false) HA4
    revert H7
    generalize ((((((w4.setCell _ _).setCell _ _).setCell _ _).setCell _ _).setCell _ _).setCell _ _).setCell _ _ = w9
    rintro ⟨hn9, g9⟩
    have e0 := cell_of_block hn9 0
    have e1 := cell_of_block hn9 1
    have e2 := cell_of_block hn9 2
    have e3 := cell_of_block hn9 3
    have e4 := cell_of_block hn9 4
    have e5 := cell_of_block hn9 5
    have e6 := cell_of_block hn9 6
    refine bodyPost_ret (v := .tuple #[.agg (PdCells 0 m t minor (.slice fa fn fc) (.slice ba bn bc) false), .bool true]) ?_ rfl ⟨rfl, ⟨_, _, _, _, _, _, _, _, gr_keep g9 hb4 hbA⟩, gr_new (gr_trans G3.out g34) g9 (Nat.le_refl _)⟩
    unfold PdCells str
    simp [results, Tryz.results39, go_sem, e0, e1, e2, e3, e4, e5, e6]
  · go_wp2_with fail
    have H7 := pd_set7 (.int .i64 0) (.string ⟨m.toArray⟩) (.string ⟨t.toArray⟩) (.int .i64 minor) (.slice fa fn fc) (.slice ba bn bc) (.bool true) HA.out
    revert H7
    generalize ((((((w3.setCell _ _).setCell _ _).setCell _ _).setCell _ _).setCell _ _).setCell _ _).setCell _ _ = w9
    rintro ⟨hn9, g9⟩
    have e0 := cell_of_block hn9 0
    have e1 := cell_of_block hn9 1
    have e2 := cell_of_block hn9 2
    have e3 := cell_of_block hn9 3
    have e4 := cell_of_block hn9 4
    have e5 := cell_of_block hn9 5
    have e6 := cell_of_block hn9 6
    refine bodyPost_ret (v := .tuple #[.agg (PdCells 0 m t minor (.slice fa fn fc) (.slice ba bn bc) true), .bool true]) ?_ rfl ⟨rfl, gr_keep g9 HB1.out hbA, gr_new G3.out g9 (Nat.le_refl _)⟩
    unfold PdCells str
    simp [results, Tryz.results39, go_sem, e0, e1, e2, e3, e4, e5, e6]
end Go.Proofs.YtldbcdiomkkinaaGreatDoor
