/- hearthlaw17.speaks. -/
import Derived.Test.YtmofnoconhgjmaaGreatDoorMT
import Derived.BigQuiet
import Derived.Lib.SlBytesConst
namespace Go.Proofs.YtmofnoconhgjmaaGreatDoor
open Go.RowKit
set_option linter.unusedVariables false
set_option linter.unusedSimpArgs false

theorem bytes_lit {w : World} {g : Nat} {C : Array Value} {T : TypeId} {r : Nat × Nat} {l : List UInt8} (n : Nat) (hn : l.length = n) (h : w.heap[g]? = some (.cells C T r)) (hC : C.toList = l.map bv) (hm : n ≤ 1000000) : Bytes w (.slice (some ⟨g, 0, none⟩) n n) l := by
  subst hn
  refine ⟨_, l.length, rfl, Nat.le_refl _, by unfold maxLen; omega, fun _ => ⟨g, 0, rfl, fun i hi => ?_⟩⟩
  rw [Nat.zero_add, show w.cell? ⟨g, i, none⟩ = C[i]? by simp [World.cell?, h], ← Array.getElem?_toList, hC, List.getElem?_map, List.getElem?_eq_getElem hi, List.getD_eq_getElem?_getD, List.getElem?_eq_getElem hi]
  rfl
/-- The document's example. -/
def exL : Bs := [60, 97, 32, 120, 61, 34, 49, 38, 108, 116, 59, 34, 62, 116, 60, 33, 45, 45, 32, 99, 32, 45, 45, 62, 60, 98, 47, 62, 117, 60, 47, 97, 62]
theorem exL_read : parseL exL = (⟨[], [97], [([], [120], [49, 60])], [116, 117], .cons [] [98] [] [] .nil .nil⟩, 0) := by kernel_rfl
def exC : Array Value := #[.int .u8 60, .int .u8 97, .int .u8 32, .int .u8 120, .int .u8 61, .int .u8 34, .int .u8 49, .int .u8 38, .int .u8 108, .int .u8 116, .int .u8 59, .int .u8 34, .int .u8 62, .int .u8 116, .int .u8 60, .int .u8 33, .int .u8 45, .int .u8 45, .int .u8 32, .int .u8 99, .int .u8 32, .int .u8 45, .int .u8 45, .int .u8 62, .int .u8 60, .int .u8 98, .int .u8 47, .int .u8 62, .int .u8 117, .int .u8 60, .int .u8 47, .int .u8 97, .int .u8 62]
theorem exC_is : exC.toList = exL.map bv := by kernel_rfl
set_option maxRecDepth 20000 in
set_option maxHeartbeats 4000000 in
theorem speaks_true (w : World) (m : Int) (hm : w.cell? ⟨0, 0, none⟩ = some (.int .i64 m)) : Calls Tryz.prog 11 #[] w fun e w' => e = .returned (.bool true) ∧ w.grownBy w' none := by
  have G1 := hid (gr_alloc (gr_refl w none) (.cells exC 5 (33, 34)))
  have HB := hid (show Bytes (w.alloc (.cells exC 5 (33, 34))) (.slice (some ⟨w.heap.size, 0, none⟩) 33 33) exL from bytes_lit 33 rfl (heap_alloc_new w _) exC_is (by decide))
  have HP := hid (parse_q (w.alloc (.cells exC 5 (33, 34))) _ exL m HB.out (G1.out.cell hm (by simp)) (by decide))
  rw [exL_read] at HP
  unfold exC at HP G1
  have hcv := Lib.run_convert_bytes_const w 30 5 exC 33 33 Tryz.underlying30 Tryz.underlying5
  rw [show exC.size = 33 from rfl] at hcv
  unfold exC at hcv
  clear hm HB
  go_enter Tryz.func11, Tryz.ntmps11
  go_wp2_with fail
  refine HP.out.mono ?_
  rintro e w2 ⟨g2, v, rfl, av, kv, rfl, ha, hk⟩
  have G2 := hid (gr_trans G1.out g2)
  clear HP g2
  simp only at ha hk
  obtain ⟨a1, c1, rfl, ha⟩ := ha
  obtain ⟨g1, o1, rfl, -, hT⟩ := ha 0 (by decide)
  obtain ⟨a2, c2, rfl, hk⟩ := hk
  obtain ⟨k1, q1, rfl, -, hF⟩ := hk (by decide)
  have t2 := hT.c2
  have f1 := hF.1.2.1
  have ga := gr_alloc (gr_refl w2 none) (.cells #[.string ⟨#[]⟩, .string ⟨#[97]⟩, .slice (some ⟨g1, o1, none⟩) 1 c1, .string ⟨#[116, 117]⟩, .slice (some ⟨k1, q1, none⟩) 1 c2] 25)
  have t3 : (w2.alloc (.cells #[.string ⟨#[]⟩, .string ⟨#[97]⟩, .slice (some ⟨g1, o1, none⟩) 1 c1, .string ⟨#[116, 117]⟩, .slice (some ⟨k1, q1, none⟩) 1 c2] 25)).cell? ⟨g1, o1 + 2, none⟩ = some (.string ⟨#[49, 60]⟩) := ga.cell (by simpa using t2) (by simp)
  have f3 : (w2.alloc (.cells #[.string ⟨#[]⟩, .string ⟨#[97]⟩, .slice (some ⟨g1, o1, none⟩) 1 c1, .string ⟨#[116, 117]⟩, .slice (some ⟨k1, q1, none⟩) 1 c2] 25)).cell? ⟨k1, q1 + 1, none⟩ = some (.string ⟨#[98]⟩) := ga.cell f1 (by simp)
  have G3 := hid (gr_trans G2.out ga)
  clear ha hT hk hF t2 f1 ga
  unfold elV str
  rw [show (Fo.cons [] [98] [] [] Fo.nil Fo.nil).len = 1 from rfl]
  go_wp2
  go_ret
  exact ⟨rfl, G3.out⟩
end Go.Proofs.YtmofnoconhgjmaaGreatDoor
