/- hearthlaw22.speaks; great of one call that holds variables alone. -/
import Derived.Test.YtfceodbpkghkaaaGreatDoorGn7
namespace Go.Proofs.YtfceodbpkghkaaaGreatDoor
open Go.RowKit
set_option linter.unusedVariables false
set_option linter.unusedSimpArgs false

def exG : Gs := [60, 104, 116, 116, 112, 58, 47, 47, 49, 57, 50, 46, 49, 54, 56, 46, 49, 46, 55, 58, 52, 57, 49, 53, 50, 47, 101, 63, 49, 62]
def exS : Gs := [83, 101, 99, 111, 110, 100, 45, 51, 48, 48]
theorem exG_is : cbL exG = some (3232235783, 49152, [47, 101, 63, 49]) := by decide +kernel
theorem exS_is : secL exS = 300 := by decide +kernel
set_option maxHeartbeats 1000000 in
theorem gspeaks_true (m : Int) (w : World) (hm : Hid (MaxCell m w)) (h10 : Hid (P10 w)) :
    Calls Tryz.prog 6 #[] w fun e w' => e = .returned (.bool true) ∧ w.grownBy w' none := by
  have HC := callback_x ⟨exG.toArray⟩ m w hm h10 (by decide)
  rw [show (ByteArray.mk exG.toArray).data.toList = exG from rfl, exG_is] at HC
  have HS := fun W => seconds_x ⟨exS.toArray⟩ W (by decide)
  rw [show (ByteArray.mk exS.toArray).data.toList = exS from rfl, exS_is] at HS
  have HC := hid HC
  have HS := hid HS
  go_enter Tryz.func6, Tryz.ntmps6
  go_wp2_with fail
  refine HC.out.mono ?_
  rintro e w1 ⟨rfl, g1⟩
  unfold cbV
  go_wp2_with fail
  refine (HS.out _).mono ?_
  rintro e w2 ⟨rfl, g2⟩
  go_wp2
  go_ret
  exact ⟨rfl, gr_trans g1 g2⟩
def SmJ (xs : Gp) (j : Nat) : Prop := ∀ i, i < j → (xs.getD i ([], [])).1.length ≤ 100 ∧ (xs.getD i ([], [])).2.length ≤ 500
def GrP (w : World) (xs : Gp) (e : Ending) (w' : World) : Prop := ∃ b, e = .returned (.bool b) ∧ w.grownBy w' none ∧ (b = false → SmP xs)
set_option maxHeartbeats 4000000 in
theorem great_one (xs : Gp) (v : Value) (w : World) (g c : Nat) (hv : ArgsAt w v xs) (hn0 : xs.length ≤ 9223372036854775807) (hb : w.heap[g]? = some (.cells #[.int .i64 0, .int .i64 0, .int .i64 0, .int .u64 0, .int .u32 0, .slice none 0 0, v, .slice none 0 0] 31 (0, 0))) (hc1 : 1 ≤ c) :
    Calls Tryz.prog 7 #[.slice (some ⟨g, 0, none⟩) 1 c] w (GrP w xs) := by
  have HV := hid hv
  have HB := hid hb
  obtain ⟨a, cv, rfl, k3⟩ := hv
  clear k3 hb
  go_enter Tryz.func7, Tryz.ntmps7
  go_wp2_with fail
  go_loopw [14] (fun v14 wx => ∃ k : Nat, v14 = .int .i64 (k : Int) ∧ k ≤ 1 ∧ w.grownBy wx none ∧ Hid (k = 1 → SmP xs)) (fun v14 _ => 2 - (intOf v14).toNat)
  case atStart => exact ⟨0, rfl, by omega, gr_refl _ _, hid (fun h => by cases h)⟩
  case round =>
    obtain ⟨k, rfl, hk, hg, hs⟩ := hrel
    rcases (by omega : k = 0 ∨ k = 1) with rfl | rfl
    · clear hs
      have HBr := hid (gr_keep hg HB.out (by simp))
      have c0 := (cell_of_block HBr.out 0).trans rfl
      have c1 := (cell_of_block HBr.out 1).trans rfl
      have c2 := (cell_of_block HBr.out 2).trans rfl
      have c3 := (cell_of_block HBr.out 3).trans rfl
      have c4 := (cell_of_block HBr.out 4).trans rfl
      have c5 := (cell_of_block HBr.out 5).trans rfl
      have c6 := (cell_of_block HBr.out 6).trans rfl
      have c7 := (cell_of_block HBr.out 7).trans rfl
      have GA := hid (gr_alloc hg (.cells #[.int .i64 0, .int .i64 0, .int .i64 0, .int .u64 0, .int .u32 0, .slice none 0 0, .slice a xs.length cv, .slice none 0 0] 31))
      have NA := hid (heap_alloc_new wr (.cells #[.int .i64 0, .int .i64 0, .int .i64 0, .int .u64 0, .int .u32 0, .slice none 0 0, .slice a xs.length cv, .slice none 0 0] 31))
      obtain ⟨A, hA⟩ : ∃ A, A = wr.heap.size := ⟨_, rfl⟩
      rw [← hA] at NA
      have HA := hid hA
      clear hA
      have d5 := (cell_of_block NA.out 5).trans rfl
      have d6 := (cell_of_block NA.out 6).trans rfl
      have d7 := (cell_of_block NA.out 7).trans rfl
      by_cases h20 : (20 : Int) < (xs.length : Int)
      · have h20' := decide_eq_true h20
        go_wp2_with fail
        go_ret
        exact ⟨true, rfl, GA.out, fun h => by cases h⟩
      · have h20' := decide_eq_false h20
        go_wp2_with fail
        generalize wr.alloc (.cells #[.int .i64 0, .int .i64 0, .int .i64 0, .int .u64 0, .int .u32 0, .slice none 0 0, .slice a xs.length cv, .slice none 0 0] 31) = w3 at GA NA ⊢
        rw [← HA.out]
        clear c0 c1 c2 c3 c4 c5 c6 c7
        have d6' : w3.cell? ⟨A, 6, none⟩ = some (.slice a xs.length cv) := (cell_of_block NA.out 6).trans rfl
        go_loopw [37] (fun v37 wx => v37 = .int .i64 0 ∧ w3 = wx) (fun v37 _ => 0)
        case atStart => exact ⟨rfl, rfl⟩
        case round =>
        obtain ⟨rfl, rfl⟩ := hrel
        go_wp2_with fail
        go_loopw [49] (fun v49 wx => ∃ j : Nat, v49 = .int .i64 (j : Int) ∧ j ≤ xs.length ∧ w3.grownBy wx none ∧ Hid (SmJ xs j)) (fun v49 _ => xs.length - (intOf v49).toNat)
        case atStart => exact ⟨0, rfl, Nat.zero_le _, gr_refl _ _, hid (fun i hi => by omega)⟩
        case round =>
        obtain ⟨j, rfl, hj, hg2, hall⟩ := hrel
        have HG2 := hid (gr_trans GA.out hg2)
        have hg3 := hid hg2
        clear hg2
        by_cases hlt : j < xs.length
        · obtain ⟨a', c', e', hp⟩ := HV.out.grown HG2.out
          simp only [Value.slice.injEq] at e'
          obtain ⟨rfl, -, rfl⟩ := e'
          rcases hp with h0 | ⟨b, o, rfl, hc⟩
          · omega
          obtain ⟨q1, q2⟩ := hc j hlt
          unfold gN at q1
          unfold gV at q2
          have HX := hid (show ∀ x : Gs × Gs, x = xs.getD j ([], []) → x.1.length ≤ 100 ∧ x.2.length ≤ 500 → SmJ xs (j + 1) from fun x hx hb i hi => by
            rcases (by omega : i < j ∨ i = j) with h | rfl
            · exact hall.out i h
            · rw [← hx]; exact hb)
          obtain ⟨x, hx⟩ : ∃ x, x = xs.getD j ([], []) := ⟨_, rfl⟩
          have HX := hid (HX.out x hx)
          rw [← hx] at q1 q2
          have hs1 : (⟨x.1.toArray⟩ : ByteArray).size = x.1.length := Lib.size_eq _
          have hs2 : (⟨x.2.toArray⟩ : ByteArray).size = x.2.length := Lib.size_eq _
          obtain ⟨N, hN⟩ : ∃ N : ByteArray, N = ⟨x.1.toArray⟩ := ⟨_, rfl⟩
          obtain ⟨V, hV⟩ : ∃ N : ByteArray, N = ⟨x.2.toArray⟩ := ⟨_, rfl⟩
          rw [← hN] at q1 hs1
          rw [← hV] at q2 hs2
          clear hx hN hV
          have GC := hid (gr_trans HG2.out (gr_alloc (gr_refl wr none) (.cells #[.string N, .string V] 58)))
          by_cases v1 : (500 : Int) < (V.size : Int)
          · have v1' := decide_eq_true v1
            go_wp2_with fail
            go_ret
            exact ⟨true, rfl, GC.out, fun h => by cases h⟩
          · have v1' := decide_eq_false v1
            by_cases v2 : (100 : Int) < (N.size : Int)
            · have v2' := decide_eq_true v2
              go_wp2_with fail
              go_ret
              exact ⟨true, rfl, GC.out, fun h => by cases h⟩
            · have v2' := decide_eq_false v2
              have HJ := hid (HX.out ⟨by omega, by omega⟩)
              clear hs1 hs2
              go_wp2_with fail
              go_round
              case rel => exact ⟨j + 1, by go_num, by omega, gr_alloc hg3.out _, HJ⟩
              case measure => simp [intOf]; omega
        · obtain rfl : j = xs.length := by omega
          have HS := hid (show SmP xs from ⟨by omega, fun x hx => by
            obtain ⟨i, hi, rfl⟩ := List.getElem_of_mem hx
            have := hall.out i hi
            rwa [List.getD_eq_getElem?_getD, List.getElem?_eq_getElem hi] at this⟩)
          clear hall hlt hj
          go_wp2_with fail
          go_round
          case rel => exact ⟨1, by go_num, Nat.le_refl _, HG2.out, hid (fun _ => HS.out)⟩
          case measure => simp [intOf]
    · have HS := hid (hs.out rfl)
      have HG := hid hg
      clear hs hg
      go_wp2_with fail
      go_ret
      exact ⟨false, rfl, HG.out, fun _ => HS.out⟩
end Go.Proofs.YtfceodbpkghkaaaGreatDoor
