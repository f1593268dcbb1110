/- An error's words. -/
import Derived.Test.YtmofnoconhgjmaaGreatDoorStrs
namespace Go.Proofs.YtmofnoconhgjmaaGreatDoor
open Go.RowKit
set_option linter.unusedVariables false
set_option linter.unusedSimpArgs false

def codesI : List Int := [401, 402, 501, 606, 713, 714, 716, 718, 728, 729, 730, 732, 733]
def wordsB : List ByteArray := [⟨#[73, 110, 118, 97, 108, 105, 100, 32, 65, 99, 116, 105, 111, 110]⟩, ⟨#[73, 110, 118, 97, 108, 105, 100, 32, 65, 114, 103, 115]⟩, ⟨#[65, 99, 116, 105, 111, 110, 32, 70, 97, 105, 108, 101, 100]⟩, ⟨#[65, 99, 116, 105, 111, 110, 32, 110, 111, 116, 32, 97, 117, 116, 104, 111, 114, 105, 122, 101, 100]⟩, ⟨#[83, 112, 101, 99, 105, 102, 105, 101, 100, 65, 114, 114, 97, 121, 73, 110, 100, 101, 120, 73, 110, 118, 97, 108, 105, 100]⟩, ⟨#[78, 111, 83, 117, 99, 104, 69, 110, 116, 114, 121, 73, 110, 65, 114, 114, 97, 121]⟩, ⟨#[87, 105, 108, 100, 67, 97, 114, 100, 78, 111, 116, 80, 101, 114, 109, 105, 116, 116, 101, 100, 73, 110, 69, 120, 116, 80, 111, 114, 116]⟩, ⟨#[67, 111, 110, 102, 108, 105, 99, 116, 73, 110, 77, 97, 112, 112, 105, 110, 103, 69, 110, 116, 114, 121]⟩, ⟨#[78, 111, 80, 111, 114, 116, 77, 97, 112, 115, 65, 118, 97, 105, 108, 97, 98, 108, 101]⟩, ⟨#[67, 111, 110, 102, 108, 105, 99, 116, 87, 105, 116, 104, 79, 116, 104, 101, 114, 77, 101, 99, 104, 97, 110, 105, 115, 109, 115]⟩, ⟨#[80, 111, 114, 116, 77, 97, 112, 112, 105, 110, 103, 78, 111, 116, 70, 111, 117, 110, 100]⟩, ⟨#[87, 105, 108, 100, 67, 97, 114, 100, 78, 111, 116, 80, 101, 114, 109, 105, 116, 116, 101, 100, 73, 110, 73, 110, 116, 80, 111, 114, 116]⟩, ⟨#[73, 110, 99, 111, 110, 115, 105, 115, 116, 101, 110, 116, 80, 97, 114, 97, 109, 101, 116, 101, 114, 115]⟩]
def errB : ByteArray := ⟨#[69, 114, 114, 111, 114]⟩
/-- The words of an error's number. -/
def wrdB (n : Int) : ByteArray := match (List.range 13).find? (fun i => decide (codesI.getD i 0 = n)) with
  | some i => wordsB.getD i errB
  | none => errB
theorem wrd_hit {n : Int} {k : Nat} (hk : k < 13) (h : ∀ j, j < k → codesI.getD j 0 ≠ n) (he : codesI.getD k 0 = n) : wrdB n = wordsB.getD k errB := by
  have : (List.range 13).find? (fun i => decide (codesI.getD i 0 = n)) = some k := by
    rw [List.find?_range_eq_some]
    exact ⟨by simpa using he, by simpa using hk, fun j hj => by simpa using h j hj⟩
  unfold wrdB; rw [this]
theorem wrd_miss {n : Int} (h : ∀ j, j < 13 → codesI.getD j 0 ≠ n) : wrdB n = errB := by
  have : (List.range 13).find? (fun i => decide (codesI.getD i 0 = n)) = none := by
    rw [List.find?_eq_none]
    intro x hx; simp at hx; simpa using h x hx
  unfold wrdB; rw [this]
theorem ret_ba {a b : ByteArray} (h : a = b) : Ending.returned (.string a) = Ending.returned (.string b) := by rw [h]
set_option maxHeartbeats 4000000 in
theorem words_any (n : Int) (w : World) : Calls Tryz.prog 40 #[.int .i64 n] w fun e w' => e = .returned (.string (wrdB n)) ∧ w.grownBy w' none := by
  by_cases hn : ∀ j, j < 13 → codesI.getD j 0 ≠ n
  · have R := hid (wrd_miss hn)
    have f0 : (n == 401) = false := beq_eq_false_iff_ne.2 fun h => hn 0 (by decide) h.symm
    have f1 : (n == 402) = false := beq_eq_false_iff_ne.2 fun h => hn 1 (by decide) h.symm
    have f2 : (n == 501) = false := beq_eq_false_iff_ne.2 fun h => hn 2 (by decide) h.symm
    have f3 : (n == 606) = false := beq_eq_false_iff_ne.2 fun h => hn 3 (by decide) h.symm
    have f4 : (n == 713) = false := beq_eq_false_iff_ne.2 fun h => hn 4 (by decide) h.symm
    have f5 : (n == 714) = false := beq_eq_false_iff_ne.2 fun h => hn 5 (by decide) h.symm
    have f6 : (n == 716) = false := beq_eq_false_iff_ne.2 fun h => hn 6 (by decide) h.symm
    have f7 : (n == 718) = false := beq_eq_false_iff_ne.2 fun h => hn 7 (by decide) h.symm
    have f8 : (n == 728) = false := beq_eq_false_iff_ne.2 fun h => hn 8 (by decide) h.symm
    have f9 : (n == 729) = false := beq_eq_false_iff_ne.2 fun h => hn 9 (by decide) h.symm
    have f10 : (n == 730) = false := beq_eq_false_iff_ne.2 fun h => hn 10 (by decide) h.symm
    have f11 : (n == 732) = false := beq_eq_false_iff_ne.2 fun h => hn 11 (by decide) h.symm
    have f12 : (n == 733) = false := beq_eq_false_iff_ne.2 fun h => hn 12 (by decide) h.symm
    clear hn
    go_enter Tryz.func40, Tryz.ntmps40
    go_wp2
    go_ret
    exact ⟨ret_ba R.out.symm, by (repeat (first | exact gr_refl _ _ | assumption | refine gr_drew ?_ | refine gr_drewN _ ?_ | refine gr_alloc ?_ _ | refine gr_set ?_ | refine gr_set_new ?_ (by first | omega | (simp; omega))))⟩
  · obtain ⟨k, hk, he⟩ : ∃ k, k < 13 ∧ n = codesI.getD k 0 := by
      by_cases h : ∃ k, k < 13 ∧ n = codesI.getD k 0
      · exact h
      · exact absurd (fun j hj he => h ⟨j, hj, he.symm⟩) hn
    clear hn
    match k, hk with
    | 0, _ =>
      obtain rfl : n = 401 := he
      go_enter Tryz.func40, Tryz.ntmps40
      go_wp2
      go_ret
      exact ⟨ret_ba (by decide +kernel), by (repeat (first | exact gr_refl _ _ | assumption | refine gr_drew ?_ | refine gr_drewN _ ?_ | refine gr_alloc ?_ _ | refine gr_set ?_ | refine gr_set_new ?_ (by first | omega | (simp; omega))))⟩
    | 1, _ =>
      obtain rfl : n = 402 := he
      go_enter Tryz.func40, Tryz.ntmps40
      go_wp2
      go_ret
      exact ⟨ret_ba (by decide +kernel), by (repeat (first | exact gr_refl _ _ | assumption | refine gr_drew ?_ | refine gr_drewN _ ?_ | refine gr_alloc ?_ _ | refine gr_set ?_ | refine gr_set_new ?_ (by first | omega | (simp; omega))))⟩
    | 2, _ =>
      obtain rfl : n = 501 := he
      go_enter Tryz.func40, Tryz.ntmps40
      go_wp2
      go_ret
      exact ⟨ret_ba (by decide +kernel), by (repeat (first | exact gr_refl _ _ | assumption | refine gr_drew ?_ | refine gr_drewN _ ?_ | refine gr_alloc ?_ _ | refine gr_set ?_ | refine gr_set_new ?_ (by first | omega | (simp; omega))))⟩
    | 3, _ =>
      obtain rfl : n = 606 := he
      go_enter Tryz.func40, Tryz.ntmps40
      go_wp2
      go_ret
      exact ⟨ret_ba (by decide +kernel), by (repeat (first | exact gr_refl _ _ | assumption | refine gr_drew ?_ | refine gr_drewN _ ?_ | refine gr_alloc ?_ _ | refine gr_set ?_ | refine gr_set_new ?_ (by first | omega | (simp; omega))))⟩
    | 4, _ =>
      obtain rfl : n = 713 := he
      go_enter Tryz.func40, Tryz.ntmps40
      go_wp2
      go_ret
      exact ⟨ret_ba (by decide +kernel), by (repeat (first | exact gr_refl _ _ | assumption | refine gr_drew ?_ | refine gr_drewN _ ?_ | refine gr_alloc ?_ _ | refine gr_set ?_ | refine gr_set_new ?_ (by first | omega | (simp; omega))))⟩
    | 5, _ =>
      obtain rfl : n = 714 := he
      go_enter Tryz.func40, Tryz.ntmps40
      go_wp2
      go_ret
      exact ⟨ret_ba (by decide +kernel), by (repeat (first | exact gr_refl _ _ | assumption | refine gr_drew ?_ | refine gr_drewN _ ?_ | refine gr_alloc ?_ _ | refine gr_set ?_ | refine gr_set_new ?_ (by first | omega | (simp; omega))))⟩
    | 6, _ =>
      obtain rfl : n = 716 := he
      go_enter Tryz.func40, Tryz.ntmps40
      go_wp2
      go_ret
      exact ⟨ret_ba (by decide +kernel), by (repeat (first | exact gr_refl _ _ | assumption | refine gr_drew ?_ | refine gr_drewN _ ?_ | refine gr_alloc ?_ _ | refine gr_set ?_ | refine gr_set_new ?_ (by first | omega | (simp; omega))))⟩
    | 7, _ =>
      obtain rfl : n = 718 := he
      go_enter Tryz.func40, Tryz.ntmps40
      go_wp2
      go_ret
      exact ⟨ret_ba (by decide +kernel), by (repeat (first | exact gr_refl _ _ | assumption | refine gr_drew ?_ | refine gr_drewN _ ?_ | refine gr_alloc ?_ _ | refine gr_set ?_ | refine gr_set_new ?_ (by first | omega | (simp; omega))))⟩
    | 8, _ =>
      obtain rfl : n = 728 := he
      go_enter Tryz.func40, Tryz.ntmps40
      go_wp2
      go_ret
      exact ⟨ret_ba (by decide +kernel), by (repeat (first | exact gr_refl _ _ | assumption | refine gr_drew ?_ | refine gr_drewN _ ?_ | refine gr_alloc ?_ _ | refine gr_set ?_ | refine gr_set_new ?_ (by first | omega | (simp; omega))))⟩
    | 9, _ =>
      obtain rfl : n = 729 := he
      go_enter Tryz.func40, Tryz.ntmps40
      go_wp2
      go_ret
      exact ⟨ret_ba (by decide +kernel), by (repeat (first | exact gr_refl _ _ | assumption | refine gr_drew ?_ | refine gr_drewN _ ?_ | refine gr_alloc ?_ _ | refine gr_set ?_ | refine gr_set_new ?_ (by first | omega | (simp; omega))))⟩
    | 10, _ =>
      obtain rfl : n = 730 := he
      go_enter Tryz.func40, Tryz.ntmps40
      go_wp2
      go_ret
      exact ⟨ret_ba (by decide +kernel), by (repeat (first | exact gr_refl _ _ | assumption | refine gr_drew ?_ | refine gr_drewN _ ?_ | refine gr_alloc ?_ _ | refine gr_set ?_ | refine gr_set_new ?_ (by first | omega | (simp; omega))))⟩
    | 11, _ =>
      obtain rfl : n = 732 := he
      go_enter Tryz.func40, Tryz.ntmps40
      go_wp2
      go_ret
      exact ⟨ret_ba (by decide +kernel), by (repeat (first | exact gr_refl _ _ | assumption | refine gr_drew ?_ | refine gr_drewN _ ?_ | refine gr_alloc ?_ _ | refine gr_set ?_ | refine gr_set_new ?_ (by first | omega | (simp; omega))))⟩
    | 12, _ =>
      obtain rfl : n = 733 := he
      go_enter Tryz.func40, Tryz.ntmps40
      go_wp2
      go_ret
      exact ⟨ret_ba (by decide +kernel), by (repeat (first | exact gr_refl _ _ | assumption | refine gr_drew ?_ | refine gr_drewN _ ?_ | refine gr_alloc ?_ _ | refine gr_set ?_ | refine gr_set_new ?_ (by first | omega | (simp; omega))))⟩
theorem codes_ne : ∀ k, k < 13 → ∀ j, j < k → codesI.getD j 0 ≠ codesI.getD k 0 := by decide
def codesV : Array Value := #[.int .i64 401, .int .i64 402, .int .i64 501, .int .i64 606, .int .i64 713, .int .i64 714, .int .i64 716, .int .i64 718, .int .i64 728, .int .i64 729, .int .i64 730, .int .i64 732, .int .i64 733]
def wordsV : Array Value := #[.string ⟨#[73, 110, 118, 97, 108, 105, 100, 32, 65, 99, 116, 105, 111, 110]⟩, .string ⟨#[73, 110, 118, 97, 108, 105, 100, 32, 65, 114, 103, 115]⟩, .string ⟨#[65, 99, 116, 105, 111, 110, 32, 70, 97, 105, 108, 101, 100]⟩, .string ⟨#[65, 99, 116, 105, 111, 110, 32, 110, 111, 116, 32, 97, 117, 116, 104, 111, 114, 105, 122, 101, 100]⟩, .string ⟨#[83, 112, 101, 99, 105, 102, 105, 101, 100, 65, 114, 114, 97, 121, 73, 110, 100, 101, 120, 73, 110, 118, 97, 108, 105, 100]⟩, .string ⟨#[78, 111, 83, 117, 99, 104, 69, 110, 116, 114, 121, 73, 110, 65, 114, 114, 97, 121]⟩, .string ⟨#[87, 105, 108, 100, 67, 97, 114, 100, 78, 111, 116, 80, 101, 114, 109, 105, 116, 116, 101, 100, 73, 110, 69, 120, 116, 80, 111, 114, 116]⟩, .string ⟨#[67, 111, 110, 102, 108, 105, 99, 116, 73, 110, 77, 97, 112, 112, 105, 110, 103, 69, 110, 116, 114, 121]⟩, .string ⟨#[78, 111, 80, 111, 114, 116, 77, 97, 112, 115, 65, 118, 97, 105, 108, 97, 98, 108, 101]⟩, .string ⟨#[67, 111, 110, 102, 108, 105, 99, 116, 87, 105, 116, 104, 79, 116, 104, 101, 114, 77, 101, 99, 104, 97, 110, 105, 115, 109, 115]⟩, .string ⟨#[80, 111, 114, 116, 77, 97, 112, 112, 105, 110, 103, 78, 111, 116, 70, 111, 117, 110, 100]⟩, .string ⟨#[87, 105, 108, 100, 67, 97, 114, 100, 78, 111, 116, 80, 101, 114, 109, 105, 116, 116, 101, 100, 73, 110, 73, 110, 116, 80, 111, 114, 116]⟩, .string ⟨#[73, 110, 99, 111, 110, 115, 105, 115, 116, 101, 110, 116, 80, 97, 114, 97, 109, 101, 116, 101, 114, 115]⟩]
theorem codesV_at (k : Nat) (hk : k < 13) : codesV[k]? = some (.int .i64 (codesI.getD k 0)) := by
  rw [show codesV = (codesI.map (Value.int .i64)).toArray from rfl, List.getElem?_toArray, List.getElem?_map, List.getD_eq_getElem?_getD, List.getElem?_eq_getElem (show k < codesI.length from hk)]
  rfl
theorem wordsV_at (k : Nat) (hk : k < 13) : wordsV[k]? = some (.string (wordsB.getD k errB)) := by
  rw [show wordsV = (wordsB.map Value.string).toArray from rfl, List.getElem?_toArray, List.getElem?_map, List.getD_eq_getElem?_getD, List.getElem?_eq_getElem (show k < wordsB.length from hk)]
  rfl
set_option maxHeartbeats 4000000 in
theorem rwords_any (n : Int) (w : World) : Calls Tryz.prog 41 #[.int .i64 n] w fun e w' => e = .returned (.string (wrdB n)) ∧ w.grownBy w' none := by
  have h1 := heap_alloc_new w (.cells codesV 3)
  have g1 := gr_alloc (gr_refl w none) (.cells codesV 3)
  have h2 := heap_alloc_new (w.alloc (.cells codesV 3)) (.cells wordsV 9)
  have g2 := World.grownBy_alloc (w.alloc (.cells codesV 3)) (.cells wordsV 9) none
  rw [World.size_alloc] at h2
  obtain ⟨w2, hw2⟩ : ∃ x, x = (w.alloc (.cells codesV 3)).alloc (.cells wordsV 9) := ⟨_, rfl⟩
  obtain ⟨b, hb⟩ : ∃ x, x = w.heap.size := ⟨_, rfl⟩
  rw [← hw2] at h2 g2
  rw [← hb] at h1 h2
  have C1 := hid (gr_keep g2 h1 (by simp))
  have C2 := hid h2
  have G2 := hid (gr_trans g1 g2)
  have HW := hid hw2
  have HB := hid hb
  clear h1 h2 g1 g2 hw2 hb
  go_enter Tryz.func41, Tryz.ntmps41
  go_upto_region 3 with fail
  rw [show (Obj.cells #[.int .i64 401, .int .i64 402, .int .i64 501, .int .i64 606, .int .i64 713, .int .i64 714, .int .i64 716, .int .i64 718, .int .i64 728, .int .i64 729, .int .i64 730, .int .i64 732, .int .i64 733] 3) = .cells codesV 3 from rfl]
  rw [show (Obj.cells #[.string ⟨#[73, 110, 118, 97, 108, 105, 100, 32, 65, 99, 116, 105, 111, 110]⟩, .string ⟨#[73, 110, 118, 97, 108, 105, 100, 32, 65, 114, 103, 115]⟩, .string ⟨#[65, 99, 116, 105, 111, 110, 32, 70, 97, 105, 108, 101, 100]⟩, .string ⟨#[65, 99, 116, 105, 111, 110, 32, 110, 111, 116, 32, 97, 117, 116, 104, 111, 114, 105, 122, 101, 100]⟩, .string ⟨#[83, 112, 101, 99, 105, 102, 105, 101, 100, 65, 114, 114, 97, 121, 73, 110, 100, 101, 120, 73, 110, 118, 97, 108, 105, 100]⟩, .string ⟨#[78, 111, 83, 117, 99, 104, 69, 110, 116, 114, 121, 73, 110, 65, 114, 114, 97, 121]⟩, .string ⟨#[87, 105, 108, 100, 67, 97, 114, 100, 78, 111, 116, 80, 101, 114, 109, 105, 116, 116, 101, 100, 73, 110, 69, 120, 116, 80, 111, 114, 116]⟩, .string ⟨#[67, 111, 110, 102, 108, 105, 99, 116, 73, 110, 77, 97, 112, 112, 105, 110, 103, 69, 110, 116, 114, 121]⟩, .string ⟨#[78, 111, 80, 111, 114, 116, 77, 97, 112, 115, 65, 118, 97, 105, 108, 97, 98, 108, 101]⟩, .string ⟨#[67, 111, 110, 102, 108, 105, 99, 116, 87, 105, 116, 104, 79, 116, 104, 101, 114, 77, 101, 99, 104, 97, 110, 105, 115, 109, 115]⟩, .string ⟨#[80, 111, 114, 116, 77, 97, 112, 112, 105, 110, 103, 78, 111, 116, 70, 111, 117, 110, 100]⟩, .string ⟨#[87, 105, 108, 100, 67, 97, 114, 100, 78, 111, 116, 80, 101, 114, 109, 105, 116, 116, 101, 100, 73, 110, 73, 110, 116, 80, 111, 114, 116]⟩, .string ⟨#[73, 110, 99, 111, 110, 115, 105, 115, 116, 101, 110, 116, 80, 97, 114, 97, 109, 101, 116, 101, 114, 115]⟩] 9) = .cells wordsV 9 from rfl]
  rw [← HW.out, ← HB.out]
  clear HW HB
  go_wp2
  go_loop [5] (fun vk => ∃ k : Nat, vk = .int .i64 k ∧ k ≤ 13 ∧ Hid (∀ j, j < k → codesI.getD j 0 ≠ n)) (fun vk => 13 - (intOf vk).toNat)
  case atStart => exact ⟨0, rfl, Nat.zero_le _, hid (fun j hj => by omega)⟩
  case round =>
    obtain ⟨k, rfl, hk, hno⟩ := hrel
    by_cases hlt : k < 13
    · have c1 := (cell_of_block C1.out k).trans (codesV_at k hlt)
      have c2 := (cell_of_block C2.out k).trans (wordsV_at k hlt)
      by_cases he : codesI.getD k 0 = n
      · have R := hid (wrd_hit hlt hno.out he)
        rw [he] at c1
        clear he
        generalize wordsB.getD k errB = x at *
        go_wp2
        go_ret
        exact ⟨ret_ba R.out.symm, G2.out⟩
      · have hno' : Hid (∀ j, j < k + 1 → codesI.getD j 0 ≠ n) := hid fun j hj => by
          by_cases hjk : j = k
          · subst hjk; exact he
          · exact hno.out j (by omega)
        have hne : (codesI.getD k 0 == n) = false := beq_eq_false_iff_ne.2 he
        clear he hno
        generalize codesI.getD k 0 = y at *
        go_wp2
        go_round
        case rel => exact ⟨k + 1, by go_num, by omega, hno'⟩
        case measure => simp [intOf]; omega
    · obtain rfl : k = 13 := by omega
      have R := hid (wrd_miss hno.out)
      go_wp2
      go_ret
      exact ⟨ret_ba R.out.symm, G2.out⟩
end Go.Proofs.YtmofnoconhgjmaaGreatDoor
