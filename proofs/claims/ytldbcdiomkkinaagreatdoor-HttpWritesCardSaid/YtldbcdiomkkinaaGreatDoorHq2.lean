/- hearthref16.Reason: it computes reasonL too. -/
import Derived.Test.YtldbcdiomkkinaaGreatDoorHr2
namespace Go.Proofs.YtldbcdiomkkinaaGreatDoor
open Go.RowKit

theorem find_first {n : Int} {d : Int × List UInt8} : ∀ (ps : List (Int × List UInt8)) (j : Nat), j < ps.length → (∀ i, i < j → (ps.getD i d).1 ≠ n) → (ps.getD j d).1 = n → ps.find? (fun p => n == p.1) = some (ps.getD j d)
  | [], j, h, _, _ => by simp at h
  | p :: ps, 0, _, _, h => by
    have h' : p.1 = n := h
    simp [h']
  | p :: ps, j + 1, hj, h1, h2 => by
    have h0 : p.1 ≠ n := h1 0 (by omega)
    rw [List.find?_cons, show (n == p.1) = false by simpa using Ne.symm h0]
    exact find_first ps j (by simpa using hj) (fun i hi => h1 (i + 1) (by omega)) h2
theorem find_none {n : Int} {d : Int × List UInt8} (ps : List (Int × List UInt8)) (h : ∀ i, i < ps.length → (ps.getD i d).1 ≠ n) : ps.find? (fun p => n == p.1) = none := by
  rw [List.find?_eq_none]
  intro p hp
  obtain ⟨i, hi, rfl⟩ := List.mem_iff_getElem.1 hp
  have := h i hi
  rw [List.getD_eq_getElem?_getD, List.getElem?_eq_getElem hi] at this
  simpa using Ne.symm this
def codesA : Array Value := (reasonT.map fun p => Value.int .i64 p.1).toArray
def wordsA : Array Value := (reasonT.map fun p => str p.2).toArray
theorem codes_get (i : Nat) (hi : i < 12) : codesA[i]? = some (Value.int .i64 (reasonT.getD i (0, [])).1) := by
  have hl : i < reasonT.length := hi
  unfold codesA
  rw [List.getElem?_toArray, List.getElem?_map, List.getElem?_eq_getElem hl, List.getD_eq_getElem?_getD, List.getElem?_eq_getElem hl]
  rfl
theorem words_get (i : Nat) (hi : i < 12) : wordsA[i]? = some (str (reasonT.getD i (0, [])).2) := by
  have hl : i < reasonT.length := hi
  unfold wordsA
  rw [List.getElem?_toArray, List.getElem?_map, List.getElem?_eq_getElem hl, List.getD_eq_getElem?_getD, List.getElem?_eq_getElem hl]
  rfl
set_option maxRecDepth 20000 in
set_option maxHeartbeats 4000000 in
theorem rreason (n : Int) (w : World) : Calls Tryz.prog 14 #[.int .i64 n] w fun e w' => e = .returned (.string ⟨(reasonL n).toArray⟩) ∧ w.grownBy w' none := by
  have h1 := heap_alloc_new w (.cells codesA 3)
  have h2 := heap_alloc_new (w.alloc (.cells codesA 3)) (.cells wordsA 9)
  have h1' := gr_keep (World.grownBy_alloc (w.alloc (.cells codesA 3)) (.cells wordsA 9) none) h1 (by simp)
  have hg := gr_alloc (World.grownBy_alloc w (.cells codesA 3) none) (.cells wordsA 9)
  rw [World.size_alloc] at h2
  go_enter Tryz.func14, Tryz.ntmps14
  go_wp2_with fail
  change Code.wp _ _ _ _ ((w.alloc (.cells codesA 3)).alloc (.cells wordsA 9))
  clear h1
  revert h1' h2 hg
  generalize (w.alloc (.cells codesA 3)).alloc (.cells wordsA 9) = W
  generalize w.heap.size + 1 = q
  generalize w.heap.size = p
  intro h2 h1 hg
  have HG := hid hg
  have HC := hid (fun i (hi : i < 12) => (cell_of_block h1 i).trans (codes_get i hi))
  have HW := hid (fun i (hi : i < 12) => (cell_of_block h2 i).trans (words_get i hi))
  clear h1 h2 hg
  go_loop [5] (fun v5 => ∃ j : Nat, j ≤ 12 ∧ v5 = .int .i64 (j : Int) ∧ Hid (∀ i, i < j → (reasonT.getD i (0, [])).1 ≠ n)) (fun v5 => 12 - (intOf v5).toNat)
  case atStart => exact ⟨0, by omega, rfl, fun i hi => by omega⟩
  case round =>
    obtain ⟨j, hj, rfl, hne⟩ := hrel
    by_cases hj12 : j < 12
    · have c1 := HC.out j hj12
      have c2 := HW.out j hj12
      obtain ⟨x, hx⟩ : ∃ x, x = (reasonT.getD j (0, [])).1 := ⟨_, rfl⟩
      obtain ⟨y, hy⟩ : ∃ x, x = (reasonT.getD j (0, [])).2 := ⟨_, rfl⟩
      rw [← hx] at c1
      rw [← hy] at c2
      unfold str at c2
      have hj12' : (j : Int) < 12 := by omega
      by_cases hxn : x = n
      · have HF := hid (show reasonL n = y by
          unfold reasonL
          rw [find_first (d := (0, [])) reasonT j hj12 hne.out (by rw [← hx]; exact hxn), hy])
        clear hx hy hne
        go_wp2_with fail
        go_ret
        exact ⟨by rw [HF.out]; rfl, HG.out⟩
      · have HN := hid (show ∀ i, i < j + 1 → (reasonT.getD i (0, [])).1 ≠ n from fun i hi => by
          by_cases hij : i < j
          · exact hne.out i hij
          · obtain rfl : i = j := by omega
            rw [← hx]; exact hxn)
        clear hx hy hne
        go_wp2_with fail
        go_round
        case rel => exact ⟨j + 1, by omega, by first | go_num | (congr 1; omega), HN⟩
        case measure => simp [intOf]; omega
    · obtain rfl : j = 12 := by omega
      have HF := hid (show reasonL n = statusL by unfold reasonL; rw [find_none (d := (0, [])) reasonT hne.out])
      clear hne
      go_wp2_with fail
      go_ret
      exact ⟨by rw [HF.out]; rfl, HG.out⟩
end Go.Proofs.YtldbcdiomkkinaaGreatDoor
