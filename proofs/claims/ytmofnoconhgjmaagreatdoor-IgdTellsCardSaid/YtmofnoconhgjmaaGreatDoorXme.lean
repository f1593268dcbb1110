/- hearthref17.utf. -/
import Derived.Test.YtmofnoconhgjmaaGreatDoorMP
import Derived.Test.YtmofnoconhgjmaaGreatDoorMD
namespace Go.Proofs.YtmofnoconhgjmaaGreatDoor
open Go.RowKit
set_option linter.unusedSimpArgs false
set_option linter.unusedVariables false

theorem rune_bytes (w : World) (n : Int) (cs : Array Value) (hcs : cs.toList = Lib.runeCells n) : Bytes (w.alloc (.cells cs 5)) (.slice (some ⟨w.heap.size, 0, none⟩) (Lib.encodeRune n).length (Lib.encodeRune n).length) (Lib.encodeRune n) := by
  have hl := enc_len n
  have hsz : cs.size = (Lib.encodeRune n).length := by rw [← Array.length_toList, hcs]; simp [Lib.runeCells, Lib.encodeRune]
  refine bytes_of_own (base := 0) (e := 5) (n := (Lib.encodeRune n).length) ?_
  have := Lib.byteCells_encodeRune n
  unfold Lib.byteCells at this
  rw [this, ← hcs]
  refine ⟨by simp [hsz], .inr ⟨w.heap.size, (Lib.encodeRune n).length, cs, rfl, Nat.zero_le _, heap_alloc_new w _, Nat.le_refl _, by unfold maxLen; omega, by rw [hsz]; simp, ?_⟩⟩
  rw [List.take_of_length_le (by simp [hsz])]
set_option maxRecDepth 20000 in
set_option maxHeartbeats 2000000 in
theorem utf_r (n : Int) (w : World) (h0 : 0 ≤ n) (hc : charP n) : Calls Tryz.prog 258 #[.int .i64 n] w fun e w' => e = .returned (str (Lib.encodeRune n)) ∧ w.grownBy w' none := by
  have hz : Lib.runeCells n = (Lib.encodeRuneZ n).map (Value.int .u8) := rfl
  have hzl : (Lib.encodeRune n).length = (Lib.encodeRuneZ n).length := by unfold Lib.encodeRune; rw [List.length_map]
  by_cases h1 : n < 128
  · have h1' : n ≤ 127 := by omega
    have hb := hid (rune_bytes w n #[.int .u8 n] (by rw [hz, Lib.encodeRuneZ_one h0 h1']; rfl))
    rw [hzl, Lib.encodeRuneZ_one h0 h1'] at hb
    simp only [List.length_cons, List.length_nil, Nat.reduceAdd, Nat.zero_add] at hb
    clear hc hz hzl
    go_enter Tryz.func258, Tryz.ntmps258
    go_wp2_with fail
    rw [run_b2s Tryz.underlying30 Tryz.underlying5 Tryz.underlying9 hb.out]
    unfold str
    go_wp2
    go_ret
    exact ⟨rfl, gr_alloc (gr_refl _ _) _⟩
  by_cases h2 : n < 2048
  · have h2' : n ≤ 2047 := by omega
    have hb := hid (rune_bytes w n #[.int .u8 (192 + n / 64), .int .u8 (128 + n % 64)] (by rw [hz, Lib.encodeRuneZ_two (by omega) h2']; rfl))
    rw [hzl, Lib.encodeRuneZ_two (by omega) h2'] at hb
    simp only [List.length_cons, List.length_nil, Nat.reduceAdd, Nat.zero_add] at hb
    clear hc hz hzl
    go_enter Tryz.func258, Tryz.ntmps258
    go_wp2_with fail
    rw [run_b2s Tryz.underlying30 Tryz.underlying5 Tryz.underlying9 hb.out]
    unfold str
    go_wp2
    go_ret
    exact ⟨rfl, gr_alloc (gr_refl _ _) _⟩
  by_cases h3 : n < 65536
  · have h3' : (2048 ≤ n ∧ n < 55296) ∨ (57343 < n ∧ n ≤ 65535) := by unfold charP at hc; omega
    have hb := hid (rune_bytes w n #[.int .u8 (224 + n / 4096), .int .u8 (128 + n / 64 % 64), .int .u8 (128 + n % 64)] (by rw [hz, Lib.encodeRuneZ_three h3']; rfl))
    rw [hzl, Lib.encodeRuneZ_three h3'] at hb
    simp only [List.length_cons, List.length_nil, Nat.reduceAdd, Nat.zero_add] at hb
    clear hc hz hzl h3'
    go_enter Tryz.func258, Tryz.ntmps258
    go_wp2_with fail
    rw [run_b2s Tryz.underlying30 Tryz.underlying5 Tryz.underlying9 hb.out]
    unfold str
    go_wp2
    go_ret
    exact ⟨rfl, gr_alloc (gr_refl _ _) _⟩
  have h4 : n ≤ 1114111 := by unfold charP at hc; omega
  have hb := hid (rune_bytes w n #[.int .u8 (240 + n / 262144), .int .u8 (128 + n / 4096 % 64), .int .u8 (128 + n / 64 % 64), .int .u8 (128 + n % 64)] (by rw [hz, Lib.encodeRuneZ_four (by omega) h4]; rfl))
  rw [hzl, Lib.encodeRuneZ_four (by omega) h4] at hb
  simp only [List.length_cons, List.length_nil, Nat.reduceAdd, Nat.zero_add] at hb
  clear hc hz hzl
  go_enter Tryz.func258, Tryz.ntmps258
  go_wp2_with fail
  rw [run_b2s Tryz.underlying30 Tryz.underlying5 Tryz.underlying9 hb.out]
  unfold str
  go_wp2
  go_ret
  exact ⟨rfl, gr_alloc (gr_refl _ _) _⟩
end Go.Proofs.YtmofnoconhgjmaaGreatDoor
