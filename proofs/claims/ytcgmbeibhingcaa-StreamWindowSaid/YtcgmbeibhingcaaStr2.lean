/- Walks: what a connection sends at its beginning; a tick. -/
import Derived.Test.YtcgmbeibhingcaaStr1
namespace Go.Proofs.Ytcgmbeibhingcaa
open Go.RowKit

set_option maxHeartbeats 1000000 in
theorem begin_any (b : Nat) (c : Cn) (w : World) (now : Int) (ua : Option Addr) (un uc : Nat) (h : ConnAt w b c) (ht : 0 ≤ c.tries) (ht' : c.tries ≤ 6) (hu : c.unread = .slice ua un uc) (hun : un ≤ 4096) :
    Calls Try.prog 21 #[.pointer (some ⟨b, 0, none⟩), .int .u64 now] w fun e w' => ∃ g, e = .returned (.slice (some ⟨g, 0, none⟩) 1 1) ∧
      w'.heap[g]? = some (.cells ((c.set now).seg 0 2 un (.slice none 0 0)) 34 (0, 0)) ∧ w.heap.size ≤ g ∧ ConnAt w' b (c.set now) ∧ w.grownBy w' (some b) := by
  go_enter Try.func21, Try.ntmps21
  go_wp2_with fail
  refine (set_any b c _ now h ht ht').mono ?_
  rintro e w1 ⟨rfl, h1, g1⟩
  go_wp2_with fail
  refine (segment_nil b _ _ _ _ ua un uc h1 hu hun).mono ?_
  rintro e w2 ⟨rfl, g2⟩
  have h2 := h1.keep g2 (by simp)
  have hs : ((c.set now).seg 0 2 un (.slice none 0 0)).size = 9 := rfl
  go_wp2
  go_ret
  exact ⟨w2.heap.size, rfl, by rw [fold_set _ _ _ (by rw [hs]; rfl) hs]; exact heap_alloc_new _ _, Nat.le_trans g1.size g2.size, h2.keep (World.grownBy_alloc _ _ none) (by simp), gr_alloc (gr_trans g1 (gr_none g2)) _⟩

/-- What Dial makes. -/
def dialCn (p q own : Int) : Cn := { src := p, dst := q, own := own, other := 0, phase := 0, una := 0, next := 1, most := 1, out := .slice none 0 0, tail := 1, closing := false, window := 0, seen := 0, ended := false, unread := .slice none 0 0, timed := false, due := 0, tries := 0 }
set_option maxHeartbeats 1000000 in
theorem dial_any (w : World) (p q own now : Int) :
    Calls Try.prog 8 #[.int .u16 p, .int .u16 q, .int .u32 own, .int .u64 now] w fun e w' => ∃ b g, e = .returned (.tuple #[.pointer (some ⟨b, 0, none⟩), .slice (some ⟨g, 0, none⟩) 1 1]) ∧
      w'.heap[g]? = some (.cells (((dialCn p q own).set now).seg 0 2 0 (.slice none 0 0)) 34 (0, 0)) ∧ w.heap.size ≤ g ∧ w.heap.size ≤ b ∧ ConnAt w' b ((dialCn p q own).set now) ∧ w.grownBy w' none := by
  go_enter Try.func8, Try.ntmps8
  go_wp2_with fail
  refine (begin_any w.heap.size (dialCn p q own) _ now none 0 0 (by exact heap_alloc_new _ _) (by simp [dialCn]) (by simp [dialCn]) rfl (by omega)).mono ?_
  rintro e w1 ⟨g, rfl, hg, hgs, h1, g1⟩
  go_wp2
  go_ret2
  refine ⟨w.heap.size, g, rfl, hg, ?_, Nat.le_refl _, h1, ?_⟩
  · simp at hgs; omega
  · exact gr_new (gr_alloc (gr_refl _ _) _) g1 (Nat.le_refl _)

set_option maxHeartbeats 1000000 in
theorem tick_idle (b : Nat) (c : Cn) (w : World) (now : Int) (h : ConnAt w b c) (hc : overB c = true ∨ c.timed = false ∨ now < c.due) :
    Calls Try.prog 9 #[.pointer (some ⟨b, 0, none⟩), .int .u64 now] w fun e w' => e = .returned (.slice none 0 0) ∧ w = w' := by
  have h15 := h.all.c15
  have h16 := h.all.c16
  go_enter Try.func9, Try.ntmps9
  go_wp2_with fail
  refine (over_any b c w h).mono ?_
  rintro e w1 ⟨rfl, rfl⟩
  by_cases ho : overB c = true
  · rw [ho]
    go_wp2
    go_ret
    exact ⟨rfl, rfl⟩
  · have ho' : overB c = false := by simpa using ho
    rw [ho']
    by_cases ht : c.timed = false
    · rw [ht] at h15
      go_wp2
      go_ret
      exact ⟨rfl, rfl⟩
    · have ht' : c.timed = true := by simpa using ht
      rw [ht'] at h15
      have hd : now < c.due := by simpa [ho, ht] using hc
      clear ho hc
      go_wp2
      go_ret
      exact ⟨rfl, rfl⟩
end Go.Proofs.Ytcgmbeibhingcaa
