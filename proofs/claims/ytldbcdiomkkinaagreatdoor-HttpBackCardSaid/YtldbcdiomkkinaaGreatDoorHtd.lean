/- (*http.Parser).Dead, Idle. -/
import Derived.Test.YtldbcdiomkkinaaGreatDoorHt5
namespace Go.Proofs.YtldbcdiomkkinaaGreatDoor
open Go.RowKit

theorem PAt.stage {w : World} {b : Nat} {s : Ps} (h : PAt w b s) : w.cell? ⟨b, 1, none⟩ = some (.int .i64 (s.stage : Int)) := by
  rcases h with ⟨x, a1, a2, a3, a4, a5, a6, a7, a8, y⟩ | ⟨x, rv, fv, bv, y, _⟩
  · rw [x]; exact (cell_of_block y 1).trans rfl
  · exact (cell_of_block y 1).trans rfl
set_option maxHeartbeats 1000000 in
theorem dead_http (b : Nat) (s : Ps) (w : World) (h : PAt w b s) : Calls Tryz.prog 18 #[.pointer (some ⟨b, 0, none⟩)] w fun e w' => e = .returned (.bool (decide (s.stage = 5))) ∧ w' = w := by
  have c1 := h.stage
  by_cases hs : s.stage = 5
  · rw [hs] at c1
    have HS := hid hs
    clear hs h
    go_enter Tryz.func18, Tryz.ntmps18
    go_wp2_with fail
    go_ret
    exact ⟨by rw [HS.out]; rfl, rfl⟩
  · have hb : (((s.stage : Nat) : Int) == 5) = false := by simp; omega
    have HS := hid (show decide (s.stage = 5) = false by simpa using hs)
    clear hs h
    go_enter Tryz.func18, Tryz.ntmps18
    go_wp2_with fail
    go_ret
    exact ⟨by rw [HS.out]; rfl, rfl⟩
def idleB (s : Ps) : Bool := decide (s.stage = 5) || (decide (s.stage = 0) && decide (s.rest.length = 0))
set_option maxHeartbeats 1000000 in
theorem idle_http (b : Nat) (s : Ps) (w : World) (h : PAt w b s) : Calls Tryz.prog 17 #[.pointer (some ⟨b, 0, none⟩)] w fun e w' => e = .returned (.bool (idleB s)) ∧ w' = w := by
  have c1 := h.stage
  by_cases hs : s.stage = 5
  · rw [hs] at c1
    have HS := hid (show idleB s = true by unfold idleB; simp [hs])
    clear hs h
    go_enter Tryz.func17, Tryz.ntmps17
    go_wp2_with fail
    go_ret
    exact ⟨by rw [HS.out]; rfl, rfl⟩
  · have hb : (((s.stage : Nat) : Int) == 5) = false := by simp; omega
    have hbl : PLive w b s := by
      rcases h with ⟨x, _⟩ | ⟨_, y⟩
      · exact absurd x hs
      · exact y
    obtain ⟨rv, fv, bv, hh, hr, -, -⟩ := hbl
    obtain ⟨ra, rc, rfl, -, -⟩ := hr.shape
    have c0 := (cell_of_block hh 0).trans (show _ = some (Value.slice ra s.rest.length rc) from rfl)
    clear hh hr
    by_cases h0 : s.stage = 0
    · have hb0 : (((s.stage : Nat) : Int) == 0) = true := by simp [h0]
      by_cases hl : s.rest.length = 0
      · have HS := hid (show idleB s = true by unfold idleB; simp [h0, hl])
        have hl' : (((s.rest.length : Nat) : Int) == 0) = true := by simp [hl]
        clear hs h h0 hl
        go_enter Tryz.func17, Tryz.ntmps17
        go_wp2_with fail
        go_ret
        exact ⟨by rw [HS.out]; rfl, rfl⟩
      · have HS := hid (show idleB s = false by unfold idleB; simp [h0, hl])
        have hl' : (((s.rest.length : Nat) : Int) == 0) = false := by rw [beq_eq_false_iff_ne]; omega
        clear hs h h0 hl
        go_enter Tryz.func17, Tryz.ntmps17
        go_wp2_with fail
        go_ret
        exact ⟨by rw [HS.out]; rfl, rfl⟩
    · have hb0 : (((s.stage : Nat) : Int) == 0) = false := by simp; omega
      have HS := hid (show idleB s = false by unfold idleB; simp [hs, h0])
      clear hs h h0
      go_enter Tryz.func17, Tryz.ntmps17
      go_wp2_with fail
      go_ret
      exact ⟨by rw [HS.out]; rfl, rfl⟩
end Go.Proofs.YtldbcdiomkkinaaGreatDoor
