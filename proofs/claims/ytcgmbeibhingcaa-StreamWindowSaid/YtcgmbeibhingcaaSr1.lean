/- Walks: what a connection that is over answers. -/
import Derived.Test.YtcgmbeibhingcaaStr4
namespace Go.Proofs.Ytcgmbeibhingcaa
open Go.RowKit

set_option maxHeartbeats 1000000 in
theorem take_over (b : Nat) (c : Cn) (w : World) (f t sq ak fl wi ur now : Int) (oa da : Option Addr) (on oc dn dc : Nat) (h : ConnAt w b c) (ho : overB c = true) :
    Calls Try.prog 13 #[.pointer (some ⟨b, 0, none⟩), .agg #[.int .u16 f, .int .u16 t, .int .u32 sq, .int .u32 ak, .int .u8 fl, .int .u16 wi, .int .u16 ur, .slice oa on oc, .slice da dn dc], .int .u64 now] w fun e w' =>
      e = .returned (.slice none 0 0) ∧ w.grownBy w' none := by
  have hlt := h.lt
  go_enter Try.func13, Try.ntmps13
  go_wp2_with fail
  refine (over_any b c _ (h.keep (World.grownBy_alloc w _ none) (by simp))).mono ?_
  rintro e w1 ⟨rfl, rfl⟩
  rw [ho]
  go_wp2
  go_ret
  exact ⟨rfl, by (repeat (first | exact gr_refl _ _ | assumption | refine gr_drew ?_ | refine gr_drewN _ ?_ | refine gr_alloc ?_ _ | refine gr_set ?_ | refine gr_set_new ?_ (by first | omega | (simp; omega))))⟩

set_option maxHeartbeats 1000000 in
theorem take_rst (b : Nat) (c : Cn) (w : World) (f t sq ak wi ur now : Int) (oa da : Option Addr) (on oc dn dc : Nat) (h : ConnAt w b c) (hp : c.phase = 1) :
    Calls Try.prog 13 #[.pointer (some ⟨b, 0, none⟩), .agg #[.int .u16 f, .int .u16 t, .int .u32 sq, .int .u32 ak, .int .u8 4, .int .u16 wi, .int .u16 ur, .slice oa on oc, .slice da dn dc], .int .u64 now] w fun e w' =>
      e = .returned (.slice none 0 0) ∧ ConnAt w' b (if sq = IntKind.u32.wrap (c.other + c.seen) then c.gone else c) ∧ w.grownBy w' (some b) := by
  have hlt := h.lt
  have h3 := h.all.c3
  have h4 := h.all.c4
  have h12 := h.all.c12
  have f4 := h.free 4
  have hb4 : bits BinOp.and IntKind.u8 4 4 = 4 := by decide
  have hov : overB c = false := by simp [overB, hp]
  rw [hp] at h4
  by_cases hs : sq = IntKind.u32.wrap (c.other + c.seen)
  · rw [if_pos hs]
    obtain ⟨q, eq⟩ : ∃ q, IntKind.u32.wrap (c.other + c.seen) = q := ⟨_, rfl⟩
    rw [eq] at hs
    subst hs
    go_enter Try.func13, Try.ntmps13
    go_wp2_with fail
    refine (over_any b c _ (h.keep (World.grownBy_alloc w _ none) (by simp))).mono ?_
    rintro e w1 ⟨rfl, rfl⟩
    rw [hov]
    go_wp2_with fail
    go_quiet (fail)
    go_wp2
    go_ret
    exact ⟨rfl, heap_set (ConnAt.keep (row := none) h (by (repeat (first | exact gr_refl _ _ | assumption | refine gr_drew ?_ | refine gr_drewN _ ?_ | refine gr_alloc ?_ _ | refine gr_set ?_ | refine gr_set_new ?_ (by first | omega | (simp; omega))))) (by simp)), by (repeat (first | exact gr_refl _ _ | assumption | refine gr_drew ?_ | refine gr_drewN _ ?_ | refine gr_alloc ?_ _ | refine gr_set ?_ | refine gr_set_new ?_ (by first | omega | (simp; omega))))⟩
  · rw [if_neg hs]
    obtain ⟨q, eq⟩ : ∃ q, IntKind.u32.wrap (c.other + c.seen) = q := ⟨_, rfl⟩
    rw [eq] at hs
    have hq : (sq == q) = false := by simpa using hs
    go_enter Try.func13, Try.ntmps13
    go_wp2_with fail
    refine (over_any b c _ (h.keep (World.grownBy_alloc w _ none) (by simp))).mono ?_
    rintro e w1 ⟨rfl, rfl⟩
    rw [hov]
    go_wp2_with fail
    go_quiet (fail)
    go_wp2
    go_ret
    exact ⟨rfl, h.keep (row := none) (by (repeat (first | exact gr_refl _ _ | assumption | refine gr_drew ?_ | refine gr_drewN _ ?_ | refine gr_alloc ?_ _ | refine gr_set ?_ | refine gr_set_new ?_ (by first | omega | (simp; omega))))) (by simp), by (repeat (first | exact gr_refl _ _ | assumption | refine gr_drew ?_ | refine gr_drewN _ ?_ | refine gr_alloc ?_ _ | refine gr_set ?_ | refine gr_set_new ?_ (by first | omega | (simp; omega))))⟩

set_option maxHeartbeats 1000000 in
theorem send_over (b : Nat) (c : Cn) (w : World) (da : Option Addr) (dn dc : Nat) (h : ConnAt w b c) (ho : overB c = true) :
    Calls Try.prog 12 #[.pointer (some ⟨b, 0, none⟩), .slice da dn dc] w fun e w' => e = .returned (.int .i64 0) ∧ w = w' := by
  go_enter Try.func12, Try.ntmps12
  go_wp2_with fail
  refine (over_any b c _ h).mono ?_
  rintro e w1 ⟨rfl, rfl⟩
  rw [ho]
  go_wp2
  go_ret
  exact ⟨rfl, rfl⟩

set_option maxHeartbeats 1000000 in
theorem read_nil (b : Nat) (c : Cn) (w : World) (h : ConnAt w b c) (ho : c.unread = .slice none 0 0) :
    Calls Try.prog 16 #[.pointer (some ⟨b, 0, none⟩)] w fun e w' => e = .returned (.slice none 0 0) ∧ w.grownBy w' (some b) := by
  have h14 := h.all.c14
  have f14 := h.free 14
  rw [ho] at h14
  go_enter Try.func16, Try.ntmps16
  go_wp2
  go_ret
  exact ⟨rfl, by (repeat (first | exact gr_refl _ _ | assumption | refine gr_drew ?_ | refine gr_drewN _ ?_ | refine gr_alloc ?_ _ | refine gr_set ?_ | refine gr_set_new ?_ (by first | omega | (simp; omega))))⟩

set_option maxHeartbeats 1000000 in
theorem flush_not (b : Nat) (c : Cn) (w : World) (now : Int) (h : ConnAt w b c) (hp : (c.phase != 2) = true) :
    Calls Try.prog 15 #[.pointer (some ⟨b, 0, none⟩), .int .u64 now] w fun e w' => e = .returned (.slice none 0 0) ∧ w.grownBy w' none := by
  have h4 := h.all.c4
  have hlt := h.lt
  have hlt1 : b < w.heap.size + 1 := by omega
  have hlt2 : b < w.heap.size + 1 + 1 := by omega
  go_enter_defers Try.func15, Try.ntmps15
  go_wp2
  exact ⟨.slice none 0 0, by simp [results, Try.results15, go_sem], rfl, by (repeat (first | exact gr_refl _ _ | assumption | refine gr_drew ?_ | refine gr_drewN _ ?_ | refine gr_alloc ?_ _ | refine gr_set ?_ | refine gr_set_new ?_ (by first | omega | (simp; omega))))⟩
end Go.Proofs.Ytcgmbeibhingcaa
