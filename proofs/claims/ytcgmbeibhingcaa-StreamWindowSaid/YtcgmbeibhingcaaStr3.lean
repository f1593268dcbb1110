/- Walks: a tick that is due, of a connection that is not open. -/
import Derived.Test.YtcgmbeibhingcaaStr2
namespace Go.Proofs.Ytcgmbeibhingcaa
open Go.RowKit

theorem heap_new (w : World) (o : Obj) (n : Nat) (h : n = w.heap.size) : (w.alloc o).heap[n]? = some o := by subst h; exact heap_alloc_new w o
def Cn.tried (c : Cn) : Cn := { c with tries := c.tries + 1 }
def Cn.gone (c : Cn) : Cn := { c with phase := 4 }
theorem seg_shape (c : Cn) (place flags : Int) (n : Nat) (data : Value) : ∃ p q s a fl wi : Int, c.seg place flags n data = #[.int .u16 p, .int .u16 q, .int .u32 s, .int .u32 a, .int .u8 fl, .int .u16 wi, .int .u16 0, .slice none 0 0, data] ∧
    fl = (if c.phase = 0 then flags else bits BinOp.or IntKind.u8 flags 16) := ⟨_, _, _, _, _, _, rfl, rfl⟩
theorem tick_more (b : Nat) (c : Cn) (w : World) (now : Int) (ua : Option Addr) (un uc : Nat) (h : ConnAt w b c) (ho' : overB c = false) (ht' : c.timed = true) (hd : c.due ≤ now) (hp : c.phase ≠ 2)
    (ht0 : 0 ≤ c.tries) (ht5 : c.tries < 5) (hu : c.unread = .slice ua un uc) (hun : un ≤ 4096) :
    Calls Try.prog 9 #[.pointer (some ⟨b, 0, none⟩), .int .u64 now] w fun e w' => ∃ g, e = .returned (.slice (some ⟨g, 0, none⟩) 1 1) ∧
      w'.heap[g]? = some (.cells ((c.tried.set now).seg 0 2 un (.slice none 0 0)) 34 (0, 0)) ∧ w.heap.size ≤ g ∧ ConnAt w' b (c.tried.set now) ∧ w.grownBy w' (some b) := by
  have h15 := h.all.c15
  have h16 := h.all.c16
  have h17 := h.all.c17
  have h4 := h.all.c4
  have f17 := h.free 17
  have hlt := h.lt
  have hpb : (c.phase != 2) = true := by simpa using hp
  have H : Hid (ConnAt (w.setCell ⟨b, 17, none⟩ (.int .i64 (c.tries + 1))) b c.tried) := heap_set h
  go_enter Try.func9, Try.ntmps9
  go_wp2_with fail
  refine (over_any b c w h).mono ?_
  rintro e w1 ⟨rfl, rfl⟩
  rw [ho']
  rw [ht'] at h15
  go_wp2_with fail
  refine (begin_any b c.tried _ now ua un uc H.out (by simp [Cn.tried]; omega) (by simp [Cn.tried]; omega) hu hun).mono ?_
  rintro e w1 ⟨g, rfl, hg, hgs, h1, g1⟩
  go_wp2
  go_ret
  refine ⟨g, rfl, hg, by simpa using hgs, h1, gr_trans (gr_set (gr_refl _ _)) g1⟩

set_option maxHeartbeats 1000000 in
theorem tick_gone (b : Nat) (c : Cn) (w : World) (now : Int) (ua : Option Addr) (un uc : Nat) (h : ConnAt w b c) (ho' : overB c = false) (ht' : c.timed = true) (hd : c.due ≤ now)
    (ht5 : c.tries = 5) (hu : c.unread = .slice ua un uc) (hun : un ≤ 4096) :
    Calls Try.prog 9 #[.pointer (some ⟨b, 0, none⟩), .int .u64 now] w fun e w' => ∃ g cs, e = .returned (.slice (some ⟨g, 0, none⟩) 1 1) ∧
      w'.heap[g]? = some (.cells cs 34 (0, 0)) ∧ cs[4]? = some (.int .u8 20) ∧ w.heap.size ≤ g ∧ ConnAt w' b c.tried.gone ∧ w.grownBy w' (some b) := by
  have h15 := h.all.c15
  have h16 := h.all.c16
  have h17 := h.all.c17
  have h6 := h.all.c6
  have h4 := h.all.c4
  have f17 := h.free 17
  have f4 := h.free 4
  have hlt := h.lt
  rw [ht5] at h17
  have H : Hid (ConnAt (w.setCell ⟨b, 17, none⟩ (.int .i64 6)) b c.tried) := by
    have := heap_set (o := 17) (v := .int .i64 6) h
    show _ = _
    rw [this]; simp [Cn.cells, Cn.tried, ht5]
  clear ht5
  go_enter Try.func9, Try.ntmps9
  go_wp2_with fail
  refine (over_any b c w h).mono ?_
  rintro e w1 ⟨rfl, rfl⟩
  rw [ho']
  rw [ht'] at h15
  go_wp2_with fail
  refine (segment_nil b c.tried _ _ _ ua un uc H.out hu hun).mono ?_
  rintro e w1 ⟨rfl, g1⟩
  obtain ⟨p, q, s, a, fl, wi, e, hfl⟩ := seg_shape c.tried c.next 4 un (.slice none 0 0)
  rw [e]
  have Hfl := hid hfl
  clear hfl e
  have h1 : ConnAt w1 b c.tried := ConnAt.keep H.out g1 (by simp)
  have k4 := h1.all.c4
  have l4 := h1.free 4
  have hlt1 := h1.lt
  go_wp2
  go_ret
  have hx : bits BinOp.or IntKind.u8 fl 16 = 20 := by
    rw [Hfl.out]; split <;> decide
  refine ⟨w1.heap.size + 1, _, rfl, heap_new _ _ _ (by simp), by simp [hx], ?_, ?_, ?_⟩
  · have := g1.size; simp at this; omega
  · have hk : ConnAt (w1.setCell ⟨b, 4, none⟩ (.int .i64 4)) b c.tried.gone := heap_set h1
    exact hk.keep (row := none) (by (repeat (first | exact gr_refl _ _ | assumption | refine gr_drew ?_ | refine gr_drewN _ ?_ | refine gr_alloc ?_ _ | refine gr_set ?_ | refine gr_set_new ?_ (by first | omega | (simp; omega))))) (by simp)
  · exact gr_alloc (gr_alloc (gr_set (gr_trans (gr_set (gr_refl _ _)) (gr_none g1))) _) _
end Go.Proofs.Ytcgmbeibhingcaa
