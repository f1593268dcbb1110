/- (*stream.Conn).segment with bytes. -/
import Derived.Test.YtcgmbeibhingcaaSw2
import Derived.Test.YtcgmbeibhingcaaReg3
import Derived.Deep.DeepCutAuto
namespace Go.Proofs.Ytcgmbeibhingcaa
open Go.RowKit

/-- A block of nine cells, written one by one. -/
theorem seg_set9 {w : World} {k : Nat} {T : TypeId} {a0 a1 a2 a3 a4 a5 a6 a7 a8 : Value} (v0 v1 v2 v3 v4 v5 v6 v7 v8 : Value) (h : w.heap[k]? = some (.cells #[a0, a1, a2, a3, a4, a5, a6, a7, a8] T (0, 0))) :
    (((((((((w.setCell ⟨k, 0, none⟩ v0).setCell ⟨k, 1, none⟩ v1).setCell ⟨k, 2, none⟩ v2).setCell ⟨k, 3, none⟩ v3).setCell ⟨k, 4, none⟩ v4).setCell ⟨k, 5, none⟩ v5).setCell ⟨k, 6, none⟩ v6).setCell ⟨k, 7, none⟩ v7).setCell ⟨k, 8, none⟩ v8).heap[k]? = some (.cells #[v0, v1, v2, v3, v4, v5, v6, v7, v8] T (0, 0)) ∧ w.grownBy (((((((((w.setCell ⟨k, 0, none⟩ v0).setCell ⟨k, 1, none⟩ v1).setCell ⟨k, 2, none⟩ v2).setCell ⟨k, 3, none⟩ v3).setCell ⟨k, 4, none⟩ v4).setCell ⟨k, 5, none⟩ v5).setCell ⟨k, 6, none⟩ v6).setCell ⟨k, 7, none⟩ v7).setCell ⟨k, 8, none⟩ v8) (some k) := by
  obtain ⟨w1, hw1⟩ : ∃ x, x = w.setCell ⟨k, 0, none⟩ v0 := ⟨_, rfl⟩
  have e0 : w1.heap[k]? = some (.cells #[v0, a1, a2, a3, a4, a5, a6, a7, a8] T (0, 0)) := by rw [hw1]; exact heap_set h
  have g0 : w.grownBy w1 (some k) := by rw [hw1]; exact gr_set (gr_refl w (some k))
  obtain ⟨w2, hw2⟩ : ∃ x, x = w1.setCell ⟨k, 1, none⟩ v1 := ⟨_, rfl⟩
  have e1 : w2.heap[k]? = some (.cells #[v0, v1, a2, a3, a4, a5, a6, a7, a8] T (0, 0)) := by rw [hw2]; exact heap_set e0
  have g1 : w.grownBy w2 (some k) := by rw [hw2]; exact gr_set g0
  obtain ⟨w3, hw3⟩ : ∃ x, x = w2.setCell ⟨k, 2, none⟩ v2 := ⟨_, rfl⟩
  have e2 : w3.heap[k]? = some (.cells #[v0, v1, v2, a3, a4, a5, a6, a7, a8] T (0, 0)) := by rw [hw3]; exact heap_set e1
  have g2 : w.grownBy w3 (some k) := by rw [hw3]; exact gr_set g1
  obtain ⟨w4, hw4⟩ : ∃ x, x = w3.setCell ⟨k, 3, none⟩ v3 := ⟨_, rfl⟩
  have e3 : w4.heap[k]? = some (.cells #[v0, v1, v2, v3, a4, a5, a6, a7, a8] T (0, 0)) := by rw [hw4]; exact heap_set e2
  have g3 : w.grownBy w4 (some k) := by rw [hw4]; exact gr_set g2
  obtain ⟨w5, hw5⟩ : ∃ x, x = w4.setCell ⟨k, 4, none⟩ v4 := ⟨_, rfl⟩
  have e4 : w5.heap[k]? = some (.cells #[v0, v1, v2, v3, v4, a5, a6, a7, a8] T (0, 0)) := by rw [hw5]; exact heap_set e3
  have g4 : w.grownBy w5 (some k) := by rw [hw5]; exact gr_set g3
  obtain ⟨w6, hw6⟩ : ∃ x, x = w5.setCell ⟨k, 5, none⟩ v5 := ⟨_, rfl⟩
  have e5 : w6.heap[k]? = some (.cells #[v0, v1, v2, v3, v4, v5, a6, a7, a8] T (0, 0)) := by rw [hw6]; exact heap_set e4
  have g5 : w.grownBy w6 (some k) := by rw [hw6]; exact gr_set g4
  obtain ⟨w7, hw7⟩ : ∃ x, x = w6.setCell ⟨k, 6, none⟩ v6 := ⟨_, rfl⟩
  have e6 : w7.heap[k]? = some (.cells #[v0, v1, v2, v3, v4, v5, v6, a7, a8] T (0, 0)) := by rw [hw7]; exact heap_set e5
  have g6 : w.grownBy w7 (some k) := by rw [hw7]; exact gr_set g5
  obtain ⟨w8, hw8⟩ : ∃ x, x = w7.setCell ⟨k, 7, none⟩ v7 := ⟨_, rfl⟩
  have e7 : w8.heap[k]? = some (.cells #[v0, v1, v2, v3, v4, v5, v6, v7, a8] T (0, 0)) := by rw [hw8]; exact heap_set e6
  have g7 : w.grownBy w8 (some k) := by rw [hw8]; exact gr_set g6
  obtain ⟨w9, hw9⟩ : ∃ x, x = w8.setCell ⟨k, 8, none⟩ v8 := ⟨_, rfl⟩
  have e8 : w9.heap[k]? = some (.cells #[v0, v1, v2, v3, v4, v5, v6, v7, v8] T (0, 0)) := by rw [hw9]; exact heap_set e7
  have g8 : w.grownBy w9 (some k) := by rw [hw9]; exact gr_set g7
  rw [← hw1, ← hw2, ← hw3, ← hw4, ← hw5, ← hw6, ← hw7, ← hw8, ← hw9]
  exact ⟨e8, g8⟩

theorem Own8.kept_ty {w w' : World} {base k : Nat} {v : Value} {l : List UInt8} {cs : Array Value} {T : TypeId} (h : Own8 w base v l) (g : w.grownBy w' (some k)) (hk : w.heap[k]? = some (.cells cs T (0, 0))) (hT : T ≠ 5) : Own8 w' base v l := by
  refine ⟨h.1, ?_⟩
  rcases h.2 with h0 | ⟨k', cap, cur, rfl, hk', hh, r⟩
  · exact .inl h0
  · refine .inr ⟨k', cap, cur, rfl, hk', gr_keep g hh ?_, r⟩
    intro e
    obtain rfl := Option.some.inj e
    rw [hh] at hk
    simp only [Option.some.injEq, Obj.cells.injEq] at hk
    exact hT hk.2.1.symm

set_option maxRecDepth 20000 in
set_option maxHeartbeats 2000000 in
theorem segment_data (b : Nat) (c : Cn) (w : World) (place flags : Int) (ua : Option Addr) (un uc : Nat) (h : ConnAt w b c) (hu : c.unread = .slice ua un uc) (hun : un ≤ 4096)
    (l : List UInt8) (ad : Addr) (dc : Nat) (hb : Bytes w (.slice (some ad) l.length dc) l) (hl : l.length ≤ 100000) (hp : (c.phase != 0) = true) :
    Calls Try.prog 23 #[.pointer (some ⟨b, 0, none⟩), .int .u32 place, .int .u8 flags, .slice (some ad) l.length dc] w fun e w' =>
      ∃ v, e = .returned (.agg (c.seg place flags un v)) ∧ Own8 w' w.heap.size v l ∧ w.grownBy w' none := by
  have h0 := h.all.c0
  have h1 := h.all.c1
  have h2 := h.all.c2
  have h3 := h.all.c3
  have h4 := h.all.c4
  have h12 := h.all.c12
  have h14 := h.all.c14
  rw [hu] at h14
  have hlt := h.lt
  have hcl := hid (fun W (g : w.grownBy W none) => clone_own l ad dc W (hb.grown g) hl)
  have HC := hid h
  clear h hb
  go_enter Try.func23, Try.ntmps23
  have wun : IntKind.u16.wrap (4096 - (un : Int)) = 4096 - (un : Int) := IntWalk.u16_in _ (by omega)
  have wun2 : IntKind.i64.wrap (4096 - (un : Int)) = 4096 - (un : Int) := IntWalk.i64_in _ (by omega)
  go_wp2_with fail
  generalize hw1 : w.alloc (.cells #[.int .u16 0, .int .u16 0, .int .u32 0, .int .u32 0, .int .u8 0, .int .u16 0, .int .u16 0, .slice none 0 0, .slice none 0 0] 34) = w1 at *
  have g01 : w.grownBy w1 none := by rw [← hw1]; exact World.grownBy_alloc w _ none
  have HCL := hid (fun W (g : w1.grownBy W none) => hcl.out W (gr_trans g01 g))
  have k0 := g01.cell h0 (by simp)
  have k1 := g01.cell h1 (by simp)
  have k2 := g01.cell h2 (by simp)
  have k14 := g01.cell h14 (by simp)
  have HR := hid (show w1.heap[w.heap.size]? = some (.cells #[.int .u16 0, .int .u16 0, .int .u32 0, .int .u32 0, .int .u8 0, .int .u16 0, .int .u16 0, .slice none 0 0, .slice none 0 0] 34 (0, 0)) by rw [← hw1]; exact heap_alloc_new w _)
  have HS := hid (show w.heap.size < w1.heap.size by rw [← hw1]; exact lt_of_block (heap_alloc_new w _))
  clear hw1
  refine wp_region_spec3 26 99 none (by kernel_rfl) (by kernel_rfl) (by kernel_rfl) (by kernel_rfl) (by kernel_rfl) (by kernel_rfl) [some 10, some 11, some 12, some 13, some 14, some 15, some 16, some 17, some 18, some 19, some 20, some 21, some 22, some 23, some 24, some 25, some 26, some 27, some 28, some 29, some 30, some 31, some 32, some 33, some 34, some 9] (by kernel_rfl) _ (fun u => (by simp only [fill, List.zipIdx_cons, List.zipIdx_nil, List.foldl_cons, List.foldl_nil, Act.put, List.setIfInBounds_toArray, List.set_cons_zero, List.set_cons_succ, Nat.zero_add, Nat.reduceAdd]; exact rfl)) (by kernel_rfl)
    (all_succ (all_succ (all_succ (all_succ (all_succ (all_succ (all_succ (all_succ (all_succ (all_succ (all_succ (all_succ (all_succ (all_succ (all_succ (all_succ (all_succ (all_succ (all_succ (all_succ (all_succ (all_succ (all_succ (all_succ (all_succ (all_succ (all_zero _) (fun u v => by kernel_rfl)) (fun u v => by kernel_rfl)) (fun u v => by kernel_rfl)) (fun u v => by kernel_rfl)) (fun u v => by kernel_rfl)) (fun u v => by kernel_rfl)) (fun u v => by kernel_rfl)) (fun u v => by kernel_rfl)) (fun u v => by kernel_rfl)) (fun u v => by kernel_rfl)) (fun u v => by kernel_rfl)) (fun u v => by kernel_rfl)) (fun u v => by kernel_rfl)) (fun u v => by kernel_rfl)) (fun u v => by kernel_rfl)) (fun u v => by kernel_rfl)) (fun u v => by kernel_rfl)) (fun u v => by kernel_rfl)) (fun u v => by kernel_rfl)) (fun u v => by kernel_rfl)) (fun u v => by kernel_rfl)) (fun u v => by kernel_rfl)) (fun u v => by kernel_rfl)) (fun u v => by kernel_rfl)) (fun u v => by kernel_rfl)) (fun u v => by kernel_rfl))
    (fun ri v w => match ri with | 0 => v = .pointer (some ⟨b, 0, none⟩) | 1 => v = .pointer (some ⟨b, 0, none⟩) | 2 => v = .pointer (some ⟨b, 0, none⟩) | 3 => v = .int .u16 c.src | 4 => v = .pointer (some ⟨b, 0, none⟩) | 5 => v = .pointer (some ⟨b, 0, none⟩) | 6 => v = .pointer (some ⟨b, 1, none⟩) | 7 => v = .int .u16 c.dst | 8 => v = .pointer (some ⟨b, 0, none⟩) | 9 => v = .pointer (some ⟨b, 0, none⟩) | 10 => v = .pointer (some ⟨b, 2, none⟩) | 11 => v = .int .u32 c.own | 12 => v = .int .u32 place | 13 => v = .int .u32 ((c.own + place) % 4294967296) | 14 => v = .int .u8 flags | 15 => v = .pointer (some ⟨b, 0, none⟩) | 16 => v = .pointer (some ⟨b, 0, none⟩) | 17 => v = .pointer (some ⟨b, 14, none⟩) | 18 => v = .slice ua un uc | 19 => v = .int .i64 (un : Int) | 20 => v = .int .i64 (4096 - (un : Int)) | 21 => v = .int .u16 (4096 - (un : Int)) | 22 => v = .slice (some ad) l.length dc | 23 => ∃ va vc, v = .slice va l.length vc ∧ Own8 w w1.heap.size (.slice va l.length vc) l | 24 => ∃ va vc, (v = .agg #[.int .u16 c.src, .int .u16 c.dst, .int .u32 ((c.own + place) % 4294967296), .int .u32 0, .int .u8 flags, .int .u16 (4096 - (un : Int)), .int .u16 0, .slice none 0 0, .slice va l.length vc]) ∧ Own8 w w1.heap.size (.slice va l.length vc) l | 25 => ∃ k, v = .pointer (some ⟨k, 0, none⟩) ∧ w.heap[k]? = some (.cells #[.int .u16 0, .int .u16 0, .int .u32 0, .int .u32 0, .int .u8 0, .int .u16 0, .int .u16 0, .slice none 0 0, .slice none 0 0] 34 (0, 0)) ∧ w1.heap.size ≤ k | _ => True)
    (all_succ (all_succ (all_succ (all_succ (all_succ (all_succ (all_succ (all_succ (all_succ (all_succ (all_succ (all_succ (all_succ (all_succ (all_succ (all_succ (all_succ (all_succ (all_succ (all_succ (all_succ (all_succ (all_succ (all_succ (all_succ (all_succ (all_zero _) ?m0) ?m1) ?m2) ?m3) ?m4) ?m5) ?m6) ?m7) ?m8) ?m9) ?m10) ?m11) ?m12) ?m13) ?m14) ?m15) ?m16) ?m17) ?m18) ?m19) ?m20) ?m21) ?m22) ?m23) ?m24) ?m25)
    [[], [0], [1], [2], [], [4], [5], [6], [], [8], [9], [10], [], [11, 12], [], [], [15], [16], [17], [18], [19], [20], [], [22], [3, 7, 13, 14, 21, 23], []] (by kernel_rfl)
    ⟨?o0, ?o1, ?o2, ?o3, ?o4, ?o5, ?o6, ?o7, ?o8, ?o9, ?o10, ?o11, ?o12, ?o13, ?o14, ?o15, ?o16, ?o17, ?o18, ?o19, ?o20, ?o21, ?o22, ?o23, ?o24, ?o25, trivial⟩ ?done
  case m0 => intro v w w' h g; first | exact h | (obtain ⟨va, vc, e, hv⟩ := h; exact ⟨va, vc, e, Own8.keep hv g⟩) | (obtain ⟨k, e, hb, hl⟩ := h; exact ⟨k, e, gr_keep g hb (by simp), hl⟩)
  case m1 => intro v w w' h g; first | exact h | (obtain ⟨va, vc, e, hv⟩ := h; exact ⟨va, vc, e, Own8.keep hv g⟩) | (obtain ⟨k, e, hb, hl⟩ := h; exact ⟨k, e, gr_keep g hb (by simp), hl⟩)
  case m2 => intro v w w' h g; first | exact h | (obtain ⟨va, vc, e, hv⟩ := h; exact ⟨va, vc, e, Own8.keep hv g⟩) | (obtain ⟨k, e, hb, hl⟩ := h; exact ⟨k, e, gr_keep g hb (by simp), hl⟩)
  case m3 => intro v w w' h g; first | exact h | (obtain ⟨va, vc, e, hv⟩ := h; exact ⟨va, vc, e, Own8.keep hv g⟩) | (obtain ⟨k, e, hb, hl⟩ := h; exact ⟨k, e, gr_keep g hb (by simp), hl⟩)
  case m4 => intro v w w' h g; first | exact h | (obtain ⟨va, vc, e, hv⟩ := h; exact ⟨va, vc, e, Own8.keep hv g⟩) | (obtain ⟨k, e, hb, hl⟩ := h; exact ⟨k, e, gr_keep g hb (by simp), hl⟩)
  case m5 => intro v w w' h g; first | exact h | (obtain ⟨va, vc, e, hv⟩ := h; exact ⟨va, vc, e, Own8.keep hv g⟩) | (obtain ⟨k, e, hb, hl⟩ := h; exact ⟨k, e, gr_keep g hb (by simp), hl⟩)
  case m6 => intro v w w' h g; first | exact h | (obtain ⟨va, vc, e, hv⟩ := h; exact ⟨va, vc, e, Own8.keep hv g⟩) | (obtain ⟨k, e, hb, hl⟩ := h; exact ⟨k, e, gr_keep g hb (by simp), hl⟩)
  case m7 => intro v w w' h g; first | exact h | (obtain ⟨va, vc, e, hv⟩ := h; exact ⟨va, vc, e, Own8.keep hv g⟩) | (obtain ⟨k, e, hb, hl⟩ := h; exact ⟨k, e, gr_keep g hb (by simp), hl⟩)
  case m8 => intro v w w' h g; first | exact h | (obtain ⟨va, vc, e, hv⟩ := h; exact ⟨va, vc, e, Own8.keep hv g⟩) | (obtain ⟨k, e, hb, hl⟩ := h; exact ⟨k, e, gr_keep g hb (by simp), hl⟩)
  case m9 => intro v w w' h g; first | exact h | (obtain ⟨va, vc, e, hv⟩ := h; exact ⟨va, vc, e, Own8.keep hv g⟩) | (obtain ⟨k, e, hb, hl⟩ := h; exact ⟨k, e, gr_keep g hb (by simp), hl⟩)
  case m10 => intro v w w' h g; first | exact h | (obtain ⟨va, vc, e, hv⟩ := h; exact ⟨va, vc, e, Own8.keep hv g⟩) | (obtain ⟨k, e, hb, hl⟩ := h; exact ⟨k, e, gr_keep g hb (by simp), hl⟩)
  case m11 => intro v w w' h g; first | exact h | (obtain ⟨va, vc, e, hv⟩ := h; exact ⟨va, vc, e, Own8.keep hv g⟩) | (obtain ⟨k, e, hb, hl⟩ := h; exact ⟨k, e, gr_keep g hb (by simp), hl⟩)
  case m12 => intro v w w' h g; first | exact h | (obtain ⟨va, vc, e, hv⟩ := h; exact ⟨va, vc, e, Own8.keep hv g⟩) | (obtain ⟨k, e, hb, hl⟩ := h; exact ⟨k, e, gr_keep g hb (by simp), hl⟩)
  case m13 => intro v w w' h g; first | exact h | (obtain ⟨va, vc, e, hv⟩ := h; exact ⟨va, vc, e, Own8.keep hv g⟩) | (obtain ⟨k, e, hb, hl⟩ := h; exact ⟨k, e, gr_keep g hb (by simp), hl⟩)
  case m14 => intro v w w' h g; first | exact h | (obtain ⟨va, vc, e, hv⟩ := h; exact ⟨va, vc, e, Own8.keep hv g⟩) | (obtain ⟨k, e, hb, hl⟩ := h; exact ⟨k, e, gr_keep g hb (by simp), hl⟩)
  case m15 => intro v w w' h g; first | exact h | (obtain ⟨va, vc, e, hv⟩ := h; exact ⟨va, vc, e, Own8.keep hv g⟩) | (obtain ⟨k, e, hb, hl⟩ := h; exact ⟨k, e, gr_keep g hb (by simp), hl⟩)
  case m16 => intro v w w' h g; first | exact h | (obtain ⟨va, vc, e, hv⟩ := h; exact ⟨va, vc, e, Own8.keep hv g⟩) | (obtain ⟨k, e, hb, hl⟩ := h; exact ⟨k, e, gr_keep g hb (by simp), hl⟩)
  case m17 => intro v w w' h g; first | exact h | (obtain ⟨va, vc, e, hv⟩ := h; exact ⟨va, vc, e, Own8.keep hv g⟩) | (obtain ⟨k, e, hb, hl⟩ := h; exact ⟨k, e, gr_keep g hb (by simp), hl⟩)
  case m18 => intro v w w' h g; first | exact h | (obtain ⟨va, vc, e, hv⟩ := h; exact ⟨va, vc, e, Own8.keep hv g⟩) | (obtain ⟨k, e, hb, hl⟩ := h; exact ⟨k, e, gr_keep g hb (by simp), hl⟩)
  case m19 => intro v w w' h g; first | exact h | (obtain ⟨va, vc, e, hv⟩ := h; exact ⟨va, vc, e, Own8.keep hv g⟩) | (obtain ⟨k, e, hb, hl⟩ := h; exact ⟨k, e, gr_keep g hb (by simp), hl⟩)
  case m20 => intro v w w' h g; first | exact h | (obtain ⟨va, vc, e, hv⟩ := h; exact ⟨va, vc, e, Own8.keep hv g⟩) | (obtain ⟨k, e, hb, hl⟩ := h; exact ⟨k, e, gr_keep g hb (by simp), hl⟩)
  case m21 => intro v w w' h g; first | exact h | (obtain ⟨va, vc, e, hv⟩ := h; exact ⟨va, vc, e, Own8.keep hv g⟩) | (obtain ⟨k, e, hb, hl⟩ := h; exact ⟨k, e, gr_keep g hb (by simp), hl⟩)
  case m22 => intro v w w' h g; first | exact h | (obtain ⟨va, vc, e, hv⟩ := h; exact ⟨va, vc, e, Own8.keep hv g⟩) | (obtain ⟨k, e, hb, hl⟩ := h; exact ⟨k, e, gr_keep g hb (by simp), hl⟩)
  case m23 => intro v w w' h g; first | exact h | (obtain ⟨va, vc, e, hv⟩ := h; exact ⟨va, vc, e, Own8.keep hv g⟩) | (obtain ⟨k, e, hb, hl⟩ := h; exact ⟨k, e, gr_keep g hb (by simp), hl⟩)
  case m24 => intro v w w' h g; first | exact h | (obtain ⟨va, vc, e, hv⟩ := h; exact ⟨va, vc, e, Own8.keep hv g⟩) | (obtain ⟨k, e, hb, hl⟩ := h; exact ⟨k, e, gr_keep g hb (by simp), hl⟩)
  case m25 => intro v w w' h g; first | exact h | (obtain ⟨va, vc, e, hv⟩ := h; exact ⟨va, vc, e, Own8.keep hv g⟩) | (obtain ⟨k, e, hb, hl⟩ := h; exact ⟨k, e, gr_keep g hb (by simp), hl⟩)
  case o0 =>
    intro u w g hd K hK
    replace g : w1.grownBy w (none) := g
    clear hd
    simp only [Act.put, List.setIfInBounds_toArray, List.set_cons_zero, List.set_cons_succ] at hK
    go_simp
    exact hK _ _ rfl (gr_refl _ _)
  case o1 =>
    intro u w g hd K hK
    replace g : w1.grownBy w (none) := g
    have h0 : (u 0) = .pointer (some ⟨b, 0, none⟩) := hd 0 (by simp)
    clear hd
    simp only [Act.put, List.setIfInBounds_toArray, List.set_cons_zero, List.set_cons_succ] at hK
    simp only [h0] at hK ⊢
    go_simp
    exact hK _ _ rfl (gr_refl _ _)
  case o2 =>
    intro u w g hd K hK
    replace g : w1.grownBy w (none) := g
    have h1 : (u 1) = .pointer (some ⟨b, 0, none⟩) := hd 1 (by simp)
    clear hd
    simp only [Act.put, List.setIfInBounds_toArray, List.set_cons_zero, List.set_cons_succ] at hK
    simp only [h1] at hK ⊢
    go_simp
    exact hK _ _ rfl (gr_refl _ _)
  case o3 =>
    intro u w g hd K hK
    replace g : w1.grownBy w (none) := g
    have h2 : (u 2) = .pointer (some ⟨b, 0, none⟩) := hd 2 (by simp)
    clear hd
    simp only [Act.put, List.setIfInBounds_toArray, List.set_cons_zero, List.set_cons_succ] at hK
    have c' := g.cell k0 (by simp)
    simp only [h2] at hK ⊢
    go_simp
    exact hK _ _ rfl (gr_refl _ _)
  case o4 =>
    intro u w g hd K hK
    replace g : w1.grownBy w (none) := g
    clear hd
    simp only [Act.put, List.setIfInBounds_toArray, List.set_cons_zero, List.set_cons_succ] at hK
    go_simp
    exact hK _ _ rfl (gr_refl _ _)
  case o5 =>
    intro u w g hd K hK
    replace g : w1.grownBy w (none) := g
    have h4 : (u 4) = .pointer (some ⟨b, 0, none⟩) := hd 4 (by simp)
    clear hd
    simp only [Act.put, List.setIfInBounds_toArray, List.set_cons_zero, List.set_cons_succ] at hK
    simp only [h4] at hK ⊢
    go_simp
    exact hK _ _ rfl (gr_refl _ _)
  case o6 =>
    intro u w g hd K hK
    replace g : w1.grownBy w (none) := g
    have h5 : (u 5) = .pointer (some ⟨b, 0, none⟩) := hd 5 (by simp)
    clear hd
    simp only [Act.put, List.setIfInBounds_toArray, List.set_cons_zero, List.set_cons_succ] at hK
    simp only [h5] at hK ⊢
    go_simp
    exact hK _ _ rfl (gr_refl _ _)
  case o7 =>
    intro u w g hd K hK
    replace g : w1.grownBy w (none) := g
    have h6 : (u 6) = .pointer (some ⟨b, 1, none⟩) := hd 6 (by simp)
    clear hd
    simp only [Act.put, List.setIfInBounds_toArray, List.set_cons_zero, List.set_cons_succ] at hK
    have c' := g.cell k1 (by simp)
    simp only [h6] at hK ⊢
    go_simp
    exact hK _ _ rfl (gr_refl _ _)
  case o8 =>
    intro u w g hd K hK
    replace g : w1.grownBy w (none) := g
    clear hd
    simp only [Act.put, List.setIfInBounds_toArray, List.set_cons_zero, List.set_cons_succ] at hK
    go_simp
    exact hK _ _ rfl (gr_refl _ _)
  case o9 =>
    intro u w g hd K hK
    replace g : w1.grownBy w (none) := g
    have h8 : (u 8) = .pointer (some ⟨b, 0, none⟩) := hd 8 (by simp)
    clear hd
    simp only [Act.put, List.setIfInBounds_toArray, List.set_cons_zero, List.set_cons_succ] at hK
    simp only [h8] at hK ⊢
    go_simp
    exact hK _ _ rfl (gr_refl _ _)
  case o10 =>
    intro u w g hd K hK
    replace g : w1.grownBy w (none) := g
    have h9 : (u 9) = .pointer (some ⟨b, 0, none⟩) := hd 9 (by simp)
    clear hd
    simp only [Act.put, List.setIfInBounds_toArray, List.set_cons_zero, List.set_cons_succ] at hK
    simp only [h9] at hK ⊢
    go_simp
    exact hK _ _ rfl (gr_refl _ _)
  case o11 =>
    intro u w g hd K hK
    replace g : w1.grownBy w (none) := g
    have h10 : (u 10) = .pointer (some ⟨b, 2, none⟩) := hd 10 (by simp)
    clear hd
    simp only [Act.put, List.setIfInBounds_toArray, List.set_cons_zero, List.set_cons_succ] at hK
    have c' := g.cell k2 (by simp)
    simp only [h10] at hK ⊢
    go_simp
    exact hK _ _ rfl (gr_refl _ _)
  case o12 =>
    intro u w g hd K hK
    replace g : w1.grownBy w (none) := g
    clear hd
    simp only [Act.put, List.setIfInBounds_toArray, List.set_cons_zero, List.set_cons_succ] at hK
    go_simp
    exact hK _ _ rfl (gr_refl _ _)
  case o13 =>
    intro u w g hd K hK
    replace g : w1.grownBy w (none) := g
    have h11 : (u 11) = .int .u32 c.own := hd 11 (by simp)
    have h12 : (u 12) = .int .u32 place := hd 12 (by simp)
    clear hd
    simp only [Act.put, List.setIfInBounds_toArray, List.set_cons_zero, List.set_cons_succ] at hK
    simp only [h11, h12] at hK ⊢
    go_simp
    exact hK _ _ rfl (gr_refl _ _)
  case o14 =>
    intro u w g hd K hK
    replace g : w1.grownBy w (none) := g
    clear hd
    simp only [Act.put, List.setIfInBounds_toArray, List.set_cons_zero, List.set_cons_succ] at hK
    go_simp
    exact hK _ _ rfl (gr_refl _ _)
  case o15 =>
    intro u w g hd K hK
    replace g : w1.grownBy w (none) := g
    clear hd
    simp only [Act.put, List.setIfInBounds_toArray, List.set_cons_zero, List.set_cons_succ] at hK
    go_simp
    exact hK _ _ rfl (gr_refl _ _)
  case o16 =>
    intro u w g hd K hK
    replace g : w1.grownBy w (none) := g
    have h15 : (u 15) = .pointer (some ⟨b, 0, none⟩) := hd 15 (by simp)
    clear hd
    simp only [Act.put, List.setIfInBounds_toArray, List.set_cons_zero, List.set_cons_succ] at hK
    simp only [h15] at hK ⊢
    go_simp
    exact hK _ _ rfl (gr_refl _ _)
  case o17 =>
    intro u w g hd K hK
    replace g : w1.grownBy w (none) := g
    have h16 : (u 16) = .pointer (some ⟨b, 0, none⟩) := hd 16 (by simp)
    clear hd
    simp only [Act.put, List.setIfInBounds_toArray, List.set_cons_zero, List.set_cons_succ] at hK
    simp only [h16] at hK ⊢
    go_simp
    exact hK _ _ rfl (gr_refl _ _)
  case o18 =>
    intro u w g hd K hK
    replace g : w1.grownBy w (none) := g
    have h17 : (u 17) = .pointer (some ⟨b, 14, none⟩) := hd 17 (by simp)
    clear hd
    simp only [Act.put, List.setIfInBounds_toArray, List.set_cons_zero, List.set_cons_succ] at hK
    have c' := g.cell k14 (by simp)
    simp only [h17] at hK ⊢
    go_simp
    exact hK _ _ rfl (gr_refl _ _)
  case o19 =>
    intro u w g hd K hK
    replace g : w1.grownBy w (none) := g
    have h18 : (u 18) = .slice ua un uc := hd 18 (by simp)
    clear hd
    simp only [Act.put, List.setIfInBounds_toArray, List.set_cons_zero, List.set_cons_succ] at hK
    simp only [h18] at hK ⊢
    go_simp
    exact hK _ _ rfl (gr_refl _ _)
  case o20 =>
    intro u w g hd K hK
    replace g : w1.grownBy w (none) := g
    have h19 : (u 19) = .int .i64 (un : Int) := hd 19 (by simp)
    clear hd
    simp only [Act.put, List.setIfInBounds_toArray, List.set_cons_zero, List.set_cons_succ] at hK
    simp only [h19] at hK ⊢
    go_simp
    exact hK _ _ rfl (gr_refl _ _)
  case o21 =>
    intro u w g hd K hK
    replace g : w1.grownBy w (none) := g
    have h20 : (u 20) = .int .i64 (4096 - (un : Int)) := hd 20 (by simp)
    clear hd
    simp only [Act.put, List.setIfInBounds_toArray, List.set_cons_zero, List.set_cons_succ] at hK
    simp only [h20] at hK ⊢
    go_simp
    exact hK _ _ rfl (gr_refl _ _)
  case o22 =>
    intro u w g hd K hK
    replace g : w1.grownBy w (none) := g
    clear hd
    simp only [Act.put, List.setIfInBounds_toArray, List.set_cons_zero, List.set_cons_succ] at hK
    go_simp
    exact hK _ _ rfl (gr_refl _ _)
  case o23 =>
    intro u w g hd K hK
    replace g : w1.grownBy w (none) := g
    have h22 : (u 22) = .slice (some ad) l.length dc := hd 22 (by simp)
    clear hd
    simp only [Act.put, List.setIfInBounds_toArray, List.set_cons_zero, List.set_cons_succ] at hK
    simp only [h22] at hK ⊢
    go_simp
    refine (HCL.out w g).mono ?_
    rintro e w' ⟨v, rfl, hv, g'⟩
    obtain ⟨va, vc, e1, -, -, -⟩ := hv.bytes
    rw [e1] at hv
    exact hK v w' ⟨va, vc, e1, Own8.base hv g.size⟩ g'
  case o24 =>
    intro u w g hd K hK
    replace g : w1.grownBy w (none) := g
    have h3 : (u 3) = .int .u16 c.src := hd 3 (by simp)
    have h7 : (u 7) = .int .u16 c.dst := hd 7 (by simp)
    have h13 : (u 13) = .int .u32 ((c.own + place) % 4294967296) := hd 13 (by simp)
    have h14 : (u 14) = .int .u8 flags := hd 14 (by simp)
    have h21 : (u 21) = .int .u16 (4096 - (un : Int)) := hd 21 (by simp)
    have h23 : ∃ va vc, (u 23) = .slice va l.length vc ∧ Own8 w w1.heap.size (.slice va l.length vc) l := hd 23 (by simp)
    clear hd
    simp only [Act.put, List.setIfInBounds_toArray, List.set_cons_zero, List.set_cons_succ] at hK
    obtain ⟨va, vc, e23, hv⟩ := h23
    have HV := hid hv
    clear hv
    simp only [h3, h7, h13, h14, h21, e23] at hK ⊢
    clear e23
    go_simp
    exact hK _ _ ⟨va, vc, rfl, HV.out⟩ (gr_refl _ _)
  case o25 =>
    intro u w g hd K hK
    replace g : w1.grownBy w (none) := g
    clear hd
    simp only [Act.put, List.setIfInBounds_toArray, List.set_cons_zero, List.set_cons_succ] at hK
    go_simp
    exact hK _ _ ⟨w.heap.size, rfl, heap_alloc_new w _, g.size⟩ (World.grownBy_alloc w _ none)
  case done =>
    intro u w hS g
    have s0 : (u 0) = .pointer (some ⟨b, 0, none⟩) := hS 0 (by decide)
    have s1 : (u 1) = .pointer (some ⟨b, 0, none⟩) := hS 1 (by decide)
    have s2 : (u 2) = .pointer (some ⟨b, 0, none⟩) := hS 2 (by decide)
    have s3 : (u 3) = .int .u16 c.src := hS 3 (by decide)
    have s4 : (u 4) = .pointer (some ⟨b, 0, none⟩) := hS 4 (by decide)
    have s5 : (u 5) = .pointer (some ⟨b, 0, none⟩) := hS 5 (by decide)
    have s6 : (u 6) = .pointer (some ⟨b, 1, none⟩) := hS 6 (by decide)
    have s7 : (u 7) = .int .u16 c.dst := hS 7 (by decide)
    have s8 : (u 8) = .pointer (some ⟨b, 0, none⟩) := hS 8 (by decide)
    have s9 : (u 9) = .pointer (some ⟨b, 0, none⟩) := hS 9 (by decide)
    have s10 : (u 10) = .pointer (some ⟨b, 2, none⟩) := hS 10 (by decide)
    have s11 : (u 11) = .int .u32 c.own := hS 11 (by decide)
    have s12 : (u 12) = .int .u32 place := hS 12 (by decide)
    have s13 : (u 13) = .int .u32 ((c.own + place) % 4294967296) := hS 13 (by decide)
    have s14 : (u 14) = .int .u8 flags := hS 14 (by decide)
    have s15 : (u 15) = .pointer (some ⟨b, 0, none⟩) := hS 15 (by decide)
    have s16 : (u 16) = .pointer (some ⟨b, 0, none⟩) := hS 16 (by decide)
    have s17 : (u 17) = .pointer (some ⟨b, 14, none⟩) := hS 17 (by decide)
    have s18 : (u 18) = .slice ua un uc := hS 18 (by decide)
    have s19 : (u 19) = .int .i64 (un : Int) := hS 19 (by decide)
    have s20 : (u 20) = .int .i64 (4096 - (un : Int)) := hS 20 (by decide)
    have s21 : (u 21) = .int .u16 (4096 - (un : Int)) := hS 21 (by decide)
    have s22 : (u 22) = .slice (some ad) l.length dc := hS 22 (by decide)
    have s23 : ∃ va vc, (u 23) = .slice va l.length vc ∧ Own8 w w1.heap.size (.slice va l.length vc) l := hS 23 (by decide)
    have s24 : ∃ va vc, ((u 24) = .agg #[.int .u16 c.src, .int .u16 c.dst, .int .u32 ((c.own + place) % 4294967296), .int .u32 0, .int .u8 flags, .int .u16 (4096 - (un : Int)), .int .u16 0, .slice none 0 0, .slice va l.length vc]) ∧ Own8 w w1.heap.size (.slice va l.length vc) l := hS 24 (by decide)
    have s25 : ∃ k, (u 25) = .pointer (some ⟨k, 0, none⟩) ∧ w.heap[k]? = some (.cells #[.int .u16 0, .int .u16 0, .int .u32 0, .int .u32 0, .int .u8 0, .int .u16 0, .int .u16 0, .slice none 0 0, .slice none 0 0] 34 (0, 0)) ∧ w1.heap.size ≤ k := hS 25 (by decide)
    clear hS
    replace g : w1.grownBy w none := g
    change wpList _ _ _ [_] _ _
    obtain ⟨va, vc, e24, hv⟩ := s24
    obtain ⟨k, e25, hk, hk1⟩ := s25
    rw [e24, e25]
    have G2 := hid (gr_trans g01 g)
    have HV := hid (Own8.base hv g01.size)
    have HK := hid hk
    have HK1 := hid hk1
    have m3 := (gr_trans g01 g).cell h3 (by simp)
    have m4 := (gr_trans g01 g).cell h4 (by simp)
    have m12 := (gr_trans g01 g).cell h12 (by simp)
    clear s0 s1 s2 s3 s4 s5 s6 s7 s8 s9 s10 s11 s12 s13 s14 s15 s16 s17 s18 s19 s20 s21 s22 s23 hv e24 e25 k0 k1 k2 k14 wun wun2 hcl HCL h0 h1 h2 h3 h4 h12 h14
    have q0 := (cell_of_block hk 0).trans (show _ = some (Value.int .u16 0) from rfl)
    have q1 := (cell_of_block hk 1).trans (show _ = some (Value.int .u16 0) from rfl)
    have q2 := (cell_of_block hk 2).trans (show _ = some (Value.int .u32 0) from rfl)
    have q3 := (cell_of_block hk 3).trans (show _ = some (Value.int .u32 0) from rfl)
    have q4 := (cell_of_block hk 4).trans (show _ = some (Value.int .u8 0) from rfl)
    have q5 := (cell_of_block hk 5).trans (show _ = some (Value.int .u16 0) from rfl)
    have q6 := (cell_of_block hk 6).trans (show _ = some (Value.int .u16 0) from rfl)
    have q7 := (cell_of_block hk 7).trans (show _ = some (Value.slice none 0 0) from rfl)
    have q8 := (cell_of_block hk 8).trans (show _ = some (Value.slice none 0 0) from rfl)
    have r0 := free_of_block hk 0
    have r1 := free_of_block hk 1
    have r2 := free_of_block hk 2
    have r3 := free_of_block hk 3
    have r4 := free_of_block hk 4
    have r5 := free_of_block hk 5
    have r6 := free_of_block hk 6
    have r7 := free_of_block hk 7
    have r8 := free_of_block hk 8
    have klt := lt_of_block hk
    clear hk hk1
    have hne : k ≠ b := by
      have h1 := HK1.out
      have h2 := g01.size
      omega
    go_upto_region 2 with fail
    obtain ⟨w3, hw3⟩ : ∃ w3, w3 = (((((((((w.setCell { block := k, off := 0 } (Value.int IntKind.u16 c.src)).setCell { block := k, off := 1 } (Value.int IntKind.u16 c.dst)).setCell { block := k, off := 2 } (Value.int IntKind.u32 ((c.own + place) % 4294967296))).setCell { block := k, off := 3 } (Value.int IntKind.u32 0)).setCell { block := k, off := 4 } (Value.int IntKind.u8 flags)).setCell { block := k, off := 5 } (Value.int IntKind.u16 (4096 - (un : Int)))).setCell { block := k, off := 6 } (Value.int IntKind.u16 0)).setCell { block := k, off := 7 } (Value.slice none 0 0)).setCell { block := k, off := 8 } (Value.slice va l.length vc)) := ⟨_, rfl⟩
    obtain ⟨hk3, gk⟩ := seg_set9 (.int .u16 c.src) (.int .u16 c.dst) (.int .u32 ((c.own + place) % 4294967296)) (.int .u32 0) (.int .u8 flags) (.int .u16 (4096 - (un : Int))) (.int .u16 0) (.slice none 0 0) (.slice va l.length vc) HK.out
    rw [← hw3] at hk3 gk
    rw [← hw3]
    clear hw3
    have HR3 := hid (gr_keep gk (gr_keep g HR.out (by simp)) (by simp only [ne_eq, Option.some.injEq]; have h1 := HK1.out; have h2 := HS.out; omega))
    have HV3 := hid (Own8.kept_ty HV.out gk HK.out (by decide))
    have G3 := hid (gr_new G2.out gk (by have h1 := HK1.out; have h2 := HS.out; omega))
    have hbk : some b ≠ some k := by simpa using fun e => hne e.symm
    replace m3 := gk.cell m3 hbk
    replace m4 := gk.cell m4 hbk
    replace m12 := gk.cell m12 hbk
    have q3 := (cell_of_block hk3 3).trans (show _ = some (Value.int .u32 0) from rfl)
    have q4 := (cell_of_block hk3 4).trans (show _ = some (Value.int .u8 flags) from rfl)
    have r3 := free_of_block hk3 3
    have r4 := free_of_block hk3 4
    have k3lt := lt_of_block hk3
    have HK3 := hid hk3
    clear hk3 gk g HR HV HK G2 q0 q1 q2 q5 q6 q7 q8 r0 r1 r2 r5 r6 r7 r8 klt
    go_upto_region 4 with fail
    obtain ⟨w4, hw4⟩ : ∃ x, x = (w3.setCell { block := k, off := 4 } (Value.int IntKind.u8 (bits BinOp.or IntKind.u8 flags 16))) := ⟨_, rfl⟩
    rw [← hw4]
    have hk4 : w4.heap[k]? = some (.cells #[.int .u16 c.src, .int .u16 c.dst, .int .u32 ((c.own + place) % 4294967296), .int .u32 0, .int .u8 (bits BinOp.or IntKind.u8 flags 16), .int .u16 (4096 - (un : Int)), .int .u16 0, .slice none 0 0, .slice va l.length vc] 34 (0, 0)) := by rw [hw4]; exact heap_set HK3.out
    have gk : w3.grownBy w4 (some k) := by rw [hw4]; exact gr_set (gr_refl _ _)
    clear hw4
    have HR4 := hid (gr_keep gk HR3.out (by simp only [ne_eq, Option.some.injEq]; have h1 := HK1.out; have h2 := HS.out; omega))
    have HV4 := hid (Own8.kept_ty HV3.out gk HK3.out (by decide))
    have G4 := hid (gr_new G3.out gk (by have h1 := HK1.out; have h2 := HS.out; omega))
    replace m3 := gk.cell m3 hbk
    replace m12 := gk.cell m12 hbk
    replace r3 := free_of_block hk4 3
    have k4lt := lt_of_block hk4
    have q3 := (cell_of_block hk4 3).trans (show _ = some (Value.int .u32 0) from rfl)
    have HK4 := hid hk4
    clear hk4 gk HR3 HV3 G3 m4 q4 r4 k3lt
    generalize u 0 = x0, u 1 = x1, u 2 = x2, u 3 = x3, u 4 = x4, u 5 = x5, u 6 = x6, u 7 = x7, u 8 = x8, u 9 = x9, u 10 = x10, u 11 = x11, u 12 = x12, u 13 = x13, u 14 = x14, u 15 = x15, u 16 = x16, u 17 = x17, u 18 = x18, u 19 = x19, u 20 = x20, u 21 = x21, u 22 = x22, u 23 = x23
    go_region
    obtain ⟨w5, hw5⟩ : ∃ x, x = (w4.setCell { block := k, off := 3 } (Value.int IntKind.u32 ((c.other + c.seen) % 4294967296))).drew := ⟨_, rfl⟩
    rw [← hw5]
    have hk5 : w5.heap[k]? = some (.cells #[.int .u16 c.src, .int .u16 c.dst, .int .u32 ((c.own + place) % 4294967296), .int .u32 ((c.other + c.seen) % 4294967296), .int .u8 (bits BinOp.or IntKind.u8 flags 16), .int .u16 (4096 - (un : Int)), .int .u16 0, .slice none 0 0, .slice va l.length vc] 34 (0, 0)) := by rw [hw5]; exact heap_set HK4.out
    have gk : w4.grownBy w5 (some k) := by rw [hw5]; exact gr_drew (gr_set (gr_refl _ _))
    clear hw5
    have HR5 := hid (gr_keep gk HR4.out (by simp only [ne_eq, Option.some.injEq]; have h1 := HK1.out; have h2 := HS.out; omega))
    have HV5 := hid (Own8.kept_ty HV4.out gk HK4.out (by decide))
    have G5 := hid (gr_new G4.out gk (by have h1 := HK1.out; have h2 := HS.out; omega))
    clear q3 r3 m3 m12 k4lt gk HR4 HV4 G4 HK4
    have q0 := (cell_of_block hk5 0).trans (show _ = some (Value.int .u16 c.src) from rfl)
    have q1 := (cell_of_block hk5 1).trans (show _ = some (Value.int .u16 c.dst) from rfl)
    have q2 := (cell_of_block hk5 2).trans (show _ = some (Value.int .u32 ((c.own + place) % 4294967296)) from rfl)
    have q3 := (cell_of_block hk5 3).trans (show _ = some (Value.int .u32 ((c.other + c.seen) % 4294967296)) from rfl)
    have q4 := (cell_of_block hk5 4).trans (show _ = some (Value.int .u8 (bits BinOp.or IntKind.u8 flags 16)) from rfl)
    have q5 := (cell_of_block hk5 5).trans (show _ = some (Value.int .u16 (4096 - (un : Int))) from rfl)
    have q6 := (cell_of_block hk5 6).trans (show _ = some (Value.int .u16 0) from rfl)
    have q7 := (cell_of_block hk5 7).trans (show _ = some (Value.slice none 0 0) from rfl)
    have q8 := (cell_of_block hk5 8).trans (show _ = some (Value.slice va l.length vc) from rfl)
    have k5lt := lt_of_block hk5
    have n5lt := lt_of_block HR5.out
    have n0 := (cell_of_block HR5.out 0).trans (show _ = some (Value.int .u16 0) from rfl)
    have z0 := free_of_block HR5.out 0
    have n1 := (cell_of_block HR5.out 1).trans (show _ = some (Value.int .u16 0) from rfl)
    have z1 := free_of_block HR5.out 1
    have n2 := (cell_of_block HR5.out 2).trans (show _ = some (Value.int .u32 0) from rfl)
    have z2 := free_of_block HR5.out 2
    have n3 := (cell_of_block HR5.out 3).trans (show _ = some (Value.int .u32 0) from rfl)
    have z3 := free_of_block HR5.out 3
    have n4 := (cell_of_block HR5.out 4).trans (show _ = some (Value.int .u8 0) from rfl)
    have z4 := free_of_block HR5.out 4
    have n5 := (cell_of_block HR5.out 5).trans (show _ = some (Value.int .u16 0) from rfl)
    have z5 := free_of_block HR5.out 5
    have n6 := (cell_of_block HR5.out 6).trans (show _ = some (Value.int .u16 0) from rfl)
    have z6 := free_of_block HR5.out 6
    have n7 := (cell_of_block HR5.out 7).trans (show _ = some (Value.slice none 0 0) from rfl)
    have z7 := free_of_block HR5.out 7
    have n8 := (cell_of_block HR5.out 8).trans (show _ = some (Value.slice none 0 0) from rfl)
    have z8 := free_of_block HR5.out 8
    clear hk5
    go_wp2_with fail
    clear q0 n0 z0 q1 n1 z1 q2 n2 z2 q3 n3 z3 q4 n4 z4 q5 n5 z5 q6 n6 z6 q7 n7 z7 q8 n8 z8
    have H9 := seg_set9 (.int .u16 c.src) (.int .u16 c.dst) (.int .u32 ((c.own + place) % 4294967296)) (.int .u32 ((c.other + c.seen) % 4294967296)) (.int .u8 (bits BinOp.or IntKind.u8 flags 16)) (.int .u16 (4096 - (un : Int))) (.int .u16 0) (.slice none 0 0) (.slice va l.length vc) HR5.out
    revert H9
    generalize (((((((((w5.setCell _ _).setCell _ _).setCell _ _).setCell _ _).setCell _ _).setCell _ _).setCell _ _).setCell _ _).setCell _ _) = w6
    rintro ⟨hn6, gn⟩
    have e0 := cell_of_block hn6 0
    have e1 := cell_of_block hn6 1
    have e2 := cell_of_block hn6 2
    have e3 := cell_of_block hn6 3
    have e4 := cell_of_block hn6 4
    have e5 := cell_of_block hn6 5
    have e6 := cell_of_block hn6 6
    have e7 := cell_of_block hn6 7
    have e8 := cell_of_block hn6 8
    have hp0 : ¬ c.phase = 0 := by simpa using hp
    refine bodyPost_ret (v := .agg (c.seg place flags un (.slice va l.length vc))) ?_ rfl ⟨_, rfl, Own8.kept_ty HV5.out gn HR5.out (by decide), gr_new G5.out gn (Nat.le_refl _)⟩
    unfold Cn.seg
    rw [if_neg hp0, if_neg hp0]
    simp [results, Try.results23, go_sem, e0, e1, e2, e3, e4, e5, e6, e7, e8]
end Go.Proofs.Ytcgmbeibhingcaa
