/- inet.Write. -/
import Derived.Test.YtjpkmbgpkdomnaaDoorWr2
import Derived.Test.YtjpkmbgpkdomnaaDoorSm5
namespace Go.Proofs.YtjpkmbgpkdomnaaDoor
open Go.RowKit

def hdParts (m x1 x2 x3 x4 x5 : Nat) : List (List UInt8) := [[69, 0], beL 2 m, beL 2 x3, beL 2 16384, [UInt8.ofNat x1, UInt8.ofNat x2, 0, 0], beL 4 x4, beL 4 x5]
def WrPost (w : World) (p : Pk) (e : Ending) (w' : World) : Prop :=
  if 1480 < p.body.length then e = .returned (.tuple #[.slice none 0 0, .int .i64 14]) ∧ w.grownBy w' none
  else ∃ v, e = .returned (.tuple #[v, .int .i64 0]) ∧ Lib.FreshBytes w.heap.size w' v (wrL p) ∧ w.grownBy w' none
set_option maxRecDepth 20000 in
set_option maxHeartbeats 4000000 in
theorem iwrite_any (p : Pk) (vb : Value) (w : World) (hb : Bytes w vb p.body) (ok : p.Ok) :
    Calls Tryd.prog 40 #[p.val vb] w (WrPost w p) := by
  obtain ⟨x1, x2, x3, x4, x5, lb⟩ := p
  obtain ⟨ok1, ok2, ok3, ok4, ok5⟩ := ok
  dsimp only [Pk.val] at *
  have HBd := hid hb
  obtain ⟨ab, cb, rfl, y1, y2, y3⟩ := hb
  clear y3
  have HB := hid (heap_alloc_new w (.cells #[.int .u8 x1, .int .u8 x2, .int .u16 x3, .int .u32 x4, .int .u32 x5, .slice ab lb.length cb] 48))
  have G0 := hid (World.grownBy_alloc w (.cells #[.int .u8 x1, .int .u8 x2, .int .u16 x3, .int .u32 x4, .int .u32 x5, .slice ab lb.length cb] 48) none)
  by_cases hc : 1480 < lb.length
  · have hci : (1480 : Int) < (lb.length : Int) := by omega
    have Hc := hid hc
    clear hc
    go_enter Tryd.func40, Tryd.ntmps40
    go_wp2
    go_ret2
    unfold WrPost
    rw [if_pos Hc.out]
    exact ⟨rfl, by (repeat (first | exact gr_refl _ _ | assumption | refine gr_drew ?_ | refine gr_drewN _ ?_ | refine gr_alloc ?_ _ | refine gr_set ?_ | refine gr_set_new ?_ (by first | omega | (simp; omega))))⟩
  have Hc := hid hc
  have hci : ¬ (1480 : Int) < (lb.length : Int) := by omega
  obtain ⟨m20, hm20⟩ : ∃ m : Nat, m = 20 + lb.length := ⟨_, rfl⟩
  have hmi : IntKind.i64.wrap ((20 : Int) + (lb.length : Int)) = (m20 : Int) := by rw [IntWalk.i64_in _ (by omega)]; omega
  have hmb : (m20 : Int) ≤ 1500 := by omega
  have wu0 : IntKind.u64.wrap (m20 : Int) = (m20 : Int) := IntWalk.u64_in _ (by omega)
  have wu3 : IntKind.u64.wrap (x3 : Int) = (x3 : Int) := IntWalk.u64_in _ (by omega)
  have wu4 : IntKind.u64.wrap (x4 : Int) = (x4 : Int) := IntWalk.u64_in _ (by omega)
  have wu5 : IntKind.u64.wrap (x5 : Int) = (x5 : Int) := IntWalk.u64_in _ (by omega)
  have HM := hid hm20
  have b1 : (x1 : Int) ≤ 255 := by omega
  have b2 : (x2 : Int) ≤ 255 := by omega
  have b3 : (x3 : Int) ≤ 65535 := by omega
  have b4 : (x4 : Int) ≤ 4294967295 := by omega
  have b5 : (x5 : Int) ≤ 4294967295 := by omega
  clear hm20 hc ok1 ok2 ok3 ok4 ok5
  go_enter Tryd.func40, Tryd.ntmps40
  go_wp2_with fail
  have HB' := HB
  generalize hw0 : w.alloc (.cells #[.int .u8 x1, .int .u8 x2, .int .u16 x3, .int .u32 x4, .int .u32 x5, .slice ab lb.length cb] 48) = w0 at *
  obtain ⟨B, hB⟩ : ∃ B, B = w.heap.size := ⟨_, rfl⟩
  rw [← hB] at HB ⊢
  have HBe := hid hB
  clear hB
  refine wp_region_spec2 (by kernel_rfl) (by kernel_rfl) (n := 28) (by kernel_rfl) [some 9, some 10, some 11, some 12, some 13, some 14, some 15, some 16, some 17, some 18, some 19, some 20, some 21, some 22, some 23, some 24, some 25, some 26, some 27, some 28, some 29, some 30, some 31, some 32, some 33, some 34, some 35, some 4] (by kernel_rfl) _ (fun u => (by simp only [fill, List.zipIdx_cons, List.zipIdx_nil, List.foldl_cons, List.foldl_nil, Act.put, List.setIfInBounds_toArray, List.set_cons_zero, List.set_cons_succ, Nat.zero_add, Nat.reduceAdd]; exact rfl)) (by kernel_rfl)
    (all_succ (all_succ (all_succ (all_succ (all_succ (all_succ (all_succ (all_succ (all_succ (all_succ (all_succ (all_succ (all_succ (all_succ (all_succ (all_succ (all_succ (all_succ (all_succ (all_succ (all_succ (all_succ (all_succ (all_succ (all_succ (all_succ (all_succ (all_succ (all_zero _) (fun u v => by kernel_rfl)) (fun u v => by kernel_rfl)) (fun u v => by kernel_rfl)) (fun u v => by kernel_rfl)) (fun u v => by kernel_rfl)) (fun u v => by kernel_rfl)) (fun u v => by kernel_rfl)) (fun u v => by kernel_rfl)) (fun u v => by kernel_rfl)) (fun u v => by kernel_rfl)) (fun u v => by kernel_rfl)) (fun u v => by kernel_rfl)) (fun u v => by kernel_rfl)) (fun u v => by kernel_rfl)) (fun u v => by kernel_rfl)) (fun u v => by kernel_rfl)) (fun u v => by kernel_rfl)) (fun u v => by kernel_rfl)) (fun u v => by kernel_rfl)) (fun u v => by kernel_rfl)) (fun u v => by kernel_rfl)) (fun u v => by kernel_rfl)) (fun u v => by kernel_rfl)) (fun u v => by kernel_rfl)) (fun u v => by kernel_rfl)) (fun u v => by kernel_rfl)) (fun u v => by kernel_rfl)) (fun u v => by kernel_rfl))
    (fun i v w => match i with | 0 => Bytes w v [69, 0] | 1 => v = .pointer (some ⟨B, 5, none⟩) | 2 => v = .slice ab lb.length cb | 3 => v = .int .i64 (lb.length : Int) | 4 => v = .int .i64 (m20 : Int) | 5 => v = .int .u64 (m20 : Int) | 6 => Bytes w v (beL 2 m20) | 7 => v = .pointer (some ⟨B, 2, none⟩) | 8 => v = .int .u16 (x3 : Int) | 9 => v = .int .u64 (x3 : Int) | 10 => Bytes w v (beL 2 x3) | 11 => Bytes w v (beL 2 16384) | 12 => v = .pointer (some ⟨B, 0, none⟩) | 13 => v = .int .u8 (x1 : Int) | 14 => v = .pointer (some ⟨B, 1, none⟩) | 15 => v = .int .u8 (x2 : Int) | 16 => Bytes w v [UInt8.ofNat x1, UInt8.ofNat x2, 0, 0] | 17 => v = .pointer (some ⟨B, 3, none⟩) | 18 => v = .int .u32 (x4 : Int) | 19 => v = .int .u64 (x4 : Int) | 20 => Bytes w v (beL 4 x4) | 21 => v = .pointer (some ⟨B, 4, none⟩) | 22 => v = .int .u32 (x5 : Int) | 23 => v = .int .u64 (x5 : Int) | 24 => Bytes w v (beL 4 x5) | 25 => ∃ b vs, v = .slice (some ⟨b, 0, none⟩) 7 7 ∧ Lib.PartsAt w ⟨b, 0, none⟩ vs (hdParts m20 x1 x2 x3 x4 x5) | 26 => Lib.FreshBytes w0.heap.size w v (Lib.join (hdParts m20 x1 x2 x3 x4 x5) []) | 27 => Lib.FreshBytes w0.heap.size w v (Lib.join (hdParts m20 x1 x2 x3 x4 x5) []) | _ => True)
    (all_succ (all_succ (all_succ (all_succ (all_succ (all_succ (all_succ (all_succ (all_succ (all_succ (all_succ (all_succ (all_succ (all_succ (all_succ (all_succ (all_succ (all_succ (all_succ (all_succ (all_succ (all_succ (all_succ (all_succ (all_succ (all_succ (all_succ (all_succ (all_zero _) ?m0) ?m1) ?m2) ?m3) ?m4) ?m5) ?m6) ?m7) ?m8) ?m9) ?m10) ?m11) ?m12) ?m13) ?m14) ?m15) ?m16) ?m17) ?m18) ?m19) ?m20) ?m21) ?m22) ?m23) ?m24) ?m25) ?m26) ?m27)
    [[], [], [1], [2], [3], [4], [5], [], [7], [8], [9], [], [], [12], [], [14], [13, 15], [], [17], [18], [19], [], [21], [22], [23], [0, 6, 10, 11, 16, 20, 24], [25], [26]] (by kernel_rfl)
    ⟨?o0, ?o1, ?o2, ?o3, ?o4, ?o5, ?o6, ?o7, ?o8, ?o9, ?o10, ?o11, ?o12, ?o13, ?o14, ?o15, ?o16, ?o17, ?o18, ?o19, ?o20, ?o21, ?o22, ?o23, ?o24, ?o25, ?o26, ?o27, trivial⟩ ?done
  case m0 => intro v w w' h g; first | exact h | exact Bytes.grown h g | exact fresh_grown h g | (obtain ⟨b, vs, e, hp⟩ := h; exact ⟨b, vs, e, parts_grown hp g⟩)
  case m1 => intro v w w' h g; first | exact h | exact Bytes.grown h g | exact fresh_grown h g | (obtain ⟨b, vs, e, hp⟩ := h; exact ⟨b, vs, e, parts_grown hp g⟩)
  case m2 => intro v w w' h g; first | exact h | exact Bytes.grown h g | exact fresh_grown h g | (obtain ⟨b, vs, e, hp⟩ := h; exact ⟨b, vs, e, parts_grown hp g⟩)
  case m3 => intro v w w' h g; first | exact h | exact Bytes.grown h g | exact fresh_grown h g | (obtain ⟨b, vs, e, hp⟩ := h; exact ⟨b, vs, e, parts_grown hp g⟩)
  case m4 => intro v w w' h g; first | exact h | exact Bytes.grown h g | exact fresh_grown h g | (obtain ⟨b, vs, e, hp⟩ := h; exact ⟨b, vs, e, parts_grown hp g⟩)
  case m5 => intro v w w' h g; first | exact h | exact Bytes.grown h g | exact fresh_grown h g | (obtain ⟨b, vs, e, hp⟩ := h; exact ⟨b, vs, e, parts_grown hp g⟩)
  case m6 => intro v w w' h g; first | exact h | exact Bytes.grown h g | exact fresh_grown h g | (obtain ⟨b, vs, e, hp⟩ := h; exact ⟨b, vs, e, parts_grown hp g⟩)
  case m7 => intro v w w' h g; first | exact h | exact Bytes.grown h g | exact fresh_grown h g | (obtain ⟨b, vs, e, hp⟩ := h; exact ⟨b, vs, e, parts_grown hp g⟩)
  case m8 => intro v w w' h g; first | exact h | exact Bytes.grown h g | exact fresh_grown h g | (obtain ⟨b, vs, e, hp⟩ := h; exact ⟨b, vs, e, parts_grown hp g⟩)
  case m9 => intro v w w' h g; first | exact h | exact Bytes.grown h g | exact fresh_grown h g | (obtain ⟨b, vs, e, hp⟩ := h; exact ⟨b, vs, e, parts_grown hp g⟩)
  case m10 => intro v w w' h g; first | exact h | exact Bytes.grown h g | exact fresh_grown h g | (obtain ⟨b, vs, e, hp⟩ := h; exact ⟨b, vs, e, parts_grown hp g⟩)
  case m11 => intro v w w' h g; first | exact h | exact Bytes.grown h g | exact fresh_grown h g | (obtain ⟨b, vs, e, hp⟩ := h; exact ⟨b, vs, e, parts_grown hp g⟩)
  case m12 => intro v w w' h g; first | exact h | exact Bytes.grown h g | exact fresh_grown h g | (obtain ⟨b, vs, e, hp⟩ := h; exact ⟨b, vs, e, parts_grown hp g⟩)
  case m13 => intro v w w' h g; first | exact h | exact Bytes.grown h g | exact fresh_grown h g | (obtain ⟨b, vs, e, hp⟩ := h; exact ⟨b, vs, e, parts_grown hp g⟩)
  case m14 => intro v w w' h g; first | exact h | exact Bytes.grown h g | exact fresh_grown h g | (obtain ⟨b, vs, e, hp⟩ := h; exact ⟨b, vs, e, parts_grown hp g⟩)
  case m15 => intro v w w' h g; first | exact h | exact Bytes.grown h g | exact fresh_grown h g | (obtain ⟨b, vs, e, hp⟩ := h; exact ⟨b, vs, e, parts_grown hp g⟩)
  case m16 => intro v w w' h g; first | exact h | exact Bytes.grown h g | exact fresh_grown h g | (obtain ⟨b, vs, e, hp⟩ := h; exact ⟨b, vs, e, parts_grown hp g⟩)
  case m17 => intro v w w' h g; first | exact h | exact Bytes.grown h g | exact fresh_grown h g | (obtain ⟨b, vs, e, hp⟩ := h; exact ⟨b, vs, e, parts_grown hp g⟩)
  case m18 => intro v w w' h g; first | exact h | exact Bytes.grown h g | exact fresh_grown h g | (obtain ⟨b, vs, e, hp⟩ := h; exact ⟨b, vs, e, parts_grown hp g⟩)
  case m19 => intro v w w' h g; first | exact h | exact Bytes.grown h g | exact fresh_grown h g | (obtain ⟨b, vs, e, hp⟩ := h; exact ⟨b, vs, e, parts_grown hp g⟩)
  case m20 => intro v w w' h g; first | exact h | exact Bytes.grown h g | exact fresh_grown h g | (obtain ⟨b, vs, e, hp⟩ := h; exact ⟨b, vs, e, parts_grown hp g⟩)
  case m21 => intro v w w' h g; first | exact h | exact Bytes.grown h g | exact fresh_grown h g | (obtain ⟨b, vs, e, hp⟩ := h; exact ⟨b, vs, e, parts_grown hp g⟩)
  case m22 => intro v w w' h g; first | exact h | exact Bytes.grown h g | exact fresh_grown h g | (obtain ⟨b, vs, e, hp⟩ := h; exact ⟨b, vs, e, parts_grown hp g⟩)
  case m23 => intro v w w' h g; first | exact h | exact Bytes.grown h g | exact fresh_grown h g | (obtain ⟨b, vs, e, hp⟩ := h; exact ⟨b, vs, e, parts_grown hp g⟩)
  case m24 => intro v w w' h g; first | exact h | exact Bytes.grown h g | exact fresh_grown h g | (obtain ⟨b, vs, e, hp⟩ := h; exact ⟨b, vs, e, parts_grown hp g⟩)
  case m25 => intro v w w' h g; first | exact h | exact Bytes.grown h g | exact fresh_grown h g | (obtain ⟨b, vs, e, hp⟩ := h; exact ⟨b, vs, e, parts_grown hp g⟩)
  case m26 => intro v w w' h g; first | exact h | exact Bytes.grown h g | exact fresh_grown h g | (obtain ⟨b, vs, e, hp⟩ := h; exact ⟨b, vs, e, parts_grown hp g⟩)
  case m27 => intro v w w' h g; first | exact h | exact Bytes.grown h g | exact fresh_grown h g | (obtain ⟨b, vs, e, hp⟩ := h; exact ⟨b, vs, e, parts_grown hp g⟩)
  case o0 =>
    intro u w g hd K hK
    clear hd
    simp only [Act.put, List.setIfInBounds_toArray, List.set_cons_zero, List.set_cons_succ] at hK
    go_simp
    refine hK _ _ (own8_of (l := [69, 0]) (heap_alloc_new w _) (Nat.zero_le _) rfl rfl (by simp [maxLen])).bytes (gr_alloc (gr_refl _ _) _)
  case o1 =>
    intro u w g hd K hK
    clear hd
    simp only [Act.put, List.setIfInBounds_toArray, List.set_cons_zero, List.set_cons_succ] at hK
    go_simp
    exact hK _ _ rfl (gr_refl _ _)
  case o2 =>
    intro u w g hd K hK
    have h1 : (u 1) = .pointer (some ⟨B, 5, none⟩) := hd 1 (by simp)
    clear hd
    simp only [Act.put, List.setIfInBounds_toArray, List.set_cons_zero, List.set_cons_succ] at hK
    have c := g.cell (cell_of_block HB.out 5) (by simp)
    have c' := c.trans (show _ = some (Value.slice ab lb.length cb) from rfl)
    clear c
    simp only [h1] at hK ⊢
    go_simp
    exact hK _ _ rfl (gr_refl _ _)
  case o3 =>
    intro u w g hd K hK
    have h2 : (u 2) = .slice ab lb.length cb := hd 2 (by simp)
    clear hd
    simp only [Act.put, List.setIfInBounds_toArray, List.set_cons_zero, List.set_cons_succ] at hK
    simp only [h2] at hK ⊢
    go_simp
    exact hK _ _ rfl (gr_refl _ _)
  case o4 =>
    intro u w g hd K hK
    have h3 : (u 3) = .int .i64 (lb.length : Int) := hd 3 (by simp)
    clear hd
    simp only [Act.put, List.setIfInBounds_toArray, List.set_cons_zero, List.set_cons_succ] at hK
    simp only [h3] at hK ⊢
    go_simp
    exact hK _ _ rfl (gr_refl _ _)
  case o5 =>
    intro u w g hd K hK
    have h4 : (u 4) = .int .i64 (m20 : Int) := hd 4 (by simp)
    clear hd
    simp only [Act.put, List.setIfInBounds_toArray, List.set_cons_zero, List.set_cons_succ] at hK
    simp only [h4] at hK ⊢
    go_simp
    exact hK _ _ rfl (gr_refl _ _)
  case o6 =>
    intro u w g hd K hK
    have h5 : (u 5) = .int .u64 (m20 : Int) := hd 5 (by simp)
    clear hd
    simp only [Act.put, List.setIfInBounds_toArray, List.set_cons_zero, List.set_cons_succ] at hK
    simp only [h5] at hK ⊢
    go_simp
    refine (onum_any 2 (by omega) (by omega) m20 (by omega) w).mono ?_
    rintro e w' ⟨v, rfl, -, hv, g'⟩
    exact hK v w' hv g'
  case o7 =>
    intro u w g hd K hK
    clear hd
    simp only [Act.put, List.setIfInBounds_toArray, List.set_cons_zero, List.set_cons_succ] at hK
    go_simp
    exact hK _ _ rfl (gr_refl _ _)
  case o8 =>
    intro u w g hd K hK
    have h7 : (u 7) = .pointer (some ⟨B, 2, none⟩) := hd 7 (by simp)
    clear hd
    simp only [Act.put, List.setIfInBounds_toArray, List.set_cons_zero, List.set_cons_succ] at hK
    have c := g.cell (cell_of_block HB.out 2) (by simp)
    have c' := c.trans (show _ = some (Value.int .u16 x3) from rfl)
    clear c
    simp only [h7] at hK ⊢
    go_simp
    exact hK _ _ rfl (gr_refl _ _)
  case o9 =>
    intro u w g hd K hK
    have h8 : (u 8) = .int .u16 (x3 : Int) := hd 8 (by simp)
    clear hd
    simp only [Act.put, List.setIfInBounds_toArray, List.set_cons_zero, List.set_cons_succ] at hK
    simp only [h8] at hK ⊢
    go_simp
    exact hK _ _ rfl (gr_refl _ _)
  case o10 =>
    intro u w g hd K hK
    have h9 : (u 9) = .int .u64 (x3 : Int) := hd 9 (by simp)
    clear hd
    simp only [Act.put, List.setIfInBounds_toArray, List.set_cons_zero, List.set_cons_succ] at hK
    simp only [h9] at hK ⊢
    go_simp
    refine (onum_any 2 (by omega) (by omega) x3 (by omega) w).mono ?_
    rintro e w' ⟨v, rfl, -, hv, g'⟩
    exact hK v w' hv g'
  case o11 =>
    intro u w g hd K hK
    clear hd
    simp only [Act.put, List.setIfInBounds_toArray, List.set_cons_zero, List.set_cons_succ] at hK
    go_simp
    refine (onum_any 2 (by omega) (by omega) 16384 (by omega) w).mono ?_
    rintro e w' ⟨v, rfl, -, hv, g'⟩
    exact hK v w' hv g'
  case o12 =>
    intro u w g hd K hK
    clear hd
    simp only [Act.put, List.setIfInBounds_toArray, List.set_cons_zero, List.set_cons_succ] at hK
    go_simp
    exact hK _ _ rfl (gr_refl _ _)
  case o13 =>
    intro u w g hd K hK
    have h12 : (u 12) = .pointer (some ⟨B, 0, none⟩) := hd 12 (by simp)
    clear hd
    simp only [Act.put, List.setIfInBounds_toArray, List.set_cons_zero, List.set_cons_succ] at hK
    have c := g.cell (cell_of_block HB.out 0) (by simp)
    have c' := c.trans (show _ = some (Value.int .u8 x1) from rfl)
    clear c
    simp only [h12] at hK ⊢
    go_simp
    exact hK _ _ rfl (gr_refl _ _)
  case o14 =>
    intro u w g hd K hK
    clear hd
    simp only [Act.put, List.setIfInBounds_toArray, List.set_cons_zero, List.set_cons_succ] at hK
    go_simp
    exact hK _ _ rfl (gr_refl _ _)
  case o15 =>
    intro u w g hd K hK
    have h14 : (u 14) = .pointer (some ⟨B, 1, none⟩) := hd 14 (by simp)
    clear hd
    simp only [Act.put, List.setIfInBounds_toArray, List.set_cons_zero, List.set_cons_succ] at hK
    have c := g.cell (cell_of_block HB.out 1) (by simp)
    have c' := c.trans (show _ = some (Value.int .u8 x2) from rfl)
    clear c
    simp only [h14] at hK ⊢
    go_simp
    exact hK _ _ rfl (gr_refl _ _)
  case o16 =>
    intro u w g hd K hK
    have h13 : (u 13) = .int .u8 (x1 : Int) := hd 13 (by simp)
    have h15 : (u 15) = .int .u8 (x2 : Int) := hd 15 (by simp)
    clear hd
    simp only [Act.put, List.setIfInBounds_toArray, List.set_cons_zero, List.set_cons_succ] at hK
    simp only [h13, h15] at hK ⊢
    go_simp
    refine hK _ _ (own8_of (l := [UInt8.ofNat x1, UInt8.ofNat x2, 0, 0]) (heap_alloc_new w _) (Nat.zero_le _) rfl (by simp [bv]; omega) (by simp [maxLen])).bytes (gr_alloc (gr_refl _ _) _)
  case o17 =>
    intro u w g hd K hK
    clear hd
    simp only [Act.put, List.setIfInBounds_toArray, List.set_cons_zero, List.set_cons_succ] at hK
    go_simp
    exact hK _ _ rfl (gr_refl _ _)
  case o18 =>
    intro u w g hd K hK
    have h17 : (u 17) = .pointer (some ⟨B, 3, none⟩) := hd 17 (by simp)
    clear hd
    simp only [Act.put, List.setIfInBounds_toArray, List.set_cons_zero, List.set_cons_succ] at hK
    have c := g.cell (cell_of_block HB.out 3) (by simp)
    have c' := c.trans (show _ = some (Value.int .u32 x4) from rfl)
    clear c
    simp only [h17] at hK ⊢
    go_simp
    exact hK _ _ rfl (gr_refl _ _)
  case o19 =>
    intro u w g hd K hK
    have h18 : (u 18) = .int .u32 (x4 : Int) := hd 18 (by simp)
    clear hd
    simp only [Act.put, List.setIfInBounds_toArray, List.set_cons_zero, List.set_cons_succ] at hK
    simp only [h18] at hK ⊢
    go_simp
    exact hK _ _ rfl (gr_refl _ _)
  case o20 =>
    intro u w g hd K hK
    have h19 : (u 19) = .int .u64 (x4 : Int) := hd 19 (by simp)
    clear hd
    simp only [Act.put, List.setIfInBounds_toArray, List.set_cons_zero, List.set_cons_succ] at hK
    simp only [h19] at hK ⊢
    go_simp
    refine (onum_any 4 (by omega) (by omega) x4 (by omega) w).mono ?_
    rintro e w' ⟨v, rfl, -, hv, g'⟩
    exact hK v w' hv g'
  case o21 =>
    intro u w g hd K hK
    clear hd
    simp only [Act.put, List.setIfInBounds_toArray, List.set_cons_zero, List.set_cons_succ] at hK
    go_simp
    exact hK _ _ rfl (gr_refl _ _)
  case o22 =>
    intro u w g hd K hK
    have h21 : (u 21) = .pointer (some ⟨B, 4, none⟩) := hd 21 (by simp)
    clear hd
    simp only [Act.put, List.setIfInBounds_toArray, List.set_cons_zero, List.set_cons_succ] at hK
    have c := g.cell (cell_of_block HB.out 4) (by simp)
    have c' := c.trans (show _ = some (Value.int .u32 x5) from rfl)
    clear c
    simp only [h21] at hK ⊢
    go_simp
    exact hK _ _ rfl (gr_refl _ _)
  case o23 =>
    intro u w g hd K hK
    have h22 : (u 22) = .int .u32 (x5 : Int) := hd 22 (by simp)
    clear hd
    simp only [Act.put, List.setIfInBounds_toArray, List.set_cons_zero, List.set_cons_succ] at hK
    simp only [h22] at hK ⊢
    go_simp
    exact hK _ _ rfl (gr_refl _ _)
  case o24 =>
    intro u w g hd K hK
    have h23 : (u 23) = .int .u64 (x5 : Int) := hd 23 (by simp)
    clear hd
    simp only [Act.put, List.setIfInBounds_toArray, List.set_cons_zero, List.set_cons_succ] at hK
    simp only [h23] at hK ⊢
    go_simp
    refine (onum_any 4 (by omega) (by omega) x5 (by omega) w).mono ?_
    rintro e w' ⟨v, rfl, -, hv, g'⟩
    exact hK v w' hv g'
  case o25 =>
    intro u w g hd K hK
    have h0 : Bytes w (u 0) [69, 0] := hd 0 (by simp)
    have h6 : Bytes w (u 6) (beL 2 m20) := hd 6 (by simp)
    have h10 : Bytes w (u 10) (beL 2 x3) := hd 10 (by simp)
    have h11 : Bytes w (u 11) (beL 2 16384) := hd 11 (by simp)
    have h16 : Bytes w (u 16) [UInt8.ofNat x1, UInt8.ofNat x2, 0, 0] := hd 16 (by simp)
    have h20 : Bytes w (u 20) (beL 4 x4) := hd 20 (by simp)
    have h24 : Bytes w (u 24) (beL 4 x5) := hd 24 (by simp)
    clear hd
    simp only [Act.put, List.setIfInBounds_toArray, List.set_cons_zero, List.set_cons_succ] at hK
    have H0 := hid h0
    obtain ⟨a0, c0, e0, -, -, -⟩ := h0
    rw [e0] at H0
    have H6 := hid h6
    obtain ⟨a6, c6, e6, -, -, -⟩ := h6
    rw [e6] at H6
    have H10 := hid h10
    obtain ⟨a10, c10, e10, -, -, -⟩ := h10
    rw [e10] at H10
    have H11 := hid h11
    obtain ⟨a11, c11, e11, -, -, -⟩ := h11
    rw [e11] at H11
    have H16 := hid h16
    obtain ⟨a16, c16, e16, -, -, -⟩ := h16
    rw [e16] at H16
    have H20 := hid h20
    obtain ⟨a20, c20, e20, -, -, -⟩ := h20
    rw [e20] at H20
    have H24 := hid h24
    obtain ⟨a24, c24, e24, -, -, -⟩ := h24
    rw [e24] at H24
    simp only [e0, e6, e10, e11, e16, e20, e24] at hK ⊢
    clear e0 e6 e10 e11 e16 e20 e24
    go_simp
    have ga := World.grownBy_alloc w (.cells #[.slice a0 [(69 : UInt8), 0].length c0, .slice a6 (beL 2 m20).length c6, .slice a10 (beL 2 x3).length c10, .slice a11 (beL 2 16384).length c11, .slice a16 [UInt8.ofNat x1, UInt8.ofNat x2, 0, 0].length c16, .slice a20 (beL 4 x4).length c20, .slice a24 (beL 4 x5).length c24] 45) none
    exact hK _ _ ⟨w.heap.size, [.slice a0 [(69 : UInt8), 0].length c0, .slice a6 (beL 2 m20).length c6, .slice a10 (beL 2 x3).length c10, .slice a11 (beL 2 16384).length c11, .slice a16 [UInt8.ofNat x1, UInt8.ofNat x2, 0, 0].length c16, .slice a20 (beL 4 x4).length c20, .slice a24 (beL 4 x5).length c24], rfl, parts_build (heap_alloc_new w _) ⟨H0.out.grown ga, H6.out.grown ga, H10.out.grown ga, H11.out.grown ga, H16.out.grown ga, H20.out.grown ga, H24.out.grown ga, trivial⟩⟩ ga
  case o26 =>
    intro u w g hd K hK
    have h25 : ∃ b vs, (u 25) = .slice (some ⟨b, 0, none⟩) 7 7 ∧ Lib.PartsAt w ⟨b, 0, none⟩ vs (hdParts m20 x1 x2 x3 x4 x5) := hd 25 (by simp)
    clear hd
    simp only [Act.put, List.setIfInBounds_toArray, List.set_cons_zero, List.set_cons_succ] at hK
    obtain ⟨b, vs, e25, hP⟩ := h25
    simp only [e25] at hK ⊢
    clear e25
    go_simp
    refine (join_many b 0 7 7 (hdParts m20 x1 x2 x3 x4 x5) vs w rfl (by omega) hP (by omega) (by omega) (by simp [hdParts, Lib.lens, beL_len])).mono ?_
    rintro e w' ⟨v, rfl, hf, g'⟩
    exact hK v w' (fresh_base hf g.size) g'
  case o27 =>
    intro u w g hd K hK
    have h26 : Lib.FreshBytes w0.heap.size w (u 26) (Lib.join (hdParts m20 x1 x2 x3 x4 x5) []) := hd 26 (by simp)
    clear hd
    simp only [Act.put, List.setIfInBounds_toArray, List.set_cons_zero, List.set_cons_succ] at hK
    go_simp
    exact hK _ _ h26 (gr_refl _ _)
  case done =>
    intro u w hS g
    have s0 : Bytes w (u 0) [69, 0] := hS 0 (by decide)
    have s1 : (u 1) = .pointer (some ⟨B, 5, none⟩) := hS 1 (by decide)
    have s2 : (u 2) = .slice ab lb.length cb := hS 2 (by decide)
    have s3 : (u 3) = .int .i64 (lb.length : Int) := hS 3 (by decide)
    have s4 : (u 4) = .int .i64 (m20 : Int) := hS 4 (by decide)
    have s5 : (u 5) = .int .u64 (m20 : Int) := hS 5 (by decide)
    have s6 : Bytes w (u 6) (beL 2 m20) := hS 6 (by decide)
    have s7 : (u 7) = .pointer (some ⟨B, 2, none⟩) := hS 7 (by decide)
    have s8 : (u 8) = .int .u16 (x3 : Int) := hS 8 (by decide)
    have s9 : (u 9) = .int .u64 (x3 : Int) := hS 9 (by decide)
    have s10 : Bytes w (u 10) (beL 2 x3) := hS 10 (by decide)
    have s11 : Bytes w (u 11) (beL 2 16384) := hS 11 (by decide)
    have s12 : (u 12) = .pointer (some ⟨B, 0, none⟩) := hS 12 (by decide)
    have s13 : (u 13) = .int .u8 (x1 : Int) := hS 13 (by decide)
    have s14 : (u 14) = .pointer (some ⟨B, 1, none⟩) := hS 14 (by decide)
    have s15 : (u 15) = .int .u8 (x2 : Int) := hS 15 (by decide)
    have s16 : Bytes w (u 16) [UInt8.ofNat x1, UInt8.ofNat x2, 0, 0] := hS 16 (by decide)
    have s17 : (u 17) = .pointer (some ⟨B, 3, none⟩) := hS 17 (by decide)
    have s18 : (u 18) = .int .u32 (x4 : Int) := hS 18 (by decide)
    have s19 : (u 19) = .int .u64 (x4 : Int) := hS 19 (by decide)
    have s20 : Bytes w (u 20) (beL 4 x4) := hS 20 (by decide)
    have s21 : (u 21) = .pointer (some ⟨B, 4, none⟩) := hS 21 (by decide)
    have s22 : (u 22) = .int .u32 (x5 : Int) := hS 22 (by decide)
    have s23 : (u 23) = .int .u64 (x5 : Int) := hS 23 (by decide)
    have s24 : Bytes w (u 24) (beL 4 x5) := hS 24 (by decide)
    have s25 : ∃ b vs, (u 25) = .slice (some ⟨b, 0, none⟩) 7 7 ∧ Lib.PartsAt w ⟨b, 0, none⟩ vs (hdParts m20 x1 x2 x3 x4 x5) := hS 25 (by decide)
    have s26 : Lib.FreshBytes w0.heap.size w (u 26) (Lib.join (hdParts m20 x1 x2 x3 x4 x5) []) := hS 26 (by decide)
    have s27 : Lib.FreshBytes w0.heap.size w (u 27) (Lib.join (hdParts m20 x1 x2 x3 x4 x5) []) := hS 27 (by decide)
    clear hS
    have HJ : Lib.join (hdParts m20 x1 x2 x3 x4 x5) [] = hdF ⟨x1, x2, x3, x4, x5, lb⟩ 16384 0 := by
      rw [HM.out]; simp [Lib.join, List.intercalate, hdParts, hdF, beL]
    rw [HJ] at s27
    have hln : (hdF ⟨x1, x2, x3, x4, x5, lb⟩ 16384 0).length = 20 := hdF_len _ _ _
    obtain ⟨gh, ch, e27, q1, q2, q3, q4, q5⟩ := fresh_cells s27
    rw [hln] at e27 q2 q4 q5
    have Q4 := hid q4
    have Q5 := hid q5
    have HH := hid (bytes_set (w := w) hln q2 q3 q4)
    have Q3 := hid q3
    have q3' : ch ≤ 9223372036854775807 := q3
    rw [e27]
    clear s0 s1 s2 s3 s4 s5 s6 s7 s8 s9 s10 s11 s12 s13 s14 s15 s16 s17 s18 s19 s20 s21 s22 s23 s24 s25 s26 s27 e27 q4 q5 HJ hln q3
    generalize u 0 = v0, u 1 = v1, u 2 = v2, u 3 = v3, u 4 = v4, u 5 = v5, u 6 = v6, u 7 = v7, u 8 = v8, u 9 = v9
    clear wu0 wu3 wu4 wu5 hmi hmb b1 b2 b3 b4 b5
    have q2i : (20 : Int) ≤ (ch : Int) := by omega
    have GW0 := hid g
    have Q1 := hid q1
    clear g q1
    have HSUM := hid (fun (W : World) (b : Nat) (gg : w.grownBy W none) (hc : W.cell? ⟨b, 0, none⟩ = some (.slice (some ⟨gh, 0, none⟩) 20 ch)) => sum_one b 0 1 _ _ W hc (HH.out.grown gg) (by rw [hdF_len]; omega))
    have hsle : sum16 (hdF ⟨x1, x2, x3, x4, x5, lb⟩ 16384 0) ≤ 65535 := sum16_bd _
    have HDS := hid (show hdS ⟨x1, x2, x3, x4, x5, lb⟩ 16384 = hdF ⟨x1, x2, x3, x4, x5, lb⟩ 16384 (sum16 (hdF ⟨x1, x2, x3, x4, x5, lb⟩ 16384 0)) from rfl)
    generalize sum16 (hdF ⟨x1, x2, x3, x4, x5, lb⟩ 16384 0) = sm at HSUM hsle HDS
    have wsm : IntKind.u64.wrap (sm : Int) = (sm : Int) := IntWalk.u64_in _ (by omega)
    obtain ⟨x, y, hxy, hset⟩ := hdF_copied ⟨x1, x2, x3, x4, x5, lb⟩ 16384 sm
    have HNUM := hid (fun W => onum_two sm hsle x y hxy W)
    have HSET := hid hset
    have hone := hid (show ∀ v ∈ [bv x, bv y], v.oneCell' = true from fun v hv => by simp at hv; rcases hv with rfl | rfl <;> rfl)
    clear hsle hxy hset
    have hch : ¬ ch = 10 := by omega
    have hchi : (10 : Int) < (ch : Int) := by omega
    go_wp2_with fail
    go_region_law (first
      | (go_simp; go_at_call 55; refine (HSUM.out _ w.heap.size (by (repeat (first | exact gr_refl _ _ | assumption | refine gr_drew ?_ | refine gr_drewN _ ?_ | refine gr_alloc ?_ _ | refine gr_set ?_ | refine gr_set_new ?_ (by first | omega | (simp; omega))))) ((cell_of_block (heap_alloc_new w.drew (.cells #[.slice (some ⟨gh, 0, none⟩) 20 ch] 45)) 0).trans rfl)).mono ?_; rintro e w2 ⟨rfl, g2⟩; have GW2 := gr_trans (by (repeat (first | exact gr_refl _ _ | assumption | refine gr_drew ?_ | refine gr_drewN _ ?_ | refine gr_alloc ?_ _ | refine gr_set ?_ | refine gr_set_new ?_ (by first | omega | (simp; omega)))) : w.grownBy _ none) g2)
      | (go_simp; go_at_call 45; refine (HNUM.out _).mono ?_; rintro e w3 ⟨bn, on, cn, rfl, n4, g3⟩; have GW3 := hid (gr_trans GW2 g3))
      | (refine step_copy_cells rfl (.tmp 37) (.tmp 42) rfl gh 10 10 (ch - 10) ⟨bn, on, none⟩ 2 cn [bv x, bv y] rfl rfl rfl n4 (fun j hj => by have : j < 2 := hj; rw [GW3.out.cell (Q4.out (10 + j) (by omega)) (by simp)]; rfl) (fun j hj => by have : j < 2 := hj; exact frozen_grown GW3.out (Q4.out (10 + j) (by omega)) (Q5.out (10 + j) (by omega))) hone.out ?_))
    all_goals
      have hc5 := head_copied (x := x) (y := y) (hdF_len ⟨x1, x2, x3, x4, x5, lb⟩ 16384 0) (fun i hi => GW3.out.cell (Q4.out i hi) (by simp))
      rw [HSET.out, ← HDS.out] at hc5
      have HHS := hid (bytes_set (by rw [HDS.out]; exact hdF_len _ _ _) q2 Q3.out hc5)
      have hB5 := ((cell_of_block HB.out 5).trans (show _ = some (Value.slice ab lb.length cb) from rfl))
      have hBlt := lt_of_block HB.out
      have hBg : B ≠ gh := by have := Q1.out; omega
      have GWc := setCells_grown gh [bv x, bv y] 10 w3
      have HBF := hid ((((HBd.out.grown G0.out).grown GW0.out).grown GW3.out).kept GWc (fun b o e hl => by
        obtain ⟨b', o', e2, hc⟩ := HBd.out.cellAt hl
        rw [e] at e2
        simp only [Option.some.injEq, Addr.mk.injEq, and_true] at e2
        obtain ⟨rfl, rfl⟩ := e2
        have h1 := World.block_lt_of_cell? _ _ (hc 0 hl)
        have h2 := G0.out.size
        have h3 := Q1.out
        have h4 : b < _ := h1
        omega))
      have c5 := GWc.cell ((gr_trans GW0.out GW3.out).cell hB5 (by simp)) (by simp; exact hBg)
      have GWT := hid (gr_new (gr_trans (gr_trans G0.out GW0.out) GW3.out) GWc (Nat.le_trans G0.out.size Q1.out))
      clear GWc hc5 hB5 hBlt hBg
      generalize w3.setCells gh 10 [bv x, bv y] = w5 at *
      go_wp2_with fail
      have ga := World.grownBy_alloc w5 (.cells #[.slice (some ⟨gh, 0, none⟩) 20 ch, .slice ab lb.length cb] 45) none
      refine (join_many w5.heap.size 0 2 2 [hdS ⟨x1, x2, x3, x4, x5, lb⟩ 16384, lb] [.slice (some ⟨gh, 0, none⟩) 20 ch, .slice ab lb.length cb] _ rfl (by omega) (parts_build (heap_alloc_new w5 _) ⟨HHS.out.grown ga, HBF.out.grown ga, trivial⟩) (by omega) (by omega) (by simp [Lib.lens, hdS, hdF_len]; omega)).mono ?_
      rintro e w9 ⟨v, rfl, hf, g9⟩
      have hsz9 := Nat.le_trans GWT.out.size ga.size
      have GW9 := hid (gr_trans (gr_trans GWT.out ga) g9)
      rw [wr_join ⟨x1, x2, x3, x4, x5, lb⟩ 16384] at hf
      have HF9 := hid (fresh_base hf hsz9)
      clear hf hsz9 g9 ga
      go_wp2
      go_ret2
      unfold WrPost
      rw [if_neg Hc.out]
      exact ⟨v, rfl, HF9.out, GW9.out⟩
end Go.Proofs.YtjpkmbgpkdomnaaDoor
