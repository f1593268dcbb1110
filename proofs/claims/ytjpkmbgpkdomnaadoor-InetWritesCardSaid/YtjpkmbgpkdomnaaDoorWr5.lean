/- hearthref04.Write. -/
import Derived.Test.YtjpkmbgpkdomnaaDoorWr4
import Derived.Test.YtjpkmbgpkdomnaaDoorReg3
namespace Go.Proofs.YtjpkmbgpkdomnaaDoor
open Go.RowKit

def RWrPost (w : World) (p : Pk) (e : Ending) (w' : World) : Prop := ∃ v, e = .returned (.tuple #[v, .int .i64 ((if 1480 < p.body.length then 14 else 0 : Nat) : Int)]) ∧ Bytes w' v (if 1480 < p.body.length then [] else wrL p) ∧ w.grownBy w' none
theorem Bytes.far_kept {w0 w w' : World} {v : Value} {l : List UInt8} {g0 : Nat} (h : Bytes w v l) (hf : Far w0.heap.size v) (g : w.grownBy w' (some g0)) (hg : g0 < w0.heap.size) : Bytes w' v l := by
  obtain ⟨a, c, rfl, h1, h2, h3⟩ := h
  exact Bytes.kept (show Bytes w (.slice a l.length c) l from ⟨a, c, rfl, h1, h2, h3⟩) g (fun b o e hl => by have := hf b o _ _ (by rw [e]) hl; omega)
theorem Own8.shape8 {w : World} {base : Nat} {v : Value} {l : List UInt8} (h : Own8 w base v l) : ∃ a cap, v = .slice a l.length cap ∧ l.length ≤ cap ∧ cap ≤ maxLen ∧ (0 < l.length → ∃ g cs, a = some ⟨g, 0, none⟩ ∧ base ≤ g ∧ w.heap[g]? = some (.cells cs 5 (0, 0)) ∧ cs.size = cap) := by
  rcases h.2 with ⟨rfl, h0⟩ | ⟨g, cap, cur, rfl, hb, hh, hc, hm, hs, _⟩
  · exact ⟨none, 0, by rw [h0], by omega, by simp [maxLen], fun h => by omega⟩
  · exact ⟨_, cap, rfl, hc, hm, fun _ => ⟨g, cur, rfl, hb, hh, by omega⟩⟩
/-- A block that lies ahead of the row is not written. -/
theorem Own8.other {w w' : World} {base b : Nat} {v : Value} {l : List UInt8} {x : Obj} (g : w.grownBy w' v.ownBlock) (h : Own8 w base v l) (hx : w.heap[b]? = some x) (hb : b < base) : w'.heap[b]? = some x := by
  refine gr_keep g hx ?_
  rcases h.2 with ⟨rfl, _⟩ | ⟨k, cap, cur, rfl, hk, _⟩
  · simp [Value.ownBlock]
  · simp [Value.ownBlock]; omega
set_option maxRecDepth 20000 in
set_option maxHeartbeats 4000000 in
theorem rwrite_any (p : Pk) (vb : Value) (w : World) (hb : Bytes w vb p.body) (ok : p.Ok) (hl : p.body.length ≤ 100000) :
    Calls Tryd.prog 41 #[p.val vb] w (RWrPost w p) := by
  obtain ⟨x1, x2, x3, x4, x5, lb⟩ := p
  obtain ⟨ok1, ok2, ok3, ok4, ok5⟩ := ok
  dsimp only [Pk.val] at *
  have HBd := hid hb
  obtain ⟨ab, cb, rfl, y1, y2, y3⟩ := hb
  clear y3
  have HB := hid (heap_alloc_new w (.cells #[.int .u8 x1, .int .u8 x2, .int .u16 x3, .int .u32 x4, .int .u32 x5, .slice ab lb.length cb] 48))
  have G0 := hid (World.grownBy_alloc w (.cells #[.int .u8 x1, .int .u8 x2, .int .u16 x3, .int .u32 x4, .int .u32 x5, .slice ab lb.length cb] 48) none)
  by_cases hc : 1480 < lb.length
  · have hci : (1480 : Int) < (lb.length : Int) := by omega
    have Hc := hid hc
    clear hc
    go_enter Tryd.func41, Tryd.ntmps41
    go_wp2
    go_ret2
    unfold RWrPost
    rw [if_pos Hc.out, if_pos Hc.out]
    exact ⟨_, rfl, ⟨_, 0, rfl, by simp, by simp [maxLen], fun h => absurd rfl h⟩, by (repeat (first | exact gr_refl _ _ | assumption | refine gr_drew ?_ | refine gr_drewN _ ?_ | refine gr_alloc ?_ _ | refine gr_set ?_ | refine gr_set_new ?_ (by first | omega | (simp; omega))))⟩
  have hci : ¬ (1480 : Int) < (lb.length : Int) := by omega
  have Hc := hid hc
  obtain ⟨m20, hm20⟩ : ∃ m : Nat, m = 20 + lb.length := ⟨_, rfl⟩
  have hmi : IntKind.i64.wrap ((20 : Int) + (lb.length : Int)) = (m20 : Int) := by rw [IntWalk.i64_in _ (by omega)]; omega
  have hmb : (m20 : Int) ≤ 1500 := by omega
  have wu0 : IntKind.u64.wrap (m20 : Int) = (m20 : Int) := IntWalk.u64_in _ (by omega)
  have wu3 : IntKind.u64.wrap (x3 : Int) = (x3 : Int) := IntWalk.u64_in _ (by omega)
  have wu4 : IntKind.u64.wrap (x4 : Int) = (x4 : Int) := IntWalk.u64_in _ (by omega)
  have wu5 : IntKind.u64.wrap (x5 : Int) = (x5 : Int) := IntWalk.u64_in _ (by omega)
  have HM := hid hm20
  have b1 : (x1 : Int) ≤ 255 := by omega
  have b2 : (x2 : Int) ≤ 255 := by omega
  have b3 : (x3 : Int) ≤ 65535 := by omega
  have b4 : (x4 : Int) ≤ 4294967295 := by omega
  have b5 : (x5 : Int) ≤ 4294967295 := by omega
  have hnum := hid (fun W => rnum_any 2 (by omega) m20 (by omega) W)
  clear hm20 hc ok1 ok2 ok3 ok4 ok5
  go_enter Tryd.func41, Tryd.ntmps41
  go_wp2_with fail
  have hsz : (w.alloc (.cells #[.int .u8 x1, .int .u8 x2, .int .u16 x3, .int .u32 x4, .int .u32 x5, .slice ab lb.length cb] 48)).heap.size = w.heap.size + 1 := by
    show (w.heap.push _).size = _
    exact Array.size_push _
  generalize hw1 : w.alloc (.cells #[.int .u8 x1, .int .u8 x2, .int .u16 x3, .int .u32 x4, .int .u32 x5, .slice ab lb.length cb] 48) = w1 at *
  obtain ⟨B, hB⟩ : ∃ B, B = w.heap.size := ⟨_, rfl⟩
  rw [← hB] at HB hsz ⊢
  have HBe := hid hB
  have hBlt := hid (lt_of_block HB.out)
  clear hB hw1
  refine (hnum.out _).mono ?_
  rintro e w2 ⟨vn, rfl, hvn, gn⟩
  have hvb := hid hvn.bytes
  have gn1 := gr_trans (World.grownBy_alloc w1 _ none) gn
  have hnew := heap_alloc_new w1 (.cells #[.int .u8 69, .int .u8 0] 5)
  rw [hsz] at hnew
  have hO := hid ((own8_of (base := w1.heap.size) (l := [69, 0]) hnew (Nat.le_of_eq hsz) rfl rfl (by simp [maxLen])).keep gn)
  have g3' := Nat.le_of_eq hsz
  clear hvn gn hnew hsz
  go_wp2_with (at_builtin; refine wpl_app8 rfl _ _ rfl rfl rfl hO.out hvb.out (by simp [beL_len]) gn1.size ?_; intro v3 w3 hown3 g3)
  have HO0 := hid hown3
  have HG3 := hid (gr_new gn1 g3 g3')
  clear hown3 g3 g3' gn1 hvb hO
  obtain ⟨a0, c0, rfl, -, -, s3⟩ := HO0.out.shape8
  obtain ⟨g0, cs0, rfl, hg0', hh0, -⟩ := s3 (by simp)
  have h44 : (([69, 0] : List UInt8) ++ beL 2 m20).length = 4 := by simp [beL_len]
  have HO0 := hid (show Own8 w3 w1.heap.size (.slice (some ⟨g0, 0, none⟩) 4 c0) (([69, 0] : List UInt8) ++ beL 2 m20) by have := HO0.out; rw [h44] at this; exact this)
  rw [h44]
  have hg0 : w.heap.size ≤ g0 := Nat.le_trans G0.out.size hg0'
  have hg0lt : g0 < w3.heap.size := lt_of_block hh0
  clear s3 hh0
  have hBg : ¬ B = g0 := by have := hBlt.out; omega
  have hBb : B < w1.heap.size := hBlt.out
  have HGb := hid (gr_trans G0.out HG3.out)
  have HG0 := hid HG3.out
  replace HB := hid (gr_keep HG3.out HB.out (by simp))
  obtain ⟨wb, hwb⟩ : ∃ wb, wb = w1 := ⟨_, rfl⟩
  have HWB := hid G0.out.size
  have hg0b : w1.heap.size ≤ g0 := hg0'
  rw [← hwb] at HO0 HG0 hBb HWB hg0b
  obtain ⟨w0, hw0⟩ : ∃ w0, w0 = w3 := ⟨_, rfl⟩
  rw [← hw0] at HB HGb HG0 hg0lt HO0 ⊢
  clear hw0 hwb
  go_wp2_with fail
  refine wp_region_spec3 11 5 (some g0) (by kernel_rfl) (by kernel_rfl) (by kernel_rfl) (by kernel_rfl) (by kernel_rfl) (by kernel_rfl) [some 19, some 20, some 21, some 22, some 23, some 24, some 25, some 26, some 27, some 28, some 29] (by kernel_rfl) _ (fun u => (by simp only [fill, List.zipIdx_cons, List.zipIdx_nil, List.foldl_cons, List.foldl_nil, Act.put, List.setIfInBounds_toArray, List.set_cons_zero, List.set_cons_succ, Nat.zero_add, Nat.reduceAdd]; exact rfl)) (by kernel_rfl)
    (all_succ (all_succ (all_succ (all_succ (all_succ (all_succ (all_succ (all_succ (all_succ (all_succ (all_succ (all_zero _) (fun u v => by kernel_rfl)) (fun u v => by kernel_rfl)) (fun u v => by kernel_rfl)) (fun u v => by kernel_rfl)) (fun u v => by kernel_rfl)) (fun u v => by kernel_rfl)) (fun u v => by kernel_rfl)) (fun u v => by kernel_rfl)) (fun u v => by kernel_rfl)) (fun u v => by kernel_rfl)) (fun u v => by kernel_rfl))
    (fun i v w => match i with | 0 => v = .slice (some ⟨g0, 0, none⟩) 4 c0 | 1 => v = .pointer (some ⟨B, 2, none⟩) | 2 => v = .int .u16 (x3 : Int) | 3 => v = .int .u64 (x3 : Int) | 4 => Bytes w v (beL 2 x3) ∧ Far w0.heap.size v | 5 => Own8 w wb.heap.size v ((([69, 0] : List UInt8) ++ beL 2 m20) ++ beL 2 x3) | 6 => v = .pointer (some ⟨B, 0, none⟩) | 7 => v = .int .u8 (x1 : Int) | 8 => v = .pointer (some ⟨B, 1, none⟩) | 9 => v = .int .u8 (x2 : Int) | 10 => Bytes w v [64, 0, UInt8.ofNat x1, UInt8.ofNat x2, 0, 0] ∧ Far w0.heap.size v | _ => True)
    (all_succ (all_succ (all_succ (all_succ (all_succ (all_succ (all_succ (all_succ (all_succ (all_succ (all_succ (all_zero _) ?am0) ?am1) ?am2) ?am3) ?am4) ?am5) ?am6) ?am7) ?am8) ?am9) ?am10)
    [[], [], [1], [2], [3], [0, 4], [], [6], [], [8], [7, 9]] (by kernel_rfl)
    ⟨?ao0, ?ao1, ?ao2, ?ao3, ?ao4, ?ao5, ?ao6, ?ao7, ?ao8, ?ao9, ?ao10, trivial⟩ ?adone
  case am0 => intro v w w' h g; first | exact h | exact ⟨Bytes.far_kept h.1 h.2 g (by assumption), h.2⟩ | exact Own8.keep h g
  case am1 => intro v w w' h g; first | exact h | exact ⟨Bytes.far_kept h.1 h.2 g (by assumption), h.2⟩ | exact Own8.keep h g
  case am2 => intro v w w' h g; first | exact h | exact ⟨Bytes.far_kept h.1 h.2 g (by assumption), h.2⟩ | exact Own8.keep h g
  case am3 => intro v w w' h g; first | exact h | exact ⟨Bytes.far_kept h.1 h.2 g (by assumption), h.2⟩ | exact Own8.keep h g
  case am4 => intro v w w' h g; first | exact h | exact ⟨Bytes.far_kept h.1 h.2 g (by assumption), h.2⟩ | exact Own8.keep h g
  case am5 => intro v w w' h g; first | exact h | exact ⟨Bytes.far_kept h.1 h.2 g (by assumption), h.2⟩ | exact Own8.keep h g
  case am6 => intro v w w' h g; first | exact h | exact ⟨Bytes.far_kept h.1 h.2 g (by assumption), h.2⟩ | exact Own8.keep h g
  case am7 => intro v w w' h g; first | exact h | exact ⟨Bytes.far_kept h.1 h.2 g (by assumption), h.2⟩ | exact Own8.keep h g
  case am8 => intro v w w' h g; first | exact h | exact ⟨Bytes.far_kept h.1 h.2 g (by assumption), h.2⟩ | exact Own8.keep h g
  case am9 => intro v w w' h g; first | exact h | exact ⟨Bytes.far_kept h.1 h.2 g (by assumption), h.2⟩ | exact Own8.keep h g
  case am10 => intro v w w' h g; first | exact h | exact ⟨Bytes.far_kept h.1 h.2 g (by assumption), h.2⟩ | exact Own8.keep h g
  case ao0 =>
    intro u w g hd K hK
    replace g : w0.grownBy w ((some g0)) := g
    clear hd
    simp only [Act.put, List.setIfInBounds_toArray, List.set_cons_zero, List.set_cons_succ] at hK
    go_simp
    exact hK _ _ rfl (gr_refl _ _)
  case ao1 =>
    intro u w g hd K hK
    replace g : w0.grownBy w ((some g0)) := g
    clear hd
    simp only [Act.put, List.setIfInBounds_toArray, List.set_cons_zero, List.set_cons_succ] at hK
    go_simp
    exact hK _ _ rfl (gr_refl _ _)
  case ao2 =>
    intro u w g hd K hK
    replace g : w0.grownBy w ((some g0)) := g
    have h1 : (u 1) = .pointer (some ⟨B, 2, none⟩) := hd 1 (by simp)
    clear hd
    simp only [Act.put, List.setIfInBounds_toArray, List.set_cons_zero, List.set_cons_succ] at hK
    have c := g.cell (cell_of_block HB.out 2) (by simp; exact hBg)
    have c' := c.trans (show _ = some (Value.int .u16 x3) from rfl)
    clear c
    simp only [h1] at hK ⊢
    go_simp
    exact hK _ _ rfl (gr_refl _ _)
  case ao3 =>
    intro u w g hd K hK
    replace g : w0.grownBy w ((some g0)) := g
    have h2 : (u 2) = .int .u16 (x3 : Int) := hd 2 (by simp)
    clear hd
    simp only [Act.put, List.setIfInBounds_toArray, List.set_cons_zero, List.set_cons_succ] at hK
    simp only [h2] at hK ⊢
    go_simp
    exact hK _ _ rfl (gr_refl _ _)
  case ao4 =>
    intro u w g hd K hK
    replace g : w0.grownBy w ((some g0)) := g
    have h3 : (u 3) = .int .u64 (x3 : Int) := hd 3 (by simp)
    clear hd
    simp only [Act.put, List.setIfInBounds_toArray, List.set_cons_zero, List.set_cons_succ] at hK
    simp only [h3] at hK ⊢
    go_simp
    refine (rnum_any 2 (by omega) x3 (by omega) w).mono ?_
    rintro e w' ⟨v, rfl, hv, g'⟩
    exact hK v w' ⟨hv.bytes, far_le (far_of_own hv) g.size⟩ g'
  case ao5 =>
    intro u w g hd K hK
    replace g : w0.grownBy w none := g
    have h0 : (u 0) = .slice (some ⟨g0, 0, none⟩) 4 c0 := hd 0 (by simp)
    have h4 : Bytes w (u 4) (beL 2 x3) ∧ Far w0.heap.size (u 4) := hd 4 (by simp)
    clear hd
    simp only [Act.put, List.setIfInBounds_toArray, List.set_cons_zero, List.set_cons_succ] at hK
    simp only [h0] at hK ⊢
    split
    rotate_left
    · rename_i hno; exact absurd rfl hno
    refine wp_app8 (.tmp 19) (.tmp 23) rfl (v := .slice (some ⟨g0, 0, none⟩) 4 c0) (vx := u 4) (by rfl) (by rfl) (Own8.keep HO0.out g) h4.1 (by simp [beL_len]) (Nat.le_trans HG0.out.size g.size) ?_
    intro v' w' q2 q3
    exact hK v' w' q2 q3
  case ao6 =>
    intro u w g hd K hK
    replace g : w0.grownBy w ((some g0)) := g
    clear hd
    simp only [Act.put, List.setIfInBounds_toArray, List.set_cons_zero, List.set_cons_succ] at hK
    go_simp
    exact hK _ _ rfl (gr_refl _ _)
  case ao7 =>
    intro u w g hd K hK
    replace g : w0.grownBy w ((some g0)) := g
    have h6 : (u 6) = .pointer (some ⟨B, 0, none⟩) := hd 6 (by simp)
    clear hd
    simp only [Act.put, List.setIfInBounds_toArray, List.set_cons_zero, List.set_cons_succ] at hK
    have c := g.cell (cell_of_block HB.out 0) (by simp; exact hBg)
    have c' := c.trans (show _ = some (Value.int .u8 x1) from rfl)
    clear c
    simp only [h6] at hK ⊢
    go_simp
    exact hK _ _ rfl (gr_refl _ _)
  case ao8 =>
    intro u w g hd K hK
    replace g : w0.grownBy w ((some g0)) := g
    clear hd
    simp only [Act.put, List.setIfInBounds_toArray, List.set_cons_zero, List.set_cons_succ] at hK
    go_simp
    exact hK _ _ rfl (gr_refl _ _)
  case ao9 =>
    intro u w g hd K hK
    replace g : w0.grownBy w ((some g0)) := g
    have h8 : (u 8) = .pointer (some ⟨B, 1, none⟩) := hd 8 (by simp)
    clear hd
    simp only [Act.put, List.setIfInBounds_toArray, List.set_cons_zero, List.set_cons_succ] at hK
    have c := g.cell (cell_of_block HB.out 1) (by simp; exact hBg)
    have c' := c.trans (show _ = some (Value.int .u8 x2) from rfl)
    clear c
    simp only [h8] at hK ⊢
    go_simp
    exact hK _ _ rfl (gr_refl _ _)
  case ao10 =>
    intro u w g hd K hK
    replace g : w0.grownBy w ((some g0)) := g
    have h7 : (u 7) = .int .u8 (x1 : Int) := hd 7 (by simp)
    have h9 : (u 9) = .int .u8 (x2 : Int) := hd 9 (by simp)
    clear hd
    simp only [Act.put, List.setIfInBounds_toArray, List.set_cons_zero, List.set_cons_succ] at hK
    simp only [h7, h9] at hK ⊢
    go_simp
    refine hK _ _ ⟨(own8_of (l := [64, 0, UInt8.ofNat x1, UInt8.ofNat x2, 0, 0]) (heap_alloc_new w _) (Nat.zero_le _) rfl (by simp [bv]; omega) (by simp [maxLen])).bytes, far_at g.size⟩ (gr_alloc (gr_refl _ _) _)
  case adone =>
    intro u w hS g
    have s0 : (u 0) = .slice (some ⟨g0, 0, none⟩) 4 c0 := hS 0 (by decide)
    have s1 : (u 1) = .pointer (some ⟨B, 2, none⟩) := hS 1 (by decide)
    have s2 : (u 2) = .int .u16 (x3 : Int) := hS 2 (by decide)
    have s3 : (u 3) = .int .u64 (x3 : Int) := hS 3 (by decide)
    have s4 : Bytes w (u 4) (beL 2 x3) ∧ Far w0.heap.size (u 4) := hS 4 (by decide)
    have s5 : Own8 w wb.heap.size (u 5) ((([69, 0] : List UInt8) ++ beL 2 m20) ++ beL 2 x3) := hS 5 (by decide)
    have s6 : (u 6) = .pointer (some ⟨B, 0, none⟩) := hS 6 (by decide)
    have s7 : (u 7) = .int .u8 (x1 : Int) := hS 7 (by decide)
    have s8 : (u 8) = .pointer (some ⟨B, 1, none⟩) := hS 8 (by decide)
    have s9 : (u 9) = .int .u8 (x2 : Int) := hS 9 (by decide)
    have s10 : Bytes w (u 10) [64, 0, UInt8.ofNat x1, UInt8.ofNat x2, 0, 0] ∧ Far w0.heap.size (u 10) := hS 10 (by decide)
    clear hS
    replace g : w0.grownBy w (some g0) := g
    change wpList _ _ _ [_, _] _ _
    refine wpl_app8 rfl (.tmp 24) (.tmp 29) rfl rfl rfl s5 s10.1 (by simp [beL_len]) (Nat.le_trans HG0.out.size g.size) ?_
    intro v2 w2 hown2 gq
    have HO2 := hid hown2
    have HG2 := hid (gr_own (gr_new HGb.out g hg0) s5 HWB.out gq)
    have HG3 := hid (gr_own (gr_new HG0.out g hg0b) s5 (Nat.le_refl _) gq)
    have HB2 := hid (Own8.other gq s5 (gr_keep g HB.out (by simp; exact hBg)) hBb)
    clear hown2 gq HB hBg hg0 HO0 HG0 g HGb hg0lt hg0b s0 s1 s2 s3 s4 s5 s6 s7 s8 s9 s10
    generalize u 0 = v0, u 1 = v1, u 2 = v2', u 3 = v3, u 4 = v4, u 5 = v5, u 6 = v6, u 7 = v7, u 8 = v8, u 9 = v9, u 10 = v10
    obtain ⟨a2, c0, rfl, -, -, s3'⟩ := HO2.out.shape8
    obtain ⟨g0, cs2, rfl, hg0b, hh2, -⟩ := s3' (by simp)
    have h12 : ((((([69, 0] : List UInt8) ++ beL 2 m20) ++ beL 2 x3) ++ [64, 0, UInt8.ofNat x1, UInt8.ofNat x2, 0, 0])).length = 12 := by simp [beL_len]
    have HO0 := hid (show Own8 w2 wb.heap.size (.slice (some ⟨g0, 0, none⟩) 12 c0) (((([69, 0] : List UInt8) ++ beL 2 m20) ++ beL 2 x3) ++ [64, 0, UInt8.ofNat x1, UInt8.ofNat x2, 0, 0]) by have := HO2.out; rw [h12] at this; exact this)
    rw [h12]
    have hg0lt := lt_of_block hh2
    have hg0 := Nat.le_trans HWB.out hg0b
    have hBg : ¬ B = g0 := by omega
    have HB := HB2
    have HGb := HG2
    have HG0 := HG3
    clear HO2 s3' hh2 h12 HB2 HG2 HG3
    obtain ⟨w0, hw0⟩ : ∃ x, x = w2 := ⟨_, rfl⟩
    rw [← hw0] at HB HGb HG0 hg0lt HO0 ⊢
    clear hw0
    go_wp2_with fail
    refine wp_region_spec3 10 5 (some g0) (by kernel_rfl) (by kernel_rfl) (by kernel_rfl) (by kernel_rfl) (by kernel_rfl) (by kernel_rfl) [some 31, some 32, some 33, some 34, some 35, some 36, some 37, some 38, some 39, some 40] (by kernel_rfl) _ (fun u => (by simp only [fill, List.zipIdx_cons, List.zipIdx_nil, List.foldl_cons, List.foldl_nil, Act.put, List.setIfInBounds_toArray, List.set_cons_zero, List.set_cons_succ, Nat.zero_add, Nat.reduceAdd]; exact rfl)) (by kernel_rfl)
      (all_succ (all_succ (all_succ (all_succ (all_succ (all_succ (all_succ (all_succ (all_succ (all_succ (all_zero _) (fun u v => by kernel_rfl)) (fun u v => by kernel_rfl)) (fun u v => by kernel_rfl)) (fun u v => by kernel_rfl)) (fun u v => by kernel_rfl)) (fun u v => by kernel_rfl)) (fun u v => by kernel_rfl)) (fun u v => by kernel_rfl)) (fun u v => by kernel_rfl)) (fun u v => by kernel_rfl))
      (fun i v w => match i with | 0 => v = .slice (some ⟨g0, 0, none⟩) 12 c0 | 1 => v = .pointer (some ⟨B, 3, none⟩) | 2 => v = .int .u32 (x4 : Int) | 3 => v = .int .u64 (x4 : Int) | 4 => Bytes w v (beL 4 x4) ∧ Far w0.heap.size v | 5 => Own8 w wb.heap.size v ((((([69, 0] : List UInt8) ++ beL 2 m20) ++ beL 2 x3) ++ [64, 0, UInt8.ofNat x1, UInt8.ofNat x2, 0, 0]) ++ beL 4 x4) | 6 => v = .pointer (some ⟨B, 4, none⟩) | 7 => v = .int .u32 (x5 : Int) | 8 => v = .int .u64 (x5 : Int) | 9 => Bytes w v (beL 4 x5) ∧ Far w0.heap.size v | _ => True)
      (all_succ (all_succ (all_succ (all_succ (all_succ (all_succ (all_succ (all_succ (all_succ (all_succ (all_zero _) ?bm0) ?bm1) ?bm2) ?bm3) ?bm4) ?bm5) ?bm6) ?bm7) ?bm8) ?bm9)
      [[], [], [1], [2], [3], [0, 4], [], [6], [7], [8]] (by kernel_rfl)
      ⟨?bo0, ?bo1, ?bo2, ?bo3, ?bo4, ?bo5, ?bo6, ?bo7, ?bo8, ?bo9, trivial⟩ ?bdone
    case bm0 => intro v w w' h g; first | exact h | exact ⟨Bytes.far_kept h.1 h.2 g (by assumption), h.2⟩ | exact Own8.keep h g
    case bm1 => intro v w w' h g; first | exact h | exact ⟨Bytes.far_kept h.1 h.2 g (by assumption), h.2⟩ | exact Own8.keep h g
    case bm2 => intro v w w' h g; first | exact h | exact ⟨Bytes.far_kept h.1 h.2 g (by assumption), h.2⟩ | exact Own8.keep h g
    case bm3 => intro v w w' h g; first | exact h | exact ⟨Bytes.far_kept h.1 h.2 g (by assumption), h.2⟩ | exact Own8.keep h g
    case bm4 => intro v w w' h g; first | exact h | exact ⟨Bytes.far_kept h.1 h.2 g (by assumption), h.2⟩ | exact Own8.keep h g
    case bm5 => intro v w w' h g; first | exact h | exact ⟨Bytes.far_kept h.1 h.2 g (by assumption), h.2⟩ | exact Own8.keep h g
    case bm6 => intro v w w' h g; first | exact h | exact ⟨Bytes.far_kept h.1 h.2 g (by assumption), h.2⟩ | exact Own8.keep h g
    case bm7 => intro v w w' h g; first | exact h | exact ⟨Bytes.far_kept h.1 h.2 g (by assumption), h.2⟩ | exact Own8.keep h g
    case bm8 => intro v w w' h g; first | exact h | exact ⟨Bytes.far_kept h.1 h.2 g (by assumption), h.2⟩ | exact Own8.keep h g
    case bm9 => intro v w w' h g; first | exact h | exact ⟨Bytes.far_kept h.1 h.2 g (by assumption), h.2⟩ | exact Own8.keep h g
    case bo0 =>
      intro u w g hd K hK
      replace g : w0.grownBy w ((some g0)) := g
      clear hd
      simp only [Act.put, List.setIfInBounds_toArray, List.set_cons_zero, List.set_cons_succ] at hK
      go_simp
      exact hK _ _ rfl (gr_refl _ _)
    case bo1 =>
      intro u w g hd K hK
      replace g : w0.grownBy w ((some g0)) := g
      clear hd
      simp only [Act.put, List.setIfInBounds_toArray, List.set_cons_zero, List.set_cons_succ] at hK
      go_simp
      exact hK _ _ rfl (gr_refl _ _)
    case bo2 =>
      intro u w g hd K hK
      replace g : w0.grownBy w ((some g0)) := g
      have h1 : (u 1) = .pointer (some ⟨B, 3, none⟩) := hd 1 (by simp)
      clear hd
      simp only [Act.put, List.setIfInBounds_toArray, List.set_cons_zero, List.set_cons_succ] at hK
      have c := g.cell (cell_of_block HB.out 3) (by simp; exact hBg)
      have c' := c.trans (show _ = some (Value.int .u32 x4) from rfl)
      clear c
      simp only [h1] at hK ⊢
      go_simp
      exact hK _ _ rfl (gr_refl _ _)
    case bo3 =>
      intro u w g hd K hK
      replace g : w0.grownBy w ((some g0)) := g
      have h2 : (u 2) = .int .u32 (x4 : Int) := hd 2 (by simp)
      clear hd
      simp only [Act.put, List.setIfInBounds_toArray, List.set_cons_zero, List.set_cons_succ] at hK
      simp only [h2] at hK ⊢
      go_simp
      exact hK _ _ rfl (gr_refl _ _)
    case bo4 =>
      intro u w g hd K hK
      replace g : w0.grownBy w ((some g0)) := g
      have h3 : (u 3) = .int .u64 (x4 : Int) := hd 3 (by simp)
      clear hd
      simp only [Act.put, List.setIfInBounds_toArray, List.set_cons_zero, List.set_cons_succ] at hK
      simp only [h3] at hK ⊢
      go_simp
      refine (rnum_any 4 (by omega) x4 (by omega) w).mono ?_
      rintro e w' ⟨v, rfl, hv, g'⟩
      exact hK v w' ⟨hv.bytes, far_le (far_of_own hv) g.size⟩ g'
    case bo5 =>
      intro u w g hd K hK
      replace g : w0.grownBy w none := g
      have h0 : (u 0) = .slice (some ⟨g0, 0, none⟩) 12 c0 := hd 0 (by simp)
      have h4 : Bytes w (u 4) (beL 4 x4) ∧ Far w0.heap.size (u 4) := hd 4 (by simp)
      clear hd
      simp only [Act.put, List.setIfInBounds_toArray, List.set_cons_zero, List.set_cons_succ] at hK
      simp only [h0] at hK ⊢
      split
      rotate_left
      · rename_i hno; exact absurd rfl hno
      refine wp_app8 (.tmp 31) (.tmp 35) rfl (v := .slice (some ⟨g0, 0, none⟩) 12 c0) (vx := u 4) (by rfl) (by rfl) (Own8.keep HO0.out g) h4.1 (by simp [beL_len]) (Nat.le_trans HG0.out.size g.size) ?_
      intro v' w' q2 q3
      exact hK v' w' q2 q3
    case bo6 =>
      intro u w g hd K hK
      replace g : w0.grownBy w ((some g0)) := g
      clear hd
      simp only [Act.put, List.setIfInBounds_toArray, List.set_cons_zero, List.set_cons_succ] at hK
      go_simp
      exact hK _ _ rfl (gr_refl _ _)
    case bo7 =>
      intro u w g hd K hK
      replace g : w0.grownBy w ((some g0)) := g
      have h6 : (u 6) = .pointer (some ⟨B, 4, none⟩) := hd 6 (by simp)
      clear hd
      simp only [Act.put, List.setIfInBounds_toArray, List.set_cons_zero, List.set_cons_succ] at hK
      have c := g.cell (cell_of_block HB.out 4) (by simp; exact hBg)
      have c' := c.trans (show _ = some (Value.int .u32 x5) from rfl)
      clear c
      simp only [h6] at hK ⊢
      go_simp
      exact hK _ _ rfl (gr_refl _ _)
    case bo8 =>
      intro u w g hd K hK
      replace g : w0.grownBy w ((some g0)) := g
      have h7 : (u 7) = .int .u32 (x5 : Int) := hd 7 (by simp)
      clear hd
      simp only [Act.put, List.setIfInBounds_toArray, List.set_cons_zero, List.set_cons_succ] at hK
      simp only [h7] at hK ⊢
      go_simp
      exact hK _ _ rfl (gr_refl _ _)
    case bo9 =>
      intro u w g hd K hK
      replace g : w0.grownBy w ((some g0)) := g
      have h8 : (u 8) = .int .u64 (x5 : Int) := hd 8 (by simp)
      clear hd
      simp only [Act.put, List.setIfInBounds_toArray, List.set_cons_zero, List.set_cons_succ] at hK
      simp only [h8] at hK ⊢
      go_simp
      refine (rnum_any 4 (by omega) x5 (by omega) w).mono ?_
      rintro e w' ⟨v, rfl, hv, g'⟩
      exact hK v w' ⟨hv.bytes, far_le (far_of_own hv) g.size⟩ g'
    case bdone =>
      intro u w hS g
      have s0 : (u 0) = .slice (some ⟨g0, 0, none⟩) 12 c0 := hS 0 (by decide)
      have s1 : (u 1) = .pointer (some ⟨B, 3, none⟩) := hS 1 (by decide)
      have s2 : (u 2) = .int .u32 (x4 : Int) := hS 2 (by decide)
      have s3 : (u 3) = .int .u64 (x4 : Int) := hS 3 (by decide)
      have s4 : Bytes w (u 4) (beL 4 x4) ∧ Far w0.heap.size (u 4) := hS 4 (by decide)
      have s5 : Own8 w wb.heap.size (u 5) ((((([69, 0] : List UInt8) ++ beL 2 m20) ++ beL 2 x3) ++ [64, 0, UInt8.ofNat x1, UInt8.ofNat x2, 0, 0]) ++ beL 4 x4) := hS 5 (by decide)
      have s6 : (u 6) = .pointer (some ⟨B, 4, none⟩) := hS 6 (by decide)
      have s7 : (u 7) = .int .u32 (x5 : Int) := hS 7 (by decide)
      have s8 : (u 8) = .int .u64 (x5 : Int) := hS 8 (by decide)
      have s9 : Bytes w (u 9) (beL 4 x5) ∧ Far w0.heap.size (u 9) := hS 9 (by decide)
      clear hS
      replace g : w0.grownBy w (some g0) := g
      change wpList _ _ _ [_, _] _ _
      refine wpl_app8 rfl (.tmp 36) (.tmp 40) rfl rfl rfl s5 s9.1 (by simp [beL_len]) (Nat.le_trans HG0.out.size g.size) ?_
      intro v2 w2 hown2 gq
      rw [show ((((([69, 0] : List UInt8) ++ beL 2 m20) ++ beL 2 x3) ++ [64, 0, UInt8.ofNat x1, UInt8.ofNat x2, 0, 0]) ++ beL 4 x4) ++ beL 4 x5 = hdF ⟨x1, x2, x3, x4, x5, lb⟩ 16384 0 by rw [HM.out]; simp [hdF, beL]] at hown2
      have HO2 := hid hown2
      have HG2 := hid (gr_own (gr_new HGb.out g hg0) s5 HWB.out gq)
      have HG3 := hid (gr_own (gr_new HG0.out g hg0b) s5 (Nat.le_refl _) gq)
      have HB2 := hid (Own8.other gq s5 (gr_keep g HB.out (by simp; exact hBg)) hBb)
      clear hown2 gq HB hBg hg0 HO0 HG0 g HGb hg0lt hg0b s0 s1 s2 s3 s4 s5 s6 s7 s8 s9
      generalize u 0 = v0, u 1 = v1, u 2 = v2', u 3 = v3, u 4 = v4, u 5 = v5, u 6 = v6, u 7 = v7, u 8 = v8, u 9 = v9
      obtain ⟨a2, c0, rfl, -, -, s3'⟩ := HO2.out.shape8
      have hln : (hdF ⟨x1, x2, x3, x4, x5, lb⟩ 16384 0).length = 20 := hdF_len _ _ _
      obtain ⟨g0, cs2, rfl, hg0b, -, -⟩ := s3' (by omega)
      have HSUM := hid (rsum_any (hdF ⟨x1, x2, x3, x4, x5, lb⟩ 16384 0) _ w2 HO2.out.bytes (by omega))
      have HO0 := HO2.out
      unfold Own8 at HO0
      rw [hln] at HO0 HSUM ⊢
      have HO1 := hid HO0
      have hg0 := Nat.le_trans HWB.out hg0b
      have hBg : ¬ B = g0 := by omega
      clear HO2 s3' hln HO0 wu0 wu3 wu4 wu5 hmi hmb b1 b2 b3 b4 b5
      have hsle : sum16 (hdF ⟨x1, x2, x3, x4, x5, lb⟩ 16384 0) ≤ 65535 := sum16_bd _
      have HDS := hid (show hdS ⟨x1, x2, x3, x4, x5, lb⟩ 16384 = hdF ⟨x1, x2, x3, x4, x5, lb⟩ 16384 (sum16 (hdF ⟨x1, x2, x3, x4, x5, lb⟩ 16384 0)) from rfl)
      generalize sum16 (hdF ⟨x1, x2, x3, x4, x5, lb⟩ 16384 0) = sm at HSUM hsle HDS
      obtain ⟨x, y, hxy, hset⟩ := hdF_copied ⟨x1, x2, x3, x4, x5, lb⟩ 16384 sm
      have hx : bv x = .int .u8 ((sm : Int) / 256) := by
        have : x = UInt8.ofNat (sm / 256 % 256) := by simp [beL] at hxy; exact hxy.1.symm
        rw [this]; simp [bv]; omega
      have hy : bv y = .int .u8 ((sm : Int) % 256) := by
        have : y = UInt8.ofNat (sm % 256) := by simp [beL] at hxy; exact hxy.2.symm
        rw [this]; simp [bv]
      have HX := hid hx
      have HY := hid hy
      have HSET := hid hset
      have wq : IntKind.u8.wrap ((sm : Int) / 256) = (sm : Int) / 256 := IntWalk.u8_in _ (by omega)
      have wr : IntKind.u8.wrap ((sm : Int) % 256) = (sm : Int) % 256 := IntWalk.u8_in _ (by omega)
      have hsmi : (sm : Int) ≤ 65535 := by omega
      clear hxy hset hx hy hsle
      go_wp2_with fail
      refine HSUM.out.mono ?_
      rintro e w3 ⟨rfl, g3⟩
      have HO3 := hid (show w3.ownsRow wb.heap.size 5 1 (.slice (some ⟨g0, 0, none⟩) 20 c0) 20 ((hdF ⟨x1, x2, x3, x4, x5, lb⟩ 16384 0).map bv) by
        have h := HO1.out
        have hk : Own8 w2 wb.heap.size (.slice (some ⟨g0, 0, none⟩) 20 c0) (hdF ⟨x1, x2, x3, x4, x5, lb⟩ 16384 0) := by unfold Own8; rw [hdF_len]; exact h
        have := hk.keep g3
        unfold Own8 at this
        rw [hdF_len] at this
        exact this)
      have hs10 := HO3.out.stored 10 (.int .u8 ((sm : Int) / 256))
      have hs11 := hs10.1.stored 11 (.int .u8 ((sm : Int) % 256))
      have gs := hid (gr_trans hs10.2 hs11.2)
      have HO5 := hid hs11.1
      rw [← HX.out, ← HY.out, ← List.map_set, ← List.map_set, HSET.out, ← HDS.out] at HO5
      have HO6 := hid (show Own8 ((w3.setCell ⟨g0, 10, none⟩ (bv x)).setCell ⟨g0, 11, none⟩ (bv y)) wb.heap.size (.slice (some ⟨g0, 0, none⟩) 20 c0) (hdS ⟨x1, x2, x3, x4, x5, lb⟩ 16384) by
        unfold Own8; rw [show (hdS ⟨x1, x2, x3, x4, x5, lb⟩ 16384).length = 20 by rw [HDS.out]; exact hdF_len _ _ _]; exact HO5.out)
      rw [HX.out, HY.out] at HO6
      have HB3 := gr_keep g3 HB2.out (by simp)
      have HB5 := hid (gr_keep gs.out HB3 (by simp; exact hBg))
      have HBF := hid (((HBd.out.grown HG2.out).grown g3).kept gs.out (fun b o e hl => by
        obtain ⟨b', o', e2, hc⟩ := HBd.out.cellAt hl
        rw [e] at e2
        simp only [Option.some.injEq, Addr.mk.injEq, and_true] at e2
        obtain ⟨rfl, rfl⟩ := e2
        have h1 := World.block_lt_of_cell? _ _ (hc 0 hl)
        have h4 : b < _ := h1
        omega))
      have HGF := hid (gr_new (gr_trans HG2.out g3) gs.out hg0)
      have HGb := hid (gr_new (gr_trans HG3.out g3) gs.out hg0b)
      obtain ⟨z10, hz10⟩ : ∃ z, w3.cell? ⟨g0, 10, none⟩ = some z := by
        rw [HO3.out.cellAt 10 (by omega)]
        exact ⟨_, List.getElem?_eq_getElem (by rw [List.length_map, hdF_len]; omega)⟩
      obtain ⟨z11, hz11⟩ : ∃ z, w3.cell? ⟨g0, 11, none⟩ = some z := by
        rw [HO3.out.cellAt 11 (by omega)]
        exact ⟨_, List.getElem?_eq_getElem (by rw [List.length_map, hdF_len]; omega)⟩
      have f10 := HO3.out.frozenAt 10
      have f11 := HO3.out.frozenAt 11
      have blt := World.block_lt_of_cell? _ _ hz10
      replace blt : g0 < w3.heap.size := blt
      have p5 := (cell_of_block HB3 5).trans (show _ = some (Value.slice ab lb.length cb) from rfl)
      have hBg2 : ¬ g0 = B := fun h => hBg h.symm
      have hBlt3 := lt_of_block HB3
      clear hs10 hs11 HO5 HO3 HB3 HSUM g3
      go_wp2_with (at_builtin; refine wpl_app8 rfl _ _ rfl rfl rfl HO6.out HBF.out (by rw [show (hdS ⟨x1, x2, x3, x4, x5, lb⟩ 16384).length = 20 by rw [HDS.out]; exact hdF_len _ _ _]; omega) HGb.out.size ?_; intro v9 w9 hown9 g9)
      have HG9 := hid (gr_own HGF.out HO6.out HWB.out g9)
      have HB9 := hid hown9.bytes
      clear hown9 g9
      go_wp2
      go_ret2
      unfold RWrPost
      rw [if_neg Hc.out, if_neg Hc.out]
      exact ⟨v9, rfl, HB9.out, HG9.out⟩
end Go.Proofs.YtjpkmbgpkdomnaaDoor
