/- hearthref04.Read. -/
import Derived.Test.YtjpkmbgpkdomnaaDoorRdk
namespace Go.Proofs.YtjpkmbgpkdomnaaDoor
open Go.RowKit

theorem rd_err {l : List UInt8} {k : Nat} (h : rdCode l = k) (hk : k ≠ 0) : rdPk l = ⟨0, 0, 0, 0, 0, []⟩ := by unfold rdPk; rw [if_neg (by omega)]
set_option maxRecDepth 20000 in
set_option maxHeartbeats 4000000 in
theorem rread_any (l : List UInt8) (v : Value) (w : World) (hb : Bytes w v l) (hl : l.length ≤ 100000) :
    Calls Tryd.prog 38 #[v] w (RdPost w l) := by
  obtain ⟨a, c, rfl, h1, h2, h3⟩ := hb
  have HB := hid (show Bytes w (.slice a l.length c) l from ⟨a, c, rfl, h1, h2, h3⟩)
  have h2' : c ≤ 9223372036854775807 := h2
  clear h3 h2
  by_cases c0 : l.length < 20
  · have R := hid (show rdCode l = 10 by unfold rdCode; rw [if_pos c0])
    have R2 := hid (rd_err R.out (by omega))
    go_enter Tryd.func38, Tryd.ntmps38
    go_wp2
    exact bodyPost_ret (v := .tuple #[.agg #[.int .u8 0, .int .u8 0, .int .u16 0, .int .u32 0, .int .u32 0, .slice none 0 0], .int .i64 10]) (by simp [results, Tryd.results38, go_sem]) rfl ⟨.slice none 0 0, by rw [R.out, R2.out]; rfl, by rw [R2.out]; exact Bytes.nil _, far_nil _ _ _, by (repeat (first | exact gr_refl _ _ | assumption | refine gr_drew ?_ | refine gr_drewN _ ?_ | refine gr_alloc ?_ _ | refine gr_set ?_ | refine gr_set_new ?_ (by first | omega | (simp; omega))))⟩
  · obtain ⟨b, o, rfl, hc⟩ := HB.out.cellAt (by omega)
    have g0 := World.grownBy_alloc w (.cells #[.int .u8 0, .int .u8 0, .int .u16 0, .int .u32 0, .int .u32 0, .slice none 0 0] 48) none
    have x0 := hc 0 (by omega)
    have e0 : ((l.getD 0 0).toNat : Int) = (b8 l 0 : Nat) := rfl
    rw [e0, Nat.add_zero] at x0
    have hb0 := b8_lt l 0
    have hblt := World.block_lt_of_cell? _ _ x0
    have hbne : ¬ b = w.heap.size := by have : b < w.heap.size := hblt; omega
    have hbne2 : ¬ w.heap.size = b := fun h => hbne h.symm
    replace hblt : b < w.heap.size := hblt
    have HC := hid hc
    clear hc e0
    by_cases c1 : b8 l 0 / 16 ≠ 4
    · have R := hid (show rdCode l = 11 by unfold rdCode; rw [if_neg c0, if_pos (.inl c1)])
      have R2 := hid (rd_err R.out (by omega))
      generalize b8 l 0 = q at *
      have t1 : ((((q : Nat) : Int) / 16) != 4) = true := by simp only [bne_iff_ne, ne_eq]; omega
      go_enter Tryd.func38, Tryd.ntmps38
      go_wp2
      exact bodyPost_ret (v := .tuple #[.agg #[.int .u8 0, .int .u8 0, .int .u16 0, .int .u32 0, .int .u32 0, .slice none 0 0], .int .i64 11]) (by simp [results, Tryd.results38, go_sem]) rfl ⟨.slice none 0 0, by rw [R.out, R2.out]; rfl, by rw [R2.out]; exact Bytes.nil _, far_nil _ _ _, by (repeat (first | exact gr_refl _ _ | assumption | refine gr_drew ?_ | refine gr_drewN _ ?_ | refine gr_alloc ?_ _ | refine gr_set ?_ | refine gr_set_new ?_ (by first | omega | (simp; omega))))⟩
    have c1' : b8 l 0 / 16 = 4 := by omega
    by_cases c2 : b8 l 0 % 16 < 5
    · have R := hid (show rdCode l = 11 by unfold rdCode; rw [if_neg c0, if_pos (.inr c2)])
      have R2 := hid (rd_err R.out (by omega))
      generalize b8 l 0 = q at *
      have t1 : ((((q : Nat) : Int) / 16) != 4) = false := by simp only [bne_eq_false_iff_eq]; omega
      have t2 : ((q : Nat) : Int) % 16 < 5 := by omega
      clear c1 c1' c2
      go_enter Tryd.func38, Tryd.ntmps38
      go_wp2
      exact bodyPost_ret (v := .tuple #[.agg #[.int .u8 0, .int .u8 0, .int .u16 0, .int .u32 0, .int .u32 0, .slice none 0 0], .int .i64 11]) (by simp [results, Tryd.results38, go_sem]) rfl ⟨.slice none 0 0, by rw [R.out, R2.out]; rfl, by rw [R2.out]; exact Bytes.nil _, far_nil _ _ _, by (repeat (first | exact gr_refl _ _ | assumption | refine gr_drew ?_ | refine gr_drewN _ ?_ | refine gr_alloc ?_ _ | refine gr_set ?_ | refine gr_set_new ?_ (by first | omega | (simp; omega))))⟩
    by_cases c3 : 5 < b8 l 0 % 16
    · have R := hid (show rdCode l = 13 by unfold rdCode; rw [if_neg c0, if_neg (by rintro (h | h); exact c1 h; exact c2 h), if_pos c3])
      have R2 := hid (rd_err R.out (by omega))
      generalize b8 l 0 = q at *
      have t1 : ((((q : Nat) : Int) / 16) != 4) = false := by simp only [bne_eq_false_iff_eq]; omega
      have t2 : ¬ ((q : Nat) : Int) % 16 < 5 := by omega
      have t3 : (5 : Int) < ((q : Nat) : Int) % 16 := by omega
      clear c1 c1' c2 c3
      go_enter Tryd.func38, Tryd.ntmps38
      go_wp2
      exact bodyPost_ret (v := .tuple #[.agg #[.int .u8 0, .int .u8 0, .int .u16 0, .int .u32 0, .int .u32 0, .slice none 0 0], .int .i64 13]) (by simp [results, Tryd.results38, go_sem]) rfl ⟨.slice none 0 0, by rw [R.out, R2.out]; rfl, by rw [R2.out]; exact Bytes.nil _, far_nil _ _ _, by (repeat (first | exact gr_refl _ _ | assumption | refine gr_drew ?_ | refine gr_drewN _ ?_ | refine gr_alloc ?_ _ | refine gr_set ?_ | refine gr_set_new ?_ (by first | omega | (simp; omega))))⟩
    have RC := hid (show rdCode l = if rdAll l < 20 ∨ l.length < rdAll l then 10 else if 1500 < rdAll l then 14 else if sum16 (l.take 20) ≠ 0 then 12 else if (256 * b8 l 6 + b8 l 7) % 16384 ≠ 0 then 13 else 0 by
      unfold rdCode; rw [if_neg c0, if_neg (by rintro (h | h); exact c1 h; exact c2 h), if_neg c3])
    have x2 := HC.out 2 (by omega)
    have x3 := HC.out 3 (by omega)
    rw [show ((l.getD 2 0).toNat : Int) = (b8 l 2 : Nat) from rfl] at x2
    rw [show ((l.getD 3 0).toNat : Int) = (b8 l 3 : Nat) from rfl] at x3
    have hb2 := b8_lt l 2
    have hb3 := b8_lt l 3
    have hall : rdAll l = 256 * b8 l 2 + b8 l 3 := rfl
    have HALL := hid hall
    generalize b8 l 0 = q at *
    have t1 : ((((q : Nat) : Int) / 16) != 4) = false := by simp only [bne_eq_false_iff_eq]; omega
    have t2 : ¬ ((q : Nat) : Int) % 16 < 5 := by omega
    have t3 : ¬ (5 : Int) < ((q : Nat) : Int) % 16 := by omega
    clear c1 c1' c2 c3 hall
    generalize b8 l 2 = q2 at *
    generalize b8 l 3 = q3 at *
    have w1 : IntKind.i64.wrap (256 * (q2 : Int)) = 256 * (q2 : Int) := IntWalk.i64_in _ (by omega)
    have w2 : IntKind.i64.wrap (256 * (q2 : Int) + (q3 : Int)) = 256 * (q2 : Int) + (q3 : Int) := IntWalk.i64_in _ (by omega)
    have w3 : IntKind.i64.wrap (q2 : Int) = (q2 : Int) := IntWalk.i64_in _ (by omega)
    have w4 : IntKind.i64.wrap (q3 : Int) = (q3 : Int) := IntWalk.i64_in _ (by omega)
    have bd : ((256 * q2 + q3 : Nat) : Int) ≤ 65535 := by omega
    obtain ⟨al, hal⟩ : ∃ al : Nat, al = rdAll l := ⟨_, rfl⟩
    have hal' : 256 * (q2 : Int) + (q3 : Int) = (al : Int) := by rw [hal, HALL.out]; omega
    have bd2 : al ≤ 65535 := by rw [hal, HALL.out]; omega
    have RC2 := hid (show rdCode l = if al < 20 ∨ l.length < al then 10 else if 1500 < al then 14 else if sum16 (l.take 20) ≠ 0 then 12 else if (256 * b8 l 6 + b8 l 7) % 16384 ≠ 0 then 13 else 0 by rw [hal]; exact RC.out)
    have HAL := hid hal
    have HAL2 := hid hal'
    clear hal hal' bd
    by_cases c4 : al < 20
    · have R := hid (show rdCode l = 10 by rw [RC2.out, if_pos (.inl c4)])
      have R2 := hid (rd_err R.out (by omega))
      go_enter Tryd.func38, Tryd.ntmps38
      go_wp2_with fail
      go_quiet (fail)
      obtain ⟨W1, hW1⟩ : ∃ W1, (w.alloc (.cells #[.int .u8 0, .int .u8 0, .int .u16 0, .int .u32 0, .int .u32 0, .slice none 0 0] 48)).drewN nq = W1 := ⟨_, rfl⟩
      rw [hW1]
      have B1 : W1.heap[w.heap.size]? = some (.cells #[.int .u8 0, .int .u8 0, .int .u16 0, .int .u32 0, .int .u32 0, .slice none 0 0] 48 (0, 0)) := by rw [← hW1]; exact heap_alloc_new w _
      have G1 : w.grownBy W1 none := by rw [← hW1]; exact gr_drewN nq (gr_alloc (gr_refl _ _) _)
      clear hW1 w1 w2 w3 w4
      have p0 := (cell_of_block B1 0).trans (show _ = some (Value.int .u8 0) from rfl)
      have p1 := (cell_of_block B1 1).trans (show _ = some (Value.int .u8 0) from rfl)
      have p2 := (cell_of_block B1 2).trans (show _ = some (Value.int .u16 0) from rfl)
      have p3 := (cell_of_block B1 3).trans (show _ = some (Value.int .u32 0) from rfl)
      have p4 := (cell_of_block B1 4).trans (show _ = some (Value.int .u32 0) from rfl)
      have p5 := (cell_of_block B1 5).trans (show _ = some (Value.slice none 0 0) from rfl)
      have f0 := free_of_block B1 0
      have f1 := free_of_block B1 1
      have f2 := free_of_block B1 2
      have f3 := free_of_block B1 3
      have f4 := free_of_block B1 4
      have f5 := free_of_block B1 5
      have blt := lt_of_block B1
      have HB1 := hid B1
      clear B1
      have hal' := HAL2.out
      go_wp2
      have S := pk_stored HB1.out (.int .u8 0) (.int .u8 0) (.int .u16 0) (.int .u32 0) (.int .u32 0) (.slice none 0 0)
      have s0 := (cell_of_block S 0).trans (show _ = some (Value.int .u8 0) from rfl)
      have s1 := (cell_of_block S 1).trans (show _ = some (Value.int .u8 0) from rfl)
      have s2 := (cell_of_block S 2).trans (show _ = some (Value.int .u16 0) from rfl)
      have s3 := (cell_of_block S 3).trans (show _ = some (Value.int .u32 0) from rfl)
      have s4 := (cell_of_block S 4).trans (show _ = some (Value.int .u32 0) from rfl)
      have s5 := (cell_of_block S 5).trans (show _ = some (Value.slice none 0 0) from rfl)
      exact bodyPost_ret (v := .tuple #[.agg #[.int .u8 0, .int .u8 0, .int .u16 0, .int .u32 0, .int .u32 0, .slice none 0 0], .int .i64 10]) (by simp [results, Tryd.results38, go_sem, s0, s1, s2, s3, s4, s5]) rfl ⟨.slice none 0 0, by rw [R.out, R2.out]; rfl, by rw [R2.out]; exact Bytes.nil _, far_nil _ _ _, pk_grown G1 (Nat.le_refl _) _ _ _ _ _ _⟩
    by_cases c5 : l.length < al
    · have R := hid (show rdCode l = 10 by rw [RC2.out, if_pos (.inr c5)])
      have R2 := hid (rd_err R.out (by omega))
      go_enter Tryd.func38, Tryd.ntmps38
      go_wp2_with fail
      go_quiet (fail)
      obtain ⟨W1, hW1⟩ : ∃ W1, (w.alloc (.cells #[.int .u8 0, .int .u8 0, .int .u16 0, .int .u32 0, .int .u32 0, .slice none 0 0] 48)).drewN nq = W1 := ⟨_, rfl⟩
      rw [hW1]
      have B1 : W1.heap[w.heap.size]? = some (.cells #[.int .u8 0, .int .u8 0, .int .u16 0, .int .u32 0, .int .u32 0, .slice none 0 0] 48 (0, 0)) := by rw [← hW1]; exact heap_alloc_new w _
      have G1 : w.grownBy W1 none := by rw [← hW1]; exact gr_drewN nq (gr_alloc (gr_refl _ _) _)
      clear hW1 w1 w2 w3 w4
      have p0 := (cell_of_block B1 0).trans (show _ = some (Value.int .u8 0) from rfl)
      have p1 := (cell_of_block B1 1).trans (show _ = some (Value.int .u8 0) from rfl)
      have p2 := (cell_of_block B1 2).trans (show _ = some (Value.int .u16 0) from rfl)
      have p3 := (cell_of_block B1 3).trans (show _ = some (Value.int .u32 0) from rfl)
      have p4 := (cell_of_block B1 4).trans (show _ = some (Value.int .u32 0) from rfl)
      have p5 := (cell_of_block B1 5).trans (show _ = some (Value.slice none 0 0) from rfl)
      have f0 := free_of_block B1 0
      have f1 := free_of_block B1 1
      have f2 := free_of_block B1 2
      have f3 := free_of_block B1 3
      have f4 := free_of_block B1 4
      have f5 := free_of_block B1 5
      have blt := lt_of_block B1
      have HB1 := hid B1
      clear B1
      have hal' := HAL2.out
      go_wp2
      have S := pk_stored HB1.out (.int .u8 0) (.int .u8 0) (.int .u16 0) (.int .u32 0) (.int .u32 0) (.slice none 0 0)
      have s0 := (cell_of_block S 0).trans (show _ = some (Value.int .u8 0) from rfl)
      have s1 := (cell_of_block S 1).trans (show _ = some (Value.int .u8 0) from rfl)
      have s2 := (cell_of_block S 2).trans (show _ = some (Value.int .u16 0) from rfl)
      have s3 := (cell_of_block S 3).trans (show _ = some (Value.int .u32 0) from rfl)
      have s4 := (cell_of_block S 4).trans (show _ = some (Value.int .u32 0) from rfl)
      have s5 := (cell_of_block S 5).trans (show _ = some (Value.slice none 0 0) from rfl)
      exact bodyPost_ret (v := .tuple #[.agg #[.int .u8 0, .int .u8 0, .int .u16 0, .int .u32 0, .int .u32 0, .slice none 0 0], .int .i64 10]) (by simp [results, Tryd.results38, go_sem, s0, s1, s2, s3, s4, s5]) rfl ⟨.slice none 0 0, by rw [R.out, R2.out]; rfl, by rw [R2.out]; exact Bytes.nil _, far_nil _ _ _, pk_grown G1 (Nat.le_refl _) _ _ _ _ _ _⟩
    by_cases c6 : 1500 < al
    · have R := hid (show rdCode l = 14 by rw [RC2.out, if_neg (by omega), if_pos c6])
      have R2 := hid (rd_err R.out (by omega))
      go_enter Tryd.func38, Tryd.ntmps38
      go_wp2_with fail
      go_quiet (fail)
      obtain ⟨W1, hW1⟩ : ∃ W1, (w.alloc (.cells #[.int .u8 0, .int .u8 0, .int .u16 0, .int .u32 0, .int .u32 0, .slice none 0 0] 48)).drewN nq = W1 := ⟨_, rfl⟩
      rw [hW1]
      have B1 : W1.heap[w.heap.size]? = some (.cells #[.int .u8 0, .int .u8 0, .int .u16 0, .int .u32 0, .int .u32 0, .slice none 0 0] 48 (0, 0)) := by rw [← hW1]; exact heap_alloc_new w _
      have G1 : w.grownBy W1 none := by rw [← hW1]; exact gr_drewN nq (gr_alloc (gr_refl _ _) _)
      clear hW1 w1 w2 w3 w4
      have p0 := (cell_of_block B1 0).trans (show _ = some (Value.int .u8 0) from rfl)
      have p1 := (cell_of_block B1 1).trans (show _ = some (Value.int .u8 0) from rfl)
      have p2 := (cell_of_block B1 2).trans (show _ = some (Value.int .u16 0) from rfl)
      have p3 := (cell_of_block B1 3).trans (show _ = some (Value.int .u32 0) from rfl)
      have p4 := (cell_of_block B1 4).trans (show _ = some (Value.int .u32 0) from rfl)
      have p5 := (cell_of_block B1 5).trans (show _ = some (Value.slice none 0 0) from rfl)
      have f0 := free_of_block B1 0
      have f1 := free_of_block B1 1
      have f2 := free_of_block B1 2
      have f3 := free_of_block B1 3
      have f4 := free_of_block B1 4
      have f5 := free_of_block B1 5
      have blt := lt_of_block B1
      have HB1 := hid B1
      clear B1
      have hal' := HAL2.out
      go_wp2
      have S := pk_stored HB1.out (.int .u8 0) (.int .u8 0) (.int .u16 0) (.int .u32 0) (.int .u32 0) (.slice none 0 0)
      have s0 := (cell_of_block S 0).trans (show _ = some (Value.int .u8 0) from rfl)
      have s1 := (cell_of_block S 1).trans (show _ = some (Value.int .u8 0) from rfl)
      have s2 := (cell_of_block S 2).trans (show _ = some (Value.int .u16 0) from rfl)
      have s3 := (cell_of_block S 3).trans (show _ = some (Value.int .u32 0) from rfl)
      have s4 := (cell_of_block S 4).trans (show _ = some (Value.int .u32 0) from rfl)
      have s5 := (cell_of_block S 5).trans (show _ = some (Value.slice none 0 0) from rfl)
      exact bodyPost_ret (v := .tuple #[.agg #[.int .u8 0, .int .u8 0, .int .u16 0, .int .u32 0, .int .u32 0, .slice none 0 0], .int .i64 14]) (by simp [results, Tryd.results38, go_sem, s0, s1, s2, s3, s4, s5]) rfl ⟨.slice none 0 0, by rw [R.out, R2.out]; rfl, by rw [R2.out]; exact Bytes.nil _, far_nil _ _ _, pk_grown G1 (Nat.le_refl _) _ _ _ _ _ _⟩
    have hsp := fun W (g : w.grownBy W none) => rsum_any (l.take 20) (.slice (some ⟨b, o, none⟩) 20 c) W ((HB.out.part 20 (by omega)).grown g) (by simp; omega)
    have Hsp := hid hsp
    have hs16 : sum16 (l.take 20) ≤ 65535 := sum16_bd _
    generalize sum16 (l.take 20) = sm at *
    clear hsp
    by_cases c7 : sm ≠ 0
    · have R := hid (show rdCode l = 12 by rw [RC2.out, if_neg (by omega), if_neg c6, if_pos c7])
      have R2 := hid (rd_err R.out (by omega))
      have t7 : (((sm : Nat) : Int) != 0) = true := by simp only [bne_iff_ne, ne_eq]; omega
      clear RC RC2
      go_enter Tryd.func38, Tryd.ntmps38
      go_wp2_with fail
      go_quiet (fail)
      obtain ⟨W1, hW1⟩ : ∃ W1, (w.alloc (.cells #[.int .u8 0, .int .u8 0, .int .u16 0, .int .u32 0, .int .u32 0, .slice none 0 0] 48)).drewN nq = W1 := ⟨_, rfl⟩
      rw [hW1]
      have B1 : W1.heap[w.heap.size]? = some (.cells #[.int .u8 0, .int .u8 0, .int .u16 0, .int .u32 0, .int .u32 0, .slice none 0 0] 48 (0, 0)) := by rw [← hW1]; exact heap_alloc_new w _
      have G1 : w.grownBy W1 none := by rw [← hW1]; exact gr_drewN nq (gr_alloc (gr_refl _ _) _)
      clear hW1 w1 w2 w3 w4
      have p0 := (cell_of_block B1 0).trans (show _ = some (Value.int .u8 0) from rfl)
      have p1 := (cell_of_block B1 1).trans (show _ = some (Value.int .u8 0) from rfl)
      have p2 := (cell_of_block B1 2).trans (show _ = some (Value.int .u16 0) from rfl)
      have p3 := (cell_of_block B1 3).trans (show _ = some (Value.int .u32 0) from rfl)
      have p4 := (cell_of_block B1 4).trans (show _ = some (Value.int .u32 0) from rfl)
      have p5 := (cell_of_block B1 5).trans (show _ = some (Value.slice none 0 0) from rfl)
      have f0 := free_of_block B1 0
      have f1 := free_of_block B1 1
      have f2 := free_of_block B1 2
      have f3 := free_of_block B1 3
      have f4 := free_of_block B1 4
      have f5 := free_of_block B1 5
      have blt := lt_of_block B1
      have HB1 := hid B1
      clear B1
      have hal' := HAL2.out
      go_wp2_with fail
      refine (Hsp.out W1 G1).mono ?_
      rintro e W2 ⟨rfl, g2⟩
      have HB2 := hid (gr_keep g2 HB1.out (by simp))
      have G2 := gr_trans G1 g2
      clear p0 p1 p2 p3 p4 p5 f0 f1 f2 f3 f4 f5 blt G1 g2
      have p0 := (cell_of_block HB2.out 0).trans (show _ = some (Value.int .u8 0) from rfl)
      have p1 := (cell_of_block HB2.out 1).trans (show _ = some (Value.int .u8 0) from rfl)
      have p2 := (cell_of_block HB2.out 2).trans (show _ = some (Value.int .u16 0) from rfl)
      have p3 := (cell_of_block HB2.out 3).trans (show _ = some (Value.int .u32 0) from rfl)
      have p4 := (cell_of_block HB2.out 4).trans (show _ = some (Value.int .u32 0) from rfl)
      have p5 := (cell_of_block HB2.out 5).trans (show _ = some (Value.slice none 0 0) from rfl)
      have f0 := free_of_block HB2.out 0
      have f1 := free_of_block HB2.out 1
      have f2 := free_of_block HB2.out 2
      have f3 := free_of_block HB2.out 3
      have f4 := free_of_block HB2.out 4
      have f5 := free_of_block HB2.out 5
      have blt := lt_of_block HB2.out
      clear HB1
      have HB1 := HB2
      have G1 := G2
      clear HB2 G2
      go_wp2
      have S := pk_stored HB1.out (.int .u8 0) (.int .u8 0) (.int .u16 0) (.int .u32 0) (.int .u32 0) (.slice none 0 0)
      have s0 := (cell_of_block S 0).trans (show _ = some (Value.int .u8 0) from rfl)
      have s1 := (cell_of_block S 1).trans (show _ = some (Value.int .u8 0) from rfl)
      have s2 := (cell_of_block S 2).trans (show _ = some (Value.int .u16 0) from rfl)
      have s3 := (cell_of_block S 3).trans (show _ = some (Value.int .u32 0) from rfl)
      have s4 := (cell_of_block S 4).trans (show _ = some (Value.int .u32 0) from rfl)
      have s5 := (cell_of_block S 5).trans (show _ = some (Value.slice none 0 0) from rfl)
      exact bodyPost_ret (v := .tuple #[.agg #[.int .u8 0, .int .u8 0, .int .u16 0, .int .u32 0, .int .u32 0, .slice none 0 0], .int .i64 12]) (by simp [results, Tryd.results38, go_sem, s0, s1, s2, s3, s4, s5]) rfl ⟨.slice none 0 0, by rw [R.out, R2.out]; rfl, by rw [R2.out]; exact Bytes.nil _, far_nil _ _ _, pk_grown G1 (Nat.le_refl _) _ _ _ _ _ _⟩
    have hsm : sm = 0 := by omega
    have y6 := HC.out 6 (by omega)
    have y7 := HC.out 7 (by omega)
    rw [show ((l.getD 6 0).toNat : Int) = (b8 l 6 : Nat) from rfl] at y6
    rw [show ((l.getD 7 0).toNat : Int) = (b8 l 7 : Nat) from rfl] at y7
    have hb6 := b8_lt l 6
    have hb7 := b8_lt l 7
    have RC3 := hid (show rdCode l = if (256 * b8 l 6 + b8 l 7) % 16384 ≠ 0 then 13 else 0 by rw [RC2.out, if_neg (by omega), if_neg c6, if_neg c7])
    generalize b8 l 6 = q6 at *
    generalize b8 l 7 = q7 at *
    have u1 : IntKind.i64.wrap (256 * (q6 : Int)) = 256 * (q6 : Int) := IntWalk.i64_in _ (by omega)
    have u2 : IntKind.i64.wrap (256 * (q6 : Int) + (q7 : Int)) = 256 * (q6 : Int) + (q7 : Int) := IntWalk.i64_in _ (by omega)
    have u3 : IntKind.i64.wrap (q6 : Int) = (q6 : Int) := IntWalk.i64_in _ (by omega)
    have u4 : IntKind.i64.wrap (q7 : Int) = (q7 : Int) := IntWalk.i64_in _ (by omega)
    have u5 : (256 * (q6 : Int) + (q7 : Int)).tmod 16384 = (256 * (q6 : Int) + (q7 : Int)) % 16384 := Int.tmod_eq_emod_of_nonneg (by omega)
    have U1 := hid u1
    have U2 := hid u2
    have U3 := hid u3
    have U4 := hid u4
    have U5 := hid u5
    have hsz : (((sm : Nat) : Int) != 0) = false := by simp only [bne_eq_false_iff_eq]; omega
    clear u1 u2 u3 u4 u5 RC RC2 c7 hsm
    by_cases c8 : (256 * q6 + q7) % 16384 ≠ 0
    · have R := hid (show rdCode l = 13 by rw [RC3.out, if_pos c8])
      have R2 := hid (rd_err R.out (by omega))
      have t8 : ((256 * (q6 : Int) + (q7 : Int)) % 16384 != 0) = true := by simp only [bne_iff_ne, ne_eq]; omega
      have T8 := hid t8
      clear c8 t8
      go_enter Tryd.func38, Tryd.ntmps38
      go_wp2_with fail
      go_quiet (fail)
      obtain ⟨W1, hW1⟩ : ∃ W1, (w.alloc (.cells #[.int .u8 0, .int .u8 0, .int .u16 0, .int .u32 0, .int .u32 0, .slice none 0 0] 48)).drewN nq = W1 := ⟨_, rfl⟩
      rw [hW1]
      have B1 : W1.heap[w.heap.size]? = some (.cells #[.int .u8 0, .int .u8 0, .int .u16 0, .int .u32 0, .int .u32 0, .slice none 0 0] 48 (0, 0)) := by rw [← hW1]; exact heap_alloc_new w _
      have G1 : w.grownBy W1 none := by rw [← hW1]; exact gr_drewN nq (gr_alloc (gr_refl _ _) _)
      clear hW1 w1 w2 w3 w4
      have p0 := (cell_of_block B1 0).trans (show _ = some (Value.int .u8 0) from rfl)
      have p1 := (cell_of_block B1 1).trans (show _ = some (Value.int .u8 0) from rfl)
      have p2 := (cell_of_block B1 2).trans (show _ = some (Value.int .u16 0) from rfl)
      have p3 := (cell_of_block B1 3).trans (show _ = some (Value.int .u32 0) from rfl)
      have p4 := (cell_of_block B1 4).trans (show _ = some (Value.int .u32 0) from rfl)
      have p5 := (cell_of_block B1 5).trans (show _ = some (Value.slice none 0 0) from rfl)
      have f0 := free_of_block B1 0
      have f1 := free_of_block B1 1
      have f2 := free_of_block B1 2
      have f3 := free_of_block B1 3
      have f4 := free_of_block B1 4
      have f5 := free_of_block B1 5
      have blt := lt_of_block B1
      have HB1 := hid B1
      clear B1
      have hal' := HAL2.out
      go_wp2_with fail
      refine (Hsp.out W1 G1).mono ?_
      rintro e W2 ⟨rfl, g2⟩
      have z6 := (gr_trans G1 g2).cell y6 (by simp)
      have z7 := (gr_trans G1 g2).cell y7 (by simp)
      have HB2 := hid (gr_keep g2 HB1.out (by simp))
      have G2 := gr_trans G1 g2
      clear p0 p1 p2 p3 p4 p5 f0 f1 f2 f3 f4 f5 blt G1 g2
      have p0 := (cell_of_block HB2.out 0).trans (show _ = some (Value.int .u8 0) from rfl)
      have p1 := (cell_of_block HB2.out 1).trans (show _ = some (Value.int .u8 0) from rfl)
      have p2 := (cell_of_block HB2.out 2).trans (show _ = some (Value.int .u16 0) from rfl)
      have p3 := (cell_of_block HB2.out 3).trans (show _ = some (Value.int .u32 0) from rfl)
      have p4 := (cell_of_block HB2.out 4).trans (show _ = some (Value.int .u32 0) from rfl)
      have p5 := (cell_of_block HB2.out 5).trans (show _ = some (Value.slice none 0 0) from rfl)
      have f0 := free_of_block HB2.out 0
      have f1 := free_of_block HB2.out 1
      have f2 := free_of_block HB2.out 2
      have f3 := free_of_block HB2.out 3
      have f4 := free_of_block HB2.out 4
      have f5 := free_of_block HB2.out 5
      have blt := lt_of_block HB2.out
      go_wp2_with fail
      have u1 := U1.out
      have u2 := U2.out
      have u3 := U3.out
      have u4 := U4.out
      have u5 := U5.out
      have t8 := T8.out
      go_quiet (fail)
      clear u1 u2 u3 u4 u5
      obtain ⟨W3, hW3⟩ : ∃ W3, W2.drewN nq = W3 := ⟨_, rfl⟩
      rw [hW3]
      clear HB1
      have HB1 := hid (show W3.heap[w.heap.size]? = some (.cells #[.int .u8 0, .int .u8 0, .int .u16 0, .int .u32 0, .int .u32 0, .slice none 0 0] 48 (0, 0)) by rw [← hW3]; exact HB2.out)
      have G1 : w.grownBy W3 none := by rw [← hW3]; exact gr_drewN nq G2
      clear p0 p1 p2 p3 p4 p5 f0 f1 f2 f3 f4 f5 blt G2 HB2 hW3
      have p0 := (cell_of_block HB1.out 0).trans (show _ = some (Value.int .u8 0) from rfl)
      have p1 := (cell_of_block HB1.out 1).trans (show _ = some (Value.int .u8 0) from rfl)
      have p2 := (cell_of_block HB1.out 2).trans (show _ = some (Value.int .u16 0) from rfl)
      have p3 := (cell_of_block HB1.out 3).trans (show _ = some (Value.int .u32 0) from rfl)
      have p4 := (cell_of_block HB1.out 4).trans (show _ = some (Value.int .u32 0) from rfl)
      have p5 := (cell_of_block HB1.out 5).trans (show _ = some (Value.slice none 0 0) from rfl)
      have f0 := free_of_block HB1.out 0
      have f1 := free_of_block HB1.out 1
      have f2 := free_of_block HB1.out 2
      have f3 := free_of_block HB1.out 3
      have f4 := free_of_block HB1.out 4
      have f5 := free_of_block HB1.out 5
      have blt := lt_of_block HB1.out
      go_wp2
      have S := pk_stored HB1.out (.int .u8 0) (.int .u8 0) (.int .u16 0) (.int .u32 0) (.int .u32 0) (.slice none 0 0)
      have s0 := (cell_of_block S 0).trans (show _ = some (Value.int .u8 0) from rfl)
      have s1 := (cell_of_block S 1).trans (show _ = some (Value.int .u8 0) from rfl)
      have s2 := (cell_of_block S 2).trans (show _ = some (Value.int .u16 0) from rfl)
      have s3 := (cell_of_block S 3).trans (show _ = some (Value.int .u32 0) from rfl)
      have s4 := (cell_of_block S 4).trans (show _ = some (Value.int .u32 0) from rfl)
      have s5 := (cell_of_block S 5).trans (show _ = some (Value.slice none 0 0) from rfl)
      exact bodyPost_ret (v := .tuple #[.agg #[.int .u8 0, .int .u8 0, .int .u16 0, .int .u32 0, .int .u32 0, .slice none 0 0], .int .i64 13]) (by simp [results, Tryd.results38, go_sem, s0, s1, s2, s3, s4, s5]) rfl ⟨.slice none 0 0, by rw [R.out, R2.out]; rfl, by rw [R2.out]; exact Bytes.nil _, far_nil _ _ _, pk_grown G1 (Nat.le_refl _) _ _ _ _ _ _⟩
    exact rread_ok l _ w HB.out hl (by rw [RC3.out, if_neg c8])
end Go.Proofs.YtjpkmbgpkdomnaaDoor
