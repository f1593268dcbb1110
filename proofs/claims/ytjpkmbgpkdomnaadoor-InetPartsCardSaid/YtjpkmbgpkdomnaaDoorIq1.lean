/- The walk of InetParts. -/
import Derived.Test.YtjpkmbgpkdomnaaDoorIt1
import Derived.Test.YtjpkmbgpkdomnaaDoorWr4
namespace Go.Proofs.YtjpkmbgpkdomnaaDoor
open Go.RowKit

/-- A header with other flags and no check sum. -/
theorem hdS_flags (p : Pk) (f c : Nat) : ((((hdF p 16384 c ++ p.body).set 6 (UInt8.ofNat (f / 256 % 256))).set 7 (UInt8.ofNat (f % 256))).set 10 0).set 11 0 = hdF p f 0 ++ p.body := by
  simp [hdF, beL]
theorem hdF_sumset (p : Pk) (f c : Nat) : ((hdF p f 0 ++ p.body).set 10 (UInt8.ofNat (c / 256 % 256))).set 11 (UInt8.ofNat (c % 256)) = hdF p f c ++ p.body := by
  simp [hdF, beL]
theorem cells_set {w : World} {g n : Nat} {l : List UInt8} {i : Nat} {x : UInt8} (hl : l.length = n) (h : ∀ i, i < n → w.cell? ⟨g, i, none⟩ = some (bv (l.getD i 0))) (hi : i < n) :
    (l.set i x).length = n ∧ ∀ j, j < n → (w.setCell ⟨g, i, none⟩ (bv x)).cell? ⟨g, j, none⟩ = some (bv ((l.set i x).getD j 0)) :=
  ⟨by simpa using hl, bytes_set_one hl h hi⟩
set_option maxRecDepth 20000 in
set_option maxHeartbeats 4000000 in
theorem inet_parts_walk (p : Pk) (vb : Value) (f : Nat) (hf : f ≤ 65535) (m : Int) (w : World) (hb : Bytes w vb p.body) (ok : p.Ok) (hm : Hid (MaxCell m w)) (h10 : Hid (P10 w)) :
    Calls Tryd.prog 12 #[p.val vb, .int .u16 f] w fun e w' => e = .returned (.bool true) ∧ w.grownBy w' none := by
  have HW := hid (fun W (g : w.grownBy W none) => iwrite_any p vb W (hb.grown g) ok)
  have hcode := hid (fun hl => wrF_code p f hl)
  have hpl := hid (wrF_len p 16384)
  have HF1 := hid (fun c => hdS_flags p f c)
  have HF2 := hid (fun c => hdF_sumset p f c)
  have HT := hid (wrF_take p f)
  have HD := hid (show wrF p f = hdF p f (sum16 (hdF p f 0)) ++ p.body from rfl)
  have HD0 := hid (show wrL p = hdF p 16384 (sum16 (hdF p 16384 0)) ++ p.body from rfl)
  have HT0 := hid (show (hdF p f 0 ++ p.body).take 20 = hdF p f 0 by rw [List.take_append_of_le_length (by rw [hdF_len]; omega), List.take_of_length_le (by rw [hdF_len]; omega)])
  obtain ⟨x1, x2, x3, x4, x5, lb⟩ := p
  dsimp only [Pk.val] at *
  have HBd := hid hb
  obtain ⟨ab, cb, rfl, y1, y2, -⟩ := hb
  have y2' : cb ≤ 9223372036854775807 := y2
  clear y2
  have A0 := heap_alloc_new w (.cells #[.int .u8 x1, .int .u8 x2, .int .u16 x3, .int .u32 x4, .int .u32 x5, .slice ab lb.length cb] 48)
  have G0 := World.grownBy_alloc w (.cells #[.int .u8 x1, .int .u8 x2, .int .u16 x3, .int .u32 x4, .int .u32 x5, .slice ab lb.length cb] 48) none
  have hsp := hid (ispeaks_true m _ (G0.cell hm.out (by simp)) (h10.out.grown G0))
  go_enter Tryd.func12, Tryd.ntmps12
  go_wp2_with fail
  generalize w.alloc (.cells #[.int .u8 x1, .int .u8 x2, .int .u16 x3, .int .u32 x4, .int .u32 x5, .slice ab lb.length cb] 48) = w1 at *
  refine hsp.out.mono ?_
  rintro e w2 ⟨rfl, g2⟩
  have A2 := hid (gr_keep g2 A0 (by simp))
  have G2 := hid (gr_trans G0 g2)
  clear A0 G0 g2
  have p0 := (cell_of_block A2.out 0).trans (show _ = some (Value.int .u8 x1) from rfl)
  have p1 := (cell_of_block A2.out 1).trans (show _ = some (Value.int .u8 x2) from rfl)
  have p2 := (cell_of_block A2.out 2).trans (show _ = some (Value.int .u16 x3) from rfl)
  have p3 := (cell_of_block A2.out 3).trans (show _ = some (Value.int .u32 x4) from rfl)
  have p4 := (cell_of_block A2.out 4).trans (show _ = some (Value.int .u32 x5) from rfl)
  have p5 := (cell_of_block A2.out 5).trans (show _ = some (Value.slice ab lb.length cb) from rfl)
  go_wp2_with fail
  refine (HW.out w2 G2.out).mono ?_
  intro e w3 hpost
  clear p0 p1 p2 p3 p4 p5
  by_cases hlen : 1480 < lb.length
  · obtain ⟨rfl, g3⟩ := wr_long hpost hlen
    have A3 := gr_keep g3 A2.out (by simp)
    have hleni : (1480 : Int) < (lb.length : Int) := by omega
    have p5 := (cell_of_block A3 5).trans (show _ = some (Value.slice ab lb.length cb) from rfl)
    clear A3
    go_wp2
    go_ret
    exact ⟨rfl, gr_trans G2.out g3⟩
  · obtain ⟨v, rfl, hfb, g3⟩ := wr_ok hpost hlen
    have hln : (wrL ⟨x1, x2, x3, x4, x5, lb⟩).length = 20 + lb.length := hpl.out
    obtain ⟨gh, ch, rfl, q1, q2, q3, q4, q5⟩ := fresh_cells hfb
    rw [hln] at q2 q4 q5 ⊢
    have H1 := HF1.out (sum16 (hdF ⟨x1, x2, x3, x4, x5, lb⟩ 16384 0))
    rw [← HD0.out] at H1
    generalize wrL ⟨x1, x2, x3, x4, x5, lb⟩ = l at *
    have Q1 := hid q1
    obtain ⟨n, hn⟩ : ∃ n, n = 20 + lb.length := ⟨_, rfl⟩
    rw [← hn] at hln q2 q4 q5
    have HN := hid hn
    have Q5 := hid q5
    have c6 := q4 6 (by omega)
    have c7 := q4 7 (by omega)
    have c10 := q4 10 (by omega)
    have c11 := q4 11 (by omega)
    have f6 := q5 6 (by omega)
    have f7 := q5 7 (by omega)
    have f10 := q5 10 (by omega)
    have f11 := q5 11 (by omega)
    have blt := World.block_lt_of_cell? _ _ c6
    replace blt : gh < w3.heap.size := blt
    obtain ⟨l1, s1⟩ := cells_set (x := UInt8.ofNat (f / 256 % 256)) hln q4 (show 6 < n by omega)
    obtain ⟨l2, s2⟩ := cells_set (x := UInt8.ofNat (f % 256)) l1 s1 (show 7 < n by omega)
    obtain ⟨l3, s3⟩ := cells_set (x := 0) l2 s2 (show 10 < n by omega)
    obtain ⟨l4, s4⟩ := cells_set (x := 0) l3 s3 (show 11 < n by omega)
    rw [H1] at l4 s4
    have e1 : bv (UInt8.ofNat (f / 256 % 256)) = .int .u8 ((f : Int) / 256) := by simp [bv]; omega
    have e2 : bv (UInt8.ofNat (f % 256)) = .int .u8 ((f : Int) % 256) := by simp [bv]
    have e3 : bv 0 = .int .u8 0 := rfl
    rw [e1, e2, e3] at s4
    have S4 := hid s4
    have L4 := hid l4
    have n11 := hid (show 11 < n by omega)
    have n20 := hid (show 20 ≤ n by omega)
    clear l1 s1 l2 s2 l3 s3 l4 s4 e1 e2 e3 H1 q4 q5 hn
    have i6 : (6 : Int) < 20 + (lb.length : Int) := by omega
    have i7 : (7 : Int) < 20 + (lb.length : Int) := by omega
    have i10 : (10 : Int) < 20 + (lb.length : Int) := by omega
    have i11 : (11 : Int) < 20 + (lb.length : Int) := by omega
    have i20 : (20 : Int) ≤ (ch : Int) := by have := n20.out; omega
    have q3' : ch ≤ 9223372036854775807 := q3
    have wf1 : IntKind.u8.wrap ((f : Int) / 256) = (f : Int) / 256 := IntWalk.u8_in _ (by omega)
    have hfi : (f : Int) ≤ 65535 := by omega
    have HB4 := hid (bytes_set L4.out q2 q3 S4.out)
    have gs4 : w3.grownBy ((((w3.setCell ⟨gh, 6, none⟩ (.int .u8 ((f : Int) / 256))).setCell ⟨gh, 7, none⟩ (.int .u8 ((f : Int) % 256))).setCell ⟨gh, 10, none⟩ (.int .u8 0)).setCell ⟨gh, 11, none⟩ (.int .u8 0)) (some gh) := gr_set (gr_set (gr_set (gr_set (gr_refl w3 (some gh)))))
    have GS4 := hid gs4
    have hfr : ∀ j, j < n → ((((w3.setCell ⟨gh, 6, none⟩ (.int .u8 ((f : Int) / 256))).setCell ⟨gh, 7, none⟩ (.int .u8 ((f : Int) % 256))).setCell ⟨gh, 10, none⟩ (.int .u8 0)).setCell ⟨gh, 11, none⟩ (.int .u8 0)).frozen? ⟨gh, j, none⟩ = false := fun j hj =>
      (World.frozen?_setCells gh [.int .u8 0] 11 _ _).trans ((World.frozen?_setCells gh [.int .u8 0] 10 _ _).trans ((World.frozen?_setCells gh [.int .u8 ((f : Int) % 256)] 7 _ _).trans ((World.frozen?_setCells gh [.int .u8 ((f : Int) / 256)] 6 _ _).trans (Q5.out j hj))))
    have HFR := hid hfr
    clear gs4 hfr
    go_wp2_with fail
    clear c6 c7 c10 c11 f6 f7 f10 f11 blt
    generalize (((w3.setCell ⟨gh, 6, none⟩ (.int .u8 ((f : Int) / 256))).setCell ⟨gh, 7, none⟩ (.int .u8 ((f : Int) % 256))).setCell ⟨gh, 10, none⟩ (.int .u8 0)).setCell ⟨gh, 11, none⟩ (.int .u8 0) = w4 at *
    have hpart := HB4.out.part 20 n20.out
    rw [HT0.out] at hpart
    have hsle : sum16 (hdF ⟨x1, x2, x3, x4, x5, lb⟩ f 0) ≤ 65535 := sum16_bd _
    refine (rsum_any (hdF ⟨x1, x2, x3, x4, x5, lb⟩ f 0) _ w4 hpart (by rw [hdF_len]; omega)).mono ?_
    rintro e w5 ⟨rfl, g5⟩
    have HDF := HD.out
    have H2 := HF2.out (sum16 (hdF ⟨x1, x2, x3, x4, x5, lb⟩ f 0))
    rw [← HDF] at H2
    clear HDF HD
    generalize sum16 (hdF ⟨x1, x2, x3, x4, x5, lb⟩ f 0) = sm at *
    have q4 : ∀ i, i < n → w5.cell? ⟨gh, i, none⟩ = some (bv ((hdF ⟨x1, x2, x3, x4, x5, lb⟩ f 0 ++ lb).getD i 0)) := fun i hi => g5.cell (S4.out i hi) (by simp)
    have c10 := q4 10 (by have := n11.out; omega)
    have c11 := q4 11 n11.out
    have f10 := frozen_grown g5 (S4.out 10 (by have := n11.out; omega)) (HFR.out 10 (by have := n11.out; omega))
    have f11 := frozen_grown g5 (S4.out 11 n11.out) (HFR.out 11 n11.out)
    have blt := World.block_lt_of_cell? _ _ c10
    replace blt : gh < w5.heap.size := blt
    obtain ⟨l1, s1⟩ := cells_set (x := UInt8.ofNat (sm / 256 % 256)) L4.out q4 (show 10 < n by have := n11.out; omega)
    obtain ⟨l2, s2⟩ := cells_set (x := UInt8.ofNat (sm % 256)) l1 s1 (show 11 < n from n11.out)
    have H2' : ((hdF ⟨x1, x2, x3, x4, x5, lb⟩ f 0 ++ lb).set 10 (UInt8.ofNat (sm / 256 % 256))).set 11 (UInt8.ofNat (sm % 256)) = wrF ⟨x1, x2, x3, x4, x5, lb⟩ f := H2
    rw [H2'] at l2 s2
    have e1 : bv (UInt8.ofNat (sm / 256 % 256)) = .int .u8 ((sm : Int) / 256) := by simp [bv]; omega
    have e2 : bv (UInt8.ofNat (sm % 256)) = .int .u8 ((sm : Int) % 256) := by simp [bv]
    rw [e1, e2] at s2
    have HB6 := hid (bytes_set l2 q2 q3 s2)
    have gs6 : w5.grownBy ((w5.setCell ⟨gh, 10, none⟩ (.int .u8 ((sm : Int) / 256))).setCell ⟨gh, 11, none⟩ (.int .u8 ((sm : Int) % 256))) (some gh) := gr_set (gr_set (gr_refl w5 (some gh)))
    have GT4 := gr_new (gr_trans G2.out g3) GS4.out (Nat.le_trans G2.out.size Q1.out)
    have GT6 := hid (gr_new (gr_trans GT4 g5) gs6 (Nat.le_trans G2.out.size Q1.out))
    have wq : IntKind.u8.wrap ((sm : Int) / 256) = (sm : Int) / 256 := IntWalk.u8_in _ (by omega)
    have hsmi : (sm : Int) ≤ 65535 := by omega
    have L6 := hid l2
    clear l1 s1 l2 s2 H2 H2' e1 e2 gs6 GT4 q4 hpart hsle g5
    go_wp2_with fail
    generalize (w5.setCell ⟨gh, 10, none⟩ (.int .u8 ((sm : Int) / 256))).setCell ⟨gh, 11, none⟩ (.int .u8 ((sm : Int) % 256)) = w6 at *
    have hrd := iread_any (wrF ⟨x1, x2, x3, x4, x5, lb⟩ f) _ w6 HB6.out (by rw [L6.out, HN.out]; omega)
    rw [HN.out] at hrd
    refine hrd.mono ?_
    rintro e w7 ⟨body, rfl, hbody, -, g7⟩
    have hc := hcode.out (show lb.length ≤ 1480 by omega)
    generalize rdCode (wrF ⟨x1, x2, x3, x4, x5, lb⟩ f) = code at *
    generalize rdPk (wrF ⟨x1, x2, x3, x4, x5, lb⟩ f) = pk at *
    obtain ⟨r1, r2, r3, r4, r5, rb⟩ := pk
    obtain ⟨ra, rc, rfl, -, -, -⟩ := hbody
    have GF := hid (gr_trans GT6.out g7)
    have hand : bits .and .u16 (f : Int) 16383 = (f : Int) % 16384 := by
      have h := u16_and_nat f 16383 (by omega) (by omega)
      rw [show (16383 : Int) = ((16383 : Nat) : Int) from rfl, h, pow_and]; omega
    clear hrd g7
    dsimp only [Pk.val]
    by_cases hff : f % 16384 = 0
    · rw [if_neg (by omega)] at hc
      subst hc
      have t1 : ((f : Int) % 16384 != 0) = false := by simp only [bne_eq_false_iff_eq]; omega
      have t2 : ((f : Int) % 16384 == 0) = true := by simp only [beq_iff_eq]; omega
      clear hff
      go_wp2
      go_ret
      exact ⟨by first | rfl | simp [t2] | simp [t1], gr_alloc GF.out _⟩
    · rw [if_pos hff] at hc
      subst hc
      have t1 : ((f : Int) % 16384 != 0) = true := by simp only [bne_iff_ne, ne_eq]; omega
      have t2 : ((f : Int) % 16384 == 0) = false := by simp only [beq_eq_false_iff_ne, ne_eq]; omega
      clear hff
      go_wp2
      go_ret
      exact ⟨by first | rfl | simp [t2] | simp [t1], gr_alloc GF.out _⟩
end Go.Proofs.YtjpkmbgpkdomnaaDoor
