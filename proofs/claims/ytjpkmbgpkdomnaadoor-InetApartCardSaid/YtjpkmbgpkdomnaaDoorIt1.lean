/- The walk of InetTurned. -/
import Derived.Test.YtjpkmbgpkdomnaaDoorWr3
import Derived.Test.YtjpkmbgpkdomnaaDoorRd3
import Derived.Test.YtjpkmbgpkdomnaaDoorIn8
namespace Go.Proofs.YtjpkmbgpkdomnaaDoor
open Go.RowKit

theorem i64_and16 (n : Int) : bits .and .i64 n 65535 = n % 65536 := by
  have h1 : (BitVec.ofInt 64 65535).toNat = 2 ^ 16 - 1 := by decide
  have key : (BitVec.ofInt 64 n &&& BitVec.ofInt 64 65535).toNat = (n % ((2 ^ 64 : Nat) : Int)).toNat % 2 ^ 16 := by
    rw [BitVec.toNat_and, BitVec.toNat_ofInt, h1, Nat.and_two_pow_sub_one_eq_mod]
  show IntKind.i64.wrap ((BitVec.ofInt 64 n &&& BitVec.ofInt 64 65535).toNat : Nat) = _
  rw [key, IntKind.wrap_i64]
  omega
theorem wr_ok {w : World} {p : Pk} {e : Ending} {w' : World} (h : WrPost w p e w') (hl : ¬ 1480 < p.body.length) : ∃ v, e = .returned (.tuple #[v, .int .i64 0]) ∧ Lib.FreshBytes w.heap.size w' v (wrL p) ∧ w.grownBy w' none := by
  unfold WrPost at h; rw [if_neg hl] at h; exact h
theorem wr_long {w : World} {p : Pk} {e : Ending} {w' : World} (h : WrPost w p e w') (hl : 1480 < p.body.length) : e = .returned (.tuple #[.slice none 0 0, .int .i64 14]) ∧ w.grownBy w' none := by
  unfold WrPost at h; rw [if_pos hl] at h; exact h
theorem bytes_set_one {w : World} {g n : Nat} {l : List UInt8} {i : Nat} {x : UInt8} (hl : l.length = n) (h : ∀ i, i < n → w.cell? ⟨g, i, none⟩ = some (bv (l.getD i 0))) (hi : i < n) :
    ∀ j, j < n → (w.setCells g i [bv x]).cell? ⟨g, j, none⟩ = some (bv ((l.set i x).getD j 0)) := by
  intro j hj
  have hin := World.cell?_setCells_in g [bv x] i w (fun k hk => by
    have : k < 1 := hk
    rw [show i + k = i by omega, h i hi]; rfl)
  by_cases hij : j = i
  · subst hij
    have := hin 0 (by simp)
    rw [Nat.add_zero] at this
    rw [this]
    simp [List.getD_eq_getElem?_getD, hl, hi]
  · rw [World.cell?_setCells_out g _ i w ⟨g, j, none⟩ (fun _ _ => by show j < i ∨ i + 1 ≤ j; omega), h j hj]
    simp only [List.getD_eq_getElem?_getD]
    rw [List.getElem?_set_ne (by omega)]
theorem xor_bit (b : UInt8) (j : Nat) (hj : j < 8) : bits .xor .u8 (b.toNat : Int) ((2 : Int) ^ j % 256) = ((b ^^^ UInt8.ofNat (2 ^ j)).toNat : Int) := by
  have hb := UInt8.toNat_lt b
  rw [UInt8.toNat_xor]
  match j, hj with
  | 0, _ => exact u8_xor_nat b.toNat 1 hb (by omega)
  | 1, _ => exact u8_xor_nat b.toNat 2 hb (by omega)
  | 2, _ => exact u8_xor_nat b.toNat 4 hb (by omega)
  | 3, _ => exact u8_xor_nat b.toNat 8 hb (by omega)
  | 4, _ => exact u8_xor_nat b.toNat 16 hb (by omega)
  | 5, _ => exact u8_xor_nat b.toNat 32 hb (by omega)
  | 6, _ => exact u8_xor_nat b.toNat 64 hb (by omega)
  | 7, _ => exact u8_xor_nat b.toNat 128 hb (by omega)
set_option maxRecDepth 20000 in
set_option maxHeartbeats 4000000 in
theorem inet_turned_walk (p : Pk) (vb : Value) (bit : Int) (m : Int) (w : World) (hb : Bytes w vb p.body) (ok : p.Ok) (hm : Hid (MaxCell m w)) (h10 : Hid (P10 w)) :
    Calls Tryd.prog 10 #[p.val vb, .int .i64 bit] w fun e w' => e = .returned (.bool true) ∧ w.grownBy w' none := by
  have HW := hid (fun W (g : w.grownBy W none) => iwrite_any p vb W (hb.grown g) ok)
  have hcode := hid (fun k hk x hx => wrL_turned p k hk x hx)
  have hpl := hid (wrF_len p 16384)
  obtain ⟨x1, x2, x3, x4, x5, lb⟩ := p
  dsimp only [Pk.val] at *
  have HBd := hid hb
  obtain ⟨ab, cb, rfl, y1, y2, -⟩ := hb
  have y2' : cb ≤ 9223372036854775807 := y2
  clear y2
  have A0 := heap_alloc_new w (.cells #[.int .u8 x1, .int .u8 x2, .int .u16 x3, .int .u32 x4, .int .u32 x5, .slice ab lb.length cb] 48)
  have G0 := World.grownBy_alloc w (.cells #[.int .u8 x1, .int .u8 x2, .int .u16 x3, .int .u32 x4, .int .u32 x5, .slice ab lb.length cb] 48) none
  have hsp := hid (ispeaks_true m _ (G0.cell hm.out (by simp)) (h10.out.grown G0))
  go_enter Tryd.func10, Tryd.ntmps10
  go_wp2_with fail
  generalize w.alloc (.cells #[.int .u8 x1, .int .u8 x2, .int .u16 x3, .int .u32 x4, .int .u32 x5, .slice ab lb.length cb] 48) = w1 at *
  refine hsp.out.mono ?_
  rintro e w2 ⟨rfl, g2⟩
  have A2 := hid (gr_keep g2 A0 (by simp))
  have G2 := hid (gr_trans G0 g2)
  clear A0 G0 g2
  have p0 := (cell_of_block A2.out 0).trans (show _ = some (Value.int .u8 x1) from rfl)
  have p1 := (cell_of_block A2.out 1).trans (show _ = some (Value.int .u8 x2) from rfl)
  have p2 := (cell_of_block A2.out 2).trans (show _ = some (Value.int .u16 x3) from rfl)
  have p3 := (cell_of_block A2.out 3).trans (show _ = some (Value.int .u32 x4) from rfl)
  have p4 := (cell_of_block A2.out 4).trans (show _ = some (Value.int .u32 x5) from rfl)
  have p5 := (cell_of_block A2.out 5).trans (show _ = some (Value.slice ab lb.length cb) from rfl)
  go_wp2_with fail
  refine (HW.out w2 G2.out).mono ?_
  intro e w3 hpost
  clear p0 p1 p2 p3 p4 p5
  by_cases hlen : 1480 < lb.length
  · obtain ⟨rfl, g3⟩ := wr_long hpost hlen
    have A3 := gr_keep g3 A2.out (by simp)
    have hleni : (1480 : Int) < (lb.length : Int) := by omega
    have p5 := (cell_of_block A3 5).trans (show _ = some (Value.slice ab lb.length cb) from rfl)
    clear A3
    go_wp2
    go_ret
    exact ⟨rfl, gr_trans G2.out g3⟩
  · obtain ⟨v, rfl, hf, g3⟩ := wr_ok hpost hlen
    have hln : (wrL ⟨x1, x2, x3, x4, x5, lb⟩).length = 20 + lb.length := hpl.out
    obtain ⟨gh, ch, rfl, q1, q2, q3, q4, q5⟩ := fresh_cells hf
    generalize wrL ⟨x1, x2, x3, x4, x5, lb⟩ = l at *
    have hand := i64_and16 bit
    obtain ⟨kk, hkk⟩ : ∃ kk : Nat, (kk : Int) = bit % 65536 := ⟨(bit % 65536).toNat, by omega⟩
    rw [← hkk] at hand
    have hkb : (kk : Int) ≤ 65535 := by omega
    clear hkk
    have htm : (kk : Int).tmod 160 = ((kk % 160 : Nat) : Int) := by rw [Int.tmod_eq_emod_of_nonneg (by omega)]; omega
    have hk := hcode.out (kk % 160) (by omega) _ rfl
    obtain ⟨k, hkd⟩ : ∃ k, k = kk % 160 := ⟨_, rfl⟩
    have hk160 : k < 160 := by omega
    rw [← hkd] at hk htm
    clear hkd
    have hk8 : k / 8 < l.length := by omega
    have cK := q4 (k / 8) hk8
    have fK := q5 (k / 8) hk8
    have blt := World.block_lt_of_cell? _ _ cK
    replace blt : gh < w3.heap.size := blt
    generalize l.getD (k / 8) 0 = b at cK hk
    unfold bv at cK
    have HK := hid hk
    have Q4 := hid q4
    clear hk q4 q5
    have HLN := hid hln
    clear hcode hln
    go_wp2_with fail
    rw [xor_bit b (k % 8) (by omega)]
    obtain ⟨x, hx⟩ : ∃ x, x = b ^^^ UInt8.ofNat (2 ^ (k % 8)) := ⟨_, rfl⟩
    rw [← hx]
    rw [← hx] at HK
    have hbts : Bytes (w3.setCells gh (k / 8) [bv x]) (.slice (some ⟨gh, 0, none⟩) l.length ch) (l.set (k / 8) x) := bytes_set (by simp) q2 q3 (bytes_set_one rfl Q4.out hk8)
    have gs := setCells_grown gh [bv x] (k / 8) w3
    have GT := hid (gr_new (gr_trans G2.out g3) gs (Nat.le_trans G2.out.size q1))
    have HRD := hid (iread_any (l.set (k / 8) x) _ _ hbts (by simp; rw [HLN.out]; omega))
    clear hbts gs hx
    refine HRD.out.mono ?_
    rintro e w5 ⟨body, rfl, hbody, -, g5⟩
    have hne := HK.out
    have hle := rdCode_le (l.set (k / 8) x)
    generalize rdCode (l.set (k / 8) x) = code at *
    generalize rdPk (l.set (k / 8) x) = pk at *
    obtain ⟨r1, r2, r3, r4, r5, rb⟩ := pk
    obtain ⟨ra, rc, rfl, -, -, -⟩ := hbody
    have hci : ((code : Int) != 0) = true := by simp only [bne_iff_ne, ne_eq]; omega
    have GF := hid (gr_trans GT.out g5)
    clear hne hle g5 HK HRD
    dsimp only [Pk.val]
    go_wp2
    go_ret
    exact ⟨rfl, gr_alloc GF.out _⟩
end Go.Proofs.YtjpkmbgpkdomnaaDoor
