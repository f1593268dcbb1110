/- inet.Read. -/
import Derived.Test.YtjpkmbgpkdomnaaDoorRd1
import Derived.Test.YtjpkmbgpkdomnaaDoorEy6
namespace Go.Proofs.YtjpkmbgpkdomnaaDoor
open Go.RowKit

def RdFar (w : World) (l : List UInt8) (e : Ending) (w' : World) : Prop := ∃ body, e = .returned (.tuple #[(rdPk l).val body, .int .i64 (rdCode l)]) ∧ Bytes w' body (rdPk l).body ∧ Far w.heap.size body ∧ w.grownBy w' none
def PkAt (w : World) (b : Nat) (v0 v1 v2 v3 v4 v5 : Value) : Prop := w.heap[b]? = some (.cells #[v0, v1, v2, v3, v4, v5] 48 (0, 0))
section
variable {w : World} {b : Nat} {v0 v1 v2 v3 v4 v5 : Value}
theorem PkAt.set0 (h : PkAt w b v0 v1 v2 v3 v4 v5) (x : Value) : PkAt (w.setCell ⟨b, 0, none⟩ x) b x v1 v2 v3 v4 v5 := by unfold PkAt; rw [heap_set h]; rfl
theorem PkAt.set1 (h : PkAt w b v0 v1 v2 v3 v4 v5) (x : Value) : PkAt (w.setCell ⟨b, 1, none⟩ x) b v0 x v2 v3 v4 v5 := by unfold PkAt; rw [heap_set h]; rfl
theorem PkAt.set2 (h : PkAt w b v0 v1 v2 v3 v4 v5) (x : Value) : PkAt (w.setCell ⟨b, 2, none⟩ x) b v0 v1 x v3 v4 v5 := by unfold PkAt; rw [heap_set h]; rfl
theorem PkAt.set3 (h : PkAt w b v0 v1 v2 v3 v4 v5) (x : Value) : PkAt (w.setCell ⟨b, 3, none⟩ x) b v0 v1 v2 x v4 v5 := by unfold PkAt; rw [heap_set h]; rfl
theorem PkAt.set4 (h : PkAt w b v0 v1 v2 v3 v4 v5) (x : Value) : PkAt (w.setCell ⟨b, 4, none⟩ x) b v0 v1 v2 v3 x v5 := by unfold PkAt; rw [heap_set h]; rfl
theorem PkAt.set5 (h : PkAt w b v0 v1 v2 v3 v4 v5) (x : Value) : PkAt (w.setCell ⟨b, 5, none⟩ x) b v0 v1 v2 v3 v4 x := by unfold PkAt; rw [heap_set h]; rfl
theorem PkAt.kept (h : PkAt w b v0 v1 v2 v3 v4 v5) {w' : World} {p : Nat} (g : w.grownBy w' (some p)) (hp : b ≠ p) : PkAt w' b v0 v1 v2 v3 v4 v5 := gr_keep g h (by simp; exact hp)
theorem PkAt.free (h : PkAt w b v0 v1 v2 v3 v4 v5) (o : Nat) : w.frozen? ⟨b, o, none⟩ = false := free_of_block h o
theorem PkAt.lt (h : PkAt w b v0 v1 v2 v3 v4 v5) : b < w.heap.size := lt_of_block h
end
theorem eye_step (m p : Nat) (l : List UInt8) (k j : Nat) (w : World) (hE : EyeAt m w p (l.drop k) false) (hj : 1 ≤ j ∧ j ≤ 8) (hk : k + j ≤ l.length) (hl : l.length ≤ 100000) :
    Calls Tryd.prog 50 #[.pointer (some ⟨p, 0, none⟩), .int .i64 j] w (NumPost2 m w p (beN ((l.drop k).take j)) (l.drop (k + j)) false) := by
  have h := eye_num m p (l.drop k) false j w hE hj.1 hj.2 (by simp; omega) (by simp; omega)
  rw [List.drop_drop] at h
  exact h
theorem eye_step1 (m p : Nat) (l : List UInt8) (k q : Nat) (hq : q = b8 l k) (hk : k + 1 ≤ l.length) (hl : l.length ≤ 100000) (w : World) (hE : EyeAt m w p (l.drop k) false) :
    Calls Tryd.prog 50 #[.pointer (some ⟨p, 0, none⟩), .int .i64 1] w (NumPost2 m w p q (l.drop (k + 1)) false) := by
  have h := eye_step m p l k 1 w hE (by omega) hk hl
  rw [beN_b8 l k (by omega), ← hq] at h
  exact h
theorem eye_step2 (m p : Nat) (l : List UInt8) (k q : Nat) (hq : q = 256 * b8 l k + b8 l (k + 1)) (hk : k + 2 ≤ l.length) (hl : l.length ≤ 100000) (w : World) (hE : EyeAt m w p (l.drop k) false) :
    Calls Tryd.prog 50 #[.pointer (some ⟨p, 0, none⟩), .int .i64 2] w (NumPost2 m w p q (l.drop (k + 2)) false) := by
  have h := eye_step m p l k 2 w hE (by omega) hk hl
  rw [beN_b16 l k (by omega), ← hq] at h
  exact h
theorem eye_step4 (m p : Nat) (l : List UInt8) (k q : Nat) (hq : q = beN ((l.drop k).take 4)) (hk : k + 4 ≤ l.length) (hl : l.length ≤ 100000) (w : World) (hE : EyeAt m w p (l.drop k) false) :
    Calls Tryd.prog 50 #[.pointer (some ⟨p, 0, none⟩), .int .i64 4] w (NumPost2 m w p q (l.drop (k + 4)) false) := by
  have h := eye_step m p l k 4 w hE (by omega) hk hl
  rw [← hq] at h
  exact h
theorem eye_tail (m p : Nat) (l : List UInt8) (n : Nat) (w : World) (hn : 20 + n ≤ l.length) (hl : l.length ≤ 100000) (hE : EyeAt m w p (l.drop 20) false) :
    Calls Tryd.prog 52 #[.pointer (some ⟨p, 0, none⟩), .int .i64 n] w (EyePost m w p ((l.drop 20).take n) ((l.drop 20).drop n) false) := by
  by_cases h0 : l.length = 20
  · have e : l.drop 20 = [] := by rw [← h0, List.drop_length]
    obtain rfl : n = 0 := by omega
    rw [e] at hE ⊢
    exact eye_bytes0 m p false w hE
  · exact eye_bytes m p (l.drop 20) false n w hE (by simp; omega) (by simp; omega) (by simp; omega)
theorem eye_grown {k : Nat} {w w' : World} {p : Nat} {l : List UInt8} {bad : Bool} (h : EyeAt k w p l bad) (g : w.grownBy w' none) : EyeAt k w' p l bad := by
  obtain ⟨a, c, h1, h2, h3⟩ := h
  exact ⟨a, c, gr_keep g h1 (by simp), h2.grown g, h3⟩
theorem eye_lt {k : Nat} {w : World} {p : Nat} {l : List UInt8} {bad : Bool} (h : EyeAt k w p l bad) : p < w.heap.size := by
  obtain ⟨a, c, h1, h2, h3⟩ := h
  exact lt_of_block h1
theorem pow_and (x : Nat) : x &&& 16383 = x % 16384 := Nat.and_two_pow_sub_one_eq_mod x 14
theorem pow_and4 (x : Nat) : x &&& 15 = x % 16 := Nat.and_two_pow_sub_one_eq_mod x 4
set_option maxRecDepth 20000 in
set_option maxHeartbeats 4000000 in
theorem iread_any (l : List UInt8) (v : Value) (w : World) (hb : Bytes w v l) (hl : l.length ≤ 100000) :
    Calls Tryd.prog 37 #[v] w (RdFar w l) := by
  have HB0 := hid hb
  obtain ⟨a, c, rfl, h1, h2, h3⟩ := hb
  have h2' : c ≤ 9223372036854775807 := h2
  clear h3 h2
  have P0 : PkAt (w.alloc (.cells #[.int .u8 0, .int .u8 0, .int .u16 0, .int .u32 0, .int .u32 0, .slice none 0 0] 48)) w.heap.size (.int .u8 0) (.int .u8 0) (.int .u16 0) (.int .u32 0) (.int .u32 0) (.slice none 0 0) := heap_alloc_new w _
  have G0 : w.grownBy (w.alloc (.cells #[.int .u8 0, .int .u8 0, .int .u16 0, .int .u32 0, .int .u32 0, .slice none 0 0] 48)) none := World.grownBy_alloc w _ none
  by_cases c0 : l.length < 20
  · have R := hid (show rdCode l = 10 by unfold rdCode; rw [if_pos c0])
    have R2 := hid (show rdPk l = ⟨0, 0, 0, 0, 0, []⟩ by unfold rdPk; rw [if_neg (by rw [R.out]; omega)])
    go_enter Tryd.func37, Tryd.ntmps37
    go_wp2
    generalize w.alloc (.cells #[.int .u8 0, .int .u8 0, .int .u16 0, .int .u32 0, .int .u32 0, .slice none 0 0] 48) = W0 at *
    have S := P0
    have s0 := (cell_of_block S 0).trans (show _ = some (Value.int .u8 0) from rfl)
    have s1 := (cell_of_block S 1).trans (show _ = some (Value.int .u8 0) from rfl)
    have s2 := (cell_of_block S 2).trans (show _ = some (Value.int .u16 0) from rfl)
    have s3 := (cell_of_block S 3).trans (show _ = some (Value.int .u32 0) from rfl)
    have s4 := (cell_of_block S 4).trans (show _ = some (Value.int .u32 0) from rfl)
    have s5 := (cell_of_block S 5).trans (show _ = some (Value.slice none 0 0) from rfl)
    exact bodyPost_ret (v := .tuple #[.agg #[.int .u8 0, .int .u8 0, .int .u16 0, .int .u32 0, .int .u32 0, .slice none 0 0], .int .i64 10]) (by simp [results, Tryd.results37, go_sem, s0, s1, s2, s3, s4, s5]) rfl ⟨.slice none 0 0, by rw [R.out, R2.out]; rfl, by rw [R2.out]; exact Bytes.nil _, far_nil _ _ _, G0⟩
  have HN := hid (neweye_any l (.slice a l.length c) _ (HB0.out.grown G0) (by omega))
  have k0 : w.heap.size < (w.alloc (.cells #[.int .u8 0, .int .u8 0, .int .u16 0, .int .u32 0, .int .u32 0, .slice none 0 0] 48)).heap.size := P0.lt
  obtain ⟨b, o, rfl, -⟩ := HB0.out.cellAt (by omega)
  obtain ⟨q0, d0⟩ : ∃ q : Nat, q = b8 l 0 := ⟨_, rfl⟩
  obtain ⟨q1, d1⟩ : ∃ q : Nat, q = b8 l 1 := ⟨_, rfl⟩
  obtain ⟨al, d2⟩ : ∃ q : Nat, q = 256 * b8 l 2 + b8 l 3 := ⟨_, rfl⟩
  obtain ⟨idn, d4⟩ : ∃ q : Nat, q = 256 * b8 l 4 + b8 l 5 := ⟨_, rfl⟩
  obtain ⟨bt, d6⟩ : ∃ q : Nat, q = 256 * b8 l 6 + b8 l 7 := ⟨_, rfl⟩
  obtain ⟨tt, d8⟩ : ∃ q : Nat, q = b8 l 8 := ⟨_, rfl⟩
  obtain ⟨pr, d9⟩ : ∃ q : Nat, q = b8 l 9 := ⟨_, rfl⟩
  obtain ⟨cs, d10⟩ : ∃ q : Nat, q = 256 * b8 l 10 + b8 l 11 := ⟨_, rfl⟩
  obtain ⟨src, d12⟩ : ∃ q : Nat, q = beN ((l.drop 12).take 4) := ⟨_, rfl⟩
  obtain ⟨dst, d16⟩ : ∃ q : Nat, q = beN ((l.drop 16).take 4) := ⟨_, rfl⟩
  have RC := hid (show rdCode l = if q0 / 16 ≠ 4 ∨ q0 % 16 < 5 then 11 else if 5 < q0 % 16 then 13 else if al < 20 ∨ l.length < al then 10 else if 1500 < al then 14 else if sum16 (l.take 20) ≠ 0 then 12 else if bt % 16384 ≠ 0 then 13 else 0 by
    unfold rdCode rdAll; rw [if_neg c0, ← d0, ← d2, ← d6])
  have RP := hid (show rdPk l = if rdCode l = 0 then ⟨tt, pr, idn, src, dst, (l.take al).drop 20⟩ else ⟨0, 0, 0, 0, 0, []⟩ by
    unfold rdPk rdAll; rw [← d8, ← d9, ← d4, ← d2, ← d12, ← d16])
  have z0 : (q0 : Int) ≤ 255 := by have := b8_lt l 0; omega
  have z2 : (al : Int) ≤ 65535 := by have := b8_lt l 2; have := b8_lt l 3; omega
  have z4 : (idn : Int) ≤ 65535 := by have := b8_lt l 4; have := b8_lt l 5; omega
  have z6 : (bt : Int) ≤ 65535 := by have := b8_lt l 6; have := b8_lt l 7; omega
  have z8 : (tt : Int) ≤ 255 := by have := b8_lt l 8; omega
  have z9 : (pr : Int) ≤ 255 := by have := b8_lt l 9; omega
  have z12 : (src : Int) ≤ 4294967295 := by have := beN_lt (l.drop 12) 4 (by simp; omega) (by omega); omega
  have z16 : (dst : Int) ≤ 4294967295 := by have := beN_lt (l.drop 16) 4 (by simp; omega) (by omega); omega
  have D0 := hid d0
  have D1 := hid d1
  have D2 := hid d2
  have D4 := hid d4
  have D6 := hid d6
  have D8 := hid d8
  have D9 := hid d9
  have D10 := hid d10
  have D12 := hid d12
  have D16 := hid d16
  clear d0 d1 d2 d4 d6 d8 d9 d10 d12 d16
  have HL := hid (show 20 ≤ l.length by omega)
  go_enter Tryd.func37, Tryd.ntmps37
  go_wp2_with fail
  refine HN.out.mono ?_
  rintro e W1 ⟨p, rfl, hp, hE, g1⟩
  generalize w.alloc (.cells #[.int .u8 0, .int .u8 0, .int .u16 0, .int .u32 0, .int .u32 0, .slice none 0 0] 48) = W0 at *
  have hpb : w.heap.size ≠ p := by omega
  have G1 := hid (gr_trans G0 g1)
  have P1 := hid (show PkAt W1 w.heap.size _ _ _ _ _ _ from gr_keep g1 P0 (by simp))
  have E1 := hid hE
  have K0 := hid k0
  have HP0 := hid hp
  have HP := hid (show w.heap.size ≤ p by omega)
  have HPB := hid hpb
  clear hE g1 k0 hp hpb P0 G0 HN
  go_wp2_with fail
  refine (eye_step1 W0.heap.size p l 0 q0 D0.out (by have := HL.out; omega) hl W1 E1.out).mono ?_
  rintro e W2 ⟨rfl, hE, g⟩
  have G2 := hid (gr_new G1.out g HP.out)
  have P2 := hid (P1.out.kept g HPB.out)
  have E2 := hid hE
  clear hE g G1 P1 E1
  go_wp2_with fail
  refine (eye_step1 W0.heap.size p l 1 q1 D1.out (by have := HL.out; omega) hl W2 E2.out).mono ?_
  rintro e W3 ⟨rfl, hE, g⟩
  have G3 := hid (gr_new G2.out g HP.out)
  have P3 := hid (P2.out.kept g HPB.out)
  have E3 := hid hE
  clear hE g G2 P2 E2
  go_wp2_with fail
  refine (eye_step2 W0.heap.size p l 2 al D2.out (by have := HL.out; omega) hl W3 E3.out).mono ?_
  rintro e W4 ⟨rfl, hE, g⟩
  have G4 := hid (gr_new G3.out g HP.out)
  have P4 := hid (P3.out.kept g HPB.out)
  have E4 := hid hE
  clear hE g G3 P3 E3
  go_wp2_with fail
  refine (eye_step2 W0.heap.size p l 4 idn D4.out (by have := HL.out; omega) hl W4 E4.out).mono ?_
  rintro e W5 ⟨rfl, hE, g⟩
  have G5 := hid (gr_new G4.out g HP.out)
  have P5 := hid (P4.out.kept g HPB.out)
  have E5 := hid hE
  clear hE g G4 P4 E4
  have f2 := P5.out.free 2
  have p2 := (cell_of_block P5.out 2).trans (show _ = some (Value.int .u16 0) from rfl)
  have blt := P5.out.lt
  go_wp2_with fail
  clear f2 p2 blt
  have E6 := hid (eye_kept (i := 2) (x := .int .u16 idn) E5.out HPB.out.symm K0.out)
  have P6 := hid (P5.out.set2 (.int .u16 idn))
  have G6 := hid (gr_set_new (b := w.heap.size) (o := 2) (v := .int .u16 idn) G5.out (Nat.le_refl _))
  generalize W5.setCell ⟨w.heap.size, 2, none⟩ (.int .u16 idn) = W6 at *
  clear E5 P5 G5
  refine (eye_step2 W0.heap.size p l 6 bt D6.out (by have := HL.out; omega) hl W6 E6.out).mono ?_
  rintro e W7 ⟨rfl, hE, g⟩
  have G7 := hid (gr_new G6.out g HP.out)
  have P7 := hid (P6.out.kept g HPB.out)
  have E7 := hid hE
  clear hE g G6 P6 E6
  go_wp2_with fail
  refine (eye_step1 W0.heap.size p l 8 tt D8.out (by have := HL.out; omega) hl W7 E7.out).mono ?_
  rintro e W8 ⟨rfl, hE, g⟩
  have G8 := hid (gr_new G7.out g HP.out)
  have P8 := hid (P7.out.kept g HPB.out)
  have E8 := hid hE
  clear hE g G7 P7 E7
  go_wp2_with fail
  refine (eye_step1 W0.heap.size p l 9 pr D9.out (by have := HL.out; omega) hl W8 E8.out).mono ?_
  rintro e W9 ⟨rfl, hE, g⟩
  have G9 := hid (gr_new G8.out g HP.out)
  have P9 := hid (P8.out.kept g HPB.out)
  have E9 := hid hE
  clear hE g G8 P8 E8
  have f0 := P9.out.free 0
  have f1 := P9.out.free 1
  have p0 := (cell_of_block P9.out 0).trans (show _ = some (Value.int .u8 0) from rfl)
  have p1 := (cell_of_block P9.out 1).trans (show _ = some (Value.int .u8 0) from rfl)
  have blt := P9.out.lt
  go_wp2_with fail
  clear f0 f1 p0 p1 blt
  have E10 := hid (eye_kept (i := 1) (x := .int .u8 pr) (eye_kept (i := 0) (x := .int .u8 tt) E9.out HPB.out.symm K0.out) HPB.out.symm K0.out)
  have P10 := hid ((P9.out.set0 (.int .u8 tt)).set1 (.int .u8 pr))
  have G10 := hid (gr_set_new (b := w.heap.size) (o := 1) (v := .int .u8 pr) (gr_set_new (b := w.heap.size) (o := 0) (v := .int .u8 tt) G9.out (Nat.le_refl _)) (Nat.le_refl _))
  generalize (W9.setCell ⟨w.heap.size, 0, none⟩ (.int .u8 tt)).setCell ⟨w.heap.size, 1, none⟩ (.int .u8 pr) = W10 at *
  clear E9 P9 G9
  refine (eye_step2 W0.heap.size p l 10 cs D10.out (by have := HL.out; omega) hl W10 E10.out).mono ?_
  rintro e W11 ⟨rfl, hE, g⟩
  have G11 := hid (gr_new G10.out g HP.out)
  have P11 := hid (P10.out.kept g HPB.out)
  have E11 := hid hE
  clear hE g G10 P10 E10
  go_wp2_with fail
  refine (eye_step4 W0.heap.size p l 12 src D12.out (by have := HL.out; omega) hl W11 E11.out).mono ?_
  rintro e W12 ⟨rfl, hE, g⟩
  have G12 := hid (gr_new G11.out g HP.out)
  have P12 := hid (P11.out.kept g HPB.out)
  have E12 := hid hE
  clear hE g G11 P11 E11
  go_wp2_with fail
  refine (eye_step4 W0.heap.size p l 16 dst D16.out (by have := HL.out; omega) hl W12 E12.out).mono ?_
  rintro e W13 ⟨rfl, hE, g⟩
  have G13 := hid (gr_new G12.out g HP.out)
  have P13 := hid (P12.out.kept g HPB.out)
  have E13 := hid hE
  clear hE g G12 P12 E12
  have f0 := P13.out.free 0
  have f1 := P13.out.free 1
  have f2 := P13.out.free 2
  have f3 := P13.out.free 3
  have f4 := P13.out.free 4
  have f5 := P13.out.free 5
  have p0 := (cell_of_block P13.out 0).trans (show _ = some (Value.int .u8 tt) from rfl)
  have p1 := (cell_of_block P13.out 1).trans (show _ = some (Value.int .u8 pr) from rfl)
  have p2 := (cell_of_block P13.out 2).trans (show _ = some (Value.int .u16 idn) from rfl)
  have p3 := (cell_of_block P13.out 3).trans (show _ = some (Value.int .u32 0) from rfl)
  have p4 := (cell_of_block P13.out 4).trans (show _ = some (Value.int .u32 0) from rfl)
  have p5 := (cell_of_block P13.out 5).trans (show _ = some (Value.slice none 0 0) from rfl)
  have blt := P13.out.lt
  have G15 : w.grownBy ((W13.setCell ⟨w.heap.size, 3, none⟩ (.int .u32 src)).setCell ⟨w.heap.size, 4, none⟩ (.int .u32 dst)) none := gr_set_new (gr_set_new G13.out (Nat.le_refl _)) (Nat.le_refl _)
  have P15 := hid ((P13.out.set3 (.int .u32 src)).set4 (.int .u32 dst))
  have E15 := hid (eye_kept (i := 4) (x := .int .u32 dst) (eye_kept (i := 3) (x := .int .u32 src) E13.out HPB.out.symm K0.out) HPB.out.symm K0.out)
  have h15 : bits .and .u64 (q0 : Int) 15 = (q0 : Int) % 16 := by
    have h := u64_and_nat q0 15 (by omega) (by omega)
    rw [show (15 : Int) = ((15 : Nat) : Int) from rfl, h, pow_and4]; omega
  have h14 : bits .and .u64 (bt : Int) 16383 = (bt : Int) % 16384 := by
    have h := u64_and_nat bt 16383 (by omega) (by omega)
    rw [show (16383 : Int) = ((16383 : Nat) : Int) from rfl, h, pow_and]; omega
  by_cases c1 : q0 / 16 ≠ 4
  · have R := hid (show rdCode l = 11 by rw [RC.out, if_pos (.inl c1)])
    have R2 := hid (show rdPk l = ⟨0, 0, 0, 0, 0, []⟩ by rw [RP.out, if_neg (by rw [R.out]; omega)])
    have t1 : (((q0 : Nat) : Int) / 16 != 4) = true := by simp only [bne_iff_ne, ne_eq]; omega
    clear c1 G15
    go_wp2
    have S := pk_stored P15.out (.int .u8 0) (.int .u8 0) (.int .u16 0) (.int .u32 0) (.int .u32 0) (.slice none 0 0)
    have G15 : w.grownBy ((W13.setCell ⟨w.heap.size, 3, none⟩ (.int .u32 src)).setCell ⟨w.heap.size, 4, none⟩ (.int .u32 dst)) none := gr_set_new (gr_set_new G13.out (Nat.le_refl _)) (Nat.le_refl _)
    have s0 := (cell_of_block S 0).trans (show _ = some (Value.int .u8 0) from rfl)
    have s1 := (cell_of_block S 1).trans (show _ = some (Value.int .u8 0) from rfl)
    have s2 := (cell_of_block S 2).trans (show _ = some (Value.int .u16 0) from rfl)
    have s3 := (cell_of_block S 3).trans (show _ = some (Value.int .u32 0) from rfl)
    have s4 := (cell_of_block S 4).trans (show _ = some (Value.int .u32 0) from rfl)
    have s5 := (cell_of_block S 5).trans (show _ = some (Value.slice none 0 0) from rfl)
    exact bodyPost_ret (v := .tuple #[.agg #[.int .u8 0, .int .u8 0, .int .u16 0, .int .u32 0, .int .u32 0, .slice none 0 0], .int .i64 11]) (by simp [results, Tryd.results37, go_sem, s0, s1, s2, s3, s4, s5]) rfl ⟨.slice none 0 0, by rw [R.out, R2.out]; rfl, by rw [R2.out]; exact Bytes.nil _, far_nil _ _ _, pk_grown G15 (Nat.le_refl _) _ _ _ _ _ _⟩
  have t1 : (((q0 : Nat) : Int) / 16 != 4) = false := by simp only [bne_eq_false_iff_eq]; omega
  by_cases c2 : q0 % 16 < 5
  · have R := hid (show rdCode l = 11 by rw [RC.out, if_pos (.inr c2)])
    have R2 := hid (show rdPk l = ⟨0, 0, 0, 0, 0, []⟩ by rw [RP.out, if_neg (by rw [R.out]; omega)])
    have t2 : ((q0 : Nat) : Int) % 16 < 5 := by omega
    clear c1 c2 G15
    go_wp2
    have S := pk_stored P15.out (.int .u8 0) (.int .u8 0) (.int .u16 0) (.int .u32 0) (.int .u32 0) (.slice none 0 0)
    have G15 : w.grownBy ((W13.setCell ⟨w.heap.size, 3, none⟩ (.int .u32 src)).setCell ⟨w.heap.size, 4, none⟩ (.int .u32 dst)) none := gr_set_new (gr_set_new G13.out (Nat.le_refl _)) (Nat.le_refl _)
    have s0 := (cell_of_block S 0).trans (show _ = some (Value.int .u8 0) from rfl)
    have s1 := (cell_of_block S 1).trans (show _ = some (Value.int .u8 0) from rfl)
    have s2 := (cell_of_block S 2).trans (show _ = some (Value.int .u16 0) from rfl)
    have s3 := (cell_of_block S 3).trans (show _ = some (Value.int .u32 0) from rfl)
    have s4 := (cell_of_block S 4).trans (show _ = some (Value.int .u32 0) from rfl)
    have s5 := (cell_of_block S 5).trans (show _ = some (Value.slice none 0 0) from rfl)
    exact bodyPost_ret (v := .tuple #[.agg #[.int .u8 0, .int .u8 0, .int .u16 0, .int .u32 0, .int .u32 0, .slice none 0 0], .int .i64 11]) (by simp [results, Tryd.results37, go_sem, s0, s1, s2, s3, s4, s5]) rfl ⟨.slice none 0 0, by rw [R.out, R2.out]; rfl, by rw [R2.out]; exact Bytes.nil _, far_nil _ _ _, pk_grown G15 (Nat.le_refl _) _ _ _ _ _ _⟩
  have t2 : ¬ ((q0 : Nat) : Int) % 16 < 5 := by omega
  have RC2 := hid (show rdCode l = if 5 < q0 % 16 then 13 else if al < 20 ∨ l.length < al then 10 else if 1500 < al then 14 else if sum16 (l.take 20) ≠ 0 then 12 else if bt % 16384 ≠ 0 then 13 else 0 by
    rw [RC.out, if_neg (by omega)])
  by_cases c3 : 5 < q0 % 16
  · have R := hid (show rdCode l = 13 by rw [RC2.out, if_pos c3])
    have R2 := hid (show rdPk l = ⟨0, 0, 0, 0, 0, []⟩ by rw [RP.out, if_neg (by rw [R.out]; omega)])
    have t3 : (((q0 : Nat) : Int) != 69) = true := by simp only [bne_iff_ne, ne_eq]; omega
    clear c1 c2 c3 G15
    go_wp2
    have S := pk_stored P15.out (.int .u8 0) (.int .u8 0) (.int .u16 0) (.int .u32 0) (.int .u32 0) (.slice none 0 0)
    have G15 : w.grownBy ((W13.setCell ⟨w.heap.size, 3, none⟩ (.int .u32 src)).setCell ⟨w.heap.size, 4, none⟩ (.int .u32 dst)) none := gr_set_new (gr_set_new G13.out (Nat.le_refl _)) (Nat.le_refl _)
    have s0 := (cell_of_block S 0).trans (show _ = some (Value.int .u8 0) from rfl)
    have s1 := (cell_of_block S 1).trans (show _ = some (Value.int .u8 0) from rfl)
    have s2 := (cell_of_block S 2).trans (show _ = some (Value.int .u16 0) from rfl)
    have s3 := (cell_of_block S 3).trans (show _ = some (Value.int .u32 0) from rfl)
    have s4 := (cell_of_block S 4).trans (show _ = some (Value.int .u32 0) from rfl)
    have s5 := (cell_of_block S 5).trans (show _ = some (Value.slice none 0 0) from rfl)
    exact bodyPost_ret (v := .tuple #[.agg #[.int .u8 0, .int .u8 0, .int .u16 0, .int .u32 0, .int .u32 0, .slice none 0 0], .int .i64 13]) (by simp [results, Tryd.results37, go_sem, s0, s1, s2, s3, s4, s5]) rfl ⟨.slice none 0 0, by rw [R.out, R2.out]; rfl, by rw [R2.out]; exact Bytes.nil _, far_nil _ _ _, pk_grown G15 (Nat.le_refl _) _ _ _ _ _ _⟩
  have t3 : (((q0 : Nat) : Int) != 69) = false := by simp only [bne_eq_false_iff_eq]; omega
  have RC3 := hid (show rdCode l = if al < 20 ∨ l.length < al then 10 else if 1500 < al then 14 else if sum16 (l.take 20) ≠ 0 then 12 else if bt % 16384 ≠ 0 then 13 else 0 by
    rw [RC2.out, if_neg c3])
  clear c1 c2 c3 RC RC2
  by_cases c4 : al < 20
  · have R := hid (show rdCode l = 10 by rw [RC3.out, if_pos (.inl c4)])
    have R2 := hid (show rdPk l = ⟨0, 0, 0, 0, 0, []⟩ by rw [RP.out, if_neg (by rw [R.out]; omega)])
    have t4 : (al : Int) < 20 := by omega
    clear c4 G15
    go_wp2
    have S := pk_stored P15.out (.int .u8 0) (.int .u8 0) (.int .u16 0) (.int .u32 0) (.int .u32 0) (.slice none 0 0)
    have G15 : w.grownBy ((W13.setCell ⟨w.heap.size, 3, none⟩ (.int .u32 src)).setCell ⟨w.heap.size, 4, none⟩ (.int .u32 dst)) none := gr_set_new (gr_set_new G13.out (Nat.le_refl _)) (Nat.le_refl _)
    have s0 := (cell_of_block S 0).trans (show _ = some (Value.int .u8 0) from rfl)
    have s1 := (cell_of_block S 1).trans (show _ = some (Value.int .u8 0) from rfl)
    have s2 := (cell_of_block S 2).trans (show _ = some (Value.int .u16 0) from rfl)
    have s3 := (cell_of_block S 3).trans (show _ = some (Value.int .u32 0) from rfl)
    have s4 := (cell_of_block S 4).trans (show _ = some (Value.int .u32 0) from rfl)
    have s5 := (cell_of_block S 5).trans (show _ = some (Value.slice none 0 0) from rfl)
    exact bodyPost_ret (v := .tuple #[.agg #[.int .u8 0, .int .u8 0, .int .u16 0, .int .u32 0, .int .u32 0, .slice none 0 0], .int .i64 10]) (by simp [results, Tryd.results37, go_sem, s0, s1, s2, s3, s4, s5]) rfl ⟨.slice none 0 0, by rw [R.out, R2.out]; rfl, by rw [R2.out]; exact Bytes.nil _, far_nil _ _ _, pk_grown G15 (Nat.le_refl _) _ _ _ _ _ _⟩
  have t4 : ¬ (al : Int) < 20 := by omega
  by_cases c5 : l.length < al
  · have R := hid (show rdCode l = 10 by rw [RC3.out, if_pos (.inr c5)])
    have R2 := hid (show rdPk l = ⟨0, 0, 0, 0, 0, []⟩ by rw [RP.out, if_neg (by rw [R.out]; omega)])
    have t5 : (l.length : Int) < (al : Int) := by omega
    clear c5 G15
    go_wp2
    have S := pk_stored P15.out (.int .u8 0) (.int .u8 0) (.int .u16 0) (.int .u32 0) (.int .u32 0) (.slice none 0 0)
    have G15 : w.grownBy ((W13.setCell ⟨w.heap.size, 3, none⟩ (.int .u32 src)).setCell ⟨w.heap.size, 4, none⟩ (.int .u32 dst)) none := gr_set_new (gr_set_new G13.out (Nat.le_refl _)) (Nat.le_refl _)
    have s0 := (cell_of_block S 0).trans (show _ = some (Value.int .u8 0) from rfl)
    have s1 := (cell_of_block S 1).trans (show _ = some (Value.int .u8 0) from rfl)
    have s2 := (cell_of_block S 2).trans (show _ = some (Value.int .u16 0) from rfl)
    have s3 := (cell_of_block S 3).trans (show _ = some (Value.int .u32 0) from rfl)
    have s4 := (cell_of_block S 4).trans (show _ = some (Value.int .u32 0) from rfl)
    have s5 := (cell_of_block S 5).trans (show _ = some (Value.slice none 0 0) from rfl)
    exact bodyPost_ret (v := .tuple #[.agg #[.int .u8 0, .int .u8 0, .int .u16 0, .int .u32 0, .int .u32 0, .slice none 0 0], .int .i64 10]) (by simp [results, Tryd.results37, go_sem, s0, s1, s2, s3, s4, s5]) rfl ⟨.slice none 0 0, by rw [R.out, R2.out]; rfl, by rw [R2.out]; exact Bytes.nil _, far_nil _ _ _, pk_grown G15 (Nat.le_refl _) _ _ _ _ _ _⟩
  have t5 : ¬ (l.length : Int) < (al : Int) := by omega
  by_cases c6 : 1500 < al
  · have R := hid (show rdCode l = 14 by rw [RC3.out, if_neg (by omega), if_pos c6])
    have R2 := hid (show rdPk l = ⟨0, 0, 0, 0, 0, []⟩ by rw [RP.out, if_neg (by rw [R.out]; omega)])
    have t6 : (1500 : Int) < (al : Int) := by omega
    clear c6 G15
    go_wp2
    have S := pk_stored P15.out (.int .u8 0) (.int .u8 0) (.int .u16 0) (.int .u32 0) (.int .u32 0) (.slice none 0 0)
    have G15 : w.grownBy ((W13.setCell ⟨w.heap.size, 3, none⟩ (.int .u32 src)).setCell ⟨w.heap.size, 4, none⟩ (.int .u32 dst)) none := gr_set_new (gr_set_new G13.out (Nat.le_refl _)) (Nat.le_refl _)
    have s0 := (cell_of_block S 0).trans (show _ = some (Value.int .u8 0) from rfl)
    have s1 := (cell_of_block S 1).trans (show _ = some (Value.int .u8 0) from rfl)
    have s2 := (cell_of_block S 2).trans (show _ = some (Value.int .u16 0) from rfl)
    have s3 := (cell_of_block S 3).trans (show _ = some (Value.int .u32 0) from rfl)
    have s4 := (cell_of_block S 4).trans (show _ = some (Value.int .u32 0) from rfl)
    have s5 := (cell_of_block S 5).trans (show _ = some (Value.slice none 0 0) from rfl)
    exact bodyPost_ret (v := .tuple #[.agg #[.int .u8 0, .int .u8 0, .int .u16 0, .int .u32 0, .int .u32 0, .slice none 0 0], .int .i64 14]) (by simp [results, Tryd.results37, go_sem, s0, s1, s2, s3, s4, s5]) rfl ⟨.slice none 0 0, by rw [R.out, R2.out]; rfl, by rw [R2.out]; exact Bytes.nil _, far_nil _ _ _, pk_grown G15 (Nat.le_refl _) _ _ _ _ _ _⟩
  have t6 : ¬ (1500 : Int) < (al : Int) := by omega
  have RC4 := hid (show rdCode l = if sum16 (l.take 20) ≠ 0 then 12 else if bt % 16384 ≠ 0 then 13 else 0 by
    rw [RC3.out, if_neg (by omega), if_neg c6])
  have HAL := hid (show 20 ≤ al ∧ al ≤ l.length by omega)
  clear c4 c5 c6 RC3 G15
  have G15 := hid (show w.grownBy ((W13.setCell ⟨w.heap.size, 3, none⟩ (.int .u32 src)).setCell ⟨w.heap.size, 4, none⟩ (.int .u32 dst)) none from gr_set_new (gr_set_new G13.out (Nat.le_refl _)) (Nat.le_refl _))
  by_cases c7 : sum16 (l.take 20) = 0
  · have e7 := hid (show decide (sum16 (l.take 20) = 0) = true by simp [c7])
    have RC5 := hid (show rdCode l = if bt % 16384 ≠ 0 then 13 else 0 by rw [RC4.out, if_neg (by omega)])
    clear c7 RC4
    go_wp2_with fail
    have hsz : W13.heap.size = ((W13.setCell ⟨w.heap.size, 3, none⟩ (.int .u32 src)).setCell ⟨w.heap.size, 4, none⟩ (.int .u32 dst)).heap.size := by simp [World.setCell]
    generalize (W13.setCell ⟨w.heap.size, 3, none⟩ (.int .u32 src)).setCell ⟨w.heap.size, 4, none⟩ (.int .u32 dst) = W15 at *
    rw [hsz]
    clear hsz
    refine (right_one W15.heap.size 0 1 (l.take 20) (.slice (some ⟨b, o, none⟩) 20 c) _ ((cell_of_block (heap_alloc_new W15 (.cells #[.slice (some ⟨b, o, none⟩) 20 c] 45)) 0).trans rfl) (((HB0.out.part 20 (by have := HL.out; omega)).grown G15.out).grown (World.grownBy_alloc W15 _ none)) (by simp; omega)).mono ?_
    rintro e W16 ⟨rfl, g16⟩
    rw [e7.out]
    have g16' := gr_trans (World.grownBy_alloc W15 _ none) g16
    have G16 := hid (gr_trans G15.out g16')
    have P16 := hid (show PkAt W16 w.heap.size _ _ _ _ _ _ from gr_keep g16' P15.out (by simp))
    have E16 := hid (eye_grown E15.out g16')
    clear g16 g16' f0 f1 f2 f3 f4 f5 p0 p1 p2 p3 p4 p5 blt E15 P15 G15 E13 P13 G13
    have f0 := P16.out.free 0
    have f1 := P16.out.free 1
    have f2 := P16.out.free 2
    have f3 := P16.out.free 3
    have f4 := P16.out.free 4
    have f5 := P16.out.free 5
    have p0 := (cell_of_block P16.out 0).trans (show _ = some (Value.int .u8 tt) from rfl)
    have p1 := (cell_of_block P16.out 1).trans (show _ = some (Value.int .u8 pr) from rfl)
    have p2 := (cell_of_block P16.out 2).trans (show _ = some (Value.int .u16 idn) from rfl)
    have p3 := (cell_of_block P16.out 3).trans (show _ = some (Value.int .u32 src) from rfl)
    have p4 := (cell_of_block P16.out 4).trans (show _ = some (Value.int .u32 dst) from rfl)
    have p5 := (cell_of_block P16.out 5).trans (show _ = some (Value.slice none 0 0) from rfl)
    have blt := P16.out.lt
    by_cases c8 : bt % 16384 ≠ 0
    · have R := hid (show rdCode l = 13 by rw [RC5.out, if_pos c8])
      have R2 := hid (show rdPk l = ⟨0, 0, 0, 0, 0, []⟩ by rw [RP.out, if_neg (by rw [R.out]; omega)])
      have t8 : ((bt : Int) % 16384 != 0) = true := by simp only [bne_iff_ne, ne_eq]; omega
      clear c8
      go_wp2
      have S := pk_stored P16.out (.int .u8 0) (.int .u8 0) (.int .u16 0) (.int .u32 0) (.int .u32 0) (.slice none 0 0)
      have G15 := G16.out
      have s0 := (cell_of_block S 0).trans (show _ = some (Value.int .u8 0) from rfl)
      have s1 := (cell_of_block S 1).trans (show _ = some (Value.int .u8 0) from rfl)
      have s2 := (cell_of_block S 2).trans (show _ = some (Value.int .u16 0) from rfl)
      have s3 := (cell_of_block S 3).trans (show _ = some (Value.int .u32 0) from rfl)
      have s4 := (cell_of_block S 4).trans (show _ = some (Value.int .u32 0) from rfl)
      have s5 := (cell_of_block S 5).trans (show _ = some (Value.slice none 0 0) from rfl)
      exact bodyPost_ret (v := .tuple #[.agg #[.int .u8 0, .int .u8 0, .int .u16 0, .int .u32 0, .int .u32 0, .slice none 0 0], .int .i64 13]) (by simp [results, Tryd.results37, go_sem, s0, s1, s2, s3, s4, s5]) rfl ⟨.slice none 0 0, by rw [R.out, R2.out]; rfl, by rw [R2.out]; exact Bytes.nil _, far_nil _ _ _, pk_grown G15 (Nat.le_refl _) _ _ _ _ _ _⟩
    have R := hid (show rdCode l = 0 by rw [RC5.out, if_neg c8])
    have R2 := hid (show rdPk l = ⟨tt, pr, idn, src, dst, (l.take al).drop 20⟩ by rw [RP.out, if_pos R.out])
    have t8 : ((bt : Int) % 16384 != 0) = false := by simp only [bne_eq_false_iff_eq]; omega
    clear c8
    obtain ⟨m20, hm20⟩ : ∃ m20 : Nat, m20 = al - 20 := ⟨_, rfl⟩
    have w20 : IntKind.i64.wrap ((al : Int) - 20) = (m20 : Int) := by have := HAL.out; rw [IntWalk.i64_in _ (by omega)]; omega
    have HM := hid hm20
    clear hm20
    go_wp2_with fail
    refine (eye_tail W0.heap.size p l m20 W16 (by have := HAL.out; have := HM.out; omega) hl E16.out).mono ?_
    rintro e W17 ⟨v5, rfl, hv5, -, g17, hf5⟩
    obtain ⟨a5, c5, rfl, y1, y2, y3⟩ := hv5
    have hlen : ((l.drop 20).take m20).length = m20 := by have := HAL.out; have := HM.out; simp; omega
    have hv : Bytes W17 (.slice a5 ((l.drop 20).take m20).length c5) ((l.drop 20).take m20) := ⟨a5, c5, rfl, y1, y2, y3⟩
    rw [hlen] at hv hf5 ⊢
    have HV := hid hv
    clear hlen hv
    have HF := hid (far_le hf5 (show W0.heap.size ≤ W16.heap.size from Nat.le_trans HP0.out (Nat.le_of_lt (eye_lt E16.out))))
    have G17 := hid (gr_new G16.out g17 HP.out)
    have P17 := hid (P16.out.kept g17 HPB.out)
    clear y1 y2 y3 hf5 g17 f0 f1 f2 f3 f4 f5 p0 p1 p2 p3 p4 p5 blt
    have f0 := P17.out.free 0
    have f1 := P17.out.free 1
    have f2 := P17.out.free 2
    have f3 := P17.out.free 3
    have f4 := P17.out.free 4
    have f5 := P17.out.free 5
    have p0 := (cell_of_block P17.out 0).trans (show _ = some (Value.int .u8 tt) from rfl)
    have p1 := (cell_of_block P17.out 1).trans (show _ = some (Value.int .u8 pr) from rfl)
    have p2 := (cell_of_block P17.out 2).trans (show _ = some (Value.int .u16 idn) from rfl)
    have p3 := (cell_of_block P17.out 3).trans (show _ = some (Value.int .u32 src) from rfl)
    have p4 := (cell_of_block P17.out 4).trans (show _ = some (Value.int .u32 dst) from rfl)
    have p5 := (cell_of_block P17.out 5).trans (show _ = some (Value.slice none 0 0) from rfl)
    have blt := P17.out.lt
    go_wp2
    have S := pk_stored (P17.out.set5 (.slice a5 m20 c5)) (.int .u8 tt) (.int .u8 pr) (.int .u16 idn) (.int .u32 src) (.int .u32 dst) (.slice a5 m20 c5)
    clear f0 f1 f2 f3 f4 f5 p0 p1 p2 p3 p4 p5
    have s0 := (cell_of_block S 0).trans (show _ = some (Value.int .u8 tt) from rfl)
    have s1 := (cell_of_block S 1).trans (show _ = some (Value.int .u8 pr) from rfl)
    have s2 := (cell_of_block S 2).trans (show _ = some (Value.int .u16 idn) from rfl)
    have s3 := (cell_of_block S 3).trans (show _ = some (Value.int .u32 src) from rfl)
    have s4 := (cell_of_block S 4).trans (show _ = some (Value.int .u32 dst) from rfl)
    have s5 := (cell_of_block S 5).trans (show _ = some (Value.slice a5 m20 c5) from rfl)
    refine bodyPost_ret (v := .tuple #[.agg #[.int .u8 tt, .int .u8 pr, .int .u16 idn, .int .u32 src, .int .u32 dst, .slice a5 m20 c5], .int .i64 0]) (by simp [results, Tryd.results37, go_sem, s0, s1, s2, s3, s4, s5]) rfl ⟨.slice a5 m20 c5, by rw [R.out, R2.out]; rfl, ?_, ?_, pk_grown (gr_set_new G17.out (Nat.le_refl _)) (Nat.le_refl _) _ _ _ _ _ _⟩
    · rw [R2.out]
      show Bytes _ _ ((l.take al).drop 20)
      rw [List.drop_take, ← HM.out]
      exact HV.out.kept (gr_set (gr_set (gr_set (gr_set (gr_set (gr_set (gr_set (gr_refl W17 (some w.heap.size)))))))) ) (fun b' o' e hl2 => by
        have h0 : 0 < m20 := by simp at hl2; omega
        have := HF.out b' o' m20 c5 (by rw [e]) h0
        have := K0.out
        omega)
    · exact far_le HF.out (Nat.le_of_lt K0.out)
  · have e7 := hid (show decide (sum16 (l.take 20) = 0) = false by simp [c7])
    have R := hid (show rdCode l = 12 by rw [RC4.out, if_pos c7])
    have R2 := hid (show rdPk l = ⟨0, 0, 0, 0, 0, []⟩ by rw [RP.out, if_neg (by rw [R.out]; omega)])
    clear c7 RC4
    go_wp2_with fail
    have hsz : W13.heap.size = ((W13.setCell ⟨w.heap.size, 3, none⟩ (.int .u32 src)).setCell ⟨w.heap.size, 4, none⟩ (.int .u32 dst)).heap.size := by simp [World.setCell]
    generalize (W13.setCell ⟨w.heap.size, 3, none⟩ (.int .u32 src)).setCell ⟨w.heap.size, 4, none⟩ (.int .u32 dst) = W15 at *
    rw [hsz]
    clear hsz
    refine (right_one W15.heap.size 0 1 (l.take 20) (.slice (some ⟨b, o, none⟩) 20 c) _ ((cell_of_block (heap_alloc_new W15 (.cells #[.slice (some ⟨b, o, none⟩) 20 c] 45)) 0).trans rfl) (((HB0.out.part 20 (by have := HL.out; omega)).grown G15.out).grown (World.grownBy_alloc W15 _ none)) (by simp; omega)).mono ?_
    rintro e W16 ⟨rfl, g16⟩
    rw [e7.out]
    have g16' := gr_trans (World.grownBy_alloc W15 _ none) g16
    have G16 := hid (gr_trans G15.out g16')
    have P16 := hid (show PkAt W16 w.heap.size _ _ _ _ _ _ from gr_keep g16' P15.out (by simp))
    have E16 := hid (eye_grown E15.out g16')
    clear g16 g16' f0 f1 f2 f3 f4 f5 p0 p1 p2 p3 p4 p5 blt E15 P15 G15 E13 P13 G13
    have f0 := P16.out.free 0
    have f1 := P16.out.free 1
    have f2 := P16.out.free 2
    have f3 := P16.out.free 3
    have f4 := P16.out.free 4
    have f5 := P16.out.free 5
    have p0 := (cell_of_block P16.out 0).trans (show _ = some (Value.int .u8 tt) from rfl)
    have p1 := (cell_of_block P16.out 1).trans (show _ = some (Value.int .u8 pr) from rfl)
    have p2 := (cell_of_block P16.out 2).trans (show _ = some (Value.int .u16 idn) from rfl)
    have p3 := (cell_of_block P16.out 3).trans (show _ = some (Value.int .u32 src) from rfl)
    have p4 := (cell_of_block P16.out 4).trans (show _ = some (Value.int .u32 dst) from rfl)
    have p5 := (cell_of_block P16.out 5).trans (show _ = some (Value.slice none 0 0) from rfl)
    have blt := P16.out.lt
    go_wp2
    have S := pk_stored P16.out (.int .u8 0) (.int .u8 0) (.int .u16 0) (.int .u32 0) (.int .u32 0) (.slice none 0 0)
    have G15 := G16.out
    have s0 := (cell_of_block S 0).trans (show _ = some (Value.int .u8 0) from rfl)
    have s1 := (cell_of_block S 1).trans (show _ = some (Value.int .u8 0) from rfl)
    have s2 := (cell_of_block S 2).trans (show _ = some (Value.int .u16 0) from rfl)
    have s3 := (cell_of_block S 3).trans (show _ = some (Value.int .u32 0) from rfl)
    have s4 := (cell_of_block S 4).trans (show _ = some (Value.int .u32 0) from rfl)
    have s5 := (cell_of_block S 5).trans (show _ = some (Value.slice none 0 0) from rfl)
    exact bodyPost_ret (v := .tuple #[.agg #[.int .u8 0, .int .u8 0, .int .u16 0, .int .u32 0, .int .u32 0, .slice none 0 0], .int .i64 12]) (by simp [results, Tryd.results37, go_sem, s0, s1, s2, s3, s4, s5]) rfl ⟨.slice none 0 0, by rw [R.out, R2.out]; rfl, by rw [R2.out]; exact Bytes.nil _, far_nil _ _ _, pk_grown G15 (Nat.le_refl _) _ _ _ _ _ _⟩
end Go.Proofs.YtjpkmbgpkdomnaaDoor
