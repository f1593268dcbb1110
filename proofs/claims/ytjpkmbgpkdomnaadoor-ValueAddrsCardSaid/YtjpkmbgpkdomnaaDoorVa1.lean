/- The walk of ValueAddrs. -/
import Derived.Test.YtjpkmbgpkdomnaaDoorVr1
namespace Go.Proofs.YtjpkmbgpkdomnaaDoor
open Go.RowKit

theorem prs_long (a b c d : Nat) (ha : a < 256) (hb : b < 256) (hc : c < 256) (hd : d < 256) : prsR (dotted a b c d ++ [46]) = (0, false) := by
  unfold prsR dotted
  have e : digX a ++ 46 :: (digX b ++ 46 :: (digX c ++ 46 :: digX d)) ++ [46] = digX a ++ 46 :: (digX b ++ 46 :: (digX c ++ 46 :: (digX d ++ [46]))) := by simp
  rw [e]
  rw [prs_digX a ha, prs_dot _ _ _ _ _ (digX_pos a) ha (by omega), prs_digX b hb, prs_dot _ _ _ _ _ (digX_pos b) hb (by omega), prs_digX c hc, prs_dot _ _ _ _ _ (digX_pos c) hc (by omega)]
  rw [prs_digX d hd [46] _ _, prs, if_pos rfl, if_pos (by omega)]
theorem digX_head (n : Nat) (h : n < 256) : ∃ m r, m < 10 ∧ digX n = UInt8.ofNat (48 + m) :: r := by
  unfold digX
  by_cases h1 : n < 10
  · rw [if_pos h1]; exact ⟨n, [], h1, rfl⟩
  · rw [if_neg h1]
    by_cases h2 : n < 100
    · rw [if_pos h2]; exact ⟨n / 10, _, by omega, rfl⟩
    · rw [if_neg h2]; exact ⟨n / 100, _, by omega, rfl⟩
theorem prs_zero (a b c d : Nat) (ha : a < 256) : prsR (48 :: dotted a b c d) = (0, false) := by
  obtain ⟨m, r, hm, hr⟩ := digX_head a ha
  unfold prsR dotted
  rw [hr, List.cons_append]
  have h1 := prs_digit 0 (by omega) (UInt8.ofNat (48 + m) :: (r ++ 46 :: (digX b ++ 46 :: (digX c ++ 46 :: digX d)))) 0 0 0 0 (by omega) (by omega)
  rw [show UInt8.ofNat (48 + 0) = (48 : UInt8) from rfl] at h1
  rw [h1]
  obtain ⟨h2, h3⟩ := digit_ne m hm
  rw [prs, if_neg h2, if_pos (by omega)]
theorem u32_and255 (a : Nat) (ha : a < 4294967296) : bits .and .u32 (a : Int) 255 = ((a % 256 : Nat) : Int) := by
  have h := u32_and_nat a 255 ha (by omega)
  rw [show ((255 : Int)) = ((255 : Nat) : Int) from rfl, h, nat_mask8]
set_option maxRecDepth 20000 in
set_option maxHeartbeats 4000000 in
theorem value_addrs_walk (a : Nat) (ha : a < 4294967296) (m : Int) (w : World) (hm : Hid (MaxCell m w)) (h10 : Hid (P10 w)) :
    Calls Tryd.prog 7 #[.int .u32 a] w fun e w' => e = .returned (.bool true) ∧ w.grownBy w' none := by
  obtain ⟨b0, e0⟩ : ∃ b, b = UInt8.ofNat (a / 16777216 % 256) := ⟨_, rfl⟩
  obtain ⟨b1, e1⟩ : ∃ b, b = UInt8.ofNat (a / 65536 % 256) := ⟨_, rfl⟩
  obtain ⟨b2, e2⟩ : ∃ b, b = UInt8.ofNat (a / 256 % 256) := ⟨_, rfl⟩
  obtain ⟨b3, e3⟩ : ∃ b, b = UInt8.ofNat (a % 256) := ⟨_, rfl⟩
  have q0 : (a : Int) / 16777216 = (b0.toNat : Int) := by rw [e0]; simp; omega
  have q1 : bits .and .u32 ((a : Int) / 65536) 255 = (b1.toNat : Int) := by
    have := u32_and255 (a / 65536) (by omega); rw [e1]; simp at this ⊢; exact this
  have q2 : bits .and .u32 ((a : Int) / 256) 255 = (b2.toNat : Int) := by
    have := u32_and255 (a / 256) (by omega); rw [e2]; simp at this ⊢; exact this
  have q3 : bits .and .u32 (a : Int) 255 = (b3.toNat : Int) := by
    have := u32_and255 a ha; rw [e3]; simp at this ⊢; exact this
  have hT : textL a = digL b0 ++ 46 :: (digL b1 ++ 46 :: (digL b2 ++ 46 :: digL b3)) := by
    unfold textL; rw [beL4, ← e0, ← e1, ← e2, ← e3]; exact join4 _ _ _ _
  obtain ⟨n0, n1, n2, n3, k0, k1, k2, k3, hd, -⟩ := textL_dotted a ha
  have r1 : addrR (textL a) = (a, true) := by
    unfold addrR; rw [if_neg, prs_text a ha]
    intro h; have := congrArg List.length h; rw [hT] at this; simp at this
  have r2 : addrR (textL a ++ [46]) = (0, false) := by
    unfold addrR; rw [if_neg (by simp), hd, prs_long _ _ _ _ k0 k1 k2 k3]
  have r3 : addrR (48 :: textL a) = (0, false) := by
    unfold addrR; rw [if_neg (by simp), hd, prs_zero _ _ _ _ k0]
  have r4 : addrR [] = (0, true) := rfl
  have hlen : (textL a).length ≤ 15 := join4_len _ (beL_len 4 a)
  rw [hT] at r1 r2 r3 hlen
  have D0 := hid (fun W h => text_any b0.toNat (by have := UInt8.toNat_lt b0; omega) W h)
  have D1 := hid (fun W h => text_any b1.toNat (by have := UInt8.toNat_lt b1; omega) W h)
  have D2 := hid (fun W h => text_any b2.toNat (by have := UInt8.toNat_lt b2; omega) W h)
  have D3 := hid (fun W h => text_any b3.toNat (by have := UInt8.toNat_lt b3; omega) W h)
  have u0 : b0.toNat < 256 := UInt8.toNat_lt b0
  have u1 : b1.toNat < 256 := UInt8.toNat_lt b1
  have u2 : b2.toNat < 256 := UInt8.toNat_lt b2
  have u3 : b3.toNat < 256 := UInt8.toNat_lt b3
  have t0 := (digL_len b0).1
  have t1 := (digL_len b1).1
  have t2 := (digL_len b2).1
  have t3 := (digL_len b3).1
  rw [show Lib.decDigits b0.toNat = digL b0 from rfl] at D0
  rw [show Lib.decDigits b1.toNat = digL b1 from rfl] at D1
  rw [show Lib.decDigits b2.toNat = digL b2 from rfl] at D2
  rw [show Lib.decDigits b3.toNat = digL b3 from rfl] at D3
  generalize digL b0 = l0 at *
  generalize digL b1 = l1 at *
  generalize digL b2 = l2 at *
  generalize digL b3 = l3 at *
  have A := hid (fun (X : ByteArray) (l : List UInt8) (x : Nat) (ok : Bool) (hX : X.data.toList = l) (hr : addrR l = (x, ok)) W (h : Hid (MaxCell m W)) (k : Hid (P10 W)) => show Calls Tryd.prog 30 #[.string X] W (fun e w' => e = .returned (.tuple #[.int .u32 x, .bool ok]) ∧ W.grownBy w' none) by
    have h := vaddr_any X m W h k
    rw [hX, hr] at h
    exact h)
  have R1 := hid r1
  have R2 := hid r2
  have R3 := hid r3
  have R4 := hid r4
  clear hT e0 e1 e2 e3 ha hd k0 k1 k2 k3 r1 r2 r3 r4 hlen
  go_enter Tryd.func7, Tryd.ntmps7
  go_wp2_with fail
  refine (vspeaks_true w).mono ?_
  rintro e w1 ⟨rfl, g1⟩
  go_wp2_with fail
  refine (D0.out w1 (h10.out.grown g1)).mono ?_
  rintro e w2 ⟨rfl, g2⟩
  have G2 := gr_trans g1 g2
  clear g1 g2
  unfold str
  go_wp2_with fail
  refine (D1.out w2 (h10.out.grown G2)).mono ?_
  rintro e w3 ⟨rfl, g3⟩
  have G3 := gr_trans G2 g3
  clear G2 g3
  unfold str
  go_wp2_with fail
  refine (D2.out w3 (h10.out.grown G3)).mono ?_
  rintro e w4 ⟨rfl, g4⟩
  have G4 := gr_trans G3 g4
  clear G3 g4
  unfold str
  go_wp2_with fail
  refine (D3.out w4 (h10.out.grown G4)).mono ?_
  rintro e w5 ⟨rfl, g5⟩
  have G5 := gr_trans G4 g5
  clear G4 g5
  unfold str
  go_wp2_with fail
  refine (A.out _ _ _ _ ?_ R1.out w5 (hid (G5.cell hm.out (by simp))) (hid (h10.out.grown G5))).mono ?_
  · simp
  rintro e w6 ⟨rfl, g6⟩
  have G6 := gr_trans G5 g6
  clear G5 g6
  go_wp2_with fail
  refine (A.out _ _ _ _ ?_ R4.out w6 (hid (G6.cell hm.out (by simp))) (hid (h10.out.grown G6))).mono ?_
  · rfl
  rintro e w7 ⟨rfl, g7⟩
  have G7 := gr_trans G6 g7
  clear G6 g7
  go_wp2_with fail
  refine (A.out _ _ _ _ ?_ R2.out w7 (hid (G7.cell hm.out (by simp))) (hid (h10.out.grown G7))).mono ?_
  · simp
  rintro e w8 ⟨rfl, g8⟩
  have G8 := gr_trans G7 g8
  clear G7 g8
  go_wp2_with fail
  refine (A.out _ _ _ _ ?_ R3.out w8 (hid (G8.cell hm.out (by simp))) (hid (h10.out.grown G8))).mono ?_
  · simp
  rintro e w9 ⟨rfl, g9⟩
  go_wp2
  go_ret
  exact ⟨rfl, gr_trans G8 g9⟩
end Go.Proofs.YtjpkmbgpkdomnaaDoor
