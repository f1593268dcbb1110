/- The walk of GenaTexts. -/
import Derived.Test.YtfceodbpkghkaaaGreatDoorGn8
import Derived.Test.YtfceodbpkghkaaaGreatDoorReg5
import Derived.Test.YtfceodbpkghkaaaGreatDoorB2s
namespace Go.Proofs.YtfceodbpkghkaaaGreatDoor
open Go.RowKit
set_option linter.unusedVariables false
set_option linter.unusedSimpArgs false

theorem cbV_form (r : Option (Nat × Nat × Gs)) : ∃ (h p : Int) (t : ByteArray) (b : Bool), cbV r = .tuple #[.int .u32 h, .int .u16 p, .string t, .bool b] := by
  rcases r with - | ⟨h, p, t⟩
  · exact ⟨_, _, _, _, rfl⟩
  · exact ⟨_, _, _, _, rfl⟩
set_option maxRecDepth 20000 in
set_option maxHeartbeats 4000000 in
theorem gena_texts_walk (s : ByteArray) (xs : Gp) (v : Value) (m : Int) (w : World) (hm : Hid (MaxCell m w)) (h10 : Hid (P10 w)) (hv : ArgsAt w v xs) (hn0 : xs.length ≤ 9223372036854775807) :
    Calls Tryz.prog 3 #[.string s, v] w fun e w' => e = .returned (.bool true) ∧ w.grownBy w' none := by
  have HSP := hid (gspeaks_true m w hm h10)
  have HV := hid hv
  obtain ⟨a, c, rfl, -⟩ := hv
  go_enter Tryz.func3, Tryz.ntmps3
  go_wp2_with fail
  refine HSP.out.mono ?_
  rintro e w1 ⟨rfl, g1⟩
  have G1 := hid g1
  clear g1 HSP
  have NB := hid (heap_alloc_new w1 (.cells #[.int .i64 0, .int .i64 0, .int .i64 0, .int .u64 0, .int .u32 0, .slice none 0 0, .slice a xs.length c, .slice none 0 0] 31))
  have G2 := hid (gr_alloc G1.out (.cells #[.int .i64 0, .int .i64 0, .int .i64 0, .int .u64 0, .int .u32 0, .slice none 0 0, .slice a xs.length c, .slice none 0 0] 31))
  have HGR := hid (great_one xs _ _ w1.heap.size 1 (HV.out.grown G2.out) hn0 NB.out (Nat.le_refl _))
  clear NB
  go_wp2_with fail
  refine HGR.out.mono ?_
  rintro e w2 ⟨b, rfl, g2, hb⟩
  have G3 := hid (gr_trans G2.out g2)
  clear g2 HGR G2
  cases b
  case true =>
    clear hb
    go_wp2
    go_ret
    exact ⟨rfl, G3.out⟩
  case false =>
  have HX := hid (hb rfl)
  clear hb
  by_cases h2000 : 2000 < s.size
  · have hd := decide_eq_true (show (2000 : Int) < (s.size : Int) by omega)
    have hi : (2000 : Int) < (s.size : Int) := by omega
    clear h2000
    go_wp2
    go_ret
    exact ⟨rfl, G3.out⟩
  have hi : ¬ (2000 : Int) < (s.size : Int) := by omega
  have hd := decide_eq_false hi
  have hs : s.size ≤ 2000 := by omega
  have HS := hid hs
  clear h2000 hs
  have CB1 := hid (callback_x s m w2 (hid (G3.out.cell hm.out (by simp))) (hid (h10.out.grown G3.out)) HS.out)
  have CB2 := hid (fun W => rcallback_x s W HS.out)
  obtain ⟨h, p, t, b, hcb⟩ := cbV_form (cbL s.data.toList)
  rw [hcb] at CB1 CB2
  clear hcb
  go_wp2_with fail
  refine CB1.out.mono ?_
  rintro e w3 ⟨rfl, g3⟩
  have G4 := hid (gr_trans G3.out g3)
  clear g3 CB1
  go_wp2_with fail
  refine (CB2.out w3).mono ?_
  rintro e w4 ⟨rfl, g4⟩
  have GG := hid (gr_trans G4.out g4)
  clear g4 CB2 G4 G3 G1
  go_wp2_with fail
  obtain ⟨w0, hw0⟩ : ∃ w0, w0 = w4 := ⟨_, rfl⟩
  rw [← hw0] at GG ⊢
  clear hw0
  obtain ⟨z, hz⟩ : ∃ z : Int, z = (secL s.data.toList : Int) := ⟨_, rfl⟩
  have SE1 := hid (fun W => seconds_x s W (by have := HS.out; omega))
  have SE2 := hid (fun W => rseconds_x s W (by have := HS.out; omega))
  rw [← hz] at SE1 SE2
  obtain ⟨L, hL⟩ : ∃ L, L = bodL xs := ⟨_, rfl⟩
  have BO1 := hid (fun (W : World) (g : w0.grownBy W none) => body_x xs (.slice a xs.length c) W (HV.out.grown (gr_trans GG.out g)) HX.out)
  have BO2 := hid (fun (W : World) (g : w0.grownBy W none) => rbody_x xs (.slice a xs.length c) W (HV.out.grown (gr_trans GG.out g)) HX.out)
  rw [← hL] at BO1 BO2
  obtain ⟨n, hn⟩ : ∃ n, n = xs.length := ⟨_, rfl⟩
  rw [← hn] at BO1 BO2 ⊢
  clear hz hL hn HV HX HS hm h10 hn0
  refine wp_region_spec5 (by kernel_rfl) (by kernel_rfl) (n := 34) (by kernel_rfl) [some 38, some 39, some 40, some 41, some 42, some 43, some 44, some 45, some 46, some 47, some 48, some 49, some 50, some 51, some 52, some 53, some 54, some 55, some 56, some 57, some 58, some 59, some 60, some 61, some 62, some 63, some 64, some 65, some 66, some 67, some 68, some 69, some 70, some 4] (by kernel_rfl) _ (fun u => (by simp only [fill, List.zipIdx_cons, List.zipIdx_nil, List.foldl_cons, List.foldl_nil, Act.put, List.setIfInBounds_toArray, List.set_cons_zero, List.set_cons_succ, Nat.zero_add, Nat.reduceAdd]; exact rfl)) (by kernel_rfl) (by kernel_rfl) (by kernel_rfl)
    (fun ri v w => match ri with | 0 => v = .int .u32 h | 1 => v = .int .u32 h | 2 => v = .bool true | 3 => v = .bool true | 4 => v = .int .u16 p | 5 => v = .int .u16 p | 6 => v = .bool true | 7 => v = .bool true | 8 => v = .bool true | 9 => v = .string t | 10 => v = .string t | 11 => v = .bool true | 12 => v = .bool true | 13 => v = .bool true | 14 => v = .bool b | 15 => v = .bool b | 16 => v = .bool true | 17 => v = .bool true | 18 => v = .bool true | 19 => v = .string s | 20 => v = .int .u64 z | 21 => v = .string s | 22 => v = .int .u64 z | 23 => v = .bool true | 24 => v = .bool true | 25 => v = .bool true | 26 => v = .slice a n c | 27 => Bytes w v L | 28 => v = .string ⟨L.toArray⟩ | 29 => v = .slice a n c | 30 => v = .string ⟨L.toArray⟩ | 31 => v = .bool true | 32 => v = .bool true | 33 => v = .bool true | _ => True)
    (all_succ (all_succ (all_succ (all_succ (all_succ (all_succ (all_succ (all_succ (all_succ (all_succ (all_succ (all_succ (all_succ (all_succ (all_succ (all_succ (all_succ (all_succ (all_succ (all_succ (all_succ (all_succ (all_succ (all_succ (all_succ (all_succ (all_succ (all_succ (all_succ (all_succ (all_succ (all_succ (all_succ (all_succ (all_zero _) ?m0) ?m1) ?m2) ?m3) ?m4) ?m5) ?m6) ?m7) ?m8) ?m9) ?m10) ?m11) ?m12) ?m13) ?m14) ?m15) ?m16) ?m17) ?m18) ?m19) ?m20) ?m21) ?m22) ?m23) ?m24) ?m25) ?m26) ?m27) ?m28) ?m29) ?m30) ?m31) ?m32) ?m33)
    [[], [], [0, 1], [2], [3], [3], [4, 5, 3], [3, 6], [7], [8], [8], [9, 10, 8], [8, 11], [12], [13], [13], [14, 15, 13], [13, 16], [17], [18], [19, 18], [18], [21, 18], [20, 22, 18], [18, 23], [24], [25], [26, 25], [27, 25], [25], [29, 25], [28, 30, 25], [25, 31], [32]] (by kernel_rfl)
    ⟨?o0, ?o1, ?o2, ?o3, ?o4, ?o5, ?o6, ?o7, ?o8, ?o9, ?o10, ?o11, ?o12, ?o13, ?o14, ?o15, ?o16, ?o17, ?o18, ?o19, ?o20, ?o21, ?o22, ?o23, ?o24, ?o25, ?o26, ?o27, ?o28, ?o29, ?o30, ?o31, ?o32, ?o33, trivial⟩ ?done
  case m0 => intro v w w' h g; first | exact h | exact Bytes.grown h g
  case m1 => intro v w w' h g; first | exact h | exact Bytes.grown h g
  case m2 => intro v w w' h g; first | exact h | exact Bytes.grown h g
  case m3 => intro v w w' h g; first | exact h | exact Bytes.grown h g
  case m4 => intro v w w' h g; first | exact h | exact Bytes.grown h g
  case m5 => intro v w w' h g; first | exact h | exact Bytes.grown h g
  case m6 => intro v w w' h g; first | exact h | exact Bytes.grown h g
  case m7 => intro v w w' h g; first | exact h | exact Bytes.grown h g
  case m8 => intro v w w' h g; first | exact h | exact Bytes.grown h g
  case m9 => intro v w w' h g; first | exact h | exact Bytes.grown h g
  case m10 => intro v w w' h g; first | exact h | exact Bytes.grown h g
  case m11 => intro v w w' h g; first | exact h | exact Bytes.grown h g
  case m12 => intro v w w' h g; first | exact h | exact Bytes.grown h g
  case m13 => intro v w w' h g; first | exact h | exact Bytes.grown h g
  case m14 => intro v w w' h g; first | exact h | exact Bytes.grown h g
  case m15 => intro v w w' h g; first | exact h | exact Bytes.grown h g
  case m16 => intro v w w' h g; first | exact h | exact Bytes.grown h g
  case m17 => intro v w w' h g; first | exact h | exact Bytes.grown h g
  case m18 => intro v w w' h g; first | exact h | exact Bytes.grown h g
  case m19 => intro v w w' h g; first | exact h | exact Bytes.grown h g
  case m20 => intro v w w' h g; first | exact h | exact Bytes.grown h g
  case m21 => intro v w w' h g; first | exact h | exact Bytes.grown h g
  case m22 => intro v w w' h g; first | exact h | exact Bytes.grown h g
  case m23 => intro v w w' h g; first | exact h | exact Bytes.grown h g
  case m24 => intro v w w' h g; first | exact h | exact Bytes.grown h g
  case m25 => intro v w w' h g; first | exact h | exact Bytes.grown h g
  case m26 => intro v w w' h g; first | exact h | exact Bytes.grown h g
  case m27 => intro v w w' h g; first | exact h | exact Bytes.grown h g
  case m28 => intro v w w' h g; first | exact h | exact Bytes.grown h g
  case m29 => intro v w w' h g; first | exact h | exact Bytes.grown h g
  case m30 => intro v w w' h g; first | exact h | exact Bytes.grown h g
  case m31 => intro v w w' h g; first | exact h | exact Bytes.grown h g
  case m32 => intro v w w' h g; first | exact h | exact Bytes.grown h g
  case m33 => intro v w w' h g; first | exact h | exact Bytes.grown h g
  case o0 =>
    intro u w g hd K hK
    clear hd
    simp only [Act.put, List.setIfInBounds_toArray, List.set_cons_zero, List.set_cons_succ] at hK
    go_simp
    exact hK _ _ rfl (gr_refl _ _)
  case o1 =>
    intro u w g hd K hK
    clear hd
    simp only [Act.put, List.setIfInBounds_toArray, List.set_cons_zero, List.set_cons_succ] at hK
    go_simp
    exact hK _ _ rfl (gr_refl _ _)
  case o2 =>
    intro u w g hd K hK
    have h0 : (u 0) = .int .u32 h := hd 0 (by simp)
    have h1 : (u 1) = .int .u32 h := hd 1 (by simp)
    clear hd
    simp only [Act.put, List.setIfInBounds_toArray, List.set_cons_zero, List.set_cons_succ] at hK
    simp only [h0, h1] at hK ⊢
    go_simp
    exact hK _ _ (by simp) (gr_refl _ _)
  case o3 =>
    intro u w g hd K hK
    have h2 : (u 2) = .bool true := hd 2 (by simp)
    clear hd
    simp only [Act.put, List.setIfInBounds_toArray, List.set_cons_zero, List.set_cons_succ] at hK
    simp only [h2] at hK ⊢
    go_simp
    exact hK _ _ rfl (gr_refl _ _)
  case o4 =>
    intro u w g hd K hK
    have h3 : (u 3) = .bool true := hd 3 (by simp)
    clear hd
    simp only [Act.put, List.setIfInBounds_toArray, List.set_cons_zero, List.set_cons_succ] at hK
    simp only [h3] at hK ⊢
    go_simp
    exact hK _ _ rfl (gr_refl _ _)
  case o5 =>
    intro u w g hd K hK
    have h3 : (u 3) = .bool true := hd 3 (by simp)
    clear hd
    simp only [Act.put, List.setIfInBounds_toArray, List.set_cons_zero, List.set_cons_succ] at hK
    simp only [h3] at hK ⊢
    go_simp
    exact hK _ _ rfl (gr_refl _ _)
  case o6 =>
    intro u w g hd K hK
    have h4 : (u 4) = .int .u16 p := hd 4 (by simp)
    have h5 : (u 5) = .int .u16 p := hd 5 (by simp)
    have h3 : (u 3) = .bool true := hd 3 (by simp)
    clear hd
    simp only [Act.put, List.setIfInBounds_toArray, List.set_cons_zero, List.set_cons_succ] at hK
    simp only [h4, h5, h3] at hK ⊢
    go_simp
    exact hK _ _ (by simp) (gr_refl _ _)
  case o7 =>
    intro u w g hd K hK
    have h3 : (u 3) = .bool true := hd 3 (by simp)
    have h6 : (u 6) = .bool true := hd 6 (by simp)
    clear hd
    simp only [Act.put, List.setIfInBounds_toArray, List.set_cons_zero, List.set_cons_succ] at hK
    simp only [h3, h6] at hK ⊢
    go_simp
    exact hK _ _ rfl (gr_refl _ _)
  case o8 =>
    intro u w g hd K hK
    have h7 : (u 7) = .bool true := hd 7 (by simp)
    clear hd
    simp only [Act.put, List.setIfInBounds_toArray, List.set_cons_zero, List.set_cons_succ] at hK
    simp only [h7] at hK ⊢
    go_simp
    exact hK _ _ rfl (gr_refl _ _)
  case o9 =>
    intro u w g hd K hK
    have h8 : (u 8) = .bool true := hd 8 (by simp)
    clear hd
    simp only [Act.put, List.setIfInBounds_toArray, List.set_cons_zero, List.set_cons_succ] at hK
    simp only [h8] at hK ⊢
    go_simp
    exact hK _ _ rfl (gr_refl _ _)
  case o10 =>
    intro u w g hd K hK
    have h8 : (u 8) = .bool true := hd 8 (by simp)
    clear hd
    simp only [Act.put, List.setIfInBounds_toArray, List.set_cons_zero, List.set_cons_succ] at hK
    simp only [h8] at hK ⊢
    go_simp
    exact hK _ _ rfl (gr_refl _ _)
  case o11 =>
    intro u w g hd K hK
    have h9 : (u 9) = .string t := hd 9 (by simp)
    have h10 : (u 10) = .string t := hd 10 (by simp)
    have h8 : (u 8) = .bool true := hd 8 (by simp)
    clear hd
    simp only [Act.put, List.setIfInBounds_toArray, List.set_cons_zero, List.set_cons_succ] at hK
    simp only [h9, h10, h8] at hK ⊢
    go_simp
    exact hK _ _ (by simp) (gr_refl _ _)
  case o12 =>
    intro u w g hd K hK
    have h8 : (u 8) = .bool true := hd 8 (by simp)
    have h11 : (u 11) = .bool true := hd 11 (by simp)
    clear hd
    simp only [Act.put, List.setIfInBounds_toArray, List.set_cons_zero, List.set_cons_succ] at hK
    simp only [h8, h11] at hK ⊢
    go_simp
    exact hK _ _ rfl (gr_refl _ _)
  case o13 =>
    intro u w g hd K hK
    have h12 : (u 12) = .bool true := hd 12 (by simp)
    clear hd
    simp only [Act.put, List.setIfInBounds_toArray, List.set_cons_zero, List.set_cons_succ] at hK
    simp only [h12] at hK ⊢
    go_simp
    exact hK _ _ rfl (gr_refl _ _)
  case o14 =>
    intro u w g hd K hK
    have h13 : (u 13) = .bool true := hd 13 (by simp)
    clear hd
    simp only [Act.put, List.setIfInBounds_toArray, List.set_cons_zero, List.set_cons_succ] at hK
    simp only [h13] at hK ⊢
    go_simp
    exact hK _ _ rfl (gr_refl _ _)
  case o15 =>
    intro u w g hd K hK
    have h13 : (u 13) = .bool true := hd 13 (by simp)
    clear hd
    simp only [Act.put, List.setIfInBounds_toArray, List.set_cons_zero, List.set_cons_succ] at hK
    simp only [h13] at hK ⊢
    go_simp
    exact hK _ _ rfl (gr_refl _ _)
  case o16 =>
    intro u w g hd K hK
    have h14 : (u 14) = .bool b := hd 14 (by simp)
    have h15 : (u 15) = .bool b := hd 15 (by simp)
    have h13 : (u 13) = .bool true := hd 13 (by simp)
    clear hd
    simp only [Act.put, List.setIfInBounds_toArray, List.set_cons_zero, List.set_cons_succ] at hK
    simp only [h14, h15, h13] at hK ⊢
    go_simp
    exact hK _ _ (by simp) (gr_refl _ _)
  case o17 =>
    intro u w g hd K hK
    have h13 : (u 13) = .bool true := hd 13 (by simp)
    have h16 : (u 16) = .bool true := hd 16 (by simp)
    clear hd
    simp only [Act.put, List.setIfInBounds_toArray, List.set_cons_zero, List.set_cons_succ] at hK
    simp only [h13, h16] at hK ⊢
    go_simp
    exact hK _ _ rfl (gr_refl _ _)
  case o18 =>
    intro u w g hd K hK
    have h17 : (u 17) = .bool true := hd 17 (by simp)
    clear hd
    simp only [Act.put, List.setIfInBounds_toArray, List.set_cons_zero, List.set_cons_succ] at hK
    simp only [h17] at hK ⊢
    go_simp
    exact hK _ _ rfl (gr_refl _ _)
  case o19 =>
    intro u w g hd K hK
    have h18 : (u 18) = .bool true := hd 18 (by simp)
    clear hd
    simp only [Act.put, List.setIfInBounds_toArray, List.set_cons_zero, List.set_cons_succ] at hK
    simp only [h18] at hK ⊢
    go_simp
    exact hK _ _ rfl (gr_refl _ _)
  case o20 =>
    intro u w g hd K hK
    have h19 : (u 19) = .string s := hd 19 (by simp)
    have h18 : (u 18) = .bool true := hd 18 (by simp)
    clear hd
    simp only [Act.put, List.setIfInBounds_toArray, List.set_cons_zero, List.set_cons_succ] at hK
    simp only [h19, h18] at hK ⊢
    go_simp
    refine (SE1.out w).mono ?_
    rintro e w' ⟨rfl, g'⟩
    exact hK _ w' rfl g'
  case o21 =>
    intro u w g hd K hK
    have h18 : (u 18) = .bool true := hd 18 (by simp)
    clear hd
    simp only [Act.put, List.setIfInBounds_toArray, List.set_cons_zero, List.set_cons_succ] at hK
    simp only [h18] at hK ⊢
    go_simp
    exact hK _ _ rfl (gr_refl _ _)
  case o22 =>
    intro u w g hd K hK
    have h21 : (u 21) = .string s := hd 21 (by simp)
    have h18 : (u 18) = .bool true := hd 18 (by simp)
    clear hd
    simp only [Act.put, List.setIfInBounds_toArray, List.set_cons_zero, List.set_cons_succ] at hK
    simp only [h21, h18] at hK ⊢
    go_simp
    refine (SE2.out w).mono ?_
    rintro e w' ⟨rfl, g'⟩
    exact hK _ w' rfl g'
  case o23 =>
    intro u w g hd K hK
    have h20 : (u 20) = .int .u64 z := hd 20 (by simp)
    have h22 : (u 22) = .int .u64 z := hd 22 (by simp)
    have h18 : (u 18) = .bool true := hd 18 (by simp)
    clear hd
    simp only [Act.put, List.setIfInBounds_toArray, List.set_cons_zero, List.set_cons_succ] at hK
    simp only [h20, h22, h18] at hK ⊢
    go_simp
    exact hK _ _ (by simp) (gr_refl _ _)
  case o24 =>
    intro u w g hd K hK
    have h18 : (u 18) = .bool true := hd 18 (by simp)
    have h23 : (u 23) = .bool true := hd 23 (by simp)
    clear hd
    simp only [Act.put, List.setIfInBounds_toArray, List.set_cons_zero, List.set_cons_succ] at hK
    simp only [h18, h23] at hK ⊢
    go_simp
    exact hK _ _ rfl (gr_refl _ _)
  case o25 =>
    intro u w g hd K hK
    have h24 : (u 24) = .bool true := hd 24 (by simp)
    clear hd
    simp only [Act.put, List.setIfInBounds_toArray, List.set_cons_zero, List.set_cons_succ] at hK
    simp only [h24] at hK ⊢
    go_simp
    exact hK _ _ rfl (gr_refl _ _)
  case o26 =>
    intro u w g hd K hK
    have h25 : (u 25) = .bool true := hd 25 (by simp)
    clear hd
    simp only [Act.put, List.setIfInBounds_toArray, List.set_cons_zero, List.set_cons_succ] at hK
    simp only [h25] at hK ⊢
    go_simp
    exact hK _ _ rfl (gr_refl _ _)
  case o27 =>
    intro u w g hd K hK
    have h26 : (u 26) = .slice a n c := hd 26 (by simp)
    have h25 : (u 25) = .bool true := hd 25 (by simp)
    clear hd
    simp only [Act.put, List.setIfInBounds_toArray, List.set_cons_zero, List.set_cons_succ] at hK
    simp only [h26, h25] at hK ⊢
    go_simp
    refine (BO1.out w g).mono ?_
    rintro e w' ⟨v', rfl, hb', g'⟩
    exact hK v' w' hb' g'
  case o28 =>
    intro u w g hd K hK
    have h27 : Bytes w (u 27) L := hd 27 (by simp)
    have h25 : (u 25) = .bool true := hd 25 (by simp)
    clear hd
    simp only [Act.put, List.setIfInBounds_toArray, List.set_cons_zero, List.set_cons_succ] at hK
    simp only [h25] at hK ⊢
    go_simp
    rw [run_b2s (l := L) Tryz.underlying37 Tryz.underlying5 Tryz.underlying9 (v := u 27) h27]
    unfold str
    go_simp
    exact hK _ _ rfl (gr_refl _ _)
  case o29 =>
    intro u w g hd K hK
    have h25 : (u 25) = .bool true := hd 25 (by simp)
    clear hd
    simp only [Act.put, List.setIfInBounds_toArray, List.set_cons_zero, List.set_cons_succ] at hK
    simp only [h25] at hK ⊢
    go_simp
    exact hK _ _ rfl (gr_refl _ _)
  case o30 =>
    intro u w g hd K hK
    have h29 : (u 29) = .slice a n c := hd 29 (by simp)
    have h25 : (u 25) = .bool true := hd 25 (by simp)
    clear hd
    simp only [Act.put, List.setIfInBounds_toArray, List.set_cons_zero, List.set_cons_succ] at hK
    simp only [h29, h25] at hK ⊢
    go_simp
    refine (BO2.out w g).mono ?_
    rintro e w' ⟨rfl, rfl⟩
    exact hK _ _ rfl (gr_refl _ _)
  case o31 =>
    intro u w g hd K hK
    have h28 : (u 28) = .string ⟨L.toArray⟩ := hd 28 (by simp)
    have h30 : (u 30) = .string ⟨L.toArray⟩ := hd 30 (by simp)
    have h25 : (u 25) = .bool true := hd 25 (by simp)
    clear hd
    simp only [Act.put, List.setIfInBounds_toArray, List.set_cons_zero, List.set_cons_succ] at hK
    simp only [h28, h30, h25] at hK ⊢
    go_simp
    exact hK _ _ (by simp) (gr_refl _ _)
  case o32 =>
    intro u w g hd K hK
    have h25 : (u 25) = .bool true := hd 25 (by simp)
    have h31 : (u 31) = .bool true := hd 31 (by simp)
    clear hd
    simp only [Act.put, List.setIfInBounds_toArray, List.set_cons_zero, List.set_cons_succ] at hK
    simp only [h25, h31] at hK ⊢
    go_simp
    exact hK _ _ rfl (gr_refl _ _)
  case o33 =>
    intro u w g hd K hK
    have h32 : (u 32) = .bool true := hd 32 (by simp)
    clear hd
    simp only [Act.put, List.setIfInBounds_toArray, List.set_cons_zero, List.set_cons_succ] at hK
    simp only [h32] at hK ⊢
    go_simp
    exact hK _ _ rfl (gr_refl _ _)
  case done =>
    intro u w hS g
    have s0 : (u 0) = .int .u32 h := hS 0 (by decide)
    have s1 : (u 1) = .int .u32 h := hS 1 (by decide)
    have s2 : (u 2) = .bool true := hS 2 (by decide)
    have s3 : (u 3) = .bool true := hS 3 (by decide)
    have s4 : (u 4) = .int .u16 p := hS 4 (by decide)
    have s5 : (u 5) = .int .u16 p := hS 5 (by decide)
    have s6 : (u 6) = .bool true := hS 6 (by decide)
    have s7 : (u 7) = .bool true := hS 7 (by decide)
    have s8 : (u 8) = .bool true := hS 8 (by decide)
    have s9 : (u 9) = .string t := hS 9 (by decide)
    have s10 : (u 10) = .string t := hS 10 (by decide)
    have s11 : (u 11) = .bool true := hS 11 (by decide)
    have s12 : (u 12) = .bool true := hS 12 (by decide)
    have s13 : (u 13) = .bool true := hS 13 (by decide)
    have s14 : (u 14) = .bool b := hS 14 (by decide)
    have s15 : (u 15) = .bool b := hS 15 (by decide)
    have s16 : (u 16) = .bool true := hS 16 (by decide)
    have s17 : (u 17) = .bool true := hS 17 (by decide)
    have s18 : (u 18) = .bool true := hS 18 (by decide)
    have s19 : (u 19) = .string s := hS 19 (by decide)
    have s20 : (u 20) = .int .u64 z := hS 20 (by decide)
    have s21 : (u 21) = .string s := hS 21 (by decide)
    have s22 : (u 22) = .int .u64 z := hS 22 (by decide)
    have s23 : (u 23) = .bool true := hS 23 (by decide)
    have s24 : (u 24) = .bool true := hS 24 (by decide)
    have s25 : (u 25) = .bool true := hS 25 (by decide)
    have s26 : (u 26) = .slice a n c := hS 26 (by decide)
    have s27 : Bytes w (u 27) L := hS 27 (by decide)
    have s28 : (u 28) = .string ⟨L.toArray⟩ := hS 28 (by decide)
    have s29 : (u 29) = .slice a n c := hS 29 (by decide)
    have s30 : (u 30) = .string ⟨L.toArray⟩ := hS 30 (by decide)
    have s31 : (u 31) = .bool true := hS 31 (by decide)
    have s32 : (u 32) = .bool true := hS 32 (by decide)
    have s33 : (u 33) = .bool true := hS 33 (by decide)
    clear hS
    have HS := hid s33
    have GW := hid (gr_trans GG.out g)
    clear s0 s1 s2 s3 s4 s5 s6 s7 s8 s9 s10 s11 s12 s13 s14 s15 s16 s17 s18 s19 s20 s21 s22 s23 s24 s25 s26 s27 s28 s29 s30 s31 s32 s33 g
    generalize u 0 = x0 at *
    generalize u 1 = x1 at *
    generalize u 2 = x2 at *
    generalize u 3 = x3 at *
    generalize u 4 = x4 at *
    generalize u 5 = x5 at *
    generalize u 6 = x6 at *
    generalize u 7 = x7 at *
    generalize u 8 = x8 at *
    generalize u 9 = x9 at *
    generalize u 10 = x10 at *
    generalize u 11 = x11 at *
    generalize u 12 = x12 at *
    generalize u 13 = x13 at *
    generalize u 14 = x14 at *
    generalize u 15 = x15 at *
    generalize u 16 = x16 at *
    generalize u 17 = x17 at *
    generalize u 18 = x18 at *
    generalize u 19 = x19 at *
    generalize u 20 = x20 at *
    generalize u 21 = x21 at *
    generalize u 22 = x22 at *
    generalize u 23 = x23 at *
    generalize u 24 = x24 at *
    generalize u 25 = x25 at *
    generalize u 26 = x26 at *
    generalize u 27 = x27 at *
    generalize u 28 = x28 at *
    generalize u 29 = x29 at *
    generalize u 30 = x30 at *
    generalize u 31 = x31 at *
    generalize u 32 = x32 at *
    generalize u 33 = x33 at *
    obtain rfl := HS.out
    go_wp2_with fail
    go_ret
    exact ⟨rfl, GW.out⟩
end Go.Proofs.YtfceodbpkghkaaaGreatDoor
