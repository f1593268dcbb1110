/- Texts of one proof, put together: Gm5, Gmh. -/
import Derived.Test.YtfceodbpkghkaaaGreatDoorGm4
import Derived.Test.YtfceodbpkghkaaaGreatDoorAp1
import Derived.Test.YtfceodbpkghkaaaGreatDoorReg3
import Derived.Test.YtfceodbpkghkaaaGreatDoorMK
import Derived.Lib.EndianBits
import Derived.Laws.BitsLemmas
/- gena.sixteens and gena.sid. -/
namespace Go.Proofs.YtfceodbpkghkaaaGreatDoor
open Go.RowKit
set_option linter.unusedVariables false
set_option linter.unusedSimpArgs false

theorem hexL_snoc (c : UInt8) : ∀ l : Gs, hexL (l ++ [c]) = hexL l ++ [hexD (c.toNat / 16), hexD (c.toNat % 16)]
  | [] => rfl
  | b :: l => by simp only [List.cons_append, hexL, hexL_snoc c l]
theorem hexL_len : ∀ l : Gs, (hexL l).length = 2 * l.length
  | [] => rfl
  | b :: l => by simp only [hexL, List.length_cons, hexL_len l]; omega
def hexLit : ByteArray := ⟨#[48, 49, 50, 51, 52, 53, 54, 55, 56, 57, 97, 98, 99, 100, 101, 102]⟩
theorem hex_at : ∀ k : Fin 16, (#[48, 49, 50, 51, 52, 53, 54, 55, 56, 57, 97, 98, 99, 100, 101, 102] : Array UInt8)[k.val]? = some (hexD k.val) := by decide
theorem hex_get (k : Nat) (h : k < 16) (h' : k < (#[48, 49, 50, 51, 52, 53, 54, 55, 56, 57, 97, 98, 99, 100, 101, 102] : Array UInt8).size) : (#[48, 49, 50, 51, 52, 53, 54, 55, 56, 57, 97, 98, 99, 100, 101, 102] : Array UInt8)[k] = hexD k := by
  have := hex_at ⟨k, h⟩
  rw [Array.getElem?_eq_getElem h'] at this
  simpa using this
theorem u8_and15 (x : UInt8) : bits .and .u8 (x.toNat : Int) 15 = ((x.toNat % 16 : Nat) : Int) := by
  have h : ∀ n : Fin 256, bits .and .u8 (n.val : Int) 15 = ((n.val % 16 : Nat) : Int) := by decide +kernel
  exact h ⟨x.toNat, x.toNat_lt⟩
theorem hex_bget (k : Nat) (h : k < 16) (h' : k < (⟨#[48, 49, 50, 51, 52, 53, 54, 55, 56, 57, 97, 98, 99, 100, 101, 102]⟩ : ByteArray).size) : (⟨#[48, 49, 50, 51, 52, 53, 54, 55, 56, 57, 97, 98, 99, 100, 101, 102]⟩ : ByteArray)[k] = hexD k := hex_get k h h'
set_option maxRecDepth 20000 in
set_option maxHeartbeats 2000000 in
theorem sixteens_x (l : Gs) (v : Value) (w : World) (h : Bytes w v l) (hl : l.length ≤ 1000) :
    Calls Tryz.prog 78 #[v] w fun e w' => e = .returned (.string ⟨(hexL l).toArray⟩) ∧ w.grownBy w' none := by
  obtain ⟨a, cap, rfl, h1, h2, h3⟩ := h
  have HC := hid h3
  clear h3
  go_enter Tryz.func78, Tryz.ntmps78
  go_wp2_with fail
  go_loopw [3, 8] (fun v3 v8 wr => ∃ i : Nat, v8 = .int .i64 (i : Int) ∧ i ≤ l.length ∧ Own8 wr w.heap.size v3 (hexL (l.take i)) ∧ w.grownBy wr none) (fun _ v8 _ => l.length - (intOf v8).toNat)
  case atStart => exact ⟨0, rfl, Nat.zero_le _, World.ownsRow_nil _ _ _ _, gr_refl _ _⟩
  case round =>
    obtain ⟨i, rfl, hi, hown, gw⟩ := hrel
    by_cases hlt : i < l.length
    · obtain ⟨b, o, rfl, hc⟩ := HC.out (by intro e; rw [e] at hlt; simp at hlt)
      have hcell := gw.cell (hc i hlt) (by simp)
      have hhex := hexL_snoc (l.getD i 0) (l.take i)
      rw [show l.take i ++ [l.getD i 0] = l.take (i + 1) by rw [List.take_add_one, List.getElem?_eq_getElem hlt, List.getD_eq_getElem?_getD, List.getElem?_eq_getElem hlt]; rfl] at hhex
      have HH := hid hhex
      have hll := hexL_len (l.take i)
      have hlk : (l.take i).length ≤ 1000 := Nat.le_trans (List.length_take_le' _ _) hl
      have HO := hid hown
      generalize l.getD i 0 = c at hcell HH
      obtain ⟨ad, oc, rfl⟩ := own_shapeG hown
      clear hown hhex hc
      go_wp2_with fail
      obtain ⟨w0, hw0⟩ : ∃ w0, w0 = wr := ⟨_, rfl⟩
      rw [← hw0] at gw HO hcell ⊢
      have GW := hid gw
      clear hw0 gw
      obtain ⟨X, hX⟩ : ∃ X, X = hexL (l.take i) := ⟨_, rfl⟩
      have hXl : X.length ≤ 2000 := by rw [hX]; omega
      rw [← hX] at HO HH ⊢
      clear hX hll hlk
      have hhi : c.toNat / 16 < 16 := by have := c.toNat_lt; omega
      have hlo : c.toNat % 16 < 16 := by omega
      obtain ⟨x, hx⟩ : ∃ x, x = hexD (c.toNat / 16) := ⟨_, rfl⟩
      obtain ⟨y, hy⟩ : ∃ x, x = hexD (c.toNat % 16) := ⟨_, rfl⟩
      rw [← hx, ← hy] at HH
      have ehi : (c.toNat : Int) / 16 = ((c.toNat / 16 : Nat) : Int) := rfl
      have elo := u8_and15 c
      obtain ⟨hi', hhi'⟩ : ∃ x, x = c.toNat / 16 := ⟨_, rfl⟩
      obtain ⟨lo', hlo'⟩ : ∃ x, x = c.toNat % 16 := ⟨_, rfl⟩
      rw [← hhi'] at hhi hx ehi
      rw [← hlo'] at hlo hy elo
      have HX := hid hx
      have HY := hid hy
      have EH := hid ehi
      have EL := hid elo
      have H1 := hid hhi
      have H2 := hid hlo
      clear hx hy ehi elo hhi' hlo' hhi hlo
      refine wp_region_spec3 8 9 none (by kernel_rfl) (by kernel_rfl) (by kernel_rfl) (by kernel_rfl) (by kernel_rfl) (by kernel_rfl) [some 12, some 13, some 14, some 15, some 16, some 17, some 18, some 19] (by kernel_rfl) _ (fun u => (by simp only [fill, List.zipIdx_cons, List.zipIdx_nil, List.foldl_cons, List.foldl_nil, Act.put, List.setIfInBounds_toArray, List.set_cons_zero, List.set_cons_succ, Nat.zero_add, Nat.reduceAdd]; exact rfl)) (by kernel_rfl)
        (all_succ (all_succ (all_succ (all_succ (all_succ (all_succ (all_succ (all_succ (all_zero _) (fun u v => by kernel_rfl)) (fun u v => by kernel_rfl)) (fun u v => by kernel_rfl)) (fun u v => by kernel_rfl)) (fun u v => by kernel_rfl)) (fun u v => by kernel_rfl)) (fun u v => by kernel_rfl)) (fun u v => by kernel_rfl))
        (fun ri v w => match ri with | 0 => v = .slice ad X.length oc | 1 => v = .int .u8 (c.toNat : Int) | 2 => v = .int .u8 (hi' : Int) | 3 => v = .int .u8 (x.toNat : Int) | 4 => v = .int .u8 (c.toNat : Int) | 5 => v = .int .u8 (lo' : Int) | 6 => v = .int .u8 (y.toNat : Int) | 7 => Bytes w v [x, y] | _ => True)
        (all_succ (all_succ (all_succ (all_succ (all_succ (all_succ (all_succ (all_succ (all_zero _) ?gm0) ?gm1) ?gm2) ?gm3) ?gm4) ?gm5) ?gm6) ?gm7)
        [[], [], [1], [2], [], [4], [5], [3, 6]] (by kernel_rfl)
        ⟨?go0, ?go1, ?go2, ?go3, ?go4, ?go5, ?go6, ?go7, trivial⟩ ?gdone
      case gm0 => intro v w w' h g; first | exact h | exact Bytes.grown h (by simpa using g)
      case gm1 => intro v w w' h g; first | exact h | exact Bytes.grown h (by simpa using g)
      case gm2 => intro v w w' h g; first | exact h | exact Bytes.grown h (by simpa using g)
      case gm3 => intro v w w' h g; first | exact h | exact Bytes.grown h (by simpa using g)
      case gm4 => intro v w w' h g; first | exact h | exact Bytes.grown h (by simpa using g)
      case gm5 => intro v w w' h g; first | exact h | exact Bytes.grown h (by simpa using g)
      case gm6 => intro v w w' h g; first | exact h | exact Bytes.grown h (by simpa using g)
      case gm7 => intro v w w' h g; first | exact h | exact Bytes.grown h (by simpa using g)
      case go0 =>
        intro u w g hd K hK
        replace g : w0.grownBy w (none) := g
        clear hd
        simp only [Act.put, List.setIfInBounds_toArray, List.set_cons_zero, List.set_cons_succ] at hK
        go_simp
        exact hK _ _ rfl (gr_refl _ _)
      case go1 =>
        intro u w g hd K hK
        replace g : w0.grownBy w (none) := g
        clear hd
        simp only [Act.put, List.setIfInBounds_toArray, List.set_cons_zero, List.set_cons_succ] at hK
        go_simp
        exact hK _ _ rfl (gr_refl _ _)
      case go2 =>
        intro u w g hd K hK
        replace g : w0.grownBy w (none) := g
        have h1 : (u 1) = .int .u8 (c.toNat : Int) := hd 1 (by simp)
        clear hd
        simp only [Act.put, List.setIfInBounds_toArray, List.set_cons_zero, List.set_cons_succ] at hK
        simp only [h1] at hK ⊢
        go_simp
        rw [EH.out]
        exact hK _ _ rfl (gr_refl _ _)
      case go3 =>
        intro u w g hd K hK
        replace g : w0.grownBy w (none) := g
        have h2 : (u 2) = .int .u8 (hi' : Int) := hd 2 (by simp)
        clear hd
        simp only [Act.put, List.setIfInBounds_toArray, List.set_cons_zero, List.set_cons_succ] at hK
        simp only [h2] at hK ⊢
        go_simp
        have hb := H1.out
        rw [dif_pos (by omega), Result.andThen_ok, Oper.upon_value, hex_bget _ hb, ← HX.out]
        exact hK _ _ rfl (gr_refl _ _)
      case go4 =>
        intro u w g hd K hK
        replace g : w0.grownBy w (none) := g
        clear hd
        simp only [Act.put, List.setIfInBounds_toArray, List.set_cons_zero, List.set_cons_succ] at hK
        go_simp
        exact hK _ _ rfl (gr_refl _ _)
      case go5 =>
        intro u w g hd K hK
        replace g : w0.grownBy w (none) := g
        have h4 : (u 4) = .int .u8 (c.toNat : Int) := hd 4 (by simp)
        clear hd
        simp only [Act.put, List.setIfInBounds_toArray, List.set_cons_zero, List.set_cons_succ] at hK
        simp only [h4] at hK ⊢
        go_simp
        rw [EL.out]
        exact hK _ _ rfl (gr_refl _ _)
      case go6 =>
        intro u w g hd K hK
        replace g : w0.grownBy w (none) := g
        have h5 : (u 5) = .int .u8 (lo' : Int) := hd 5 (by simp)
        clear hd
        simp only [Act.put, List.setIfInBounds_toArray, List.set_cons_zero, List.set_cons_succ] at hK
        simp only [h5] at hK ⊢
        go_simp
        have hb := H2.out
        rw [dif_pos (by omega), Result.andThen_ok, Oper.upon_value, hex_bget _ hb, ← HY.out]
        exact hK _ _ rfl (gr_refl _ _)
      case go7 =>
        intro u w g hd K hK
        replace g : w0.grownBy w (none) := g
        have h3 : (u 3) = .int .u8 (x.toNat : Int) := hd 3 (by simp)
        have h6 : (u 6) = .int .u8 (y.toNat : Int) := hd 6 (by simp)
        clear hd
        simp only [Act.put, List.setIfInBounds_toArray, List.set_cons_zero, List.set_cons_succ] at hK
        simp only [h3, h6] at hK ⊢
        go_simp
        refine hK _ _ (own8_of (l := [x, y]) (heap_alloc_new w _) (Nat.zero_le _) rfl rfl (by simp [maxLen])).bytes (gr_alloc (gr_refl _ _) _)
      case gdone =>
        intro u w hS g
        have s0 : (u 0) = .slice ad X.length oc := hS 0 (by decide)
        have s1 : (u 1) = .int .u8 (c.toNat : Int) := hS 1 (by decide)
        have s2 : (u 2) = .int .u8 (hi' : Int) := hS 2 (by decide)
        have s3 : (u 3) = .int .u8 (x.toNat : Int) := hS 3 (by decide)
        have s4 : (u 4) = .int .u8 (c.toNat : Int) := hS 4 (by decide)
        have s5 : (u 5) = .int .u8 (lo' : Int) := hS 5 (by decide)
        have s6 : (u 6) = .int .u8 (y.toNat : Int) := hS 6 (by decide)
        have s7 : Bytes w (u 7) [x, y] := hS 7 (by decide)
        clear hS
        replace g : w0.grownBy w none := g
        change wpList _ _ _ [_, _] _ _
        simp only [s0]
        refine wpl_app8 rfl (.tmp 12) (.tmp 19) rfl (by rfl) (by rfl) (Own8.keep HO.out g) s7 (by simp; omega) (Nat.le_trans GW.out.size g.size) ?_
        intro v' w' q2 q3
        have HO2 := hid q2
        have HG2 := hid (gr_own (gr_trans GW.out g) (Own8.keep HO.out g) (Nat.le_refl _) q3)
        rw [← HH.out] at HO2
        clear q2 q3 HO GW g s0 s1 s2 s3 s4 s5 s6 s7
        generalize u 0 = v0, u 1 = v1, u 2 = v2', u 3 = v3', u 4 = v4, u 5 = v5, u 6 = v6, u 7 = v7
        go_wp2_with fail
        go_roundw
        case rel => exact ⟨i + 1, by go_num, by omega, HO2.out, HG2.out⟩
        case measure => simp [intOf]; omega
    · obtain rfl : i = l.length := by omega
      have hb := hown.bytes
      rw [List.take_length] at hb
      have hg := hid gw
      have HB := hid hb
      obtain ⟨a1, c1, rfl, -⟩ := hb
      clear hown hi hlt gw
      go_wp2_with (refine wpl_b2s rfl 37 9 5 (.tmp 22) rfl Tryz.underlying37 Tryz.underlying5 Tryz.underlying9 _ (hexL l) rfl HB.out ?_)
      unfold str
      go_wp2_with fail
      go_ret
      exact ⟨rfl, hg.out⟩
def dashL (H : Gs) : Gs := H.take 8 ++ 45 :: ((H.drop 8).take 4 ++ 45 :: ((H.drop 12).take 4 ++ 45 :: ((H.drop 16).take 4 ++ 45 :: H.drop 20)))
theorem ext_take (l : Gs) (i j : Nat) : (⟨l.toArray⟩ : ByteArray).extract i j = ⟨((l.drop i).take (j - i)).toArray⟩ := gext l i j
theorem sixL_len (a b : Nat) : (sixL a b).length = 32 := by unfold sixL; rw [hexL_len, List.length_append, beL_len, beL_len]
theorem sidL_len (a b : Nat) : (sidL a b).length = 41 := by
  have := sixL_len a b
  unfold sidL uuP
  simp only [List.length_append, List.length_cons, List.length_take, List.length_drop, List.length_nil, this]
  omega
theorem sidL_dash (a b : Nat) : sidL a b = uuP ++ dashL (sixL a b) := rfl
theorem dashL_len (H : Gs) (h : H.length = 32) : (dashL H).length = 36 := by
  unfold dashL
  simp only [List.length_append, List.length_cons, List.length_take, List.length_drop, h]
  omega
set_option maxRecDepth 20000 in
set_option maxHeartbeats 4000000 in
theorem sid_x (a b : Nat) (ha : a < 18446744073709551616) (hb : b < 18446744073709551616) (w : World) :
    Calls Tryz.prog 42 #[.agg #[.int .u64 (a : Int), .int .u64 (b : Int)]] w fun e w' => e = .returned (.string ⟨(sidL a b).toArray⟩) ∧ w.grownBy w' none := by
  have HA := hid (fun W => onum_any 8 (by omega) (by omega) a ha W)
  have HB := hid (fun W => onum_any 8 (by omega) (by omega) b hb W)
  have NB := heap_alloc_new w (.cells #[.int .u64 (a : Int), .int .u64 (b : Int)] 43)
  have p0 := (cell_of_block NB 0).trans (show _ = some (Value.int .u64 (a : Int)) from rfl)
  have p1 := (cell_of_block NB 1).trans (show _ = some (Value.int .u64 (b : Int)) from rfl)
  have GW := hid (gr_alloc (gr_refl w none) (.cells #[.int .u64 (a : Int), .int .u64 (b : Int)] 43))
  have HS := hid (sixL_len a b)
  have HR := hid (sidL_dash a b)
  clear NB ha hb
  go_enter Tryz.func42, Tryz.ntmps42
  go_wp2_with fail
  obtain ⟨A, hA⟩ : ∃ A, A = w.heap.size := ⟨_, rfl⟩
  obtain ⟨w0, hw0⟩ : ∃ w0, w0 = w.alloc (.cells #[.int .u64 (a : Int), .int .u64 (b : Int)] 43) := ⟨_, rfl⟩
  rw [← hw0, ← hA] at p0 p1
  rw [← hw0] at GW ⊢
  rw [← hA]
  clear hA hw0
  refine wp_region_spec2 (by kernel_rfl) (by kernel_rfl) (n := 10) (by kernel_rfl) [some 4, some 5, some 6, some 7, some 8, some 9, some 10, some 11, some 12, some 3] (by kernel_rfl) _ (fun u => (by simp only [fill, List.zipIdx_cons, List.zipIdx_nil, List.foldl_cons, List.foldl_nil, Act.put, List.setIfInBounds_toArray, List.set_cons_zero, List.set_cons_succ, Nat.zero_add, Nat.reduceAdd]; exact rfl)) (by kernel_rfl)
    (all_succ (all_succ (all_succ (all_succ (all_succ (all_succ (all_succ (all_succ (all_succ (all_succ (all_zero _) (fun u v => by kernel_rfl)) (fun u v => by kernel_rfl)) (fun u v => by kernel_rfl)) (fun u v => by kernel_rfl)) (fun u v => by kernel_rfl)) (fun u v => by kernel_rfl)) (fun u v => by kernel_rfl)) (fun u v => by kernel_rfl)) (fun u v => by kernel_rfl)) (fun u v => by kernel_rfl))
    (fun ri v w => match ri with | 0 => v = .pointer (some ⟨A, 0, none⟩) | 1 => v = .int .u64 (a : Int) | 2 => Bytes w v (beL 8 a) | 3 => v = .pointer (some ⟨A, 1, none⟩) | 4 => v = .int .u64 (b : Int) | 5 => Bytes w v (beL 8 b) | 6 => ∃ g v1 v2, v = .slice (some ⟨g, 0, none⟩) 2 2 ∧ w.cell? ⟨g, 0, none⟩ = some v1 ∧ w.cell? ⟨g, 1, none⟩ = some v2 ∧ Bytes w v1 (beL 8 a) ∧ Bytes w v2 (beL 8 b) | 7 => Bytes w v (beL 8 a ++ beL 8 b) | 8 => v = .string ⟨(sixL a b).toArray⟩ | 9 => v = .string ⟨(sixL a b).toArray⟩ | _ => True)
    (all_succ (all_succ (all_succ (all_succ (all_succ (all_succ (all_succ (all_succ (all_succ (all_succ (all_zero _) ?m0) ?m1) ?m2) ?m3) ?m4) ?m5) ?m6) ?m7) ?m8) ?m9)
    [[], [0], [1], [], [3], [4], [2, 5], [6], [7], [8]] (by kernel_rfl)
    ⟨?o0, ?o1, ?o2, ?o3, ?o4, ?o5, ?o6, ?o7, ?o8, ?o9, trivial⟩ ?done
  case m0 => intro v w w' h g; first | exact h | exact Bytes.grown h g | (obtain ⟨g0, v1, v2, e, q1, q2, q3, q4⟩ := h; exact ⟨g0, v1, v2, e, g.cell q1 (by simp), g.cell q2 (by simp), q3.grown g, q4.grown g⟩)
  case m1 => intro v w w' h g; first | exact h | exact Bytes.grown h g | (obtain ⟨g0, v1, v2, e, q1, q2, q3, q4⟩ := h; exact ⟨g0, v1, v2, e, g.cell q1 (by simp), g.cell q2 (by simp), q3.grown g, q4.grown g⟩)
  case m2 => intro v w w' h g; first | exact h | exact Bytes.grown h g | (obtain ⟨g0, v1, v2, e, q1, q2, q3, q4⟩ := h; exact ⟨g0, v1, v2, e, g.cell q1 (by simp), g.cell q2 (by simp), q3.grown g, q4.grown g⟩)
  case m3 => intro v w w' h g; first | exact h | exact Bytes.grown h g | (obtain ⟨g0, v1, v2, e, q1, q2, q3, q4⟩ := h; exact ⟨g0, v1, v2, e, g.cell q1 (by simp), g.cell q2 (by simp), q3.grown g, q4.grown g⟩)
  case m4 => intro v w w' h g; first | exact h | exact Bytes.grown h g | (obtain ⟨g0, v1, v2, e, q1, q2, q3, q4⟩ := h; exact ⟨g0, v1, v2, e, g.cell q1 (by simp), g.cell q2 (by simp), q3.grown g, q4.grown g⟩)
  case m5 => intro v w w' h g; first | exact h | exact Bytes.grown h g | (obtain ⟨g0, v1, v2, e, q1, q2, q3, q4⟩ := h; exact ⟨g0, v1, v2, e, g.cell q1 (by simp), g.cell q2 (by simp), q3.grown g, q4.grown g⟩)
  case m6 => intro v w w' h g; first | exact h | exact Bytes.grown h g | (obtain ⟨g0, v1, v2, e, q1, q2, q3, q4⟩ := h; exact ⟨g0, v1, v2, e, g.cell q1 (by simp), g.cell q2 (by simp), q3.grown g, q4.grown g⟩)
  case m7 => intro v w w' h g; first | exact h | exact Bytes.grown h g | (obtain ⟨g0, v1, v2, e, q1, q2, q3, q4⟩ := h; exact ⟨g0, v1, v2, e, g.cell q1 (by simp), g.cell q2 (by simp), q3.grown g, q4.grown g⟩)
  case m8 => intro v w w' h g; first | exact h | exact Bytes.grown h g | (obtain ⟨g0, v1, v2, e, q1, q2, q3, q4⟩ := h; exact ⟨g0, v1, v2, e, g.cell q1 (by simp), g.cell q2 (by simp), q3.grown g, q4.grown g⟩)
  case m9 => intro v w w' h g; first | exact h | exact Bytes.grown h g | (obtain ⟨g0, v1, v2, e, q1, q2, q3, q4⟩ := h; exact ⟨g0, v1, v2, e, g.cell q1 (by simp), g.cell q2 (by simp), q3.grown g, q4.grown g⟩)
  case o0 =>
    intro u w g hd K hK
    clear hd
    simp only [Act.put, List.setIfInBounds_toArray, List.set_cons_zero, List.set_cons_succ] at hK
    go_simp
    exact hK _ _ rfl (gr_refl _ _)
  case o1 =>
    intro u w g hd K hK
    have h0 : (u 0) = .pointer (some ⟨A, 0, none⟩) := hd 0 (by simp)
    clear hd
    simp only [Act.put, List.setIfInBounds_toArray, List.set_cons_zero, List.set_cons_succ] at hK
    have c := g.cell p0 (by simp)
    simp only [h0] at hK ⊢
    go_simp
    exact hK _ _ rfl (gr_refl _ _)
  case o2 =>
    intro u w g hd K hK
    have h1 : (u 1) = .int .u64 (a : Int) := hd 1 (by simp)
    clear hd
    simp only [Act.put, List.setIfInBounds_toArray, List.set_cons_zero, List.set_cons_succ] at hK
    simp only [h1] at hK ⊢
    go_simp
    refine (HA.out w).mono ?_
    rintro e w' ⟨v', rfl, -, hb', g'⟩
    exact hK v' w' hb' g'
  case o3 =>
    intro u w g hd K hK
    clear hd
    simp only [Act.put, List.setIfInBounds_toArray, List.set_cons_zero, List.set_cons_succ] at hK
    go_simp
    exact hK _ _ rfl (gr_refl _ _)
  case o4 =>
    intro u w g hd K hK
    have h3 : (u 3) = .pointer (some ⟨A, 1, none⟩) := hd 3 (by simp)
    clear hd
    simp only [Act.put, List.setIfInBounds_toArray, List.set_cons_zero, List.set_cons_succ] at hK
    have c := g.cell p1 (by simp)
    simp only [h3] at hK ⊢
    go_simp
    exact hK _ _ rfl (gr_refl _ _)
  case o5 =>
    intro u w g hd K hK
    have h4 : (u 4) = .int .u64 (b : Int) := hd 4 (by simp)
    clear hd
    simp only [Act.put, List.setIfInBounds_toArray, List.set_cons_zero, List.set_cons_succ] at hK
    simp only [h4] at hK ⊢
    go_simp
    refine (HB.out w).mono ?_
    rintro e w' ⟨v', rfl, -, hb', g'⟩
    exact hK v' w' hb' g'
  case o6 =>
    intro u w g hd K hK
    have h2 : Bytes w (u 2) (beL 8 a) := hd 2 (by simp)
    have h5 : Bytes w (u 5) (beL 8 b) := hd 5 (by simp)
    have hd2 := h2
    have hd5 := h5
    clear hd
    simp only [Act.put, List.setIfInBounds_toArray, List.set_cons_zero, List.set_cons_succ] at hK
    obtain ⟨a2, c2, e2, -⟩ := h2
    obtain ⟨a5, c5, e5, -⟩ := h5
    have H2 := hid (hd2 : Bytes w (u 2) (beL 8 a))
    have H5 := hid (hd5 : Bytes w (u 5) (beL 8 b))
    simp only [e2, e5] at hK H2 H5 ⊢
    go_simp
    refine hK _ _ ⟨w.heap.size, _, _, rfl, (cell_of_block (heap_alloc_new w _) 0).trans rfl, (cell_of_block (heap_alloc_new w _) 1).trans rfl, H2.out.grown (gr_alloc (gr_refl _ _) _), H5.out.grown (gr_alloc (gr_refl _ _) _)⟩ (gr_alloc (gr_refl _ _) _)
  case o7 =>
    intro u w g hd K hK
    have h6 : ∃ g v1 v2, (u 6) = .slice (some ⟨g, 0, none⟩) 2 2 ∧ w.cell? ⟨g, 0, none⟩ = some v1 ∧ w.cell? ⟨g, 1, none⟩ = some v2 ∧ Bytes w v1 (beL 8 a) ∧ Bytes w v2 (beL 8 b) := hd 6 (by simp)
    clear hd
    simp only [Act.put, List.setIfInBounds_toArray, List.set_cons_zero, List.set_cons_succ] at hK
    obtain ⟨g6, v1, v2, e6, q1, q2, q3, q4⟩ := h6
    have HJ := hid (join_by w g6 0 2 v1 v2 _ _ (Nat.le_refl _) q1 q2 q3 q4 (by rw [beL_len, beL_len]; omega))
    simp only [e6] at hK ⊢
    go_simp
    refine HJ.out.mono ?_
    rintro e w' ⟨v', rfl, hb', g'⟩
    exact hK v' w' hb' g'
  case o8 =>
    intro u w g hd K hK
    have h7 : Bytes w (u 7) (beL 8 a ++ beL 8 b) := hd 7 (by simp)
    clear hd
    simp only [Act.put, List.setIfInBounds_toArray, List.set_cons_zero, List.set_cons_succ] at hK
    have HX := hid (sixteens_x _ _ w h7 (by simp [beL_len]))
    obtain ⟨a7, c7, e7, -⟩ := h7
    simp only [e7] at hK HX ⊢
    go_simp
    refine HX.out.mono ?_
    rintro e w' ⟨rfl, g'⟩
    exact hK _ w' rfl g'
  case o9 =>
    intro u w g hd K hK
    have h8 : (u 8) = .string ⟨(sixL a b).toArray⟩ := hd 8 (by simp)
    clear hd
    simp only [Act.put, List.setIfInBounds_toArray, List.set_cons_zero, List.set_cons_succ] at hK
    simp only [h8] at hK ⊢
    go_simp
    exact hK _ _ rfl (gr_refl _ _)
  intro u w hS g
  have s0 : (u 0) = .pointer (some ⟨A, 0, none⟩) := hS 0 (by decide)
  have s1 : (u 1) = .int .u64 (a : Int) := hS 1 (by decide)
  have s2 : Bytes w (u 2) (beL 8 a) := hS 2 (by decide)
  have s3 : (u 3) = .pointer (some ⟨A, 1, none⟩) := hS 3 (by decide)
  have s4 : (u 4) = .int .u64 (b : Int) := hS 4 (by decide)
  have s5 : Bytes w (u 5) (beL 8 b) := hS 5 (by decide)
  have s6 : ∃ g v1 v2, (u 6) = .slice (some ⟨g, 0, none⟩) 2 2 ∧ w.cell? ⟨g, 0, none⟩ = some v1 ∧ w.cell? ⟨g, 1, none⟩ = some v2 ∧ Bytes w v1 (beL 8 a) ∧ Bytes w v2 (beL 8 b) := hS 6 (by decide)
  have s7 : Bytes w (u 7) (beL 8 a ++ beL 8 b) := hS 7 (by decide)
  have s8 : (u 8) = .string ⟨(sixL a b).toArray⟩ := hS 8 (by decide)
  have s9 : (u 9) = .string ⟨(sixL a b).toArray⟩ := hS 9 (by decide)
  clear hS
  have H9 := hid s9
  have GX := hid (gr_trans GW.out g)
  clear s0 s1 s2 s3 s4 s5 s6 s7 s8 s9 g HA HB p0 p1 GW
  generalize u 0 = x0 at *
  generalize u 1 = x1 at *
  generalize u 2 = x2 at *
  generalize u 3 = x3 at *
  generalize u 4 = x4 at *
  generalize u 5 = x5 at *
  generalize u 6 = x6 at *
  generalize u 7 = x7 at *
  generalize u 8 = x8 at *
  generalize u 9 = x9 at *
  go_wp2_with fail
  obtain ⟨H, hH⟩ : ∃ H, H = sixL a b := ⟨_, rfl⟩
  obtain ⟨X, hX⟩ : ∃ X : ByteArray, X = ⟨H.toArray⟩ := ⟨_, rfl⟩
  have hXs : X.size = 32 := by rw [hX, Lib.size_eq, hH]; exact HS.out
  have hHl : H.length = 32 := by rw [hH]; exact HS.out
  have X0 := hid (show X.extract 0 8 = ⟨((H.drop 0).take 8).toArray⟩ by rw [hX]; exact gext H 0 8)
  have X1 := hid (show X.extract 8 12 = ⟨((H.drop 8).take 4).toArray⟩ by rw [hX]; exact gext H 8 12)
  have X2 := hid (show X.extract 12 16 = ⟨((H.drop 12).take 4).toArray⟩ by rw [hX]; exact gext H 12 16)
  have X3 := hid (show X.extract 16 20 = ⟨((H.drop 16).take 4).toArray⟩ by rw [hX]; exact gext H 16 20)
  have X4 := hid (show X.extract 20 32 = ⟨((H.drop 20).take 12).toArray⟩ by rw [hX]; exact gext H 20 32)
  have JN := hid (fun (W : World) (g : Nat) (hb : W.heap[g]? = some (.cells #[.string ⟨((H.drop 0).take 8).toArray⟩, .string ⟨((H.drop 8).take 4).toArray⟩, .string ⟨((H.drop 12).take 4).toArray⟩, .string ⟨((H.drop 16).take 4).toArray⟩, .string ⟨((H.drop 20).take 12).toArray⟩] 9 (0, 0))) => (show Calls Tryz.prog 81 #[.slice (some ⟨g, 0, none⟩) 5 5, .string ⟨#[45]⟩] W fun e w' => e = .returned (.string ⟨(dashL H).toArray⟩) ∧ Below W.heap.size W w' from by
    have e : dashL H = Lib.join ([(⟨((H.drop 0).take 8).toArray⟩ : ByteArray), ⟨((H.drop 8).take 4).toArray⟩, ⟨((H.drop 12).take 4).toArray⟩, ⟨((H.drop 16).take 4).toArray⟩, ⟨((H.drop 20).take 12).toArray⟩].map (·.data.toList)) (⟨#[45]⟩ : ByteArray).data.toList := by
      have : (H.drop 20).take 12 = H.drop 20 := List.take_of_length_le (by rw [List.length_drop]; omega)
      simp [Lib.join, dashL, this]
    have hd := dashL_len H hHl
    rw [e] at hd ⊢
    exact Tryz.strings_Join g 0 5 [(⟨((H.drop 0).take 8).toArray⟩ : ByteArray), ⟨((H.drop 8).take 4).toArray⟩, ⟨((H.drop 12).take 4).toArray⟩, ⟨((H.drop 16).take 4).toArray⟩, ⟨((H.drop 20).take 12).toArray⟩] ⟨#[45]⟩ W (by
      intro j x hx
      rw [cell_of_block hb]
      match j, hx with
      | 0, hx => obtain rfl := Option.some.inj hx; rfl
      | 1, hx => obtain rfl := Option.some.inj hx; rfl
      | 2, hx => obtain rfl := Option.some.inj hx; rfl
      | 3, hx => obtain rfl := Option.some.inj hx; rfl
      | 4, hx => obtain rfl := Option.some.inj hx; rfl) (lt_of_block hb) (by simp) (by simp) (by omega)))
  have UU := hid (show (⟨#[117, 117, 105, 100, 58]⟩ : ByteArray) ++ ⟨(dashL H).toArray⟩ = ⟨(uuP ++ dashL H).toArray⟩ from g_app uuP _)
  have hds : (⟨(dashL H).toArray⟩ : ByteArray).size = 36 := by rw [Lib.size_eq]; exact dashL_len H hHl
  have HDS := hid (dashL_len H hHl)
  rw [← hH] at HR H9
  rw [← hX] at H9
  obtain rfl := H9.out
  clear hH hX HS hHl
  refine wp_region_spec2 (by kernel_rfl) (by kernel_rfl) (n := 14) (by kernel_rfl) [some 13, some 14, some 15, some 16, some 17, some 18, some 19, some 20, some 21, some 22, some 23, some 24, some 25, some 2] (by kernel_rfl) _ (fun u => (by simp only [fill, List.zipIdx_cons, List.zipIdx_nil, List.foldl_cons, List.foldl_nil, Act.put, List.setIfInBounds_toArray, List.set_cons_zero, List.set_cons_succ, Nat.zero_add, Nat.reduceAdd]; exact rfl)) (by kernel_rfl)
    (all_succ (all_succ (all_succ (all_succ (all_succ (all_succ (all_succ (all_succ (all_succ (all_succ (all_succ (all_succ (all_succ (all_succ (all_zero _) (fun u v => by kernel_rfl)) (fun u v => by kernel_rfl)) (fun u v => by kernel_rfl)) (fun u v => by kernel_rfl)) (fun u v => by kernel_rfl)) (fun u v => by kernel_rfl)) (fun u v => by kernel_rfl)) (fun u v => by kernel_rfl)) (fun u v => by kernel_rfl)) (fun u v => by kernel_rfl)) (fun u v => by kernel_rfl)) (fun u v => by kernel_rfl)) (fun u v => by kernel_rfl)) (fun u v => by kernel_rfl))
    (fun ri v w => match ri with | 0 => v = .string X | 1 => v = .string ⟨((H.drop 0).take 8).toArray⟩ | 2 => v = .string X | 3 => v = .string ⟨((H.drop 8).take 4).toArray⟩ | 4 => v = .string X | 5 => v = .string ⟨((H.drop 12).take 4).toArray⟩ | 6 => v = .string X | 7 => v = .string ⟨((H.drop 16).take 4).toArray⟩ | 8 => v = .string X | 9 => v = .string ⟨((H.drop 20).take 12).toArray⟩ | 10 => ∃ g, v = .slice (some ⟨g, 0, none⟩) 5 5 ∧ w.heap[g]? = some (.cells #[.string ⟨((H.drop 0).take 8).toArray⟩, .string ⟨((H.drop 8).take 4).toArray⟩, .string ⟨((H.drop 12).take 4).toArray⟩, .string ⟨((H.drop 16).take 4).toArray⟩, .string ⟨((H.drop 20).take 12).toArray⟩] 9 (0, 0)) | 11 => v = .string ⟨(dashL H).toArray⟩ | 12 => v = .string ⟨(uuP ++ dashL H).toArray⟩ | 13 => v = .string ⟨(uuP ++ dashL H).toArray⟩ | _ => True)
    (all_succ (all_succ (all_succ (all_succ (all_succ (all_succ (all_succ (all_succ (all_succ (all_succ (all_succ (all_succ (all_succ (all_succ (all_zero _) ?cm0) ?cm1) ?cm2) ?cm3) ?cm4) ?cm5) ?cm6) ?cm7) ?cm8) ?cm9) ?cm10) ?cm11) ?cm12) ?cm13)
    [[], [0], [], [2], [], [4], [], [6], [], [8], [1, 3, 5, 7, 9], [10], [11], [12]] (by kernel_rfl)
    ⟨?co0, ?co1, ?co2, ?co3, ?co4, ?co5, ?co6, ?co7, ?co8, ?co9, ?co10, ?co11, ?co12, ?co13, trivial⟩ ?cdone
  case cm0 => intro v w w' h g; first | exact h | (obtain ⟨g0, e, q⟩ := h; exact ⟨g0, e, gr_keep g q (by simp)⟩)
  case cm1 => intro v w w' h g; first | exact h | (obtain ⟨g0, e, q⟩ := h; exact ⟨g0, e, gr_keep g q (by simp)⟩)
  case cm2 => intro v w w' h g; first | exact h | (obtain ⟨g0, e, q⟩ := h; exact ⟨g0, e, gr_keep g q (by simp)⟩)
  case cm3 => intro v w w' h g; first | exact h | (obtain ⟨g0, e, q⟩ := h; exact ⟨g0, e, gr_keep g q (by simp)⟩)
  case cm4 => intro v w w' h g; first | exact h | (obtain ⟨g0, e, q⟩ := h; exact ⟨g0, e, gr_keep g q (by simp)⟩)
  case cm5 => intro v w w' h g; first | exact h | (obtain ⟨g0, e, q⟩ := h; exact ⟨g0, e, gr_keep g q (by simp)⟩)
  case cm6 => intro v w w' h g; first | exact h | (obtain ⟨g0, e, q⟩ := h; exact ⟨g0, e, gr_keep g q (by simp)⟩)
  case cm7 => intro v w w' h g; first | exact h | (obtain ⟨g0, e, q⟩ := h; exact ⟨g0, e, gr_keep g q (by simp)⟩)
  case cm8 => intro v w w' h g; first | exact h | (obtain ⟨g0, e, q⟩ := h; exact ⟨g0, e, gr_keep g q (by simp)⟩)
  case cm9 => intro v w w' h g; first | exact h | (obtain ⟨g0, e, q⟩ := h; exact ⟨g0, e, gr_keep g q (by simp)⟩)
  case cm10 => intro v w w' h g; first | exact h | (obtain ⟨g0, e, q⟩ := h; exact ⟨g0, e, gr_keep g q (by simp)⟩)
  case cm11 => intro v w w' h g; first | exact h | (obtain ⟨g0, e, q⟩ := h; exact ⟨g0, e, gr_keep g q (by simp)⟩)
  case cm12 => intro v w w' h g; first | exact h | (obtain ⟨g0, e, q⟩ := h; exact ⟨g0, e, gr_keep g q (by simp)⟩)
  case cm13 => intro v w w' h g; first | exact h | (obtain ⟨g0, e, q⟩ := h; exact ⟨g0, e, gr_keep g q (by simp)⟩)
  case co0 =>
    intro u w g hd K hK
    clear hd
    simp only [Act.put, List.setIfInBounds_toArray, List.set_cons_zero, List.set_cons_succ] at hK
    go_simp
    exact hK _ _ rfl (gr_refl _ _)
  case co1 =>
    intro u w g hd K hK
    have h0 : (u 0) = .string X := hd 0 (by simp)
    clear hd
    simp only [Act.put, List.setIfInBounds_toArray, List.set_cons_zero, List.set_cons_succ] at hK
    simp only [h0] at hK ⊢
    go_simp
    rw [X0.out]
    exact hK _ _ rfl (gr_refl _ _)
  case co2 =>
    intro u w g hd K hK
    clear hd
    simp only [Act.put, List.setIfInBounds_toArray, List.set_cons_zero, List.set_cons_succ] at hK
    go_simp
    exact hK _ _ rfl (gr_refl _ _)
  case co3 =>
    intro u w g hd K hK
    have h2 : (u 2) = .string X := hd 2 (by simp)
    clear hd
    simp only [Act.put, List.setIfInBounds_toArray, List.set_cons_zero, List.set_cons_succ] at hK
    simp only [h2] at hK ⊢
    go_simp
    rw [X1.out]
    exact hK _ _ rfl (gr_refl _ _)
  case co4 =>
    intro u w g hd K hK
    clear hd
    simp only [Act.put, List.setIfInBounds_toArray, List.set_cons_zero, List.set_cons_succ] at hK
    go_simp
    exact hK _ _ rfl (gr_refl _ _)
  case co5 =>
    intro u w g hd K hK
    have h4 : (u 4) = .string X := hd 4 (by simp)
    clear hd
    simp only [Act.put, List.setIfInBounds_toArray, List.set_cons_zero, List.set_cons_succ] at hK
    simp only [h4] at hK ⊢
    go_simp
    rw [X2.out]
    exact hK _ _ rfl (gr_refl _ _)
  case co6 =>
    intro u w g hd K hK
    clear hd
    simp only [Act.put, List.setIfInBounds_toArray, List.set_cons_zero, List.set_cons_succ] at hK
    go_simp
    exact hK _ _ rfl (gr_refl _ _)
  case co7 =>
    intro u w g hd K hK
    have h6 : (u 6) = .string X := hd 6 (by simp)
    clear hd
    simp only [Act.put, List.setIfInBounds_toArray, List.set_cons_zero, List.set_cons_succ] at hK
    simp only [h6] at hK ⊢
    go_simp
    rw [X3.out]
    exact hK _ _ rfl (gr_refl _ _)
  case co8 =>
    intro u w g hd K hK
    clear hd
    simp only [Act.put, List.setIfInBounds_toArray, List.set_cons_zero, List.set_cons_succ] at hK
    go_simp
    exact hK _ _ rfl (gr_refl _ _)
  case co9 =>
    intro u w g hd K hK
    have h8 : (u 8) = .string X := hd 8 (by simp)
    clear hd
    simp only [Act.put, List.setIfInBounds_toArray, List.set_cons_zero, List.set_cons_succ] at hK
    simp only [h8] at hK ⊢
    go_simp
    rw [X4.out]
    exact hK _ _ rfl (gr_refl _ _)
  case co10 =>
    intro u w g hd K hK
    have h1 : (u 1) = .string ⟨((H.drop 0).take 8).toArray⟩ := hd 1 (by simp)
    have h3 : (u 3) = .string ⟨((H.drop 8).take 4).toArray⟩ := hd 3 (by simp)
    have h5 : (u 5) = .string ⟨((H.drop 12).take 4).toArray⟩ := hd 5 (by simp)
    have h7 : (u 7) = .string ⟨((H.drop 16).take 4).toArray⟩ := hd 7 (by simp)
    have h9 : (u 9) = .string ⟨((H.drop 20).take 12).toArray⟩ := hd 9 (by simp)
    clear hd
    simp only [Act.put, List.setIfInBounds_toArray, List.set_cons_zero, List.set_cons_succ] at hK
    simp only [h1, h3, h5, h7, h9] at hK ⊢
    go_simp
    exact hK _ _ ⟨w.heap.size, rfl, heap_alloc_new w _⟩ (gr_alloc (gr_refl _ _) _)
  case co11 =>
    intro u w g hd K hK
    have h10 : ∃ g, (u 10) = .slice (some ⟨g, 0, none⟩) 5 5 ∧ w.heap[g]? = some (.cells #[.string ⟨((H.drop 0).take 8).toArray⟩, .string ⟨((H.drop 8).take 4).toArray⟩, .string ⟨((H.drop 12).take 4).toArray⟩, .string ⟨((H.drop 16).take 4).toArray⟩, .string ⟨((H.drop 20).take 12).toArray⟩] 9 (0, 0)) := hd 10 (by simp)
    clear hd
    simp only [Act.put, List.setIfInBounds_toArray, List.set_cons_zero, List.set_cons_succ] at hK
    obtain ⟨g10, e10, b10⟩ := h10
    have HJ := hid (JN.out w g10 b10)
    simp only [e10] at hK ⊢
    go_simp
    refine HJ.out.mono ?_
    rintro e w' ⟨rfl, g'⟩
    exact hK _ _ rfl (gr_of_below g')
  case co12 =>
    intro u w g hd K hK
    have h11 : (u 11) = .string ⟨(dashL H).toArray⟩ := hd 11 (by simp)
    clear hd
    simp only [Act.put, List.setIfInBounds_toArray, List.set_cons_zero, List.set_cons_succ] at hK
    simp only [h11] at hK ⊢
    go_simp
    rw [UU.out]
    exact hK _ _ rfl (gr_refl _ _)
  case co13 =>
    intro u w g hd K hK
    have h12 : (u 12) = .string ⟨(uuP ++ dashL H).toArray⟩ := hd 12 (by simp)
    clear hd
    simp only [Act.put, List.setIfInBounds_toArray, List.set_cons_zero, List.set_cons_succ] at hK
    simp only [h12] at hK ⊢
    go_simp
    exact hK _ _ rfl (gr_refl _ _)
  case cdone =>
    intro u w hS g
    have s0 : (u 0) = .string X := hS 0 (by decide)
    have s1 : (u 1) = .string ⟨((H.drop 0).take 8).toArray⟩ := hS 1 (by decide)
    have s2 : (u 2) = .string X := hS 2 (by decide)
    have s3 : (u 3) = .string ⟨((H.drop 8).take 4).toArray⟩ := hS 3 (by decide)
    have s4 : (u 4) = .string X := hS 4 (by decide)
    have s5 : (u 5) = .string ⟨((H.drop 12).take 4).toArray⟩ := hS 5 (by decide)
    have s6 : (u 6) = .string X := hS 6 (by decide)
    have s7 : (u 7) = .string ⟨((H.drop 16).take 4).toArray⟩ := hS 7 (by decide)
    have s8 : (u 8) = .string X := hS 8 (by decide)
    have s9 : (u 9) = .string ⟨((H.drop 20).take 12).toArray⟩ := hS 9 (by decide)
    have s10 : ∃ g, (u 10) = .slice (some ⟨g, 0, none⟩) 5 5 ∧ w.heap[g]? = some (.cells #[.string ⟨((H.drop 0).take 8).toArray⟩, .string ⟨((H.drop 8).take 4).toArray⟩, .string ⟨((H.drop 12).take 4).toArray⟩, .string ⟨((H.drop 16).take 4).toArray⟩, .string ⟨((H.drop 20).take 12).toArray⟩] 9 (0, 0)) := hS 10 (by decide)
    have s11 : (u 11) = .string ⟨(dashL H).toArray⟩ := hS 11 (by decide)
    have s12 : (u 12) = .string ⟨(uuP ++ dashL H).toArray⟩ := hS 12 (by decide)
    have s13 : (u 13) = .string ⟨(uuP ++ dashL H).toArray⟩ := hS 13 (by decide)
    clear hS
    have H13 := hid s13
    have GY := hid (gr_trans GX.out g)
    clear s0 s1 s2 s3 s4 s5 s6 s7 s8 s9 s10 s11 s12 s13 g X0 X1 X2 X3 X4 JN GX
    generalize u 0 = x0 at *
    generalize u 1 = x1 at *
    generalize u 2 = x2 at *
    generalize u 3 = x3 at *
    generalize u 4 = x4 at *
    generalize u 5 = x5 at *
    generalize u 6 = x6 at *
    generalize u 7 = x7 at *
    generalize u 8 = x8 at *
    generalize u 9 = x9 at *
    generalize u 10 = x10 at *
    generalize u 11 = x11 at *
    generalize u 12 = x12 at *
    generalize u 13 = x13 at *
    go_wp2_with fail
    go_ret
    obtain rfl := H13.out
    exact ⟨by rw [HR.out]; rfl, GY.out⟩
end Go.Proofs.YtfceodbpkghkaaaGreatDoor
/- hearthref22.SID. -/
namespace Go.Proofs.YtfceodbpkghkaaaGreatDoor
open Go.RowKit
set_option linter.unusedVariables false
set_option linter.unusedSimpArgs false

def nibN (a b i : Nat) : Nat := (if i < 16 then a else b) / 2 ^ (60 - 4 * (i % 16)) % 16
def dpF (f : Nat → UInt8) : Nat → Gs
  | 0 => []
  | i + 1 => dpF f i ++ ((if i = 8 ∨ i = 12 ∨ i = 16 ∨ i = 20 then [45] else []) ++ [f i])
set_option maxRecDepth 20000 in
set_option maxHeartbeats 1000000 in
theorem dash_dp (H : Gs) (h : H.length = 32) : dashL H = dpF (fun i => H.getD i 0) 32 := by
  have e : H = (List.range 32).map (fun i => H.getD i 0) := by
    apply List.ext_getElem?
    intro j
    by_cases hj : j < 32
    · rw [List.getElem?_map, List.getElem?_range hj, Option.map_some, List.getD_eq_getElem?_getD, List.getElem?_eq_getElem (by omega)]; rfl
    · rw [List.getElem?_eq_none (by omega), List.getElem?_eq_none (by simp; omega)]
  generalize (fun i => H.getD i 0) = f at e ⊢
  rw [e]
  simp [dashL, dpF, List.range, List.range.loop]
theorem hexL_app : ∀ (x y : Gs), hexL (x ++ y) = hexL x ++ hexL y
  | [], y => rfl
  | b :: x, y => by simp only [List.cons_append, hexL, hexL_app x y]
theorem hex_be (a : Nat) : ∀ i : Fin 16, (hexL (beL 8 a)).getD i.val 0 = hexD (a / 2 ^ (60 - 4 * i.val) % 16) := by
  intro i
  have hb : beL 8 a = [UInt8.ofNat (a / 256 ^ 7 % 256), UInt8.ofNat (a / 256 ^ 6 % 256), UInt8.ofNat (a / 256 ^ 5 % 256), UInt8.ofNat (a / 256 ^ 4 % 256), UInt8.ofNat (a / 256 ^ 3 % 256), UInt8.ofNat (a / 256 ^ 2 % 256), UInt8.ofNat (a / 256 ^ 1 % 256), UInt8.ofNat (a / 256 ^ 0 % 256)] := by
    simp [beL_cons, beL, Nat.div_div_eq_div_mul]
  rw [hb]
  match i with
  | ⟨0, _⟩ => show hexD _ = hexD _; congr 1; first | (simp; done) | (simp; omega)
  | ⟨1, _⟩ => show hexD _ = hexD _; congr 1; first | (simp; done) | (simp; omega)
  | ⟨2, _⟩ => show hexD _ = hexD _; congr 1; first | (simp; done) | (simp; omega)
  | ⟨3, _⟩ => show hexD _ = hexD _; congr 1; first | (simp; done) | (simp; omega)
  | ⟨4, _⟩ => show hexD _ = hexD _; congr 1; first | (simp; done) | (simp; omega)
  | ⟨5, _⟩ => show hexD _ = hexD _; congr 1; first | (simp; done) | (simp; omega)
  | ⟨6, _⟩ => show hexD _ = hexD _; congr 1; first | (simp; done) | (simp; omega)
  | ⟨7, _⟩ => show hexD _ = hexD _; congr 1; first | (simp; done) | (simp; omega)
  | ⟨8, _⟩ => show hexD _ = hexD _; congr 1; first | (simp; done) | (simp; omega)
  | ⟨9, _⟩ => show hexD _ = hexD _; congr 1; first | (simp; done) | (simp; omega)
  | ⟨10, _⟩ => show hexD _ = hexD _; congr 1; first | (simp; done) | (simp; omega)
  | ⟨11, _⟩ => show hexD _ = hexD _; congr 1; first | (simp; done) | (simp; omega)
  | ⟨12, _⟩ => show hexD _ = hexD _; congr 1; first | (simp; done) | (simp; omega)
  | ⟨13, _⟩ => show hexD _ = hexD _; congr 1; first | (simp; done) | (simp; omega)
  | ⟨14, _⟩ => show hexD _ = hexD _; congr 1; first | (simp; done) | (simp; omega)
  | ⟨15, _⟩ => show hexD _ = hexD _; congr 1; first | (simp; done) | (simp; omega)
  | ⟨n + 16, h⟩ => exact absurd h (by omega)
theorem six_at (a b i : Nat) (hi : i < 32) : (sixL a b).getD i 0 = hexD (nibN a b i) := by
  unfold sixL nibN
  rw [hexL_app, List.getD_eq_getElem?_getD, List.getElem?_append, hexL_len, beL_len]
  by_cases h : i < 16
  · rw [if_pos (by omega), if_pos h, ← List.getD_eq_getElem?_getD, show i % 16 = i by omega]
    exact hex_be a ⟨i, h⟩
  · rw [if_neg (by omega), if_neg h, ← List.getD_eq_getElem?_getD, show i % 16 = i - 2 * 8 by omega]
    exact hex_be b ⟨i - 2 * 8, by omega⟩
theorem u64_and15 (x : Nat) (h : x < 18446744073709551616) : bits .and .u64 (x : Int) 15 = ((x % 16 : Nat) : Int) := by
  have := bits_mask .u64 64 (by decide) wraps_u64 4 (by decide) (x : Int) (by omega) (by omega)
  simpa using this
theorem nib_and (x k : Nat) (h : x < 18446744073709551616) : bits .and .u64 ((x : Int) / (k : Int)) 15 = ((x / k % 16 : Nat) : Int) := by
  have := u64_and15 (x / k) (Nat.lt_of_le_of_lt (Nat.div_le_self _ _) h)
  rw [Int.natCast_ediv] at this
  exact this
theorem dpF_len (f : Nat → UInt8) : ∀ i, (dpF f i).length ≤ 2 * i
  | 0 => by simp [dpF]
  | i + 1 => by
    have := dpF_len f i
    unfold dpF
    simp only [List.length_append]
    split <;> simp <;> omega
theorem hex_ext : ∀ d : Fin 16, hexLit.extract d.val (d.val + 1) = ⟨#[hexD d.val]⟩ := by decide
set_option maxRecDepth 20000 in
set_option maxHeartbeats 4000000 in
theorem rsid_x (a b : Nat) (ha : a < 18446744073709551616) (hb : b < 18446744073709551616) (w : World) :
    Calls Tryz.prog 16 #[.agg #[.int .u64 (a : Int), .int .u64 (b : Int)]] w fun e w' => e = .returned (.string ⟨(sidL a b).toArray⟩) ∧ w.grownBy w' none := by
  have NB := heap_alloc_new w (.cells #[.int .u64 (a : Int), .int .u64 (b : Int)] 43)
  have p0 := (cell_of_block NB 0).trans (show _ = some (Value.int .u64 (a : Int)) from rfl)
  have p1 := (cell_of_block NB 1).trans (show _ = some (Value.int .u64 (b : Int)) from rfl)
  have GW := hid (gr_alloc (gr_refl w none) (.cells #[.int .u64 (a : Int), .int .u64 (b : Int)] 43))
  have HD := hid (sidL_dash a b)
  have HD2 := hid (dash_dp (sixL a b) (sixL_len a b))
  obtain ⟨f, hf⟩ : ∃ f, f = fun i => (sixL a b).getD i 0 := ⟨_, rfl⟩
  have HF := hid (show ∀ i, i < 32 → f i = hexD (nibN a b i) from fun i hi => by rw [hf]; exact six_at a b i hi)
  rw [← hf] at HD2
  clear NB hf
  go_enter Tryz.func16, Tryz.ntmps16
  go_wp2_with fail
  obtain ⟨w0, hw0⟩ : ∃ w0, w0 = w.alloc (.cells #[.int .u64 (a : Int), .int .u64 (b : Int)] 43) := ⟨_, rfl⟩
  obtain ⟨A, hA⟩ : ∃ A, A = w.heap.size := ⟨_, rfl⟩
  rw [← hw0, ← hA] at p0 p1
  rw [← hw0] at GW ⊢
  rw [← hA]
  clear hw0 hA
  go_loop [4, 5] (fun v4 v5 => ∃ i : Nat, v5 = .int .i64 (i : Int) ∧ i ≤ 32 ∧ v4 = .string ⟨(uuP ++ dpF f i).toArray⟩) (fun _ v5 => 32 - (intOf v5).toNat)
  case atStart => exact ⟨0, rfl, by omega, rfl⟩
  case round =>
    obtain ⟨i, rfl, hi, rfl⟩ := hrel
    by_cases h32 : i < 32
    rotate_left
    · obtain rfl : i = 32 := by omega
      go_wp2
      go_ret
      exact ⟨by rw [HD.out, HD2.out]; rfl, GW.out⟩
    · have hdl := dpF_len f i
      obtain ⟨O, hO⟩ : ∃ O : ByteArray, O = ⟨(uuP ++ dpF f i).toArray⟩ := ⟨_, rfl⟩
      have hOs : O.size ≤ 80 := by rw [hO, Lib.size_eq]; simp only [List.length_append]; have : uuP.length = 5 := rfl; omega
      rw [← hO]
      have HO := hid hO
      clear hO hdl hi
      have hOsi : (O.size : Int) ≤ 80 := by omega
      have hi : i = 0 ∨ i = 1 ∨ i = 2 ∨ i = 3 ∨ i = 4 ∨ i = 5 ∨ i = 6 ∨ i = 7 ∨ i = 8 ∨ i = 9 ∨ i = 10 ∨ i = 11 ∨ i = 12 ∨ i = 13 ∨ i = 14 ∨ i = 15 ∨ i = 16 ∨ i = 17 ∨ i = 18 ∨ i = 19 ∨ i = 20 ∨ i = 21 ∨ i = 22 ∨ i = 23 ∨ i = 24 ∨ i = 25 ∨ i = 26 ∨ i = 27 ∨ i = 28 ∨ i = 29 ∨ i = 30 ∨ i = 31 := by omega
      clear h32
      rcases hi with rfl | rfl | rfl | rfl | rfl | rfl | rfl | rfl | rfl | rfl | rfl | rfl | rfl | rfl | rfl | rfl | rfl | rfl | rfl | rfl | rfl | rfl | rfl | rfl | rfl | rfl | rfl | rfl | rfl | rfl | rfl | rfl
      · obtain ⟨dd, hdd⟩ : ∃ dd, dd = a / 1152921504606846976 % 16 := ⟨_, rfl⟩
        have E1 := hid (show bits .and .u64 ((a : Int) / 1152921504606846976) 15 = (dd : Int) by rw [hdd]; exact nib_and a 1152921504606846976 (by omega))
        have E2 : f 0 = hexD dd := by rw [HF.out 0 (by omega), hdd]; unfold nibN; first | rfl | (simp; done) | (congr 1; simp)
        have hd16 : dd < 16 := by omega
        have HX := hid (hex_ext ⟨dd, hd16⟩)
        have HN := hid (show (O ++ (⟨#[hexD dd]⟩ : ByteArray)) = ⟨(uuP ++ dpF f (0 + 1)).toArray⟩ from by
          rw [HO.out]
          apply ByteArray.ext
          simp [dpF, E2])
        have hdi : (dd : Int) + 1 ≤ 16 := by omega
        clear E2 hdd HF HO
        go_upto_region 8 with fail
        rw [E1.out]
        clear E1
        go_wp2_with fail
        try rw [if_neg (by omega)]
        go_round
        case rel => exact ⟨1, by first | rfl | go_num, by omega, by rw [← HN.out, ← HX.out]; rfl⟩
        case measure => simp [intOf]
      · obtain ⟨dd, hdd⟩ : ∃ dd, dd = a / 72057594037927936 % 16 := ⟨_, rfl⟩
        have E1 := hid (show bits .and .u64 ((a : Int) / 72057594037927936) 15 = (dd : Int) by rw [hdd]; exact nib_and a 72057594037927936 (by omega))
        have E2 : f 1 = hexD dd := by rw [HF.out 1 (by omega), hdd]; unfold nibN; first | rfl | (simp; done) | (congr 1; simp)
        have hd16 : dd < 16 := by omega
        have HX := hid (hex_ext ⟨dd, hd16⟩)
        have HN := hid (show (O ++ (⟨#[hexD dd]⟩ : ByteArray)) = ⟨(uuP ++ dpF f (1 + 1)).toArray⟩ from by
          rw [HO.out]
          apply ByteArray.ext
          simp [dpF, E2])
        have hdi : (dd : Int) + 1 ≤ 16 := by omega
        clear E2 hdd HF HO
        go_upto_region 8 with fail
        rw [E1.out]
        clear E1
        go_wp2_with fail
        try rw [if_neg (by omega)]
        go_round
        case rel => exact ⟨2, by first | rfl | go_num, by omega, by rw [← HN.out, ← HX.out]; rfl⟩
        case measure => simp [intOf]
      · obtain ⟨dd, hdd⟩ : ∃ dd, dd = a / 4503599627370496 % 16 := ⟨_, rfl⟩
        have E1 := hid (show bits .and .u64 ((a : Int) / 4503599627370496) 15 = (dd : Int) by rw [hdd]; exact nib_and a 4503599627370496 (by omega))
        have E2 : f 2 = hexD dd := by rw [HF.out 2 (by omega), hdd]; unfold nibN; first | rfl | (simp; done) | (congr 1; simp)
        have hd16 : dd < 16 := by omega
        have HX := hid (hex_ext ⟨dd, hd16⟩)
        have HN := hid (show (O ++ (⟨#[hexD dd]⟩ : ByteArray)) = ⟨(uuP ++ dpF f (2 + 1)).toArray⟩ from by
          rw [HO.out]
          apply ByteArray.ext
          simp [dpF, E2])
        have hdi : (dd : Int) + 1 ≤ 16 := by omega
        clear E2 hdd HF HO
        go_upto_region 8 with fail
        rw [E1.out]
        clear E1
        go_wp2_with fail
        try rw [if_neg (by omega)]
        go_round
        case rel => exact ⟨3, by first | rfl | go_num, by omega, by rw [← HN.out, ← HX.out]; rfl⟩
        case measure => simp [intOf]
      · obtain ⟨dd, hdd⟩ : ∃ dd, dd = a / 281474976710656 % 16 := ⟨_, rfl⟩
        have E1 := hid (show bits .and .u64 ((a : Int) / 281474976710656) 15 = (dd : Int) by rw [hdd]; exact nib_and a 281474976710656 (by omega))
        have E2 : f 3 = hexD dd := by rw [HF.out 3 (by omega), hdd]; unfold nibN; first | rfl | (simp; done) | (congr 1; simp)
        have hd16 : dd < 16 := by omega
        have HX := hid (hex_ext ⟨dd, hd16⟩)
        have HN := hid (show (O ++ (⟨#[hexD dd]⟩ : ByteArray)) = ⟨(uuP ++ dpF f (3 + 1)).toArray⟩ from by
          rw [HO.out]
          apply ByteArray.ext
          simp [dpF, E2])
        have hdi : (dd : Int) + 1 ≤ 16 := by omega
        clear E2 hdd HF HO
        go_upto_region 8 with fail
        rw [E1.out]
        clear E1
        go_wp2_with fail
        try rw [if_neg (by omega)]
        go_round
        case rel => exact ⟨4, by first | rfl | go_num, by omega, by rw [← HN.out, ← HX.out]; rfl⟩
        case measure => simp [intOf]
      · obtain ⟨dd, hdd⟩ : ∃ dd, dd = a / 17592186044416 % 16 := ⟨_, rfl⟩
        have E1 := hid (show bits .and .u64 ((a : Int) / 17592186044416) 15 = (dd : Int) by rw [hdd]; exact nib_and a 17592186044416 (by omega))
        have E2 : f 4 = hexD dd := by rw [HF.out 4 (by omega), hdd]; unfold nibN; first | rfl | (simp; done) | (congr 1; simp)
        have hd16 : dd < 16 := by omega
        have HX := hid (hex_ext ⟨dd, hd16⟩)
        have HN := hid (show (O ++ (⟨#[hexD dd]⟩ : ByteArray)) = ⟨(uuP ++ dpF f (4 + 1)).toArray⟩ from by
          rw [HO.out]
          apply ByteArray.ext
          simp [dpF, E2])
        have hdi : (dd : Int) + 1 ≤ 16 := by omega
        clear E2 hdd HF HO
        go_upto_region 8 with fail
        rw [E1.out]
        clear E1
        go_wp2_with fail
        try rw [if_neg (by omega)]
        go_round
        case rel => exact ⟨5, by first | rfl | go_num, by omega, by rw [← HN.out, ← HX.out]; rfl⟩
        case measure => simp [intOf]
      · obtain ⟨dd, hdd⟩ : ∃ dd, dd = a / 1099511627776 % 16 := ⟨_, rfl⟩
        have E1 := hid (show bits .and .u64 ((a : Int) / 1099511627776) 15 = (dd : Int) by rw [hdd]; exact nib_and a 1099511627776 (by omega))
        have E2 : f 5 = hexD dd := by rw [HF.out 5 (by omega), hdd]; unfold nibN; first | rfl | (simp; done) | (congr 1; simp)
        have hd16 : dd < 16 := by omega
        have HX := hid (hex_ext ⟨dd, hd16⟩)
        have HN := hid (show (O ++ (⟨#[hexD dd]⟩ : ByteArray)) = ⟨(uuP ++ dpF f (5 + 1)).toArray⟩ from by
          rw [HO.out]
          apply ByteArray.ext
          simp [dpF, E2])
        have hdi : (dd : Int) + 1 ≤ 16 := by omega
        clear E2 hdd HF HO
        go_upto_region 8 with fail
        rw [E1.out]
        clear E1
        go_wp2_with fail
        try rw [if_neg (by omega)]
        go_round
        case rel => exact ⟨6, by first | rfl | go_num, by omega, by rw [← HN.out, ← HX.out]; rfl⟩
        case measure => simp [intOf]
      · obtain ⟨dd, hdd⟩ : ∃ dd, dd = a / 68719476736 % 16 := ⟨_, rfl⟩
        have E1 := hid (show bits .and .u64 ((a : Int) / 68719476736) 15 = (dd : Int) by rw [hdd]; exact nib_and a 68719476736 (by omega))
        have E2 : f 6 = hexD dd := by rw [HF.out 6 (by omega), hdd]; unfold nibN; first | rfl | (simp; done) | (congr 1; simp)
        have hd16 : dd < 16 := by omega
        have HX := hid (hex_ext ⟨dd, hd16⟩)
        have HN := hid (show (O ++ (⟨#[hexD dd]⟩ : ByteArray)) = ⟨(uuP ++ dpF f (6 + 1)).toArray⟩ from by
          rw [HO.out]
          apply ByteArray.ext
          simp [dpF, E2])
        have hdi : (dd : Int) + 1 ≤ 16 := by omega
        clear E2 hdd HF HO
        go_upto_region 8 with fail
        rw [E1.out]
        clear E1
        go_wp2_with fail
        try rw [if_neg (by omega)]
        go_round
        case rel => exact ⟨7, by first | rfl | go_num, by omega, by rw [← HN.out, ← HX.out]; rfl⟩
        case measure => simp [intOf]
      · obtain ⟨dd, hdd⟩ : ∃ dd, dd = a / 4294967296 % 16 := ⟨_, rfl⟩
        have E1 := hid (show bits .and .u64 ((a : Int) / 4294967296) 15 = (dd : Int) by rw [hdd]; exact nib_and a 4294967296 (by omega))
        have E2 : f 7 = hexD dd := by rw [HF.out 7 (by omega), hdd]; unfold nibN; first | rfl | (simp; done) | (congr 1; simp)
        have hd16 : dd < 16 := by omega
        have HX := hid (hex_ext ⟨dd, hd16⟩)
        have HN := hid (show (O ++ (⟨#[hexD dd]⟩ : ByteArray)) = ⟨(uuP ++ dpF f (7 + 1)).toArray⟩ from by
          rw [HO.out]
          apply ByteArray.ext
          simp [dpF, E2])
        have hdi : (dd : Int) + 1 ≤ 16 := by omega
        clear E2 hdd HF HO
        go_upto_region 8 with fail
        rw [E1.out]
        clear E1
        go_wp2_with fail
        try rw [if_neg (by omega)]
        go_round
        case rel => exact ⟨8, by first | rfl | go_num, by omega, by rw [← HN.out, ← HX.out]; rfl⟩
        case measure => simp [intOf]
      · obtain ⟨dd, hdd⟩ : ∃ dd, dd = a / 268435456 % 16 := ⟨_, rfl⟩
        have E1 := hid (show bits .and .u64 ((a : Int) / 268435456) 15 = (dd : Int) by rw [hdd]; exact nib_and a 268435456 (by omega))
        have E2 : f 8 = hexD dd := by rw [HF.out 8 (by omega), hdd]; unfold nibN; first | rfl | (simp; done) | (congr 1; simp)
        have hd16 : dd < 16 := by omega
        have HX := hid (hex_ext ⟨dd, hd16⟩)
        have HN := hid (show ((O ++ (⟨#[45]⟩ : ByteArray)) ++ (⟨#[hexD dd]⟩ : ByteArray)) = ⟨(uuP ++ dpF f (8 + 1)).toArray⟩ from by
          rw [HO.out]
          apply ByteArray.ext
          simp [dpF, E2])
        have hdi : (dd : Int) + 1 ≤ 16 := by omega
        clear E2 hdd HF HO
        go_upto_region 8 with fail
        rw [E1.out]
        clear E1
        go_wp2_with fail
        try rw [if_neg (by omega)]
        go_round
        case rel => exact ⟨9, by first | rfl | go_num, by omega, by rw [← HN.out, ← HX.out]; rfl⟩
        case measure => simp [intOf]
      · obtain ⟨dd, hdd⟩ : ∃ dd, dd = a / 16777216 % 16 := ⟨_, rfl⟩
        have E1 := hid (show bits .and .u64 ((a : Int) / 16777216) 15 = (dd : Int) by rw [hdd]; exact nib_and a 16777216 (by omega))
        have E2 : f 9 = hexD dd := by rw [HF.out 9 (by omega), hdd]; unfold nibN; first | rfl | (simp; done) | (congr 1; simp)
        have hd16 : dd < 16 := by omega
        have HX := hid (hex_ext ⟨dd, hd16⟩)
        have HN := hid (show (O ++ (⟨#[hexD dd]⟩ : ByteArray)) = ⟨(uuP ++ dpF f (9 + 1)).toArray⟩ from by
          rw [HO.out]
          apply ByteArray.ext
          simp [dpF, E2])
        have hdi : (dd : Int) + 1 ≤ 16 := by omega
        clear E2 hdd HF HO
        go_upto_region 8 with fail
        rw [E1.out]
        clear E1
        go_wp2_with fail
        try rw [if_neg (by omega)]
        go_round
        case rel => exact ⟨10, by first | rfl | go_num, by omega, by rw [← HN.out, ← HX.out]; rfl⟩
        case measure => simp [intOf]
      · obtain ⟨dd, hdd⟩ : ∃ dd, dd = a / 1048576 % 16 := ⟨_, rfl⟩
        have E1 := hid (show bits .and .u64 ((a : Int) / 1048576) 15 = (dd : Int) by rw [hdd]; exact nib_and a 1048576 (by omega))
        have E2 : f 10 = hexD dd := by rw [HF.out 10 (by omega), hdd]; unfold nibN; first | rfl | (simp; done) | (congr 1; simp)
        have hd16 : dd < 16 := by omega
        have HX := hid (hex_ext ⟨dd, hd16⟩)
        have HN := hid (show (O ++ (⟨#[hexD dd]⟩ : ByteArray)) = ⟨(uuP ++ dpF f (10 + 1)).toArray⟩ from by
          rw [HO.out]
          apply ByteArray.ext
          simp [dpF, E2])
        have hdi : (dd : Int) + 1 ≤ 16 := by omega
        clear E2 hdd HF HO
        go_upto_region 8 with fail
        rw [E1.out]
        clear E1
        go_wp2_with fail
        try rw [if_neg (by omega)]
        go_round
        case rel => exact ⟨11, by first | rfl | go_num, by omega, by rw [← HN.out, ← HX.out]; rfl⟩
        case measure => simp [intOf]
      · obtain ⟨dd, hdd⟩ : ∃ dd, dd = a / 65536 % 16 := ⟨_, rfl⟩
        have E1 := hid (show bits .and .u64 ((a : Int) / 65536) 15 = (dd : Int) by rw [hdd]; exact nib_and a 65536 (by omega))
        have E2 : f 11 = hexD dd := by rw [HF.out 11 (by omega), hdd]; unfold nibN; first | rfl | (simp; done) | (congr 1; simp)
        have hd16 : dd < 16 := by omega
        have HX := hid (hex_ext ⟨dd, hd16⟩)
        have HN := hid (show (O ++ (⟨#[hexD dd]⟩ : ByteArray)) = ⟨(uuP ++ dpF f (11 + 1)).toArray⟩ from by
          rw [HO.out]
          apply ByteArray.ext
          simp [dpF, E2])
        have hdi : (dd : Int) + 1 ≤ 16 := by omega
        clear E2 hdd HF HO
        go_upto_region 8 with fail
        rw [E1.out]
        clear E1
        go_wp2_with fail
        try rw [if_neg (by omega)]
        go_round
        case rel => exact ⟨12, by first | rfl | go_num, by omega, by rw [← HN.out, ← HX.out]; rfl⟩
        case measure => simp [intOf]
      · obtain ⟨dd, hdd⟩ : ∃ dd, dd = a / 4096 % 16 := ⟨_, rfl⟩
        have E1 := hid (show bits .and .u64 ((a : Int) / 4096) 15 = (dd : Int) by rw [hdd]; exact nib_and a 4096 (by omega))
        have E2 : f 12 = hexD dd := by rw [HF.out 12 (by omega), hdd]; unfold nibN; first | rfl | (simp; done) | (congr 1; simp)
        have hd16 : dd < 16 := by omega
        have HX := hid (hex_ext ⟨dd, hd16⟩)
        have HN := hid (show ((O ++ (⟨#[45]⟩ : ByteArray)) ++ (⟨#[hexD dd]⟩ : ByteArray)) = ⟨(uuP ++ dpF f (12 + 1)).toArray⟩ from by
          rw [HO.out]
          apply ByteArray.ext
          simp [dpF, E2])
        have hdi : (dd : Int) + 1 ≤ 16 := by omega
        clear E2 hdd HF HO
        go_upto_region 8 with fail
        rw [E1.out]
        clear E1
        go_wp2_with fail
        try rw [if_neg (by omega)]
        go_round
        case rel => exact ⟨13, by first | rfl | go_num, by omega, by rw [← HN.out, ← HX.out]; rfl⟩
        case measure => simp [intOf]
      · obtain ⟨dd, hdd⟩ : ∃ dd, dd = a / 256 % 16 := ⟨_, rfl⟩
        have E1 := hid (show bits .and .u64 ((a : Int) / 256) 15 = (dd : Int) by rw [hdd]; exact nib_and a 256 (by omega))
        have E2 : f 13 = hexD dd := by rw [HF.out 13 (by omega), hdd]; unfold nibN; first | rfl | (simp; done) | (congr 1; simp)
        have hd16 : dd < 16 := by omega
        have HX := hid (hex_ext ⟨dd, hd16⟩)
        have HN := hid (show (O ++ (⟨#[hexD dd]⟩ : ByteArray)) = ⟨(uuP ++ dpF f (13 + 1)).toArray⟩ from by
          rw [HO.out]
          apply ByteArray.ext
          simp [dpF, E2])
        have hdi : (dd : Int) + 1 ≤ 16 := by omega
        clear E2 hdd HF HO
        go_upto_region 8 with fail
        rw [E1.out]
        clear E1
        go_wp2_with fail
        try rw [if_neg (by omega)]
        go_round
        case rel => exact ⟨14, by first | rfl | go_num, by omega, by rw [← HN.out, ← HX.out]; rfl⟩
        case measure => simp [intOf]
      · obtain ⟨dd, hdd⟩ : ∃ dd, dd = a / 16 % 16 := ⟨_, rfl⟩
        have E1 := hid (show bits .and .u64 ((a : Int) / 16) 15 = (dd : Int) by rw [hdd]; exact nib_and a 16 (by omega))
        have E2 : f 14 = hexD dd := by rw [HF.out 14 (by omega), hdd]; unfold nibN; first | rfl | (simp; done) | (congr 1; simp)
        have hd16 : dd < 16 := by omega
        have HX := hid (hex_ext ⟨dd, hd16⟩)
        have HN := hid (show (O ++ (⟨#[hexD dd]⟩ : ByteArray)) = ⟨(uuP ++ dpF f (14 + 1)).toArray⟩ from by
          rw [HO.out]
          apply ByteArray.ext
          simp [dpF, E2])
        have hdi : (dd : Int) + 1 ≤ 16 := by omega
        clear E2 hdd HF HO
        go_upto_region 8 with fail
        rw [E1.out]
        clear E1
        go_wp2_with fail
        try rw [if_neg (by omega)]
        go_round
        case rel => exact ⟨15, by first | rfl | go_num, by omega, by rw [← HN.out, ← HX.out]; rfl⟩
        case measure => simp [intOf]
      · obtain ⟨dd, hdd⟩ : ∃ dd, dd = a % 16 := ⟨_, rfl⟩
        have E1 := hid (show bits .and .u64 (a : Int) 15 = (dd : Int) by rw [hdd]; exact u64_and15 a (by omega))
        have E2 : f 15 = hexD dd := by rw [HF.out 15 (by omega), hdd]; unfold nibN; first | rfl | (simp; done) | (congr 1; simp)
        have hd16 : dd < 16 := by omega
        have HX := hid (hex_ext ⟨dd, hd16⟩)
        have HN := hid (show (O ++ (⟨#[hexD dd]⟩ : ByteArray)) = ⟨(uuP ++ dpF f (15 + 1)).toArray⟩ from by
          rw [HO.out]
          apply ByteArray.ext
          simp [dpF, E2])
        have hdi : (dd : Int) + 1 ≤ 16 := by omega
        clear E2 hdd HF HO
        go_upto_region 8 with fail
        rw [E1.out]
        clear E1
        go_wp2_with fail
        try rw [if_neg (by omega)]
        go_round
        case rel => exact ⟨16, by first | rfl | go_num, by omega, by rw [← HN.out, ← HX.out]; rfl⟩
        case measure => simp [intOf]
      · obtain ⟨dd, hdd⟩ : ∃ dd, dd = b / 1152921504606846976 % 16 := ⟨_, rfl⟩
        have E1 := hid (show bits .and .u64 ((b : Int) / 1152921504606846976) 15 = (dd : Int) by rw [hdd]; exact nib_and b 1152921504606846976 (by omega))
        have E2 : f 16 = hexD dd := by rw [HF.out 16 (by omega), hdd]; unfold nibN; first | rfl | (simp; done) | (congr 1; simp)
        have hd16 : dd < 16 := by omega
        have HX := hid (hex_ext ⟨dd, hd16⟩)
        have HN := hid (show ((O ++ (⟨#[45]⟩ : ByteArray)) ++ (⟨#[hexD dd]⟩ : ByteArray)) = ⟨(uuP ++ dpF f (16 + 1)).toArray⟩ from by
          rw [HO.out]
          apply ByteArray.ext
          simp [dpF, E2])
        have hdi : (dd : Int) + 1 ≤ 16 := by omega
        clear E2 hdd HF HO
        go_upto_region 8 with fail
        rw [E1.out]
        clear E1
        go_wp2_with fail
        try rw [if_neg (by omega)]
        go_round
        case rel => exact ⟨17, by first | rfl | go_num, by omega, by rw [← HN.out, ← HX.out]; rfl⟩
        case measure => simp [intOf]
      · obtain ⟨dd, hdd⟩ : ∃ dd, dd = b / 72057594037927936 % 16 := ⟨_, rfl⟩
        have E1 := hid (show bits .and .u64 ((b : Int) / 72057594037927936) 15 = (dd : Int) by rw [hdd]; exact nib_and b 72057594037927936 (by omega))
        have E2 : f 17 = hexD dd := by rw [HF.out 17 (by omega), hdd]; unfold nibN; first | rfl | (simp; done) | (congr 1; simp)
        have hd16 : dd < 16 := by omega
        have HX := hid (hex_ext ⟨dd, hd16⟩)
        have HN := hid (show (O ++ (⟨#[hexD dd]⟩ : ByteArray)) = ⟨(uuP ++ dpF f (17 + 1)).toArray⟩ from by
          rw [HO.out]
          apply ByteArray.ext
          simp [dpF, E2])
        have hdi : (dd : Int) + 1 ≤ 16 := by omega
        clear E2 hdd HF HO
        go_upto_region 8 with fail
        rw [E1.out]
        clear E1
        go_wp2_with fail
        try rw [if_neg (by omega)]
        go_round
        case rel => exact ⟨18, by first | rfl | go_num, by omega, by rw [← HN.out, ← HX.out]; rfl⟩
        case measure => simp [intOf]
      · obtain ⟨dd, hdd⟩ : ∃ dd, dd = b / 4503599627370496 % 16 := ⟨_, rfl⟩
        have E1 := hid (show bits .and .u64 ((b : Int) / 4503599627370496) 15 = (dd : Int) by rw [hdd]; exact nib_and b 4503599627370496 (by omega))
        have E2 : f 18 = hexD dd := by rw [HF.out 18 (by omega), hdd]; unfold nibN; first | rfl | (simp; done) | (congr 1; simp)
        have hd16 : dd < 16 := by omega
        have HX := hid (hex_ext ⟨dd, hd16⟩)
        have HN := hid (show (O ++ (⟨#[hexD dd]⟩ : ByteArray)) = ⟨(uuP ++ dpF f (18 + 1)).toArray⟩ from by
          rw [HO.out]
          apply ByteArray.ext
          simp [dpF, E2])
        have hdi : (dd : Int) + 1 ≤ 16 := by omega
        clear E2 hdd HF HO
        go_upto_region 8 with fail
        rw [E1.out]
        clear E1
        go_wp2_with fail
        try rw [if_neg (by omega)]
        go_round
        case rel => exact ⟨19, by first | rfl | go_num, by omega, by rw [← HN.out, ← HX.out]; rfl⟩
        case measure => simp [intOf]
      · obtain ⟨dd, hdd⟩ : ∃ dd, dd = b / 281474976710656 % 16 := ⟨_, rfl⟩
        have E1 := hid (show bits .and .u64 ((b : Int) / 281474976710656) 15 = (dd : Int) by rw [hdd]; exact nib_and b 281474976710656 (by omega))
        have E2 : f 19 = hexD dd := by rw [HF.out 19 (by omega), hdd]; unfold nibN; first | rfl | (simp; done) | (congr 1; simp)
        have hd16 : dd < 16 := by omega
        have HX := hid (hex_ext ⟨dd, hd16⟩)
        have HN := hid (show (O ++ (⟨#[hexD dd]⟩ : ByteArray)) = ⟨(uuP ++ dpF f (19 + 1)).toArray⟩ from by
          rw [HO.out]
          apply ByteArray.ext
          simp [dpF, E2])
        have hdi : (dd : Int) + 1 ≤ 16 := by omega
        clear E2 hdd HF HO
        go_upto_region 8 with fail
        rw [E1.out]
        clear E1
        go_wp2_with fail
        try rw [if_neg (by omega)]
        go_round
        case rel => exact ⟨20, by first | rfl | go_num, by omega, by rw [← HN.out, ← HX.out]; rfl⟩
        case measure => simp [intOf]
      · obtain ⟨dd, hdd⟩ : ∃ dd, dd = b / 17592186044416 % 16 := ⟨_, rfl⟩
        have E1 := hid (show bits .and .u64 ((b : Int) / 17592186044416) 15 = (dd : Int) by rw [hdd]; exact nib_and b 17592186044416 (by omega))
        have E2 : f 20 = hexD dd := by rw [HF.out 20 (by omega), hdd]; unfold nibN; first | rfl | (simp; done) | (congr 1; simp)
        have hd16 : dd < 16 := by omega
        have HX := hid (hex_ext ⟨dd, hd16⟩)
        have HN := hid (show ((O ++ (⟨#[45]⟩ : ByteArray)) ++ (⟨#[hexD dd]⟩ : ByteArray)) = ⟨(uuP ++ dpF f (20 + 1)).toArray⟩ from by
          rw [HO.out]
          apply ByteArray.ext
          simp [dpF, E2])
        have hdi : (dd : Int) + 1 ≤ 16 := by omega
        clear E2 hdd HF HO
        go_upto_region 8 with fail
        rw [E1.out]
        clear E1
        go_wp2_with fail
        try rw [if_neg (by omega)]
        go_round
        case rel => exact ⟨21, by first | rfl | go_num, by omega, by rw [← HN.out, ← HX.out]; rfl⟩
        case measure => simp [intOf]
      · obtain ⟨dd, hdd⟩ : ∃ dd, dd = b / 1099511627776 % 16 := ⟨_, rfl⟩
        have E1 := hid (show bits .and .u64 ((b : Int) / 1099511627776) 15 = (dd : Int) by rw [hdd]; exact nib_and b 1099511627776 (by omega))
        have E2 : f 21 = hexD dd := by rw [HF.out 21 (by omega), hdd]; unfold nibN; first | rfl | (simp; done) | (congr 1; simp)
        have hd16 : dd < 16 := by omega
        have HX := hid (hex_ext ⟨dd, hd16⟩)
        have HN := hid (show (O ++ (⟨#[hexD dd]⟩ : ByteArray)) = ⟨(uuP ++ dpF f (21 + 1)).toArray⟩ from by
          rw [HO.out]
          apply ByteArray.ext
          simp [dpF, E2])
        have hdi : (dd : Int) + 1 ≤ 16 := by omega
        clear E2 hdd HF HO
        go_upto_region 8 with fail
        rw [E1.out]
        clear E1
        go_wp2_with fail
        try rw [if_neg (by omega)]
        go_round
        case rel => exact ⟨22, by first | rfl | go_num, by omega, by rw [← HN.out, ← HX.out]; rfl⟩
        case measure => simp [intOf]
      · obtain ⟨dd, hdd⟩ : ∃ dd, dd = b / 68719476736 % 16 := ⟨_, rfl⟩
        have E1 := hid (show bits .and .u64 ((b : Int) / 68719476736) 15 = (dd : Int) by rw [hdd]; exact nib_and b 68719476736 (by omega))
        have E2 : f 22 = hexD dd := by rw [HF.out 22 (by omega), hdd]; unfold nibN; first | rfl | (simp; done) | (congr 1; simp)
        have hd16 : dd < 16 := by omega
        have HX := hid (hex_ext ⟨dd, hd16⟩)
        have HN := hid (show (O ++ (⟨#[hexD dd]⟩ : ByteArray)) = ⟨(uuP ++ dpF f (22 + 1)).toArray⟩ from by
          rw [HO.out]
          apply ByteArray.ext
          simp [dpF, E2])
        have hdi : (dd : Int) + 1 ≤ 16 := by omega
        clear E2 hdd HF HO
        go_upto_region 8 with fail
        rw [E1.out]
        clear E1
        go_wp2_with fail
        try rw [if_neg (by omega)]
        go_round
        case rel => exact ⟨23, by first | rfl | go_num, by omega, by rw [← HN.out, ← HX.out]; rfl⟩
        case measure => simp [intOf]
      · obtain ⟨dd, hdd⟩ : ∃ dd, dd = b / 4294967296 % 16 := ⟨_, rfl⟩
        have E1 := hid (show bits .and .u64 ((b : Int) / 4294967296) 15 = (dd : Int) by rw [hdd]; exact nib_and b 4294967296 (by omega))
        have E2 : f 23 = hexD dd := by rw [HF.out 23 (by omega), hdd]; unfold nibN; first | rfl | (simp; done) | (congr 1; simp)
        have hd16 : dd < 16 := by omega
        have HX := hid (hex_ext ⟨dd, hd16⟩)
        have HN := hid (show (O ++ (⟨#[hexD dd]⟩ : ByteArray)) = ⟨(uuP ++ dpF f (23 + 1)).toArray⟩ from by
          rw [HO.out]
          apply ByteArray.ext
          simp [dpF, E2])
        have hdi : (dd : Int) + 1 ≤ 16 := by omega
        clear E2 hdd HF HO
        go_upto_region 8 with fail
        rw [E1.out]
        clear E1
        go_wp2_with fail
        try rw [if_neg (by omega)]
        go_round
        case rel => exact ⟨24, by first | rfl | go_num, by omega, by rw [← HN.out, ← HX.out]; rfl⟩
        case measure => simp [intOf]
      · obtain ⟨dd, hdd⟩ : ∃ dd, dd = b / 268435456 % 16 := ⟨_, rfl⟩
        have E1 := hid (show bits .and .u64 ((b : Int) / 268435456) 15 = (dd : Int) by rw [hdd]; exact nib_and b 268435456 (by omega))
        have E2 : f 24 = hexD dd := by rw [HF.out 24 (by omega), hdd]; unfold nibN; first | rfl | (simp; done) | (congr 1; simp)
        have hd16 : dd < 16 := by omega
        have HX := hid (hex_ext ⟨dd, hd16⟩)
        have HN := hid (show (O ++ (⟨#[hexD dd]⟩ : ByteArray)) = ⟨(uuP ++ dpF f (24 + 1)).toArray⟩ from by
          rw [HO.out]
          apply ByteArray.ext
          simp [dpF, E2])
        have hdi : (dd : Int) + 1 ≤ 16 := by omega
        clear E2 hdd HF HO
        go_upto_region 8 with fail
        rw [E1.out]
        clear E1
        go_wp2_with fail
        try rw [if_neg (by omega)]
        go_round
        case rel => exact ⟨25, by first | rfl | go_num, by omega, by rw [← HN.out, ← HX.out]; rfl⟩
        case measure => simp [intOf]
      · obtain ⟨dd, hdd⟩ : ∃ dd, dd = b / 16777216 % 16 := ⟨_, rfl⟩
        have E1 := hid (show bits .and .u64 ((b : Int) / 16777216) 15 = (dd : Int) by rw [hdd]; exact nib_and b 16777216 (by omega))
        have E2 : f 25 = hexD dd := by rw [HF.out 25 (by omega), hdd]; unfold nibN; first | rfl | (simp; done) | (congr 1; simp)
        have hd16 : dd < 16 := by omega
        have HX := hid (hex_ext ⟨dd, hd16⟩)
        have HN := hid (show (O ++ (⟨#[hexD dd]⟩ : ByteArray)) = ⟨(uuP ++ dpF f (25 + 1)).toArray⟩ from by
          rw [HO.out]
          apply ByteArray.ext
          simp [dpF, E2])
        have hdi : (dd : Int) + 1 ≤ 16 := by omega
        clear E2 hdd HF HO
        go_upto_region 8 with fail
        rw [E1.out]
        clear E1
        go_wp2_with fail
        try rw [if_neg (by omega)]
        go_round
        case rel => exact ⟨26, by first | rfl | go_num, by omega, by rw [← HN.out, ← HX.out]; rfl⟩
        case measure => simp [intOf]
      · obtain ⟨dd, hdd⟩ : ∃ dd, dd = b / 1048576 % 16 := ⟨_, rfl⟩
        have E1 := hid (show bits .and .u64 ((b : Int) / 1048576) 15 = (dd : Int) by rw [hdd]; exact nib_and b 1048576 (by omega))
        have E2 : f 26 = hexD dd := by rw [HF.out 26 (by omega), hdd]; unfold nibN; first | rfl | (simp; done) | (congr 1; simp)
        have hd16 : dd < 16 := by omega
        have HX := hid (hex_ext ⟨dd, hd16⟩)
        have HN := hid (show (O ++ (⟨#[hexD dd]⟩ : ByteArray)) = ⟨(uuP ++ dpF f (26 + 1)).toArray⟩ from by
          rw [HO.out]
          apply ByteArray.ext
          simp [dpF, E2])
        have hdi : (dd : Int) + 1 ≤ 16 := by omega
        clear E2 hdd HF HO
        go_upto_region 8 with fail
        rw [E1.out]
        clear E1
        go_wp2_with fail
        try rw [if_neg (by omega)]
        go_round
        case rel => exact ⟨27, by first | rfl | go_num, by omega, by rw [← HN.out, ← HX.out]; rfl⟩
        case measure => simp [intOf]
      · obtain ⟨dd, hdd⟩ : ∃ dd, dd = b / 65536 % 16 := ⟨_, rfl⟩
        have E1 := hid (show bits .and .u64 ((b : Int) / 65536) 15 = (dd : Int) by rw [hdd]; exact nib_and b 65536 (by omega))
        have E2 : f 27 = hexD dd := by rw [HF.out 27 (by omega), hdd]; unfold nibN; first | rfl | (simp; done) | (congr 1; simp)
        have hd16 : dd < 16 := by omega
        have HX := hid (hex_ext ⟨dd, hd16⟩)
        have HN := hid (show (O ++ (⟨#[hexD dd]⟩ : ByteArray)) = ⟨(uuP ++ dpF f (27 + 1)).toArray⟩ from by
          rw [HO.out]
          apply ByteArray.ext
          simp [dpF, E2])
        have hdi : (dd : Int) + 1 ≤ 16 := by omega
        clear E2 hdd HF HO
        go_upto_region 8 with fail
        rw [E1.out]
        clear E1
        go_wp2_with fail
        try rw [if_neg (by omega)]
        go_round
        case rel => exact ⟨28, by first | rfl | go_num, by omega, by rw [← HN.out, ← HX.out]; rfl⟩
        case measure => simp [intOf]
      · obtain ⟨dd, hdd⟩ : ∃ dd, dd = b / 4096 % 16 := ⟨_, rfl⟩
        have E1 := hid (show bits .and .u64 ((b : Int) / 4096) 15 = (dd : Int) by rw [hdd]; exact nib_and b 4096 (by omega))
        have E2 : f 28 = hexD dd := by rw [HF.out 28 (by omega), hdd]; unfold nibN; first | rfl | (simp; done) | (congr 1; simp)
        have hd16 : dd < 16 := by omega
        have HX := hid (hex_ext ⟨dd, hd16⟩)
        have HN := hid (show (O ++ (⟨#[hexD dd]⟩ : ByteArray)) = ⟨(uuP ++ dpF f (28 + 1)).toArray⟩ from by
          rw [HO.out]
          apply ByteArray.ext
          simp [dpF, E2])
        have hdi : (dd : Int) + 1 ≤ 16 := by omega
        clear E2 hdd HF HO
        go_upto_region 8 with fail
        rw [E1.out]
        clear E1
        go_wp2_with fail
        try rw [if_neg (by omega)]
        go_round
        case rel => exact ⟨29, by first | rfl | go_num, by omega, by rw [← HN.out, ← HX.out]; rfl⟩
        case measure => simp [intOf]
      · obtain ⟨dd, hdd⟩ : ∃ dd, dd = b / 256 % 16 := ⟨_, rfl⟩
        have E1 := hid (show bits .and .u64 ((b : Int) / 256) 15 = (dd : Int) by rw [hdd]; exact nib_and b 256 (by omega))
        have E2 : f 29 = hexD dd := by rw [HF.out 29 (by omega), hdd]; unfold nibN; first | rfl | (simp; done) | (congr 1; simp)
        have hd16 : dd < 16 := by omega
        have HX := hid (hex_ext ⟨dd, hd16⟩)
        have HN := hid (show (O ++ (⟨#[hexD dd]⟩ : ByteArray)) = ⟨(uuP ++ dpF f (29 + 1)).toArray⟩ from by
          rw [HO.out]
          apply ByteArray.ext
          simp [dpF, E2])
        have hdi : (dd : Int) + 1 ≤ 16 := by omega
        clear E2 hdd HF HO
        go_upto_region 8 with fail
        rw [E1.out]
        clear E1
        go_wp2_with fail
        try rw [if_neg (by omega)]
        go_round
        case rel => exact ⟨30, by first | rfl | go_num, by omega, by rw [← HN.out, ← HX.out]; rfl⟩
        case measure => simp [intOf]
      · obtain ⟨dd, hdd⟩ : ∃ dd, dd = b / 16 % 16 := ⟨_, rfl⟩
        have E1 := hid (show bits .and .u64 ((b : Int) / 16) 15 = (dd : Int) by rw [hdd]; exact nib_and b 16 (by omega))
        have E2 : f 30 = hexD dd := by rw [HF.out 30 (by omega), hdd]; unfold nibN; first | rfl | (simp; done) | (congr 1; simp)
        have hd16 : dd < 16 := by omega
        have HX := hid (hex_ext ⟨dd, hd16⟩)
        have HN := hid (show (O ++ (⟨#[hexD dd]⟩ : ByteArray)) = ⟨(uuP ++ dpF f (30 + 1)).toArray⟩ from by
          rw [HO.out]
          apply ByteArray.ext
          simp [dpF, E2])
        have hdi : (dd : Int) + 1 ≤ 16 := by omega
        clear E2 hdd HF HO
        go_upto_region 8 with fail
        rw [E1.out]
        clear E1
        go_wp2_with fail
        try rw [if_neg (by omega)]
        go_round
        case rel => exact ⟨31, by first | rfl | go_num, by omega, by rw [← HN.out, ← HX.out]; rfl⟩
        case measure => simp [intOf]
      · obtain ⟨dd, hdd⟩ : ∃ dd, dd = b % 16 := ⟨_, rfl⟩
        have E1 := hid (show bits .and .u64 (b : Int) 15 = (dd : Int) by rw [hdd]; exact u64_and15 b (by omega))
        have E2 : f 31 = hexD dd := by rw [HF.out 31 (by omega), hdd]; unfold nibN; first | rfl | (simp; done) | (congr 1; simp)
        have hd16 : dd < 16 := by omega
        have HX := hid (hex_ext ⟨dd, hd16⟩)
        have HN := hid (show (O ++ (⟨#[hexD dd]⟩ : ByteArray)) = ⟨(uuP ++ dpF f (31 + 1)).toArray⟩ from by
          rw [HO.out]
          apply ByteArray.ext
          simp [dpF, E2])
        have hdi : (dd : Int) + 1 ≤ 16 := by omega
        clear E2 hdd HF HO
        go_upto_region 8 with fail
        rw [E1.out]
        clear E1
        go_wp2_with fail
        try rw [if_neg (by omega)]
        go_round
        case rel => exact ⟨32, by first | rfl | go_num, by omega, by rw [← HN.out, ← HX.out]; rfl⟩
        case measure => simp [intOf]
end Go.Proofs.YtfceodbpkghkaaaGreatDoor
