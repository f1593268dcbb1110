/- The walk of InetApart. -/
import Derived.Test.YtjpkmbgpkdomnaaDoorIt1
import Derived.Test.YtjpkmbgpkdomnaaDoorSa1
import Derived.Test.YtjpkmbgpkdomnaaDoorReg
namespace Go.Proofs.YtjpkmbgpkdomnaaDoor
open Go.RowKit

set_option maxRecDepth 20000 in
set_option maxHeartbeats 4000000 in
theorem inet_apart_walk (p q : Pk) (vb vz : Value) (cut : Int) (m : Int) (w : World) (hb : Bytes w vb p.body) (hz : Bytes w vz q.body) (ok : p.Ok) (ok2 : q.Ok) (hm : Hid (MaxCell m w)) (h10 : Hid (P10 w)) :
    Calls Tryd.prog 11 #[p.val vb, q.val vz, .int .i64 cut] w fun e w' => e = .returned (.bool true) ∧ w.grownBy w' none := by
  have HWp := hid (fun W (g : w.grownBy W none) => iwrite_any p vb W (hb.grown g) ok)
  have HWq := hid (fun W (g : w.grownBy W none) => iwrite_any q vz W (hz.grown g) ok2)
  have HSAME := hid (fun W va vb (ha : Bytes W va p.body) (hb : Bytes W vb q.body) => same_any p q va vb W ha hb)
  have HINJ := hid (fun h1 h2 => wrL_inj p q ok ok2 h1 h2)
  have HCUT := hid (fun hl k hk => wrL_cut p hl k hk)
  have hpl := hid (wrF_len p 16384)
  have hps := hid (pk_same (p := p) (q := q))
  obtain ⟨x1, x2, x3, x4, x5, lb⟩ := p
  obtain ⟨z1, z2, z3, z4, z5, lz⟩ := q
  dsimp only [Pk.val] at *
  have HBd := hid hb
  have HBz := hid hz
  obtain ⟨ab, cb, rfl, y1, y2, -⟩ := hb
  obtain ⟨az, cz, rfl, u1, u2, -⟩ := hz
  have y2' : cb ≤ 9223372036854775807 := y2
  have u2' : cz ≤ 9223372036854775807 := u2
  clear y2 u2 ok ok2
  have A0 := heap_alloc_new w (.cells #[.int .u8 x1, .int .u8 x2, .int .u16 x3, .int .u32 x4, .int .u32 x5, .slice ab lb.length cb] 48)
  have G0 := World.grownBy_alloc w (.cells #[.int .u8 x1, .int .u8 x2, .int .u16 x3, .int .u32 x4, .int .u32 x5, .slice ab lb.length cb] 48) none
  have hsz : (w.alloc (.cells #[.int .u8 x1, .int .u8 x2, .int .u16 x3, .int .u32 x4, .int .u32 x5, .slice ab lb.length cb] 48)).heap.size = w.heap.size + 1 := by
    show (w.heap.push _).size = _
    exact Array.size_push _
  have A1 := heap_alloc_new (w.alloc (.cells #[.int .u8 x1, .int .u8 x2, .int .u16 x3, .int .u32 x4, .int .u32 x5, .slice ab lb.length cb] 48)) (.cells #[.int .u8 z1, .int .u8 z2, .int .u16 z3, .int .u32 z4, .int .u32 z5, .slice az lz.length cz] 48)
  rw [hsz] at A1
  have G1 := World.grownBy_alloc (w.alloc (.cells #[.int .u8 x1, .int .u8 x2, .int .u16 x3, .int .u32 x4, .int .u32 x5, .slice ab lb.length cb] 48)) (.cells #[.int .u8 z1, .int .u8 z2, .int .u16 z3, .int .u32 z4, .int .u32 z5, .slice az lz.length cz] 48) none
  have A0' := gr_keep G1 A0 (by simp)
  have G01 := gr_trans G0 G1
  have hsp := hid (ispeaks_true m _ (G01.cell hm.out (by simp)) (h10.out.grown G01))
  clear A0 G0 G1 hsz
  go_enter Tryd.func11, Tryd.ntmps11
  go_wp2_with fail
  generalize (w.alloc (.cells #[.int .u8 x1, .int .u8 x2, .int .u16 x3, .int .u32 x4, .int .u32 x5, .slice ab lb.length cb] 48)).alloc (.cells #[.int .u8 z1, .int .u8 z2, .int .u16 z3, .int .u32 z4, .int .u32 z5, .slice az lz.length cz] 48) = w1 at *
  refine hsp.out.mono ?_
  rintro e w2 ⟨rfl, g2⟩
  have HA0 := hid (gr_keep g2 A0' (by simp))
  have HA1 := hid (gr_keep g2 A1 (by simp))
  have G2 := hid (gr_trans G01 g2)
  clear A0' A1 G01 g2
  have p0 := (cell_of_block HA0.out 0).trans (show _ = some (Value.int .u8 x1) from rfl); have p1 := (cell_of_block HA0.out 1).trans (show _ = some (Value.int .u8 x2) from rfl); have p2 := (cell_of_block HA0.out 2).trans (show _ = some (Value.int .u16 x3) from rfl); have p3 := (cell_of_block HA0.out 3).trans (show _ = some (Value.int .u32 x4) from rfl); have p4 := (cell_of_block HA0.out 4).trans (show _ = some (Value.int .u32 x5) from rfl); have p5 := (cell_of_block HA0.out 5).trans (show _ = some (Value.slice ab lb.length cb) from rfl); have q0 := (cell_of_block HA1.out 0).trans (show _ = some (Value.int .u8 z1) from rfl); have q1 := (cell_of_block HA1.out 1).trans (show _ = some (Value.int .u8 z2) from rfl); have q2 := (cell_of_block HA1.out 2).trans (show _ = some (Value.int .u16 z3) from rfl); have q3 := (cell_of_block HA1.out 3).trans (show _ = some (Value.int .u32 z4) from rfl); have q4 := (cell_of_block HA1.out 4).trans (show _ = some (Value.int .u32 z5) from rfl); have q5 := (cell_of_block HA1.out 5).trans (show _ = some (Value.slice az lz.length cz) from rfl)
  by_cases big1 : 2000 < lb.length
  · have b1 : (2000 : Int) < (lb.length : Int) := by omega
    go_wp2
    go_ret
    exact ⟨rfl, G2.out⟩
  have b1 : ¬ (2000 : Int) < (lb.length : Int) := by omega
  by_cases big2 : 2000 < lz.length
  · have b2 : (2000 : Int) < (lz.length : Int) := by omega
    go_wp2
    go_ret
    exact ⟨rfl, G2.out⟩
  have b2 : ¬ (2000 : Int) < (lz.length : Int) := by omega
  go_wp2_with fail
  refine (HWp.out w2 G2.out).mono ?_
  intro e w3 hpost
  clear p0 p1 p2 p3 p4 p5 q0 q1 q2 q3 q4 q5
  by_cases hl1 : 1480 < lb.length
  · obtain ⟨rfl, g3⟩ := wr_long hpost hl1
    replace HA0 := hid (gr_keep g3 HA0.out (by simp))
    replace HA1 := hid (gr_keep g3 HA1.out (by simp))
    have G3 := hid (gr_trans G2.out g3)
    clear g3 G2 hpost
    have p0 := (cell_of_block HA0.out 0).trans (show _ = some (Value.int .u8 x1) from rfl); have p1 := (cell_of_block HA0.out 1).trans (show _ = some (Value.int .u8 x2) from rfl); have p2 := (cell_of_block HA0.out 2).trans (show _ = some (Value.int .u16 x3) from rfl); have p3 := (cell_of_block HA0.out 3).trans (show _ = some (Value.int .u32 x4) from rfl); have p4 := (cell_of_block HA0.out 4).trans (show _ = some (Value.int .u32 x5) from rfl); have p5 := (cell_of_block HA0.out 5).trans (show _ = some (Value.slice ab lb.length cb) from rfl); have q0 := (cell_of_block HA1.out 0).trans (show _ = some (Value.int .u8 z1) from rfl); have q1 := (cell_of_block HA1.out 1).trans (show _ = some (Value.int .u8 z2) from rfl); have q2 := (cell_of_block HA1.out 2).trans (show _ = some (Value.int .u16 z3) from rfl); have q3 := (cell_of_block HA1.out 3).trans (show _ = some (Value.int .u32 z4) from rfl); have q4 := (cell_of_block HA1.out 4).trans (show _ = some (Value.int .u32 z5) from rfl); have q5 := (cell_of_block HA1.out 5).trans (show _ = some (Value.slice az lz.length cz) from rfl)
    go_wp2_with fail
    refine (HWq.out w3 G3.out).mono ?_
    intro e w4 hpost
    by_cases hl2 : 1480 < lz.length
    · obtain ⟨rfl, g4⟩ := wr_long hpost hl2
      clear hl1 hl2
      go_wp2
      go_ret
      exact ⟨rfl, gr_trans G3.out g4⟩
    · obtain ⟨v4, rfl, -, g4⟩ := wr_ok hpost hl2
      clear hl1 hl2
      go_wp2
      go_ret
      exact ⟨rfl, gr_trans G3.out g4⟩
  obtain ⟨v3, rfl, hf3, g3⟩ := wr_ok hpost hl1
  replace HA0 := hid (gr_keep g3 HA0.out (by simp))
  replace HA1 := hid (gr_keep g3 HA1.out (by simp))
  have G3 := hid (gr_trans G2.out g3)
  have HP3 := hid (bytes_fresh hf3)
  clear g3 G2 hpost hf3
  have p0 := (cell_of_block HA0.out 0).trans (show _ = some (Value.int .u8 x1) from rfl); have p1 := (cell_of_block HA0.out 1).trans (show _ = some (Value.int .u8 x2) from rfl); have p2 := (cell_of_block HA0.out 2).trans (show _ = some (Value.int .u16 x3) from rfl); have p3 := (cell_of_block HA0.out 3).trans (show _ = some (Value.int .u32 x4) from rfl); have p4 := (cell_of_block HA0.out 4).trans (show _ = some (Value.int .u32 x5) from rfl); have p5 := (cell_of_block HA0.out 5).trans (show _ = some (Value.slice ab lb.length cb) from rfl); have q0 := (cell_of_block HA1.out 0).trans (show _ = some (Value.int .u8 z1) from rfl); have q1 := (cell_of_block HA1.out 1).trans (show _ = some (Value.int .u8 z2) from rfl); have q2 := (cell_of_block HA1.out 2).trans (show _ = some (Value.int .u16 z3) from rfl); have q3 := (cell_of_block HA1.out 3).trans (show _ = some (Value.int .u32 z4) from rfl); have q4 := (cell_of_block HA1.out 4).trans (show _ = some (Value.int .u32 z5) from rfl); have q5 := (cell_of_block HA1.out 5).trans (show _ = some (Value.slice az lz.length cz) from rfl)
  go_wp2_with fail
  refine (HWq.out w3 G3.out).mono ?_
  intro e w4 hpost
  clear p0 p1 p2 p3 p4 p5 q0 q1 q2 q3 q4 q5
  by_cases hl2 : 1480 < lz.length
  · obtain ⟨rfl, g4⟩ := wr_long hpost hl2
    clear hl1 hl2
    go_wp2
    go_ret
    exact ⟨rfl, gr_trans G3.out g4⟩
  obtain ⟨v4, rfl, hf4, g4⟩ := wr_ok hpost hl2
  replace HA0 := hid (gr_keep g4 HA0.out (by simp))
  replace HA1 := hid (gr_keep g4 HA1.out (by simp))
  have G4 := hid (gr_trans G3.out g4)
  replace HP3 := hid (HP3.out.grown g4)
  have HQ4 := hid (bytes_fresh hf4)
  have HBp := hid (HBd.out.grown G4.out)
  have HBq := hid (HBz.out.grown G4.out)
  have hinj := HINJ.out (show lb.length ≤ 1480 by omega) (show lz.length ≤ 1480 by omega)
  have HCUT' := hid (HCUT.out (show lb.length ≤ 1480 by omega))
  have hln : (wrL ⟨x1, x2, x3, x4, x5, lb⟩).length = 20 + lb.length := hpl.out
  have hsb : decide (wrL ⟨x1, x2, x3, x4, x5, lb⟩ = wrL ⟨z1, z2, z3, z4, z5, lz⟩) = Pk.same ⟨x1, x2, x3, x4, x5, lb⟩ ⟨z1, z2, z3, z4, z5, lz⟩ := by
    rw [Bool.eq_iff_iff, decide_eq_true_eq, hinj]; exact hps.out.symm
  clear g4 G3 hpost hf4 hinj HINJ HCUT hps
  generalize wrL ⟨x1, x2, x3, x4, x5, lb⟩ = lp at *
  generalize wrL ⟨z1, z2, z3, z4, z5, lz⟩ = lq at *
  generalize Pk.same ⟨x1, x2, x3, x4, x5, lb⟩ ⟨z1, z2, z3, z4, z5, lz⟩ = sm at *
  have HEQ := hid (show (lp == lq) = sm by rw [← hsb, Bool.eq_iff_iff]; simp)
  obtain ⟨a3, c3, rfl, t1, t2, -⟩ := id HP3.out
  obtain ⟨a4, c4, rfl, -, -, -⟩ := id HQ4.out
  have HLP := hid hln
  clear hsb hln hl1 hl2
  go_wp2_with fail
  obtain ⟨w0, hw0⟩ : ∃ x, x = w4 := ⟨_, rfl⟩
  rw [← hw0] at HA0 HA1 HP3 HQ4 HBp HBq G4 ⊢
  clear hw0
  refine wp_region_spec2 (by kernel_rfl) (by kernel_rfl) (n := 9) (by kernel_rfl) [some 41, some 42, some 43, some 44, some 45, some 46, some 47, some 48, some 49] (by kernel_rfl) _ (fun u => (by simp only [fill, List.zipIdx_cons, List.zipIdx_nil, List.foldl_cons, List.foldl_nil, Act.put, List.setIfInBounds_toArray, List.set_cons_zero, List.set_cons_succ, Nat.zero_add, Nat.reduceAdd]; exact rfl)) (by kernel_rfl)
    (all_succ (all_succ (all_succ (all_succ (all_succ (all_succ (all_succ (all_succ (all_succ (all_zero _) (fun u v => by kernel_rfl)) (fun u v => by kernel_rfl)) (fun u v => by kernel_rfl)) (fun u v => by kernel_rfl)) (fun u v => by kernel_rfl)) (fun u v => by kernel_rfl)) (fun u v => by kernel_rfl)) (fun u v => by kernel_rfl)) (fun u v => by kernel_rfl))
    (fun i v w => match i with | 0 => v = .slice a3 lp.length c3 | 1 => v = str lp | 2 => v = .slice a4 lq.length c4 | 3 => v = str lq | 4 => v = .bool sm | 5 => v = Value.agg #[.int .u8 x1, .int .u8 x2, .int .u16 x3, .int .u32 x4, .int .u32 x5, .slice ab lb.length cb] | 6 => v = Value.agg #[.int .u8 z1, .int .u8 z2, .int .u16 z3, .int .u32 z4, .int .u32 z5, .slice az lz.length cz] | 7 => v = .bool sm | 8 => v = .bool false | _ => True)
    (all_succ (all_succ (all_succ (all_succ (all_succ (all_succ (all_succ (all_succ (all_succ (all_zero _) ?m0) ?m1) ?m2) ?m3) ?m4) ?m5) ?m6) ?m7) ?m8)
    [[], [0], [], [2], [1, 3], [], [], [5, 6], [4, 7]] (by kernel_rfl)
    ⟨?o0, ?o1, ?o2, ?o3, ?o4, ?o5, ?o6, ?o7, ?o8, trivial⟩ ?done
  case m0 => intro v w w' h g; exact h
  case m1 => intro v w w' h g; exact h
  case m2 => intro v w w' h g; exact h
  case m3 => intro v w w' h g; exact h
  case m4 => intro v w w' h g; exact h
  case m5 => intro v w w' h g; exact h
  case m6 => intro v w w' h g; exact h
  case m7 => intro v w w' h g; exact h
  case m8 => intro v w w' h g; exact h
  case o0 =>
    intro u w g hd K hK
    clear hd
    simp only [Act.put, List.setIfInBounds_toArray, List.set_cons_zero, List.set_cons_succ] at hK
    go_simp
    exact hK _ _ rfl (gr_refl _ _)
  case o1 =>
    intro u w g hd K hK
    have h0 : (u 0) = .slice a3 lp.length c3 := hd 0 (by simp)
    clear hd
    simp only [Act.put, List.setIfInBounds_toArray, List.set_cons_zero, List.set_cons_succ] at hK
    simp only [h0] at hK ⊢
    go_simp
    rw [run_b2s (l := lp) Tryd.underlying45 Tryd.underlying5 Tryd.underlying9 (v := .slice a3 lp.length c3) (HP3.out.grown g)]
    go_simp
    exact hK _ _ rfl (gr_refl _ _)
  case o2 =>
    intro u w g hd K hK
    clear hd
    simp only [Act.put, List.setIfInBounds_toArray, List.set_cons_zero, List.set_cons_succ] at hK
    go_simp
    exact hK _ _ rfl (gr_refl _ _)
  case o3 =>
    intro u w g hd K hK
    have h2 : (u 2) = .slice a4 lq.length c4 := hd 2 (by simp)
    clear hd
    simp only [Act.put, List.setIfInBounds_toArray, List.set_cons_zero, List.set_cons_succ] at hK
    simp only [h2] at hK ⊢
    go_simp
    rw [run_b2s (l := lq) Tryd.underlying45 Tryd.underlying5 Tryd.underlying9 (v := .slice a4 lq.length c4) (HQ4.out.grown g)]
    go_simp
    exact hK _ _ rfl (gr_refl _ _)
  case o4 =>
    intro u w g hd K hK
    have h1 : (u 1) = str lp := hd 1 (by simp)
    have h3 : (u 3) = str lq := hd 3 (by simp)
    clear hd
    simp only [Act.put, List.setIfInBounds_toArray, List.set_cons_zero, List.set_cons_succ] at hK
    simp only [h1, h3] at hK ⊢
    unfold str at hK ⊢
    go_simp
    have e := HEQ.out
    simp only [e]
    exact hK _ _ rfl (gr_refl _ _)
  case o5 =>
    intro u w g hd K hK
    clear hd
    simp only [Act.put, List.setIfInBounds_toArray, List.set_cons_zero, List.set_cons_succ] at hK
    have c0 := g.cell (cell_of_block HA0.out 0) (by simp)
    have d0 := c0.trans (show _ = some (Value.int .u8 x1) from rfl)
    clear c0
    have c1 := g.cell (cell_of_block HA0.out 1) (by simp)
    have d1 := c1.trans (show _ = some (Value.int .u8 x2) from rfl)
    clear c1
    have c2 := g.cell (cell_of_block HA0.out 2) (by simp)
    have d2 := c2.trans (show _ = some (Value.int .u16 x3) from rfl)
    clear c2
    have c3 := g.cell (cell_of_block HA0.out 3) (by simp)
    have d3 := c3.trans (show _ = some (Value.int .u32 x4) from rfl)
    clear c3
    have c4 := g.cell (cell_of_block HA0.out 4) (by simp)
    have d4 := c4.trans (show _ = some (Value.int .u32 x5) from rfl)
    clear c4
    have c5 := g.cell (cell_of_block HA0.out 5) (by simp)
    have d5 := c5.trans (show _ = some (Value.slice ab lb.length cb) from rfl)
    clear c5
    go_simp
    exact hK _ _ rfl (gr_refl _ _)
  case o6 =>
    intro u w g hd K hK
    clear hd
    simp only [Act.put, List.setIfInBounds_toArray, List.set_cons_zero, List.set_cons_succ] at hK
    have c0 := g.cell (cell_of_block HA1.out 0) (by simp)
    have d0 := c0.trans (show _ = some (Value.int .u8 z1) from rfl)
    clear c0
    have c1 := g.cell (cell_of_block HA1.out 1) (by simp)
    have d1 := c1.trans (show _ = some (Value.int .u8 z2) from rfl)
    clear c1
    have c2 := g.cell (cell_of_block HA1.out 2) (by simp)
    have d2 := c2.trans (show _ = some (Value.int .u16 z3) from rfl)
    clear c2
    have c3 := g.cell (cell_of_block HA1.out 3) (by simp)
    have d3 := c3.trans (show _ = some (Value.int .u32 z4) from rfl)
    clear c3
    have c4 := g.cell (cell_of_block HA1.out 4) (by simp)
    have d4 := c4.trans (show _ = some (Value.int .u32 z5) from rfl)
    clear c4
    have c5 := g.cell (cell_of_block HA1.out 5) (by simp)
    have d5 := c5.trans (show _ = some (Value.slice az lz.length cz) from rfl)
    clear c5
    go_simp
    exact hK _ _ rfl (gr_refl _ _)
  case o7 =>
    intro u w g hd K hK
    have h5 : (u 5) = Value.agg #[.int .u8 x1, .int .u8 x2, .int .u16 x3, .int .u32 x4, .int .u32 x5, .slice ab lb.length cb] := hd 5 (by simp)
    have h6 : (u 6) = Value.agg #[.int .u8 z1, .int .u8 z2, .int .u16 z3, .int .u32 z4, .int .u32 z5, .slice az lz.length cz] := hd 6 (by simp)
    clear hd
    simp only [Act.put, List.setIfInBounds_toArray, List.set_cons_zero, List.set_cons_succ] at hK
    simp only [h5, h6] at hK ⊢
    go_simp
    refine (HSAME.out w _ _ (HBp.out.grown g) (HBq.out.grown g)).mono ?_
    rintro e w' ⟨rfl, g'⟩
    exact hK _ _ rfl g'
  case o8 =>
    intro u w g hd K hK
    have h4 : (u 4) = .bool sm := hd 4 (by simp)
    have h7 : (u 7) = .bool sm := hd 7 (by simp)
    clear hd
    simp only [Act.put, List.setIfInBounds_toArray, List.set_cons_zero, List.set_cons_succ] at hK
    simp only [h4, h7] at hK ⊢
    go_simp
    exact hK _ _ (by first | rfl | simp) (gr_refl _ _)
  case done =>
    intro u w hS g
    have s0 : (u 0) = .slice a3 lp.length c3 := hS 0 (by decide)
    have s1 : (u 1) = str lp := hS 1 (by decide)
    have s2 : (u 2) = .slice a4 lq.length c4 := hS 2 (by decide)
    have s3 : (u 3) = str lq := hS 3 (by decide)
    have s4 : (u 4) = .bool sm := hS 4 (by decide)
    have s5 : (u 5) = Value.agg #[.int .u8 x1, .int .u8 x2, .int .u16 x3, .int .u32 x4, .int .u32 x5, .slice ab lb.length cb] := hS 5 (by decide)
    have s6 : (u 6) = Value.agg #[.int .u8 z1, .int .u8 z2, .int .u16 z3, .int .u32 z4, .int .u32 z5, .slice az lz.length cz] := hS 6 (by decide)
    have s7 : (u 7) = .bool sm := hS 7 (by decide)
    have s8 : (u 8) = .bool false := hS 8 (by decide)
    clear hS
    rw [s8]
    have G6 := hid (gr_trans G4.out g)
    have HP6 := hid (HP3.out.grown g)
    clear s0 s1 s2 s3 s4 s5 s6 s7 s8 g
    generalize u 0 = v0, u 1 = v1, u 2 = v2, u 3 = v3, u 4 = v4, u 5 = v5, u 6 = v6, u 7 = v7
    have hand := i64_and16 cut
    obtain ⟨kk, hkk⟩ : ∃ kk : Nat, (kk : Int) = cut % 65536 := ⟨(cut % 65536).toNat, by omega⟩
    rw [← hkk] at hand
    have hkb : (kk : Int) ≤ 65535 := by omega
    clear hkk
    obtain ⟨n, hn⟩ : ∃ n, n = lp.length := ⟨_, rfl⟩
    have hnl : n = 20 + lb.length := by rw [hn]; exact HLP.out
    rw [← hn] at t1 ⊢
    obtain ⟨k, hk⟩ : ∃ k, k = kk % n := ⟨_, rfl⟩
    have hkn : k < n := by rw [hk]; exact Nat.mod_lt _ (by omega)
    have htm : (kk : Int).tmod (n : Int) = (k : Int) := by rw [Int.tmod_eq_emod_of_nonneg (by omega), hk]; omega
    have hcut := HCUT'.out k (by rw [← hn]; exact hkn)
    have hpart := HP6.out.part k (by rw [← hn]; omega)
    have HRD := hid (iread_any (lp.take k) _ w hpart (by simp; omega))
    unfold RdFar at HRD
    rw [hcut] at HRD
    have HN := hid hn
    have hne : ¬ n = 0 := by omega
    have hni : ¬ (n : Int) = 0 := by omega
    have hki : (k : Int) ≤ (c3 : Int) := by omega
    have hki2 : (0 : Int) ≤ (k : Int) := by omega
    have t2' : c3 ≤ 9223372036854775807 := t2
    clear hn hk hnl hcut hpart t2
    go_wp2_with fail
    refine HRD.out.mono ?_
    rintro e w7 ⟨body, rfl, hbody, -, g7⟩
    clear HRD HCUT'
    generalize rdPk (lp.take k) = pk at *
    obtain ⟨r1, r2, r3, r4, r5, rb⟩ := pk
    obtain ⟨ra, rc, rfl, -, -, -⟩ := hbody
    have GF := hid (gr_trans G6.out g7)
    dsimp only [Pk.val]
    go_wp2
    go_ret
    exact ⟨rfl, gr_alloc GF.out _⟩
end Go.Proofs.YtjpkmbgpkdomnaaDoor
