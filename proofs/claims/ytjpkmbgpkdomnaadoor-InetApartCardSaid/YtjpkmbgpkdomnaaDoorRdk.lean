/- hearthref04.Read where it gives a packet. -/
import Derived.Test.YtjpkmbgpkdomnaaDoorRd1
namespace Go.Proofs.YtjpkmbgpkdomnaaDoor
open Go.RowKit

theorem rd_ok {l : List UInt8} (h : rdCode l = 0) : 20 ≤ l.length ∧ b8 l 0 / 16 = 4 ∧ b8 l 0 % 16 = 5 ∧ 20 ≤ rdAll l ∧ rdAll l ≤ l.length ∧ rdAll l ≤ 1500 ∧ sum16 (l.take 20) = 0 ∧ (256 * b8 l 6 + b8 l 7) % 16384 = 0 := by
  unfold rdCode at h
  split at h
  · simp at h
  split at h
  · simp at h
  split at h
  · simp at h
  split at h
  · simp at h
  split at h
  · simp at h
  split at h
  · simp at h
  split at h
  · simp at h
  omega
theorem pk_kept {w w' : World} {p : Nat} (g : w.grownBy w' (some p)) {b : Nat} {x : Obj} (h : w.heap[b]? = some x) (hp : w.heap.size ≤ p ∨ b < p) : w'.heap[b]? = some x :=
  gr_keep g h (by have := lt_of_block h; simp; omega)
theorem own_at {w : World} {base : Nat} {e : TypeId} {size n : Nat} {v : Value} {xs : List Value} (h : w.ownsRow base e size v n xs) (hn : 0 < n) : ∃ g cap, v = .slice (some ⟨g, 0, none⟩) n cap ∧ base ≤ g := by
  rcases h.2 with ⟨rfl, h0⟩ | ⟨g, cap, cur, rfl, hb, _⟩
  · omega
  · exact ⟨g, cap, rfl, hb⟩
theorem step_append_zero {P : Program} {ops : Array Oper} {o : Oper} {a : Act} {w : World} {K : Act → World → Prop} {Q : Exit → Act → World → Prop} {E : Prop}
    (hg : o.guard = none) (s x : Operand) (t : TypeId) (hop : o.op = Op.call { callee := Callee.builtin Builtin.append, args := #[s, x], argTypes := #[t, t] })
    (e : TypeId) (i : TypeInfo) (size : Nat) (h1 : P.underlying t = some (.slice e)) (h2 : P.info? e = some i) (h4 : i.size = size)
    (b off : Nat) (hs : a.eval s = .slice (some ⟨b, off, none⟩) 0 0) (ad : Addr) (c : Nat) (hx : a.eval x = .slice (some ad) 0 c)
    (hK : ∀ v' w', (∃ b3, v' = .slice (some ⟨b3, off, none⟩) 0 0) → w.grownBy w' none → K (a.put o.dst v') w') :
    if Region.wanted o (yielded ops a.tmps) = true then Oper.wp P o a w K Q else E :=
  step_append_room hg s x t hop e i size h1 h2 h4 b off 0 0 hs ad 0 c [] hx (by simp) (by simp) (by simp) (by omega) (by simp) (hK _ _ ⟨b, rfl⟩ (gr_refl _ _))
theorem pk_bytes {w : World} {b b3 c3 n : Nat} {l : List UInt8} (h : Bytes w (.slice (some ⟨b3, 0, none⟩) n c3) l) (hb : b < b3) (v0 v1 v2 v3 v4 v5 : Value) :
    Bytes ((((((w.setCell ⟨b, 0, none⟩ v0).setCell ⟨b, 1, none⟩ v1).setCell ⟨b, 2, none⟩ v2).setCell ⟨b, 3, none⟩ v3).setCell ⟨b, 4, none⟩ v4).setCell ⟨b, 5, none⟩ v5) (.slice (some ⟨b3, 0, none⟩) n c3) l :=
  h.kept (gr_set (gr_set (gr_set (gr_set (gr_set (gr_set (gr_refl w (some b))))))) ) (fun b' o' e _ => by simp at e; omega)
set_option maxRecDepth 20000 in
set_option maxHeartbeats 4000000 in
theorem rread_ok (l : List UInt8) (v : Value) (w : World) (hb : Bytes w v l) (hl : l.length ≤ 100000) (hok : rdCode l = 0) :
    Calls Tryd.prog 38 #[v] w (RdPost w l) := by
  obtain ⟨i0, hi, hz0, hz1, hz2⟩ := info_parts infoU8
  obtain ⟨a, c, rfl, h1, h2, h3⟩ := hb
  have HB := hid (show Bytes w (.slice a l.length c) l from ⟨a, c, rfl, h1, h2, h3⟩)
  have h2' : c ≤ 9223372036854775807 := h2
  clear h3 h2
  have R := hid hok
  have R2 := hid (show rdPk l = ⟨b8 l 8, b8 l 9, 256 * b8 l 4 + b8 l 5, beN ((l.drop 12).take 4), beN ((l.drop 16).take 4), (l.take (rdAll l)).drop 20⟩ by unfold rdPk; rw [if_pos R.out])
  obtain ⟨c0, k1, k2, k3, k4, k5, k6, k7⟩ := rd_ok hok
  clear hok
  obtain ⟨b, o, rfl, hc⟩ := HB.out.cellAt (by omega)
  have g0 := World.grownBy_alloc w (.cells #[.int .u8 0, .int .u8 0, .int .u16 0, .int .u32 0, .int .u32 0, .slice none 0 0] 48) none
  have x0 := hc 0 (by omega)
  have e0 : ((l.getD 0 0).toNat : Int) = (b8 l 0 : Nat) := rfl
  rw [e0, Nat.add_zero] at x0
  have hb0 := b8_lt l 0
  have hblt := World.block_lt_of_cell? _ _ x0
  have hbne : ¬ b = w.heap.size := by have : b < w.heap.size := hblt; omega
  have hbne2 : ¬ w.heap.size = b := fun h => hbne h.symm
  replace hblt : b < w.heap.size := hblt
  have HC := hid hc
  clear hc e0
  have x2 := HC.out 2 (by omega)
  have x3 := HC.out 3 (by omega)
  rw [show ((l.getD 2 0).toNat : Int) = (b8 l 2 : Nat) from rfl] at x2
  rw [show ((l.getD 3 0).toNat : Int) = (b8 l 3 : Nat) from rfl] at x3
  have hb2 := b8_lt l 2
  have hb3 := b8_lt l 3
  have hall : rdAll l = 256 * b8 l 2 + b8 l 3 := rfl
  have HALL := hid hall
  generalize b8 l 0 = q at *
  have t1 : ((((q : Nat) : Int) / 16) != 4) = false := by simp only [bne_eq_false_iff_eq]; omega
  have t2 : ¬ ((q : Nat) : Int) % 16 < 5 := by omega
  have t3 : ¬ (5 : Int) < ((q : Nat) : Int) % 16 := by omega
  clear hall k1 k2
  generalize b8 l 2 = q2 at *
  generalize b8 l 3 = q3 at *
  have w1 : IntKind.i64.wrap (256 * (q2 : Int)) = 256 * (q2 : Int) := IntWalk.i64_in _ (by omega)
  have w2 : IntKind.i64.wrap (256 * (q2 : Int) + (q3 : Int)) = 256 * (q2 : Int) + (q3 : Int) := IntWalk.i64_in _ (by omega)
  have w3 : IntKind.i64.wrap (q2 : Int) = (q2 : Int) := IntWalk.i64_in _ (by omega)
  have w4 : IntKind.i64.wrap (q3 : Int) = (q3 : Int) := IntWalk.i64_in _ (by omega)
  obtain ⟨al, hal⟩ : ∃ al : Nat, al = rdAll l := ⟨_, rfl⟩
  have hal' : 256 * (q2 : Int) + (q3 : Int) = (al : Int) := by rw [hal, HALL.out]; omega
  rw [← hal] at k3 k4 k5 R2
  have HAL2 := hid hal'
  clear hal hal'
  have hsp := fun W (g : w.grownBy W none) => rsum_any (l.take 20) (.slice (some ⟨b, o, none⟩) 20 c) W ((HB.out.part 20 (by omega)).grown g) (by simp; omega)
  rw [k6] at hsp
  have Hsp := hid hsp
  clear hsp k6
  have y6 := HC.out 6 (by omega)
  have y7 := HC.out 7 (by omega)
  rw [show ((l.getD 6 0).toNat : Int) = (b8 l 6 : Nat) from rfl] at y6
  rw [show ((l.getD 7 0).toNat : Int) = (b8 l 7 : Nat) from rfl] at y7
  have hb6 := b8_lt l 6
  have hb7 := b8_lt l 7
  generalize b8 l 6 = q6 at *
  generalize b8 l 7 = q7 at *
  have u1 : IntKind.i64.wrap (256 * (q6 : Int)) = 256 * (q6 : Int) := IntWalk.i64_in _ (by omega)
  have u2 : IntKind.i64.wrap (256 * (q6 : Int) + (q7 : Int)) = 256 * (q6 : Int) + (q7 : Int) := IntWalk.i64_in _ (by omega)
  have u3 : IntKind.i64.wrap (q6 : Int) = (q6 : Int) := IntWalk.i64_in _ (by omega)
  have u4 : IntKind.i64.wrap (q7 : Int) = (q7 : Int) := IntWalk.i64_in _ (by omega)
  have u5 : (256 * (q6 : Int) + (q7 : Int)).tmod 16384 = (256 * (q6 : Int) + (q7 : Int)) % 16384 := Int.tmod_eq_emod_of_nonneg (by omega)
  have t8 : ((256 * (q6 : Int) + (q7 : Int)) % 16384 != 0) = false := by simp only [bne_eq_false_iff_eq]; omega
  have U1 := hid u1
  have U2 := hid u2
  have U3 := hid u3
  have U4 := hid u4
  have U5 := hid u5
  have T8 := hid t8
  clear u1 u2 u3 u4 u5 t8 k7
  have c4 : ¬ al < 20 := by omega
  have c5 : ¬ l.length < al := by omega
  have c6 : ¬ 1500 < al := by omega
  go_enter Tryd.func38, Tryd.ntmps38
  go_wp2_with fail
  go_quiet (fail)
  obtain ⟨W1, hW1⟩ : ∃ W1, (w.alloc (.cells #[.int .u8 0, .int .u8 0, .int .u16 0, .int .u32 0, .int .u32 0, .slice none 0 0] 48)).drewN nq = W1 := ⟨_, rfl⟩
  rw [hW1]
  have B1 : W1.heap[w.heap.size]? = some (.cells #[.int .u8 0, .int .u8 0, .int .u16 0, .int .u32 0, .int .u32 0, .slice none 0 0] 48 (0, 0)) := by rw [← hW1]; exact heap_alloc_new w _
  have G1 : w.grownBy W1 none := by rw [← hW1]; exact gr_drewN nq (gr_alloc (gr_refl _ _) _)
  clear hW1 w1 w2 w3 w4
  have p0 := (cell_of_block B1 0).trans (show _ = some (Value.int .u8 0) from rfl)
  have p1 := (cell_of_block B1 1).trans (show _ = some (Value.int .u8 0) from rfl)
  have p2 := (cell_of_block B1 2).trans (show _ = some (Value.int .u16 0) from rfl)
  have p3 := (cell_of_block B1 3).trans (show _ = some (Value.int .u32 0) from rfl)
  have p4 := (cell_of_block B1 4).trans (show _ = some (Value.int .u32 0) from rfl)
  have p5 := (cell_of_block B1 5).trans (show _ = some (Value.slice none 0 0) from rfl)
  have f0 := free_of_block B1 0
  have f1 := free_of_block B1 1
  have f2 := free_of_block B1 2
  have f3 := free_of_block B1 3
  have f4 := free_of_block B1 4
  have f5 := free_of_block B1 5
  have blt := lt_of_block B1
  have HB1 := hid B1
  clear B1
  have hal' := HAL2.out
  go_wp2_with fail
  refine (Hsp.out W1 G1).mono ?_
  rintro e W2 ⟨rfl, g2⟩
  have z6 := (gr_trans G1 g2).cell y6 (by simp)
  have z7 := (gr_trans G1 g2).cell y7 (by simp)
  have HB2 := hid (gr_keep g2 HB1.out (by simp))
  have G2 := gr_trans G1 g2
  clear p0 p1 p2 p3 p4 p5 f0 f1 f2 f3 f4 f5 blt G1 g2
  have p0 := (cell_of_block HB2.out 0).trans (show _ = some (Value.int .u8 0) from rfl)
  have p1 := (cell_of_block HB2.out 1).trans (show _ = some (Value.int .u8 0) from rfl)
  have p2 := (cell_of_block HB2.out 2).trans (show _ = some (Value.int .u16 0) from rfl)
  have p3 := (cell_of_block HB2.out 3).trans (show _ = some (Value.int .u32 0) from rfl)
  have p4 := (cell_of_block HB2.out 4).trans (show _ = some (Value.int .u32 0) from rfl)
  have p5 := (cell_of_block HB2.out 5).trans (show _ = some (Value.slice none 0 0) from rfl)
  have f0 := free_of_block HB2.out 0
  have f1 := free_of_block HB2.out 1
  have f2 := free_of_block HB2.out 2
  have f3 := free_of_block HB2.out 3
  have f4 := free_of_block HB2.out 4
  have f5 := free_of_block HB2.out 5
  have blt := lt_of_block HB2.out
  go_wp2_with fail
  have u1 := U1.out
  have u2 := U2.out
  have u3 := U3.out
  have u4 := U4.out
  have u5 := U5.out
  have t8 := T8.out
  go_quiet (fail)
  clear u1 u2 u3 u4 u5 t8 U1 U2 U3 U4 U5 T8
  obtain ⟨W3, hW3⟩ : ∃ W3, W2.drewN nq = W3 := ⟨_, rfl⟩
  rw [hW3]
  clear HB1
  have HB1 := hid (show W3.heap[w.heap.size]? = some (.cells #[.int .u8 0, .int .u8 0, .int .u16 0, .int .u32 0, .int .u32 0, .slice none 0 0] 48 (0, 0)) by rw [← hW3]; exact HB2.out)
  have G1 : w.grownBy W3 none := by rw [← hW3]; exact gr_drewN nq G2
  clear p0 p1 p2 p3 p4 p5 f0 f1 f2 f3 f4 f5 blt G2 HB2 hW3
  have p0 := (cell_of_block HB1.out 0).trans (show _ = some (Value.int .u8 0) from rfl)
  have p1 := (cell_of_block HB1.out 1).trans (show _ = some (Value.int .u8 0) from rfl)
  have p2 := (cell_of_block HB1.out 2).trans (show _ = some (Value.int .u16 0) from rfl)
  have p3 := (cell_of_block HB1.out 3).trans (show _ = some (Value.int .u32 0) from rfl)
  have p4 := (cell_of_block HB1.out 4).trans (show _ = some (Value.int .u32 0) from rfl)
  have p5 := (cell_of_block HB1.out 5).trans (show _ = some (Value.slice none 0 0) from rfl)
  have f0 := free_of_block HB1.out 0
  have f1 := free_of_block HB1.out 1
  have f2 := free_of_block HB1.out 2
  have f3 := free_of_block HB1.out 3
  have f4 := free_of_block HB1.out 4
  have f5 := free_of_block HB1.out 5
  have blt := lt_of_block HB1.out
  clear hb0 hb2 hb3 hb6 hb7 t1 t2 t3 x0 x2 x3 y6 y7 z6 z7
  have HE := hid (show REyeAt (W3.alloc (.cells #[.slice (some ⟨b, o, none⟩) l.length c, .int .i64 12, .bool false] 78)) W3.heap.size l 12 false from
    ⟨some ⟨b, o, none⟩, c, heap_alloc_new W3 _, HB.out.grown (gr_alloc G1 _), fun b' o' e _ => by have := G1.size; simp at e; omega⟩)
  have hs1 := beN_lt (l.drop 12) 4 (by simp; omega) (by omega)
  have hs2 := beN_lt (l.drop 16) 4 (by simp; omega) (by omega)
  have HS1 := hid hs1
  have HS2 := hid hs2
  clear hs1 hs2
  go_wp2_with fail
  refine (reye_num W3.heap.size l false 12 4 _ HE.out (by omega) (by omega) (by omega) hl).mono ?_
  rintro e W5 ⟨rfl, hE5, g5⟩
  have HE5 := hid hE5
  have G5 := gr_new (gr_alloc G1 _) g5 G1.size
  have HB5 := hid (gr_keep g5 (gr_keep (World.grownBy_alloc W3 _ none) HB1.out (by simp)) (by simp; omega))
  clear hE5
  obtain ⟨n1, hn1⟩ : ∃ n1, n1 = beN ((l.drop 12).take 4) := ⟨_, rfl⟩
  have s1 : (n1 : Int) ≤ 4294967295 := by have := HS1.out; omega
  rw [← hn1]
  rw [← hn1] at R2
  clear hn1 p0 p1 p2 p3 p4 p5 f0 f1 f2 f3 f4 f5 blt
  go_wp2_with fail
  refine (reye_num W3.heap.size l false 16 4 _ HE5.out (by omega) (by omega) (by omega) hl).mono ?_
  rintro e W7 ⟨rfl, -, g7⟩
  have G7 := gr_new G5 g7 G1.size
  have HB7 := hid (gr_keep g7 HB5.out (by have := lt_of_block HB1.out; simp; omega))
  obtain ⟨n2, hn2⟩ : ∃ n2, n2 = beN ((l.drop 16).take 4) := ⟨_, rfl⟩
  have s2 : (n2 : Int) ≤ 4294967295 := by have := HS2.out; omega
  rw [← hn2]
  rw [← hn2] at R2
  clear hn2 HE5 HE g5 g7 G5 HB5 HB1 G1
  have hb7 : b < W7.heap.size := Nat.lt_of_lt_of_le hblt G7.size
  have x4 := G7.cell (HC.out 4 (by omega)) (by simp)
  have x5 := G7.cell (HC.out 5 (by omega)) (by simp)
  have x8 := G7.cell (HC.out 8 (by omega)) (by simp)
  have x9 := G7.cell (HC.out 9 (by omega)) (by simp)
  rw [show ((l.getD 4 0).toNat : Int) = (b8 l 4 : Nat) from rfl] at x4
  rw [show ((l.getD 5 0).toNat : Int) = (b8 l 5 : Nat) from rfl] at x5
  rw [show ((l.getD 8 0).toNat : Int) = (b8 l 8 : Nat) from rfl] at x8
  rw [show ((l.getD 9 0).toNat : Int) = (b8 l 9 : Nat) from rfl] at x9
  have hb4 := b8_lt l 4
  have hb5 := b8_lt l 5
  have hb8 := b8_lt l 8
  have hb9 := b8_lt l 9
  generalize b8 l 4 = q4 at *
  generalize b8 l 5 = q5 at *
  generalize b8 l 8 = q8 at *
  generalize b8 l 9 = q9 at *
  have m1 : IntKind.u16.wrap (256 * (q4 : Int)) = 256 * (q4 : Int) := IntWalk.u16_in _ (by omega)
  have m2 : IntKind.u16.wrap (256 * (q4 : Int) + (q5 : Int)) = 256 * (q4 : Int) + (q5 : Int) := IntWalk.u16_in _ (by omega)
  have m3 : IntKind.u16.wrap (q4 : Int) = (q4 : Int) := IntWalk.u16_in _ (by omega)
  have m4 : IntKind.u16.wrap (q5 : Int) = (q5 : Int) := IntWalk.u16_in _ (by omega)
  have HS := hid HB7.out
  have hN := hid (part_cells (HB.out) 20 (al - 20) (by omega))
  have hNl := hid (show (((l.drop 20).take (al - 20)).map bv).length = (al - 20) * 1 by simp; omega)
  have hN1 := hid (show ∀ u ∈ ((l.drop 20).take (al - 20)).map bv, u.oneCell' = true from fun u hu => by
    obtain ⟨x, _, rfl⟩ := List.mem_map.1 hu; rfl)
  have hnn : 0 + (al - 20) ≤ maxLen ∧ (0 + (al - 20)) * 1 ≤ 140737488355328 := by unfold maxLen; omega
  have HNN := hid hnn
  clear hnn
  have hcl : (l.length : Int) ≤ (c : Int) := by omega
  have hal1 : (20 : Int) ≤ (al : Int) := by omega
  have hal2 : (al : Int) ≤ (l.length : Int) := by omega
  have hal3 : (al : Int) ≤ (c : Int) := by omega
  have hal4 : (20 : Int) ≤ (c : Int) := by omega
  have j4 : (4 : Int) < (l.length : Int) := by omega
  have j5 : (5 : Int) < (l.length : Int) := by omega
  have j8 : (8 : Int) < (l.length : Int) := by omega
  have j9 : (9 : Int) < (l.length : Int) := by omega
  by_cases h20 : al = 20
  · subst h20
    by_cases hc20 : c = 20
    · subst hc20
      go_wp2_with fail
      go_region_held3 (fun w' => w'.cell? ⟨b, o + 4, none⟩ = some (.int .u8 q4) ∧ w'.cell? ⟨b, o + 5, none⟩ = some (.int .u8 q5) ∧ w'.cell? ⟨b, o + 8, none⟩ = some (.int .u8 q8) ∧ w'.cell? ⟨b, o + 9, none⟩ = some (.int .u8 q9)) (first | go_keep | exact ⟨by assumption, by assumption, by assumption, by assumption⟩)
        (first | (refine step_append_zero rfl (.tmp 98) (.tmp 101) 45 rfl 5 i0 1 Tryd.underlying45 hi hz1 _ 0 rfl ⟨b, o, none⟩ 0 (by simp [Act.eval]; try omega) ?_; rintro v2 w2 ⟨b3, rfl⟩ g2; have GW := gr_trans (by (repeat (first | exact gr_refl _ _ | assumption | refine gr_drew ?_ | refine gr_drewN _ ?_ | refine gr_alloc ?_ _ | refine gr_set ?_ | refine gr_set_new ?_ (by first | omega | (simp; omega)))) : W7.grownBy _ none) g2; have x4 := GW.cell x4 (by simp); have x5 := GW.cell x5 (by simp); have x8 := GW.cell x8 (by simp); have x9 := GW.cell x9 (by simp); have B2 := gr_keep GW HB7.out (by simp); have HB2 := hid B2; have blt := lt_of_block B2; have p0 := (cell_of_block B2 0).trans (show _ = some (Value.int .u8 0) from rfl); have f0 := free_of_block B2 0; have p1 := (cell_of_block B2 1).trans (show _ = some (Value.int .u8 0) from rfl); have f1 := free_of_block B2 1; have p2 := (cell_of_block B2 2).trans (show _ = some (Value.int .u16 0) from rfl); have f2 := free_of_block B2 2; have p3 := (cell_of_block B2 3).trans (show _ = some (Value.int .u32 0) from rfl); have f3 := free_of_block B2 3; have p4 := (cell_of_block B2 4).trans (show _ = some (Value.int .u32 0) from rfl); have f4 := free_of_block B2 4; have p5 := (cell_of_block B2 5).trans (show _ = some (Value.slice none 0 0) from rfl); have f5 := free_of_block B2 5; clear B2))
      all_goals
        go_wp2
        have S := pk_stored HB2.out (.int .u8 q8) (.int .u8 q9) (.int .u16 (256 * (q4 : Int) + (q5 : Int))) (.int .u32 n1) (.int .u32 n2) (.slice (some ⟨b3, 0, none⟩) 0 0)
        have s0 := (cell_of_block S 0).trans (show _ = some (Value.int .u8 q8) from rfl)
        have s1 := (cell_of_block S 1).trans (show _ = some (Value.int .u8 q9) from rfl)
        have s2 := (cell_of_block S 2).trans (show _ = some (Value.int .u16 (256 * (q4 : Int) + (q5 : Int))) from rfl)
        have s3 := (cell_of_block S 3).trans (show _ = some (Value.int .u32 n1) from rfl)
        have s4 := (cell_of_block S 4).trans (show _ = some (Value.int .u32 n2) from rfl)
        have s5 := (cell_of_block S 5).trans (show _ = some (Value.slice (some ⟨b3, 0, none⟩) 0 0) from rfl)
        exact bodyPost_ret (v := .tuple #[.agg #[.int .u8 q8, .int .u8 q9, .int .u16 (256 * (q4 : Int) + (q5 : Int)), .int .u32 n1, .int .u32 n2, .slice (some ⟨b3, 0, none⟩) 0 0], .int .i64 0]) (by simp [results, Tryd.results38, go_sem, s0, s1, s2, s3, s4, s5]) rfl ⟨.slice (some ⟨b3, 0, none⟩) 0 0, by rw [R.out, R2.out]; simp [Pk.val], by rw [R2.out]; show Bytes _ _ ((l.take 20).drop 20); rw [show (l.take 20).drop 20 = [] by rw [List.drop_take]; simp]; exact ⟨_, 0, rfl, by simp, by simp [maxLen], fun h => absurd rfl h⟩, far_nil _ _ _, pk_grown (gr_trans G7 GW) (Nat.le_refl _) _ _ _ _ _ _⟩
    have hal5 : (20 : Int) < (c : Int) := by omega
    go_wp2_with fail
    go_region_held3 (fun w' => w'.cell? ⟨b, o + 4, none⟩ = some (.int .u8 q4) ∧ w'.cell? ⟨b, o + 5, none⟩ = some (.int .u8 q5) ∧ w'.cell? ⟨b, o + 8, none⟩ = some (.int .u8 q8) ∧ w'.cell? ⟨b, o + 9, none⟩ = some (.int .u8 q9)) (first | go_keep | exact ⟨by assumption, by assumption, by assumption, by assumption⟩)
      (first | (refine step_append_zero rfl (.tmp 98) (.tmp 101) 45 rfl 5 i0 1 Tryd.underlying45 hi hz1 _ 0 rfl ⟨b, o + 20, none⟩ (c - 20) (by simp [Act.eval]; try omega) ?_; rintro v2 w2 ⟨b3, rfl⟩ g2; have GW := gr_trans (by (repeat (first | exact gr_refl _ _ | assumption | refine gr_drew ?_ | refine gr_drewN _ ?_ | refine gr_alloc ?_ _ | refine gr_set ?_ | refine gr_set_new ?_ (by first | omega | (simp; omega)))) : W7.grownBy _ none) g2; have x4 := GW.cell x4 (by simp); have x5 := GW.cell x5 (by simp); have x8 := GW.cell x8 (by simp); have x9 := GW.cell x9 (by simp); have B2 := gr_keep GW HB7.out (by simp); have HB2 := hid B2; have blt := lt_of_block B2; have p0 := (cell_of_block B2 0).trans (show _ = some (Value.int .u8 0) from rfl); have f0 := free_of_block B2 0; have p1 := (cell_of_block B2 1).trans (show _ = some (Value.int .u8 0) from rfl); have f1 := free_of_block B2 1; have p2 := (cell_of_block B2 2).trans (show _ = some (Value.int .u16 0) from rfl); have f2 := free_of_block B2 2; have p3 := (cell_of_block B2 3).trans (show _ = some (Value.int .u32 0) from rfl); have f3 := free_of_block B2 3; have p4 := (cell_of_block B2 4).trans (show _ = some (Value.int .u32 0) from rfl); have f4 := free_of_block B2 4; have p5 := (cell_of_block B2 5).trans (show _ = some (Value.slice none 0 0) from rfl); have f5 := free_of_block B2 5; clear B2))
    all_goals
      go_wp2
      have S := pk_stored HB2.out (.int .u8 q8) (.int .u8 q9) (.int .u16 (256 * (q4 : Int) + (q5 : Int))) (.int .u32 n1) (.int .u32 n2) (.slice (some ⟨b3, 0, none⟩) 0 0)
      have s0 := (cell_of_block S 0).trans (show _ = some (Value.int .u8 q8) from rfl)
      have s1 := (cell_of_block S 1).trans (show _ = some (Value.int .u8 q9) from rfl)
      have s2 := (cell_of_block S 2).trans (show _ = some (Value.int .u16 (256 * (q4 : Int) + (q5 : Int))) from rfl)
      have s3 := (cell_of_block S 3).trans (show _ = some (Value.int .u32 n1) from rfl)
      have s4 := (cell_of_block S 4).trans (show _ = some (Value.int .u32 n2) from rfl)
      have s5 := (cell_of_block S 5).trans (show _ = some (Value.slice (some ⟨b3, 0, none⟩) 0 0) from rfl)
      exact bodyPost_ret (v := .tuple #[.agg #[.int .u8 q8, .int .u8 q9, .int .u16 (256 * (q4 : Int) + (q5 : Int)), .int .u32 n1, .int .u32 n2, .slice (some ⟨b3, 0, none⟩) 0 0], .int .i64 0]) (by simp [results, Tryd.results38, go_sem, s0, s1, s2, s3, s4, s5]) rfl ⟨.slice (some ⟨b3, 0, none⟩) 0 0, by rw [R.out, R2.out]; simp [Pk.val], by rw [R2.out]; show Bytes _ _ ((l.take 20).drop 20); rw [show (l.take 20).drop 20 = [] by rw [List.drop_take]; simp]; exact ⟨_, 0, rfl, by simp, by simp [maxLen], fun h => absurd rfl h⟩, far_nil _ _ _, pk_grown (gr_trans G7 GW) (Nat.le_refl _) _ _ _ _ _ _⟩
  have hnp : 0 < al - 20 := by omega
  have hal5 : (20 : Int) < (c : Int) := by omega
  go_wp2_with fail
  go_region_held3 (fun w' => w'.cell? ⟨b, o + 4, none⟩ = some (.int .u8 q4) ∧ w'.cell? ⟨b, o + 5, none⟩ = some (.int .u8 q5) ∧ w'.cell? ⟨b, o + 8, none⟩ = some (.int .u8 q8) ∧ w'.cell? ⟨b, o + 9, none⟩ = some (.int .u8 q9)) (first | go_keep | exact ⟨by assumption, by assumption, by assumption, by assumption⟩)
    (first | (refine step_append_grows rfl (.tmp 98) (.tmp 101) 45 rfl 5 i0 _ 1 1 Tryd.underlying45 hi hz0 hz1 hz2 rfl (by decide) _ 0 0 [] rfl (by simp) rfl (by intro _ _ j u h; simp at h) ⟨b, o + 20, none⟩ (al - 20) (c - 20) (((l.drop 20).take (al - 20)).map bv) (by simp [Act.eval]; omega) hNl.out (hN.out _ (by (repeat (first | exact gr_refl _ _ | assumption | refine gr_drew ?_ | refine gr_drewN _ ?_ | refine gr_alloc ?_ _ | refine gr_set ?_ | refine gr_set_new ?_ (by first | omega | (simp; omega)))))) hN1.out (Nat.lt_of_lt_of_eq hnp (Nat.zero_add (al - 20)).symm) HNN.out.1 HNN.out.2 ?_; intro v2 w2 hown g2; rw [Nat.zero_add, List.nil_append] at hown; obtain ⟨b3, c3, rfl, hb3⟩ := own_at hown hnp; have GW := gr_trans (by (repeat (first | exact gr_refl _ _ | assumption | refine gr_drew ?_ | refine gr_drewN _ ?_ | refine gr_alloc ?_ _ | refine gr_set ?_ | refine gr_set_new ?_ (by first | omega | (simp; omega)))) : W7.grownBy _ none) g2; have x4 := GW.cell x4 (by simp); have x5 := GW.cell x5 (by simp); have x8 := GW.cell x8 (by simp); have x9 := GW.cell x9 (by simp); have B2 := gr_keep GW HB7.out (by simp); have HB2 := hid B2; have blt := lt_of_block B2; have p0 := (cell_of_block B2 0).trans (show _ = some (Value.int .u8 0) from rfl); have f0 := free_of_block B2 0; have p1 := (cell_of_block B2 1).trans (show _ = some (Value.int .u8 0) from rfl); have f1 := free_of_block B2 1; have p2 := (cell_of_block B2 2).trans (show _ = some (Value.int .u16 0) from rfl); have f2 := free_of_block B2 2; have p3 := (cell_of_block B2 3).trans (show _ = some (Value.int .u32 0) from rfl); have f3 := free_of_block B2 3; have p4 := (cell_of_block B2 4).trans (show _ = some (Value.int .u32 0) from rfl); have f4 := free_of_block B2 4; have p5 := (cell_of_block B2 5).trans (show _ = some (Value.slice none 0 0) from rfl); have f5 := free_of_block B2 5; clear B2))
  all_goals
    have hv2 := hid (show Bytes w2 (.slice (some ⟨b3, 0, none⟩) (al - 20) c3) ((l.drop 20).take (al - 20)) from bytes_of_own hown)
    have hlt3 := hid (Nat.lt_of_lt_of_le (lt_of_block HB7.out) (Nat.le_trans (gr_drew (World.grownBy_alloc W7 _ none)).size hb3))
    clear hown
    go_wp2
    have S := pk_stored HB2.out (.int .u8 q8) (.int .u8 q9) (.int .u16 (256 * (q4 : Int) + (q5 : Int))) (.int .u32 n1) (.int .u32 n2) (.slice (some ⟨b3, 0, none⟩) (al - 20) c3)
    have s0 := (cell_of_block S 0).trans (show _ = some (Value.int .u8 q8) from rfl)
    have s1 := (cell_of_block S 1).trans (show _ = some (Value.int .u8 q9) from rfl)
    have s2 := (cell_of_block S 2).trans (show _ = some (Value.int .u16 (256 * (q4 : Int) + (q5 : Int))) from rfl)
    have s3 := (cell_of_block S 3).trans (show _ = some (Value.int .u32 n1) from rfl)
    have s4 := (cell_of_block S 4).trans (show _ = some (Value.int .u32 n2) from rfl)
    have s5 := (cell_of_block S 5).trans (show _ = some (Value.slice (some ⟨b3, 0, none⟩) (al - 20) c3) from rfl)
    exact bodyPost_ret (v := .tuple #[.agg #[.int .u8 q8, .int .u8 q9, .int .u16 (256 * (q4 : Int) + (q5 : Int)), .int .u32 n1, .int .u32 n2, .slice (some ⟨b3, 0, none⟩) (al - 20) c3], .int .i64 0]) (by simp [results, Tryd.results38, go_sem, s0, s1, s2, s3, s4, s5]) rfl ⟨.slice (some ⟨b3, 0, none⟩) (al - 20) c3, by rw [R.out, R2.out]; simp [Pk.val], by rw [R2.out]; show Bytes _ _ ((l.take al).drop 20); rw [List.drop_take]; exact pk_bytes hv2.out hlt3.out _ _ _ _ _ _, far_at (Nat.le_of_lt hlt3.out), pk_grown (gr_trans G7 GW) (Nat.le_refl _) _ _ _ _ _ _⟩
end Go.Proofs.YtjpkmbgpkdomnaaDoor
