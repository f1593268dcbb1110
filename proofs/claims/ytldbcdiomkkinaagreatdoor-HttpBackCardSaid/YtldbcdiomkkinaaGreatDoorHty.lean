/- hearthlaw16.speaks; reading what was read. -/
import Derived.Test.YtldbcdiomkkinaaGreatDoorHtx
namespace Go.Proofs.YtldbcdiomkkinaaGreatDoor
open Go.RowKit

theorem cellsPds_get : ∀ (pds : List Pd) (vs : List (Value × Value)) (i : Nat) (p : Pd) (x : Value × Value) (j : Nat) (u : Value), vs.length = pds.length → pds[i]? = some p → vs[i]? = some x → (cellsPd p x)[j]? = some u → (cellsPds pds vs)[i * 7 + j]? = some u
  | [], vs, i, p, x, j, u, _, hi, _, _ => by simp at hi
  | q :: r, [], i, p, x, j, u, hl, _, _, _ => by simp at hl
  | q :: r, y :: vr, 0, p, x, j, u, hl, hi, hx, hj => by
    obtain rfl : q = p := by simpa using hi
    obtain rfl : y = x := by simpa using hx
    show (cellsPd q y ++ cellsPds r vr)[0 * 7 + j]? = some u
    have hj7 : j < (cellsPd q y).length := (List.getElem?_eq_some_iff.1 hj).1
    rw [List.getElem?_append_left (by omega), Nat.zero_mul, Nat.zero_add]
    exact hj
  | q :: r, y :: vr, i + 1, p, x, j, u, hl, hi, hx, hj => by
    show (cellsPd q y ++ cellsPds r vr)[(i + 1) * 7 + j]? = some u
    have h7 : (cellsPd q y).length = 7 := rfl
    rw [List.getElem?_append_right (by omega), h7, show (i + 1) * 7 + j - 7 = i * 7 + j by omega]
    exact cellsPds_get r vr i p x j u (by simpa using hl) (by simpa using hi) (by simpa using hx) hj
/-- One of what was read, in its cells. -/
theorem PdsAt.get {W : World} {base : Nat} {v : Value} {pds : List Pd} (h : PdsAt W base v pds) {i : Nat} {p : Pd} (hi : pds[i]? = some p) :
    ∃ g cap fv bv, v = .slice (some ⟨g, 0, none⟩) pds.length cap ∧ base ≤ g ∧ (pds.length ≤ cap ∧ pds.length ≤ maxLen) ∧ (∀ j u, (cellsPd p (fv, bv))[j]? = some u → W.cell? ⟨g, i * 7 + j, none⟩ = some u) ∧ FsAt W fv p.req.fields ∧ BoAt W bv p.req.body := by
  obtain ⟨vs, hl, ho, ha, hz⟩ := h
  have hlt := (List.getElem?_eq_some_iff.1 hi).1
  obtain ⟨x, hx⟩ : ∃ x, vs[i]? = some x := ⟨_, List.getElem?_eq_getElem (by omega)⟩
  obtain ⟨hf, hb⟩ := ha i p x hi hx
  rcases ho.2 with ⟨rfl, h0⟩ | ⟨g, cap, cur, rfl, hg, hh, hc, hm, hs, ht⟩
  · omega
  · refine ⟨g, cap, x.1, x.2, rfl, hg, ⟨hc, by omega⟩, fun j u hj => ?_, hf, hb⟩
    have hj7 : j < 7 := by have := (List.getElem?_eq_some_iff.1 hj).1; simpa [cellsPd] using this
    rw [cell_of_block hh]
    have e1 : (cellsPds pds vs)[i * 7 + j]? = some u := by
      exact cellsPds_get pds vs i p x j u hl hi hx hj
    rw [← ht, List.getElem?_take, if_pos (by omega)] at e1
    simpa using e1
theorem PdsAt.shape {W : World} {base : Nat} {v : Value} {pds : List Pd} (h : PdsAt W base v pds) : ∃ a c, v = .slice a pds.length c := by
  obtain ⟨vs, hl, ho, ha, hz⟩ := h
  obtain ⟨a, c, e, _⟩ := row_shape ho
  exact ⟨a, c, e⟩
theorem new_at {w : World} {b : Nat} (h : w.heap[b]? = some (.cells (PsCells (.slice none 0 0) 0 false [] [] 0 (.slice none 0 0) (.slice none 0 0) false 0) 62 (0, 0))) : PAt w b Ps.new :=
  .inr ⟨by decide, _, _, _, h, .inl ⟨rfl, rfl⟩, FsAt.nil _, BoAt.nil _⟩
theorem new_inv : PsInv Ps.new := ⟨Nat.zero_le _, Nat.zero_le _, Nat.zero_le _, Nat.zero_le _, fun _ => rfl⟩
theorem PAt.blk {w : World} {b : Nat} {s : Ps} (h : PAt w b s) : ∃ cs, w.heap[b]? = some (.cells cs 62 (0, 0)) ∧ NoU8 cs := by
  rcases h with ⟨_, a1, a2, a3, a4, a5, a6, a7, a8, y⟩ | ⟨_, y⟩
  · exact ⟨_, y, no_u8_ps _ _ _ _ _ _ _ _ _ _ _ _⟩
  · exact y.blk
/-- A reader lies still where another one is written. -/
theorem PAt.kept_ne {W W' : World} {b k : Nat} {s s2 : Ps} (h : PAt W b s) (g : W.grownBy W' (some k)) (hk : PAt W k s2) (hne : b ≠ k) : PAt W' b s := by
  obtain ⟨cs, hcs, hu⟩ := hk.blk
  rcases h with ⟨x, a1, a2, a3, a4, a5, a6, a7, a8, y⟩ | ⟨x, rv, fv, bv, x1, x2, x3, x4⟩
  · exact .inl ⟨x, a1, a2, a3, a4, a5, a6, a7, a8, gr_keep g y (by simpa using hne)⟩
  · exact .inr ⟨x, rv, fv, bv, gr_keep g x1 (by simpa using hne), x2.kept g hcs (by decide), x3.kept g hcs (by decide), x4.kept g hcs (by decide) hu⟩
theorem PdsAt.kept_ps {W W' : World} {base k : Nat} {v : Value} {pds : List Pd} {s2 : Ps} (h : PdsAt W base v pds) (g : W.grownBy W' (some k)) (hk : PAt W k s2) : PdsAt W' base v pds := by
  obtain ⟨cs, hcs, hu⟩ := hk.blk
  exact h.kept g hcs (by decide) (by decide) (by decide) hu
theorem bytes_lit {w : World} {g : Nat} {C : Array Value} {T : TypeId} {r : Nat × Nat} {l : List UInt8} (n : Nat) (hn : l.length = n) (h : w.heap[g]? = some (.cells C T r)) (hC : C.toList = l.map bv) (hm : n ≤ 1000000) : Bytes w (.slice (some ⟨g, 0, none⟩) n n) l := by
  subst hn
  refine ⟨_, l.length, rfl, Nat.le_refl _, by unfold maxLen; omega, fun _ => ⟨g, 0, rfl, fun i hi => ?_⟩⟩
  rw [Nat.zero_add, show w.cell? ⟨g, i, none⟩ = C[i]? by simp [World.cell?, h], ← Array.getElem?_toList, hC, List.getElem?_map, List.getElem?_eq_getElem hi, List.getD_eq_getElem?_getD, List.getElem?_eq_getElem hi]
  rfl
theorem check1_out {r : List Pd × Ps} (h : check1 r = true) : ∃ p, r.1 = [p] ∧ p.req.body = [104, 105] ∧ p.req.keep = true := by
  obtain ⟨l, s⟩ := r
  unfold check1 at h
  match l, h with
  | [p], h =>
    simp only [Bool.and_eq_true, beq_iff_eq] at h
    exact ⟨p, rfl, h.1.1, h.1.2⟩
theorem check2_out {r : List Pd × Ps} (h : check2 r = true) : ∃ p, r.1 = [p] ∧ p.status = 411 ∧ r.2.stage = 5 := by
  obtain ⟨l, s⟩ := r
  unfold check2 at h
  match l, h with
  | [p], h =>
    simp only [Bool.and_eq_true, beq_iff_eq] at h
    exact ⟨p, rfl, h.1, h.2⟩
set_option maxRecDepth 20000 in
set_option maxHeartbeats 4000000 in
theorem speaks_http (w : World) (mx : Int) (hm : w.cell? ⟨0, 0, none⟩ = some (.int .i64 mx)) :
    Calls Tryz.prog 6 #[] w fun e w' => e = .returned (.bool true) ∧ w.grownBy w' none := by
  have HM := hid hm
  have hsz : 0 < w.heap.size := World.block_lt_of_cell? _ _ hm
  clear hm
  go_enter Tryz.func6, Tryz.ntmps6
  go_wp2_with fail
  refine (new_http w).mono ?_
  rintro e w1 ⟨rfl, hb1, g1⟩
  go_wp2_with fail
  refine (new_http w1).mono ?_
  rintro e w2 ⟨rfl, hb2, g2⟩
  have hz1 := g1.size
  have hlt1 := lt_of_block hb1
  obtain ⟨p, hp⟩ : ∃ x, x = w.heap.size := ⟨_, rfl⟩
  obtain ⟨q, hq⟩ : ∃ x, x = w1.heap.size := ⟨_, rfl⟩
  rw [← hp] at hb1 hsz hlt1 ⊢
  rw [← hq] at hb2 hlt1 ⊢
  have hp0 : p ≠ 0 := by omega
  have hq0 : q ≠ 0 := by omega
  have HP := hid (new_at (gr_keep g2 hb1 (by simp)))
  have HQ := hid (new_at hb2)
  have HM2 := hid (g2.cell (g1.cell HM.out (by simp)) (by simp))
  have G2 := hid (gr_trans g1 g2)
  have HPQ := hid (show p < q from hlt1)
  have HPP := hid hp
  clear g1 g2 hb1 hb2 hz1 hlt1 hp hq hsz
  have hcv := Lib.run_convert_bytes_const (P := Tryz.prog) w2 22 5 #[.int .u8 80, .int .u8 79, .int .u8 83, .int .u8 84, .int .u8 32, .int .u8 47, .int .u8 99, .int .u8 32, .int .u8 72, .int .u8 84, .int .u8 84, .int .u8 80, .int .u8 47, .int .u8 49, .int .u8 46, .int .u8 49, .int .u8 13, .int .u8 10, .int .u8 72, .int .u8 111, .int .u8 115, .int .u8 116, .int .u8 58, .int .u8 32, .int .u8 97, .int .u8 13, .int .u8 10, .int .u8 67, .int .u8 111, .int .u8 110, .int .u8 116, .int .u8 101, .int .u8 110, .int .u8 116, .int .u8 45, .int .u8 76, .int .u8 101, .int .u8 110, .int .u8 103, .int .u8 116, .int .u8 104, .int .u8 58, .int .u8 32, .int .u8 50, .int .u8 13, .int .u8 10, .int .u8 13, .int .u8 10, .int .u8 104, .int .u8 105] 50 50 Tryz.underlying22 Tryz.underlying5
  have hC := heap_alloc_new w2 (.cells #[.int .u8 80, .int .u8 79, .int .u8 83, .int .u8 84, .int .u8 32, .int .u8 47, .int .u8 99, .int .u8 32, .int .u8 72, .int .u8 84, .int .u8 84, .int .u8 80, .int .u8 47, .int .u8 49, .int .u8 46, .int .u8 49, .int .u8 13, .int .u8 10, .int .u8 72, .int .u8 111, .int .u8 115, .int .u8 116, .int .u8 58, .int .u8 32, .int .u8 97, .int .u8 13, .int .u8 10, .int .u8 67, .int .u8 111, .int .u8 110, .int .u8 116, .int .u8 101, .int .u8 110, .int .u8 116, .int .u8 45, .int .u8 76, .int .u8 101, .int .u8 110, .int .u8 103, .int .u8 116, .int .u8 104, .int .u8 58, .int .u8 32, .int .u8 50, .int .u8 13, .int .u8 10, .int .u8 13, .int .u8 10, .int .u8 104, .int .u8 105] 5 (50, 51))
  have g3 := World.grownBy_alloc w2 (.cells #[.int .u8 80, .int .u8 79, .int .u8 83, .int .u8 84, .int .u8 32, .int .u8 47, .int .u8 99, .int .u8 32, .int .u8 72, .int .u8 84, .int .u8 84, .int .u8 80, .int .u8 47, .int .u8 49, .int .u8 46, .int .u8 49, .int .u8 13, .int .u8 10, .int .u8 72, .int .u8 111, .int .u8 115, .int .u8 116, .int .u8 58, .int .u8 32, .int .u8 97, .int .u8 13, .int .u8 10, .int .u8 67, .int .u8 111, .int .u8 110, .int .u8 116, .int .u8 101, .int .u8 110, .int .u8 116, .int .u8 45, .int .u8 76, .int .u8 101, .int .u8 110, .int .u8 103, .int .u8 116, .int .u8 104, .int .u8 58, .int .u8 32, .int .u8 50, .int .u8 13, .int .u8 10, .int .u8 13, .int .u8 10, .int .u8 104, .int .u8 105] 5 (50, 51)) none
  go_wp2_with fail
  revert hC g3
  clear hcv
  generalize w2.alloc _ = w3
  intro hC g3
  have HB1 := hid (bytes_lit (l := text1) 50 rfl hC rfl (by omega))
  have HP3 := hid (HP.out.grow g3)
  have HQ3 := hid (HQ.out.grow g3)
  have HM3 := hid (g3.cell HM2.out (by simp))
  have G3 := hid (gr_trans G2.out g3)
  clear hC g3 HP HQ HM2 G2
  refine (feed_http p Ps.new w3 mx text1 _ HP3.out new_inv HM3.out hp0 HB1.out (by decide)).mono ?_
  rintro e w4 ⟨v1, rfl, hpa, hst, g4⟩
  obtain ⟨p1, e1, hbody, hkeep⟩ := check1_out text1_read
  rw [e1] at hpa
  have HB := hid hbody
  have HK := hid hkeep
  have HPA := hid hpa
  have HQ4 := hid (HQ3.out.kept_ne g4 HP3.out (by have := HPQ.out; omega))
  have HM4 := hid (g4.cell HM3.out (by simpa using Ne.symm hp0))
  have G4 := hid (by have := gr_new G3.out g4 (by rw [HPP.out]; exact Nat.le_refl _); exact this)
  clear hpa hst g4 e1 hbody hkeep HP3 HQ3 HM3 G3 HB1
  have hcv := Lib.run_convert_bytes_const (P := Tryz.prog) w4 22 5 #[.int .u8 80, .int .u8 79, .int .u8 83, .int .u8 84, .int .u8 32, .int .u8 47, .int .u8 99, .int .u8 32, .int .u8 72, .int .u8 84, .int .u8 84, .int .u8 80, .int .u8 47, .int .u8 49, .int .u8 46, .int .u8 49, .int .u8 13, .int .u8 10, .int .u8 72, .int .u8 111, .int .u8 115, .int .u8 116, .int .u8 58, .int .u8 32, .int .u8 97, .int .u8 13, .int .u8 10, .int .u8 13, .int .u8 10, .int .u8 104, .int .u8 105] 31 31 Tryz.underlying22 Tryz.underlying5
  have hC := heap_alloc_new w4 (.cells #[.int .u8 80, .int .u8 79, .int .u8 83, .int .u8 84, .int .u8 32, .int .u8 47, .int .u8 99, .int .u8 32, .int .u8 72, .int .u8 84, .int .u8 84, .int .u8 80, .int .u8 47, .int .u8 49, .int .u8 46, .int .u8 49, .int .u8 13, .int .u8 10, .int .u8 72, .int .u8 111, .int .u8 115, .int .u8 116, .int .u8 58, .int .u8 32, .int .u8 97, .int .u8 13, .int .u8 10, .int .u8 13, .int .u8 10, .int .u8 104, .int .u8 105] 5 (31, 32))
  have g5 := World.grownBy_alloc w4 (.cells #[.int .u8 80, .int .u8 79, .int .u8 83, .int .u8 84, .int .u8 32, .int .u8 47, .int .u8 99, .int .u8 32, .int .u8 72, .int .u8 84, .int .u8 84, .int .u8 80, .int .u8 47, .int .u8 49, .int .u8 46, .int .u8 49, .int .u8 13, .int .u8 10, .int .u8 72, .int .u8 111, .int .u8 115, .int .u8 116, .int .u8 58, .int .u8 32, .int .u8 97, .int .u8 13, .int .u8 10, .int .u8 13, .int .u8 10, .int .u8 104, .int .u8 105] 5 (31, 32)) none
  go_wp2_with fail
  revert hC g5
  clear hcv
  generalize w4.alloc _ = w5
  intro hC g5
  have HB2 := hid (bytes_lit (l := text2) 31 rfl hC rfl (by omega))
  have HQ5 := hid (HQ4.out.grow g5)
  have HPA5 := hid (HPA.out.grow g5)
  have HM5 := hid (g5.cell HM4.out (by simp))
  have G5 := hid (gr_trans G4.out g5)
  clear hC g5 HPA HQ4 HM4 G4
  refine (feed_http q Ps.new w5 mx text2 _ HQ5.out new_inv HM5.out hq0 HB2.out (by decide)).mono ?_
  rintro e w6 ⟨v2, rfl, hpa, hst, g6⟩
  obtain ⟨p2, e2, hstat, hdead⟩ := check2_out text2_read
  rw [e2] at hpa
  have HPA6 := hid (HPA5.out.kept_ps g6 HQ5.out)
  have HST := hid hst
  have HDD := hid hdead
  have G6 := hid (gr_new G5.out g6 (by have := HPQ.out; rw [← HPP.out]; omega))
  obtain ⟨ga, ca, fva, bva, rfl, -, hca, hcella, -, hboa⟩ := HPA6.out.get (i := 0) rfl
  obtain ⟨gb, cb, fvb, bvb, rfl, -, hcb, hcellb, -, -⟩ := hpa.get (i := 0) rfl
  obtain ⟨xa, xc, rfl, hx1, hx2⟩ := hboa.shape
  rw [HB.out] at hboa hx1
  have k5 : w6.cell? ⟨ga, 5, none⟩ = some (.slice xa 2 xc) := by have h := hcella 5 _ rfl; rw [HB.out] at h; exact h
  have k6 : w6.cell? ⟨ga, 6, none⟩ = some (.bool true) := by rw [← HK.out]; exact hcella 6 _ rfl
  have k0 : w6.cell? ⟨gb, 0, none⟩ = some (.int .i64 411) := by rw [← hstat]; exact hcellb 0 _ rfl
  have HBO := hid hboa.bytes
  clear hpa hst g6 e2 hstat hdead HQ5 HPA5 HPA6 HM5 G5 HB2 hcella hcellb hboa hx1 hx2 HB HK
  replace HBO : Hid (Bytes w6 (.slice xa 2 xc) [104, 105]) := HBO
  replace hca : 1 ≤ ca := hca.1
  replace hcb : 1 ≤ cb := hcb.1
  rw [show [p1].length = 1 from rfl, show [p2].length = 1 from rfl]
  go_wp2_with fail
  rw [run_b2s (l := [104, 105]) Tryz.underlying22 Tryz.underlying5 Tryz.underlying9 (v := .slice xa 2 xc) HBO.out]
  unfold str
  go_simp
  go_wp2_with fail
  refine (dead_http q _ w6 HST.out).mono ?_
  rintro e w7 ⟨rfl, rfl⟩
  rw [HDD.out]
  go_wp2_with fail
  go_ret
  exact ⟨rfl, G6.out⟩
end Go.Proofs.YtldbcdiomkkinaaGreatDoor
