/- (*http.Parser).Feed. -/
import Derived.Test.YtldbcdiomkkinaaGreatDoorHtv
import Derived.Test.YtldbcdiomkkinaaGreatDoorMD
namespace Go.Proofs.YtldbcdiomkkinaaGreatDoor
open Go.RowKit

theorem feedGo_stop {f : Nat} {s : Ps} {out : List Pd} {fin : List Pd × Ps} (h : feedGo (f + 1) s out = fin) (hc : (stepS s).1.stage = 5 ∨ ((stepS s).2.isNone = true ∧ (stepS s).1.stage = s.stage ∧ (stepS s).1.rest.length = s.rest.length)) : out ++ (stepS s).2.toList = fin.1 ∧ (stepS s).1 = fin.2 := by
  unfold feedGo at h
  dsimp only at h
  rw [if_pos hc] at h
  rw [← h]
  exact ⟨rfl, rfl⟩
theorem feedGo_next {f : Nat} {s : Ps} {out : List Pd} {fin : List Pd × Ps} (h : feedGo (f + 1) s out = fin) (hc : ¬ ((stepS s).1.stage = 5 ∨ ((stepS s).2.isNone = true ∧ (stepS s).1.stage = s.stage ∧ (stepS s).1.rest.length = s.rest.length))) : feedGo f (stepS s).1 (out ++ (stepS s).2.toList) = fin := by
  unfold feedGo at h
  dsimp only at h
  rw [if_neg hc] at h
  exact h
theorem fd_lt {s : Ps} {r : Ps × Option Pd} {o : Option Pd} (h : SF s r) (hns : ¬ (r.1.stage = 5 ∨ (o.isNone = true ∧ r.1.stage = s.stage ∧ r.1.rest.length = s.rest.length))) (ho : r.2 = o) : muS r.1 < muS s := by
  subst ho
  rcases h.2 with h | ⟨h1, h2⟩ | h
  · exact absurd (.inl h) hns
  · exact absurd (.inr ⟨by rw [h1]; rfl, by rw [h2], by rw [h2]⟩) hns
  · exact h
theorem fd_mu {s : Ps} {r : Ps × Option Pd} {o : Option Pd} {f : Nat} (h : SF s r) (hns : ¬ (r.1.stage = 5 ∨ (o.isNone = true ∧ r.1.stage = s.stage ∧ r.1.rest.length = s.rest.length))) (ho : r.2 = o) (hf : muS s < f + 1) : muS r.1 < f := by
  have := fd_lt h hns ho
  omega
def muW (b : Nat) (w : World) : Nat := 2 * lenOf ((w.cell? ⟨b, 0, none⟩).getD undef) + (match w.cell? ⟨b, 1, none⟩ with | some (.int _ z) => if z = 1 then 1 else 0 | _ => 0)
theorem muW_live {w : World} {b : Nat} {s : Ps} (h : PLive w b s) : muW b w = muS s := by
  obtain ⟨rv, fv, bv, hh, hr, -, -⟩ := h
  obtain ⟨ra, rc, rfl, -, -⟩ := hr.shape
  have c0 := (cell_of_block hh 0).trans (show _ = some (Value.slice ra s.rest.length rc) from rfl)
  have c1 := (cell_of_block hh 1).trans (show _ = some (Value.int .i64 (s.stage : Int)) from rfl)
  unfold muW muS
  rw [c0, c1]
  simp only [Option.getD_some, lenOf]
  by_cases h1 : s.stage = 1
  · rw [if_pos (by omega), if_pos h1]
  · rw [if_neg (by omega), if_neg h1]
theorem PLive.blk {w : World} {b : Nat} {s : Ps} (h : PLive w b s) : ∃ cs, w.heap[b]? = some (.cells cs 62 (0, 0)) ∧ NoU8 cs := by
  obtain ⟨rv, fv, bv, hh, hr, -, -⟩ := h
  obtain ⟨ra, rc, rfl, -, -⟩ := hr.shape
  exact ⟨_, hh, no_u8_ps _ _ _ _ _ _ _ _ _ _ _ _⟩
theorem PAt.lt {w : World} {b : Nat} {s : Ps} (h : PAt w b s) : b < w.heap.size := by
  rcases h with ⟨_, a1, a2, a3, a4, a5, a6, a7, a8, y⟩ | ⟨_, rv, fv, bv, y, _⟩
  · exact lt_of_block y
  · exact lt_of_block y
theorem PAt.live {w : World} {b : Nat} {s : Ps} (h : PAt w b s) (h5 : s.stage ≠ 5) : PLive w b s := by
  rcases h with ⟨x, _⟩ | ⟨_, y⟩
  · exact absurd x h5
  · exact y
theorem cell_own {w w' : World} {base : Nat} {v u : Value} {pds : List Pd} (h : w.cell? ⟨0, 0, none⟩ = some u) (hp : PdsAt w base v pds) (g : w.grownBy w' v.ownBlock) (h0 : 0 < base) : w'.cell? ⟨0, 0, none⟩ = some u := by
  refine g.cell h ?_
  rcases hp.block with e | ⟨k, cs, e, hk, -, -⟩
  · rw [e]; simp
  · rw [e]
    intro e
    have := Option.some.inj e
    dsimp only at this
    omega
theorem pd_one (p : Pd) (a : Option Addr) (n c : Nat) (a' : Option Addr) (n' c' : Nat) : ∀ u ∈ cellsPd p (.slice a n c, .slice a' n' c'), u.oneCell' = true := by
  intro u hu
  simp only [cellsPd, List.mem_cons, List.not_mem_nil, or_false] at hu
  rcases hu with rfl | rfl | rfl | rfl | rfl | rfl | rfl <;> rfl
def FdR (wE : World) (b : Nat) (mx : Int) (fin : List Pd × Ps) (v4 : Value) (wr : World) : Prop :=
  ∃ (s' : Ps) (pds : List Pd) (f : Nat), PLive wr b s' ∧ PsInv s' ∧ s'.stage ≠ 5 ∧ muS s' < f ∧ feedGo f s' pds = fin ∧ PdsAt wr wE.heap.size v4 pds ∧ wE.grownBy wr (some b) ∧ wr.cell? ⟨0, 0, none⟩ = some (.int .i64 mx) ∧ pds.length + muS s' ≤ 800000
/-- What Feed hands back and leaves. -/
def FeedPost (w : World) (b : Nat) (r : List Pd × Ps) (e : Ending) (w' : World) : Prop := ∃ v, e = .returned v ∧ PdsAt w' w.heap.size v r.1 ∧ PAt w' b r.2 ∧ w.grownBy w' (some b)
set_option maxHeartbeats 1000000 in
theorem feed_dead (b : Nat) (s : Ps) (w : World) (l : List UInt8) (v : Value) (h : PAt w b s) (h5 : s.stage = 5) : Calls Tryz.prog 16 #[.pointer (some ⟨b, 0, none⟩), v] w (FeedPost w b (feedL s l)) := by
  have c1 := h.stage
  rw [h5] at c1
  have HS := hid (show feedL s l = ([], s) by unfold feedL; exact if_pos h5)
  have HA := hid h
  have hlt := h.lt
  clear h h5
  go_enter Tryz.func16, Tryz.ntmps16
  go_wp2_with fail
  go_ret
  exact ⟨_, rfl, by rw [HS.out]; exact PdsAt.nil _ _, by rw [HS.out]; exact HA.out, gr_refl _ _⟩
set_option maxRecDepth 20000 in
set_option maxHeartbeats 4000000 in
theorem feed_live (b : Nat) (s : Ps) (wE : World) (mx : Int) (l : List UInt8) (v : Value) (h : PLive wE b s) (hi : PsInv s) (h5 : s.stage ≠ 5) (hm : wE.cell? ⟨0, 0, none⟩ = some (.int .i64 mx)) (hb0 : b ≠ 0) (hv : Bytes wE v l) (hl : s.rest.length + l.length ≤ 200000) :
    Calls Tryz.prog 16 #[.pointer (some ⟨b, 0, none⟩), v] wE (FeedPost wE b (feedL s l)) := by
  have HI := hid hi
  have H5 := hid h5
  have HM := hid hm
  have HB0 := hid hb0
  have HV := hid hv
  obtain ⟨rv, fv, bv, hh, hr, hf, hb⟩ := h
  obtain ⟨ra, rc, rfl, hr1, hr2⟩ := hr.shape
  obtain ⟨fa, fc, rfl⟩ := hf.shape
  obtain ⟨ba, bc, rfl, hb1, hb2⟩ := hb.shape
  have c0 := (cell_of_block hh 0).trans (show _ = some (Value.slice ra s.rest.length rc) from rfl)
  have c1 := (cell_of_block hh 1).trans (show _ = some (Value.int .i64 (s.stage : Int)) from rfl)
  have hlt := lt_of_block hh
  have h5b : (((s.stage : Nat) : Int) == 5) = false := by rw [beq_eq_false_iff_ne]; omega
  have HR := hid hr
  have HF := hid hf
  have HBo := hid hb
  have HH := hid hh
  have HZ := hid (show 0 < wE.heap.size by omega)
  clear hi h5 hm hb0 hv hr hf hb hh
  go_enter Tryz.func16, Tryz.ntmps16
  go_wp2_with fail
  refine (clone_by s.rest _ wE HR.out.bytes (by rcases HR.out with ⟨h, _⟩ | ⟨g, off, cap, cs, h, _⟩; exact .inl h; exact .inr ⟨_, _, _, h⟩) (by omega)).mono ?_
  rintro e w2 ⟨v2, rfl, hown2, g2⟩
  have HOW2 := hid hown2
  have HG2 := hid g2
  have HH2 := hid (gr_keep g2 HH.out (by simp))
  clear hown2 g2 c0 c1 hlt h5b
  go_upto_region 4 with (at_builtin; refine wpl_app8 rfl _ _ rfl rfl rfl HOW2.out (HV.out.grown HG2.out) (by omega) HG2.out.size ?_; intro v3 w3 hown3 g3; obtain ⟨a3, c3, e3, -, -⟩ := hown3.byAt.shape; subst e3; have hh3 := keep_own HOW2.out g3 HH2.out (by decide); have c0 := (cell_of_block hh3 0).trans (show _ = some (Value.slice ra s.rest.length rc) from rfl); have f0 := free_of_block hh3 0; have l3 := lt_of_block hh3)
  obtain ⟨w4, hw4⟩ : ∃ x, x = w3.setCell ⟨b, 0, none⟩ (.slice a3 (s.rest.length + l.length) c3) := ⟨_, rfl⟩
  rw [← hw4]
  have hb4 : w4.heap[b]? = some (.cells (PsCells (.slice a3 (s.rest ++ l).length c3) (s.stage : Int) s.skip s.req.method s.req.target s.req.minor (.slice fa s.req.fields.length fc) (.slice ba s.req.body.length bc) s.req.keep (s.left : Int)) 62 (0, 0)) := by rw [hw4, List.length_append]; exact heap_set hh3
  have g4 : w3.grownBy w4 (some b) := by rw [hw4]; exact gr_set (gr_refl _ _)
  have hg3 : wE.grownBy w3 none := gr_row (row := none) HG2.out HOW2.out (Nat.le_refl _) g3
  have HF4 := hid ((HF.out.grow hg3).kept g4 hh3 (by decide))
  have HBo4 := hid ((HBo.out.grow hg3).kept g4 hh3 (by decide) (no_u8_ps _ _ _ _ _ _ _ _ _ _ _ _))
  have HR4 := hid (hown3.byAt.kept g4 hh3 (by decide))
  have G4 := hid (gr_trans (gr_none hg3) g4)
  have HLV := hid (show PLive w4 b { s with rest := s.rest ++ l } from ⟨_, _, _, hb4, HR4.out, HF4.out, HBo4.out⟩)
  have HI4 := hid (show PsInv { s with rest := s.rest ++ l } from ⟨by show (s.rest ++ l).length ≤ 200000; rw [List.length_append]; exact hl, HI.out.2⟩)
  have HM4 := hid (G4.out.cell HM.out (by simpa using Ne.symm HB0.out))
  have HFE := hid (show feedL s l = feedGo (2 * (s.rest ++ l).length + 2) { s with rest := s.rest ++ l } [] by unfold feedL; exact if_neg H5.out)
  have HMU := hid (show muS { s with rest := s.rest ++ l } < 2 * (s.rest ++ l).length + 2 by unfold muS; dsimp only; split <;> omega)
  have HLE := hid (show (s.rest ++ l).length ≤ 200000 by rw [List.length_append]; exact hl)
  obtain ⟨iP, hi', hz', hs', hb'⟩ := info_parts infoParsed
  have hiP := hid hi'
  have hzP := hid hz'
  have hsP := hid hs'
  have hbP := hid hb'
  clear hw4 g4 hb4 hg3 hh3 g3 hown3 c0 f0 l3 HOW2 HG2 HH2 HR HF HBo HH hi' hz' hs' hb' hr1 hr2 hb1 hb2 HI HM HV
  go_loopw [4] (fun v4 wr => FdR wE b mx (feedL s l) v4 wr) (fun _ wr => muW b wr)
  case atStart => exact ⟨_, [], _, HLV.out, HI4.out, (show s.stage ≠ 5 from H5.out), HMU.out, HFE.out.symm, PdsAt.nil _ _, G4.out, HM4.out, by have := HMU.out; have := HLE.out; simp; omega⟩
  case round =>
    clear HLV HI4 HMU HFE HLE G4 HM4 H5
    obtain ⟨s', pds, f, hlv, hi, h5, hf, hfin, hp, gw, hmr, hpl⟩ := hrel
    obtain ⟨f, rfl⟩ : ∃ f', f = f' + 1 := ⟨f - 1, by omega⟩
    have MUW := hid (muW_live hlv)
    have HLR := hid hlv
    have HI := hid hi
    have H5 := hid h5
    have HMU := hid hf
    have HF := hid hfin
    have HPR := hid hp
    have GWR := hid gw
    have HMR := hid hmr
    have HPL := hid hpl
    obtain ⟨rv, fv, bv, hh, hr, -, -⟩ := hlv
    obtain ⟨ra, rc, rfl, -, -⟩ := hr.shape
    obtain ⟨rn, hrn⟩ : ∃ x, x = s'.rest.length := ⟨_, rfl⟩
    rw [← hrn] at hh
    have HHr := hid hh
    have HRN := hid hrn
    clear hi h5 hf hfin hp gw hmr hpl hh hr hrn
    go_upto_region 4 with fail
    refine wp_region_spec2 (by kernel_rfl) (by kernel_rfl) (n := 11) (by kernel_rfl) [some 24, some 25, some 26, some 27, some 28, some 29, some 30, some 31, some 32, some 5, some 6] (by kernel_rfl) _ (fun u => (by simp only [fill, List.zipIdx_cons, List.zipIdx_nil, List.foldl_cons, List.foldl_nil, Act.put, List.setIfInBounds_toArray, List.set_cons_zero, List.set_cons_succ, Nat.zero_add, Nat.reduceAdd]; exact rfl)) (by kernel_rfl)
      (all_succ (all_succ (all_succ (all_succ (all_succ (all_succ (all_succ (all_succ (all_succ (all_succ (all_succ (all_zero _) (fun u v => by kernel_rfl)) (fun u v => by kernel_rfl)) (fun u v => by kernel_rfl)) (fun u v => by kernel_rfl)) (fun u v => by kernel_rfl)) (fun u v => by kernel_rfl)) (fun u v => by kernel_rfl)) (fun u v => by kernel_rfl)) (fun u v => by kernel_rfl)) (fun u v => by kernel_rfl)) (fun u v => by kernel_rfl))
      (fun ri v w => match ri with | 0 => v = .pointer (some ⟨b, 0, none⟩) | 1 => v = .pointer (some ⟨b, 0, none⟩) | 2 => v = .pointer (some ⟨b, 1, none⟩) | 3 => v = .int .i64 (s'.stage : Int) | 4 => v = .pointer (some ⟨b, 0, none⟩) | 5 => v = .pointer (some ⟨b, 0, none⟩) | 6 => v = .pointer (some ⟨b, 0, none⟩) | 7 => v = .slice ra rn rc | 8 => v = .int .i64 (rn : Int) | 9 => v = .int .i64 (s'.stage : Int) | 10 => v = .int .i64 (rn : Int) | _ => True)
      (all_succ (all_succ (all_succ (all_succ (all_succ (all_succ (all_succ (all_succ (all_succ (all_succ (all_succ (all_zero _) ?m0) ?m1) ?m2) ?m3) ?m4) ?m5) ?m6) ?m7) ?m8) ?m9) ?m10)
      [[], [0], [1], [2], [], [4], [5], [6], [7], [3], [8]] (by kernel_rfl)
      ⟨?o0, ?o1, ?o2, ?o3, ?o4, ?o5, ?o6, ?o7, ?o8, ?o9, ?o10, trivial⟩ ?done
    case m0 => intro v w w' h g; exact h
    case m1 => intro v w w' h g; exact h
    case m2 => intro v w w' h g; exact h
    case m3 => intro v w w' h g; exact h
    case m4 => intro v w w' h g; exact h
    case m5 => intro v w w' h g; exact h
    case m6 => intro v w w' h g; exact h
    case m7 => intro v w w' h g; exact h
    case m8 => intro v w w' h g; exact h
    case m9 => intro v w w' h g; exact h
    case m10 => intro v w w' h g; exact h
    case o0 =>
      intro u w g hd K hK
      clear hd
      simp only [Act.put, List.setIfInBounds_toArray, List.set_cons_zero, List.set_cons_succ] at hK
      go_simp
      exact hK _ _ rfl (gr_refl _ _)
    case o1 =>
      intro u w g hd K hK
      have h0 : (u 0) = .pointer (some ⟨b, 0, none⟩) := hd 0 (by simp)
      clear hd
      simp only [Act.put, List.setIfInBounds_toArray, List.set_cons_zero, List.set_cons_succ] at hK
      simp only [h0] at hK ⊢
      go_simp
      exact hK _ _ rfl (gr_refl _ _)
    case o2 =>
      intro u w g hd K hK
      have h1 : (u 1) = .pointer (some ⟨b, 0, none⟩) := hd 1 (by simp)
      clear hd
      simp only [Act.put, List.setIfInBounds_toArray, List.set_cons_zero, List.set_cons_succ] at hK
      simp only [h1] at hK ⊢
      go_simp
      exact hK _ _ rfl (gr_refl _ _)
    case o3 =>
      intro u w g hd K hK
      have h2 : (u 2) = .pointer (some ⟨b, 1, none⟩) := hd 2 (by simp)
      clear hd
      simp only [Act.put, List.setIfInBounds_toArray, List.set_cons_zero, List.set_cons_succ] at hK
      have c' := (cell_of_block (gr_keep g HHr.out (by simp)) 1).trans (show _ = some (Value.int .i64 (s'.stage : Int)) from rfl)
      simp only [h2] at hK ⊢
      go_simp
      exact hK _ _ rfl (gr_refl _ _)
    case o4 =>
      intro u w g hd K hK
      clear hd
      simp only [Act.put, List.setIfInBounds_toArray, List.set_cons_zero, List.set_cons_succ] at hK
      go_simp
      exact hK _ _ rfl (gr_refl _ _)
    case o5 =>
      intro u w g hd K hK
      have h4 : (u 4) = .pointer (some ⟨b, 0, none⟩) := hd 4 (by simp)
      clear hd
      simp only [Act.put, List.setIfInBounds_toArray, List.set_cons_zero, List.set_cons_succ] at hK
      simp only [h4] at hK ⊢
      go_simp
      exact hK _ _ rfl (gr_refl _ _)
    case o6 =>
      intro u w g hd K hK
      have h5 : (u 5) = .pointer (some ⟨b, 0, none⟩) := hd 5 (by simp)
      clear hd
      simp only [Act.put, List.setIfInBounds_toArray, List.set_cons_zero, List.set_cons_succ] at hK
      simp only [h5] at hK ⊢
      go_simp
      exact hK _ _ rfl (gr_refl _ _)
    case o7 =>
      intro u w g hd K hK
      have h6 : (u 6) = .pointer (some ⟨b, 0, none⟩) := hd 6 (by simp)
      clear hd
      simp only [Act.put, List.setIfInBounds_toArray, List.set_cons_zero, List.set_cons_succ] at hK
      have c' := (cell_of_block (gr_keep g HHr.out (by simp)) 0).trans (show _ = some (Value.slice ra rn rc) from rfl)
      simp only [h6] at hK ⊢
      go_simp
      exact hK _ _ rfl (gr_refl _ _)
    case o8 =>
      intro u w g hd K hK
      have h7 : (u 7) = .slice ra rn rc := hd 7 (by simp)
      clear hd
      simp only [Act.put, List.setIfInBounds_toArray, List.set_cons_zero, List.set_cons_succ] at hK
      simp only [h7] at hK ⊢
      go_simp
      exact hK _ _ rfl (gr_refl _ _)
    case o9 =>
      intro u w g hd K hK
      have h3 : (u 3) = .int .i64 (s'.stage : Int) := hd 3 (by simp)
      clear hd
      simp only [Act.put, List.setIfInBounds_toArray, List.set_cons_zero, List.set_cons_succ] at hK
      simp only [h3] at hK ⊢
      go_simp
      exact hK _ _ rfl (gr_refl _ _)
    case o10 =>
      intro u w g hd K hK
      have h8 : (u 8) = .int .i64 (rn : Int) := hd 8 (by simp)
      clear hd
      simp only [Act.put, List.setIfInBounds_toArray, List.set_cons_zero, List.set_cons_succ] at hK
      simp only [h8] at hK ⊢
      go_simp
      exact hK _ _ rfl (gr_refl _ _)
    case done =>
      intro u w hS g
      have s0 : (u 0) = .pointer (some ⟨b, 0, none⟩) := hS 0 (by decide)
      have s1 : (u 1) = .pointer (some ⟨b, 0, none⟩) := hS 1 (by decide)
      have s2 : (u 2) = .pointer (some ⟨b, 1, none⟩) := hS 2 (by decide)
      have s3 : (u 3) = .int .i64 (s'.stage : Int) := hS 3 (by decide)
      have s4 : (u 4) = .pointer (some ⟨b, 0, none⟩) := hS 4 (by decide)
      have s5 : (u 5) = .pointer (some ⟨b, 0, none⟩) := hS 5 (by decide)
      have s6 : (u 6) = .pointer (some ⟨b, 0, none⟩) := hS 6 (by decide)
      have s7 : (u 7) = .slice ra rn rc := hS 7 (by decide)
      have s8 : (u 8) = .int .i64 (rn : Int) := hS 8 (by decide)
      have s9 : (u 9) = .int .i64 (s'.stage : Int) := hS 9 (by decide)
      have s10 : (u 10) = .int .i64 (rn : Int) := hS 10 (by decide)
      clear hS
      rw [s9, s10]
      have GG := hid g
      have HLW := hid (HLR.out.grow g)
      have HPW := hid (HPR.out.grow g)
      have GW := hid (gr_trans GWR.out (gr_none g))
      have HMW := hid (g.cell HMR.out (by simp))
      clear s0 s1 s2 s3 s4 s5 s6 s7 s8 s9 s10 g HMR GWR
      generalize u 0 = x0, u 1 = x1, u 2 = x2, u 3 = x3, u 4 = x4, u 5 = x5, u 6 = x6, u 7 = x7, u 8 = x8
      go_wp2_with fail
      refine (step_http b s' w mx HLW.out HI.out H5.out HMW.out HB0.out).mono ?_
      intro e w2 hps
      obtain ⟨hpa, g2, hres⟩ := hps
      have HPA := hid hpa
      obtain ⟨csb, hcsb, hub⟩ := HLW.out.blk
      have HP2 := hid (HPW.out.kept g2 hcsb (by decide) (by decide) (by decide) hub)
      have G2 := hid (gr_trans GW.out g2)
      have HM2 := hid (g2.cell HMW.out (by simpa using Ne.symm HB0.out))
      have HSF := hid (SF.step HI.out H5.out)
      have HFIN := hid (feedGo_stop HF.out)
      have HFIN2 := hid (feedGo_next HF.out)
      clear hpa g2 HPW GW HMW HLW HF hcsb hub csb
      obtain ⟨r, hr⟩ : ∃ r, r = stepS s' := ⟨_, rfl⟩
      rw [← hr] at HPA HSF HFIN HFIN2 hres
      clear hr
      rcases hres with ⟨hno, rfl⟩ | ⟨p, fa, fc, ba, bc, hp, rfl, hfs, hbo⟩
      · have HNO := hid hno
        rw [hno] at HFIN HFIN2
        clear hno
        unfold PdCells str
        go_upto_region 8 with fail
        have hA := heap_alloc_new w2 (.cells #[.int .i64 0, .string ⟨#[]⟩, .string ⟨#[]⟩, .int .i64 0, .slice none 0 0, .slice none 0 0, .bool false] 46)
        have g3 := World.grownBy_alloc w2 (.cells #[.int .i64 0, .string ⟨#[]⟩, .string ⟨#[]⟩, .int .i64 0, .slice none 0 0, .slice none 0 0, .bool false] 46) none
        revert hA g3
        generalize w2.alloc _ = w3
        intro hA g3
        have HPA3 := hid (HPA.out.grow g3)
        have HP3 := hid (HP2.out.grow g3)
        have G3 := hid (gr_trans G2.out (gr_none g3))
        have HM3 := hid (g3.cell HM2.out (by simp))
        clear HPA G2 HM2
        have c1 := HPA3.out.stage
        have l3 := HPA3.out.lt
        by_cases h5' : r.1.stage = 5
        · have h5i : ((r.1.stage : Nat) : Int) = 5 := by omega
          have h5b : (((r.1.stage : Nat) : Int) == 5) = true := by simp [h5']
          rw [h5i] at c1
          have HS := hid (HFIN.out (.inl h5'))
          clear h5i h5b h5'
          go_wp2_with fail
          go_ret
          exact ⟨_, rfl, by rw [← HS.out.1]; simpa using HP3.out, by rw [← HS.out.2]; exact HPA3.out, G3.out⟩
        · have h5b : (((r.1.stage : Nat) : Int) == 5) = false := by rw [beq_eq_false_iff_ne]; omega
          have hlive := HPA3.out.live h5'
          have HLV := hid hlive
          obtain ⟨rv3, fv3, bv3, hh3, hr3, -, -⟩ := hlive
          obtain ⟨ra3, rc3, rfl, -, -⟩ := hr3.shape
          have c0 := (cell_of_block hh3 0).trans (show _ = some (Value.slice ra3 r.1.rest.length rc3) from rfl)
          clear hh3 hr3
          have H5' := hid h5'
          by_cases hse : r.1.stage = s'.stage
          · have hsb : (((r.1.stage : Nat) : Int) == ((s'.stage : Nat) : Int)) = true := by simp [hse]
            by_cases hle : r.1.rest.length = rn
            · have hlb : (((r.1.rest.length : Nat) : Int) == (rn : Int)) = true := by simp [hle]
              have HS := hid (HFIN.out (.inr ⟨rfl, hse, by rw [hle]; exact HRN.out⟩))
              clear hse hle h5'
              go_wp2_with fail
              go_ret
              exact ⟨_, rfl, by rw [← HS.out.1]; simpa using HP3.out, by rw [← HS.out.2]; exact HPA3.out, G3.out⟩
            · have hlb : (((r.1.rest.length : Nat) : Int) == (rn : Int)) = false := by rw [beq_eq_false_iff_ne]; omega
              have HNS := hid (show ¬ (r.1.stage = 5 ∨ ((none : Option Pd).isNone = true ∧ r.1.stage = s'.stage ∧ r.1.rest.length = s'.rest.length)) by rw [← HRN.out]; simp [H5'.out, hle])
              clear hse hle h5'
              go_wp2_with fail
              go_roundw
              case rel => exact ⟨r.1, _, f, HLV.out, HSF.out.1, H5'.out, fd_mu HSF.out HNS.out HNO.out HMU.out, HFIN2.out HNS.out, (by simpa using HP3.out), G3.out, HM3.out, by have := fd_lt HSF.out HNS.out HNO.out; have := HPL.out; simp; omega⟩
              case measure => rw [muW_live HLV.out, MUW.out]; exact fd_lt HSF.out HNS.out HNO.out
          · have hsb : (((r.1.stage : Nat) : Int) == ((s'.stage : Nat) : Int)) = false := by rw [beq_eq_false_iff_ne]; omega
            have HNS := hid (show ¬ (r.1.stage = 5 ∨ ((none : Option Pd).isNone = true ∧ r.1.stage = s'.stage ∧ r.1.rest.length = s'.rest.length)) by simp [H5'.out, hse])
            clear hse h5'
            go_wp2_with fail
            go_roundw
            case rel => exact ⟨r.1, _, f, HLV.out, HSF.out.1, H5'.out, fd_mu HSF.out HNS.out HNO.out HMU.out, HFIN2.out HNS.out, (by simpa using HP3.out), G3.out, HM3.out, by have := fd_lt HSF.out HNS.out HNO.out; have := HPL.out; simp; omega⟩
            case measure => rw [muW_live HLV.out, MUW.out]; exact fd_lt HSF.out HNS.out HNO.out
      · have HSO := hid hp
        rw [hp] at HFIN HFIN2
        have HFS := hid hfs
        have HBO := hid hbo
        clear hp hfs hbo
        unfold PdCells str
        go_upto_region 7 with fail
        have hA := heap_alloc_new w2 (.cells #[.int .i64 p.status, .string ⟨p.req.method.toArray⟩, .string ⟨p.req.target.toArray⟩, .int .i64 p.req.minor, .slice fa p.req.fields.length fc, .slice ba p.req.body.length bc, .bool p.req.keep] 46)
        have g3 := World.grownBy_alloc w2 (.cells #[.int .i64 p.status, .string ⟨p.req.method.toArray⟩, .string ⟨p.req.target.toArray⟩, .int .i64 p.req.minor, .slice fa p.req.fields.length fc, .slice ba p.req.body.length bc, .bool p.req.keep] 46) none
        revert hA g3
        generalize w2.alloc _ = w3
        intro hA g3
        have HPA3 := hid (HPA.out.grow g3)
        have HP3 := hid (HP2.out.grow g3)
        have G3 := hid (gr_trans G2.out (gr_none g3))
        have HM3 := hid (g3.cell HM2.out (by simp))
        clear HPA G2 HM2
        obtain ⟨vs, hvl, hown, hall, hnil⟩ := HP3.out
        obtain ⟨va, vc, rfl, hvc⟩ := row_shape hown
        have HVL := hid hvl
        have HOWN := hid hown
        have HALL := hid hall
        have HNIL := hid hnil
        have HFS3 := hid (HFS.out.grow g3)
        have HBO3 := hid (HBO.out.grow g3)
        have d0 := cell_of_block hA 0
        have d1 := cell_of_block hA 1
        have d2 := cell_of_block hA 2
        have d3 := cell_of_block hA 3
        have d4 := cell_of_block hA 4
        have d5 := cell_of_block hA 5
        have d6 := cell_of_block hA 6
        replace d0 := d0.trans (show _ = some (Value.int .i64 p.status) from rfl)
        replace d1 := d1.trans (show _ = some (Value.string ⟨p.req.method.toArray⟩) from rfl)
        replace d2 := d2.trans (show _ = some (Value.string ⟨p.req.target.toArray⟩) from rfl)
        replace d3 := d3.trans (show _ = some (Value.int .i64 p.req.minor) from rfl)
        replace d4 := d4.trans (show _ = some (Value.slice fa p.req.fields.length fc) from rfl)
        replace d5 := d5.trans (show _ = some (Value.slice ba p.req.body.length bc) from rfl)
        replace d6 := d6.trans (show _ = some (Value.bool p.req.keep) from rfl)
        have ln3 := lt_of_block hA
        have hpl : pds.length ≤ 1000000 := by have := HPL.out; omega
        clear hvl hown hall hnil hvc HP3 HFS HBO HP2 hA
        go_upto_region 8 with (at_builtin; refine wpList_append_own _ rfl _ _ 41 rfl wE.heap.size 46 iP _ 7 _ Tryz.underlying41 hiP.out hzP.out hsP.out hbP.out rfl (by decide) (.slice va pds.length vc) pds.length (cellsPds pds vs) rfl (HOWN.out.alloc _) ⟨w3.heap.size, 0, none⟩ 1 1 (cellsPd p (.slice fa p.req.fields.length fc, .slice ba p.req.body.length bc)) rfl rfl (fun j u hu => by rw [Go.WideShapes.add_plain, Nat.zero_add, cell_of_block (heap_alloc_new w3 _) j]; simpa [cellsPd, str] using hu) (pd_one p _ _ _ _ _ _) (by unfold maxLen; omega) (by omega) (by have := G3.out.size; simp; omega) ?_; intro v4 w4 hown4 g4 _)
        obtain ⟨va4, vc4, rfl, -⟩ := row_shape hown4
        have gA := World.grownBy_alloc w3 (.cells #[.int .i64 p.status, .string ⟨p.req.method.toArray⟩, .string ⟨p.req.target.toArray⟩, .int .i64 p.req.minor, .slice fa p.req.fields.length fc, .slice ba p.req.body.length bc, .bool p.req.keep] 46) none
        have hPa : PdsAt (w3.alloc (.cells #[.int .i64 p.status, .string ⟨p.req.method.toArray⟩, .string ⟨p.req.target.toArray⟩, .int .i64 p.req.minor, .slice fa p.req.fields.length fc, .slice ba p.req.body.length bc, .bool p.req.keep] 46)) wE.heap.size (.slice va pds.length vc) pds := (show PdsAt w3 wE.heap.size (.slice va pds.length vc) pds from ⟨vs, HVL.out, HOWN.out, HALL.out, HNIL.out⟩).grow gA
        have HP4 := hid (PdsAt.snoc HVL.out (row_none HOWN.out gA) (fun i q y hq hy => ⟨(HALL.out i q y hq hy).1.grow gA, (HALL.out i q y hq hy).2.grow gA⟩) HNIL.out (HFS3.out.grow gA) (HBO3.out.grow gA) hown4 g4)
        have HPA4 := hid ((HPA3.out.grow gA).own hPa g4)
        have HM4 := hid (cell_own (gA.cell HM3.out (by simp)) hPa g4 HZ.out)
        have G4 := hid (gr_row (gr_trans G3.out (gr_none gA)) hPa.choose_spec.2.1 (Nat.le_refl _) g4)
        clear hPa gA g4 hown4 HVL HOWN HALL HNIL HFS3 HBO3 HPA3 HM3 G3 d0 d1 d2 d3 d4 d5 d6 ln3
        have c1 := HPA4.out.stage
        have l4 := HPA4.out.lt
        by_cases h5' : r.1.stage = 5
        · have h5i : ((r.1.stage : Nat) : Int) = 5 := by omega
          rw [h5i] at c1
          have HS := hid (HFIN.out (.inl h5'))
          clear h5i h5'
          go_wp2_with fail
          go_ret
          exact ⟨_, rfl, by rw [← HS.out.1]; exact HP4.out, by rw [← HS.out.2]; exact HPA4.out, G4.out⟩
        · have h5b : (((r.1.stage : Nat) : Int) == 5) = false := by rw [beq_eq_false_iff_ne]; omega
          have HLV := hid (HPA4.out.live h5')
          have H5' := hid h5'
          have HNS := hid (show ¬ (r.1.stage = 5 ∨ ((some p : Option Pd).isNone = true ∧ r.1.stage = s'.stage ∧ r.1.rest.length = s'.rest.length)) by simp [H5'.out])
          clear h5'
          go_wp2_with fail
          go_roundw
          case rel => exact ⟨r.1, _, f, HLV.out, HSF.out.1, H5'.out, fd_mu HSF.out HNS.out HSO.out HMU.out, HFIN2.out HNS.out, HP4.out, G4.out, HM4.out, by have := fd_lt HSF.out HNS.out HSO.out; have := HPL.out; simp; omega⟩
          case measure => rw [muW_live HLV.out, MUW.out]; exact fd_lt HSF.out HNS.out HSO.out
        
end Go.Proofs.YtldbcdiomkkinaaGreatDoor
