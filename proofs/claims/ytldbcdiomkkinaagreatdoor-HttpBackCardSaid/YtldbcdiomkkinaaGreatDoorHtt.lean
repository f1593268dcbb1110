/- (*http.Parser).step at the stage of a body. -/
import Derived.Test.YtldbcdiomkkinaaGreatDoorHts
import Derived.Test.YtldbcdiomkkinaaGreatDoorMD
import Derived.Test.YtldbcdiomkkinaaGreatDoorHte2
namespace Go.Proofs.YtldbcdiomkkinaaGreatDoor
open Go.RowKit
set_option linter.unusedSimpArgs false

def KeepB (w0 : World) (b : Nat) (C : Value → Array Value) (w : World) : Prop := w0.grownBy w (some b) ∧ ∃ bv, w.heap[b]? = some (.cells (C bv) 62 (0, 0))
theorem Own8.kept2 {w w' : World} {base b : Nat} {v : Value} {l : List UInt8} (h : Own8 w base v l) (g : w.grownBy w' (some b)) (hb : b < base) : Own8 w' base v l := by
  refine ⟨h.1, ?_⟩
  rcases h.2 with h0 | ⟨k, cap, cur, rfl, hk, hh, r⟩
  · exact .inl h0
  · exact .inr ⟨k, cap, cur, rfl, hk, gr_keep g hh (by simp; omega), r⟩
theorem own8_base {w : World} {base base' : Nat} {v : Value} {l : List UInt8} (h : Own8 w base v l) (hb : base' ≤ base) : Own8 w base' v l := by
  refine ⟨h.1, ?_⟩
  rcases h.2 with h0 | ⟨k, cap, cur, rfl, hk, hh, r⟩
  · exact .inl h0
  · exact .inr ⟨k, cap, cur, rfl, by omega, hh, r⟩
set_option maxRecDepth 20000 in
set_option maxHeartbeats 40000000 in
theorem step_body (b : Nat) (s : Ps) (w : World) (h : PLive w b s) (hok : PsOk s) (hs : s.stage = 1) : Calls Tryz.prog 29 #[.pointer (some ⟨b, 0, none⟩)] w (StepPost w b (stepS s)) := by
  have hs5 : s.stage ≠ 5 := by rw [hs]; decide
  have HL := hid h
  have HOK := hid hok
  obtain ⟨rv, fv, bv, hh, hr, hf, hb⟩ := h
  obtain ⟨ra, rc, rfl, hr1, hr2⟩ := hr.shape
  obtain ⟨fa, fc, rfl⟩ := hf.shape
  obtain ⟨ba, bc, rfl, hb1, hb2⟩ := hb.shape
  have hlr : s.rest.length ≤ 1000000 := by have := hok.1; omega
  have hlf : s.left ≤ 8192 := hok.2.2
  have HSS := hid (show stepS s = bodyS s by unfold stepS; rw [hs]; rfl)
  have HR := hid hr
  have HF := hid hf
  have HBo := hid hb
  have HH := hid hh
  have d1 := (cell_of_block hh 1).trans (show _ = some (Value.int .i64 (s.stage : Int)) from rfl)
  rw [hs] at d1
  have hN := heap_alloc_new w (.cells #[.int .i64 0, .string ⟨#[]⟩, .string ⟨#[]⟩, .int .i64 0, .slice none 0 0, .slice none 0 0, .bool false] 46)
  have g1 := World.grownBy_alloc w (.cells #[.int .i64 0, .string ⟨#[]⟩, .string ⟨#[]⟩, .int .i64 0, .slice none 0 0, .slice none 0 0, .bool false] 46) none
  have hh2 := gr_keep g1 hh (by simp)
  have c0 := (cell_of_block hh2 0).trans (show _ = some (Value.slice ra s.rest.length rc) from rfl)
  have c1 := g1.cell d1 (by simp)
  have c9 := (cell_of_block hh2 9).trans (show _ = some (Value.int .i64 (s.left : Int)) from rfl)
  have HN := hid hN
  have HH2 := hid hh2
  have G1 := hid g1
  clear hok hr hf hb hh hh2 hN g1 d1
  go_enter Tryz.func29, Tryz.ntmps29
  go_upto_region 5 with fail
  generalize w.alloc _ = w0 at *
  obtain ⟨rn, hrn⟩ : ∃ x, x = s.rest.length := ⟨_, rfl⟩
  obtain ⟨L, hL⟩ : ∃ x, x = s.left := ⟨_, rfl⟩
  rw [← hrn] at c0 hr1 HH2 hlr
  rw [← hL] at c9 HH2 hlf
  have HEQ := hid (⟨hrn, hL⟩ : rn = s.rest.length ∧ L = s.left)
  clear hrn hL c1
  refine wp_region_spec2 (by kernel_rfl) (by kernel_rfl) (n := 10) (by kernel_rfl) [some 16, some 17, some 18, some 19, some 20, some 21, some 22, some 23, some 24, some 25] (by kernel_rfl) _ (fun u => (by simp only [fill, List.zipIdx_cons, List.zipIdx_nil, List.foldl_cons, List.foldl_nil, Act.put, List.setIfInBounds_toArray, List.set_cons_zero, List.set_cons_succ, Nat.zero_add, Nat.reduceAdd]; exact rfl)) (by kernel_rfl)
    (all_succ (all_succ (all_succ (all_succ (all_succ (all_succ (all_succ (all_succ (all_succ (all_succ (all_zero _) (fun u v => by kernel_rfl)) (fun u v => by kernel_rfl)) (fun u v => by kernel_rfl)) (fun u v => by kernel_rfl)) (fun u v => by kernel_rfl)) (fun u v => by kernel_rfl)) (fun u v => by kernel_rfl)) (fun u v => by kernel_rfl)) (fun u v => by kernel_rfl)) (fun u v => by kernel_rfl))
    (fun ri v w => match ri with | 0 => v = .pointer (some ⟨b, 0, none⟩) | 1 => v = .pointer (some ⟨b, 0, none⟩) | 2 => v = .pointer (some ⟨b, 0, none⟩) | 3 => v = .slice ra rn rc | 4 => v = .int .i64 (rn : Int) | 5 => v = .pointer (some ⟨b, 0, none⟩) | 6 => v = .pointer (some ⟨b, 0, none⟩) | 7 => v = .pointer (some ⟨b, 9, none⟩) | 8 => v = .int .i64 (L : Int) | 9 => v = .bool (decide (rn < L)) | _ => True)
    (all_succ (all_succ (all_succ (all_succ (all_succ (all_succ (all_succ (all_succ (all_succ (all_succ (all_zero _) ?m0) ?m1) ?m2) ?m3) ?m4) ?m5) ?m6) ?m7) ?m8) ?m9)
    [[], [0], [1], [2], [3], [], [5], [6], [7], [4, 8]] (by kernel_rfl)
    ⟨?o0, ?o1, ?o2, ?o3, ?o4, ?o5, ?o6, ?o7, ?o8, ?o9, trivial⟩ ?done
  case m0 => intro v w w' h g; exact h
  case m1 => intro v w w' h g; exact h
  case m2 => intro v w w' h g; exact h
  case m3 => intro v w w' h g; exact h
  case m4 => intro v w w' h g; exact h
  case m5 => intro v w w' h g; exact h
  case m6 => intro v w w' h g; exact h
  case m7 => intro v w w' h g; exact h
  case m8 => intro v w w' h g; exact h
  case m9 => intro v w w' h g; exact h
  case o0 =>
    intro u w g hd K hK
    clear hd
    simp only [Act.put, List.setIfInBounds_toArray, List.set_cons_zero, List.set_cons_succ] at hK
    go_simp
    exact hK _ _ rfl (gr_refl _ _)
  case o1 =>
    intro u w g hd K hK
    have h0 : (u 0) = .pointer (some ⟨b, 0, none⟩) := hd 0 (by simp)
    clear hd
    simp only [Act.put, List.setIfInBounds_toArray, List.set_cons_zero, List.set_cons_succ] at hK
    simp only [h0] at hK ⊢
    go_simp
    exact hK _ _ rfl (gr_refl _ _)
  case o2 =>
    intro u w g hd K hK
    have h1 : (u 1) = .pointer (some ⟨b, 0, none⟩) := hd 1 (by simp)
    clear hd
    simp only [Act.put, List.setIfInBounds_toArray, List.set_cons_zero, List.set_cons_succ] at hK
    simp only [h1] at hK ⊢
    go_simp
    exact hK _ _ rfl (gr_refl _ _)
  case o3 =>
    intro u w g hd K hK
    have h2 : (u 2) = .pointer (some ⟨b, 0, none⟩) := hd 2 (by simp)
    clear hd
    simp only [Act.put, List.setIfInBounds_toArray, List.set_cons_zero, List.set_cons_succ] at hK
    have c' := g.cell c0 (by simp)
    simp only [h2] at hK ⊢
    go_simp
    exact hK _ _ rfl (gr_refl _ _)
  case o4 =>
    intro u w g hd K hK
    have h3 : (u 3) = .slice ra rn rc := hd 3 (by simp)
    clear hd
    simp only [Act.put, List.setIfInBounds_toArray, List.set_cons_zero, List.set_cons_succ] at hK
    simp only [h3] at hK ⊢
    go_simp
    exact hK _ _ rfl (gr_refl _ _)
  case o5 =>
    intro u w g hd K hK
    clear hd
    simp only [Act.put, List.setIfInBounds_toArray, List.set_cons_zero, List.set_cons_succ] at hK
    go_simp
    exact hK _ _ rfl (gr_refl _ _)
  case o6 =>
    intro u w g hd K hK
    have h5 : (u 5) = .pointer (some ⟨b, 0, none⟩) := hd 5 (by simp)
    clear hd
    simp only [Act.put, List.setIfInBounds_toArray, List.set_cons_zero, List.set_cons_succ] at hK
    simp only [h5] at hK ⊢
    go_simp
    exact hK _ _ rfl (gr_refl _ _)
  case o7 =>
    intro u w g hd K hK
    have h6 : (u 6) = .pointer (some ⟨b, 0, none⟩) := hd 6 (by simp)
    clear hd
    simp only [Act.put, List.setIfInBounds_toArray, List.set_cons_zero, List.set_cons_succ] at hK
    simp only [h6] at hK ⊢
    go_simp
    exact hK _ _ rfl (gr_refl _ _)
  case o8 =>
    intro u w g hd K hK
    have h7 : (u 7) = .pointer (some ⟨b, 9, none⟩) := hd 7 (by simp)
    clear hd
    simp only [Act.put, List.setIfInBounds_toArray, List.set_cons_zero, List.set_cons_succ] at hK
    have c' := g.cell c9 (by simp)
    simp only [h7] at hK ⊢
    go_simp
    exact hK _ _ rfl (gr_refl _ _)
  case o9 =>
    intro u w g hd K hK
    have h4 : (u 4) = .int .i64 (rn : Int) := hd 4 (by simp)
    have h8 : (u 8) = .int .i64 (L : Int) := hd 8 (by simp)
    clear hd
    simp only [Act.put, List.setIfInBounds_toArray, List.set_cons_zero, List.set_cons_succ] at hK
    simp only [h4, h8] at hK ⊢
    go_simp
    exact hK _ _ rfl (gr_refl _ _)
  case done =>
    intro u w hS g
    have s0 : (u 0) = .pointer (some ⟨b, 0, none⟩) := hS 0 (by decide)
    have s1 : (u 1) = .pointer (some ⟨b, 0, none⟩) := hS 1 (by decide)
    have s2 : (u 2) = .pointer (some ⟨b, 0, none⟩) := hS 2 (by decide)
    have s3 : (u 3) = .slice ra rn rc := hS 3 (by decide)
    have s4 : (u 4) = .int .i64 (rn : Int) := hS 4 (by decide)
    have s5 : (u 5) = .pointer (some ⟨b, 0, none⟩) := hS 5 (by decide)
    have s6 : (u 6) = .pointer (some ⟨b, 0, none⟩) := hS 6 (by decide)
    have s7 : (u 7) = .pointer (some ⟨b, 9, none⟩) := hS 7 (by decide)
    have s8 : (u 8) = .int .i64 (L : Int) := hS 8 (by decide)
    have s9 : (u 9) = .bool (decide (rn < L)) := hS 9 (by decide)
    clear hS
    rw [s9]
    have G2 := hid (gr_trans G1.out g)
    have HN2 := hid (gr_keep g HN.out (by simp))
    have HH3 := hid (gr_keep g HH2.out (by simp))
    clear s0 s1 s2 s3 s4 s5 s6 s7 s8 s9 g c0 c9 HN HH2
    generalize u 0 = x0, u 1 = x1, u 2 = x2, u 3 = x3, u 4 = x4, u 5 = x5, u 6 = x6, u 7 = x7, u 8 = x8, u 9 = x9
    have ln6 := lt_of_block HN2.out
    by_cases hlt : rn < L
    · have hd : decide (rn < L) = true := decide_eq_true hlt
      rw [hd]
      have HS := hid (show stepS s = (s, none) by rw [HSS.out]; unfold bodyS; exact if_pos (by have := HEQ.out; omega))
      have n0 := (cell_of_block HN2.out 0).trans (show _ = some (Value.int .i64 0) from rfl)
      have y0 := free_of_block HN2.out 0
      have n1 := (cell_of_block HN2.out 1).trans (show _ = some (Value.string ⟨#[]⟩) from rfl)
      have y1 := free_of_block HN2.out 1
      have n2 := (cell_of_block HN2.out 2).trans (show _ = some (Value.string ⟨#[]⟩) from rfl)
      have y2 := free_of_block HN2.out 2
      have n3 := (cell_of_block HN2.out 3).trans (show _ = some (Value.int .i64 0) from rfl)
      have y3 := free_of_block HN2.out 3
      have n4 := (cell_of_block HN2.out 4).trans (show _ = some (Value.slice none 0 0) from rfl)
      have y4 := free_of_block HN2.out 4
      have n5 := (cell_of_block HN2.out 5).trans (show _ = some (Value.slice none 0 0) from rfl)
      have y5 := free_of_block HN2.out 5
      have n6 := (cell_of_block HN2.out 6).trans (show _ = some (Value.bool false) from rfl)
      have y6 := free_of_block HN2.out 6
      go_wp2_with fail
      have H7 := pd_set7 (.int .i64 0) (.string ⟨#[]⟩) (.string ⟨#[]⟩) (.int .i64 0) (.slice none 0 0) (.slice none 0 0) (.bool false) HN2.out
      revert H7
      generalize ((((((w.setCell _ _).setCell _ _).setCell _ _).setCell _ _).setCell _ _).setCell _ _).setCell _ _ = w9
      rintro ⟨hn9, g9⟩
      have e0 := cell_of_block hn9 0
      have e1 := cell_of_block hn9 1
      have e2 := cell_of_block hn9 2
      have e3 := cell_of_block hn9 3
      have e4 := cell_of_block hn9 4
      have e5 := cell_of_block hn9 5
      have e6 := cell_of_block hn9 6
      (try simp only [Exit.inBlock, Exit.then])
      refine bodyPost_ret (v := .tuple #[.agg #[.int .i64 0, .string ⟨#[]⟩, .string ⟨#[]⟩, .int .i64 0, .slice none 0 0, .slice none 0 0, .bool false], .bool false]) ?_ rfl (by rw [HS.out]; exact none_end (HL.out.grow G2.out) hs5 (gr_none G2.out) HN2.out g9 (Nat.le_refl _) (no_u8_pd _ _ _ _ _ _ _))
      simp [results, Tryz.results29, go_sem, e0, e1, e2, e3, e4, e5, e6]
    · have hd : decide (rn < L) = false := decide_eq_false hlt
      rw [hd]
      have hle : L ≤ rn := by omega
      have HLE := hid hle
      clear hd hlt
      have HW := hid G2.out
      have HBY := hid (HR.out.grow G2.out)
      rw [← HEQ.out.1] at HBY
      have hcat : ra = none → rn = 0 ∧ rc = 0 := by
        intro e
        rcases HBY.out with ⟨h1, h2⟩ | ⟨g, off, cap, cs, h1, -⟩
        · cases h1; exact ⟨rfl, rfl⟩
        · rw [e] at h1; cases h1
      go_upto_region 7 with fail
      generalize w = w3 at *
      have HPART := hid (HBY.out.part L hle)
      have HDROP := hid (HBY.out.drop2 L hle)
      have lb3 := lt_of_block HH3.out
      rcases ra with _ | ⟨⟨gb, off, pa⟩⟩
      · obtain ⟨rfl, rfl⟩ := hcat rfl
        obtain rfl : L = 0 := by omega
        replace HDROP : Hid (ByAt w3 (.slice none 0 0) (s.rest.drop 0)) := HDROP
        obtain ⟨lr, hlr0⟩ : ∃ x, x = s.rest.take 0 := ⟨_, rfl⟩
        rw [← hlr0] at HPART
        have hll : lr.length ≤ 1000000 := by rw [hlr0, List.length_take]; omega
        have HLR := hid hlr0
        clear hlr0
        refine wp_region_spec4 25 24 (some b) (fun w : World => w3.grownBy w none) (KeepB w3 b (fun bv : Value => PsCells (.slice none 0 0) (s.stage : Int) s.skip s.req.method s.req.target s.req.minor (.slice fa s.req.fields.length fc) bv s.req.keep ((0 : Nat) : Int))) (by kernel_rfl) (gr_refl _ _) (fun w g => ⟨gr_none g, _, gr_keep g HH3.out (by simp)⟩) (fun w w' h g => gr_trans h g) (fun w w' h g => ⟨gr_trans h.1 (gr_none g), _, gr_keep g h.2.choose_spec (by simp)⟩) (by kernel_rfl) (by kernel_rfl) (by kernel_rfl) (by kernel_rfl) (by kernel_rfl) (by kernel_rfl) [some 27, some 28, some 29, some 30, some 31, some 32, some 33, some 34, some 35, some 36, some 37, some 38, some 39, some 40, some 41, some 42, some 43, some 44, some 45, some 46, some 47, some 48, some 49, some 50, none] (by kernel_rfl) _ (fun u => (by simp only [fill, List.zipIdx_cons, List.zipIdx_nil, List.foldl_cons, List.foldl_nil, Act.put, List.setIfInBounds_toArray, List.set_cons_zero, List.set_cons_succ, Nat.zero_add, Nat.reduceAdd]; exact rfl)) (by kernel_rfl)
          (all_succ (all_succ (all_succ (all_succ (all_succ (all_succ (all_succ (all_succ (all_succ (all_succ (all_succ (all_succ (all_succ (all_succ (all_succ (all_succ (all_succ (all_succ (all_succ (all_succ (all_succ (all_succ (all_succ (all_succ (all_succ (all_zero _) (fun u v => by kernel_rfl)) (fun u v => by kernel_rfl)) (fun u v => by kernel_rfl)) (fun u v => by kernel_rfl)) (fun u v => by kernel_rfl)) (fun u v => by kernel_rfl)) (fun u v => by kernel_rfl)) (fun u v => by kernel_rfl)) (fun u v => by kernel_rfl)) (fun u v => by kernel_rfl)) (fun u v => by kernel_rfl)) (fun u v => by kernel_rfl)) (fun u v => by kernel_rfl)) (fun u v => by kernel_rfl)) (fun u v => by kernel_rfl)) (fun u v => by kernel_rfl)) (fun u v => by kernel_rfl)) (fun u v => by kernel_rfl)) (fun u v => by kernel_rfl)) (fun u v => by kernel_rfl)) (fun u v => by kernel_rfl)) (fun u v => by kernel_rfl)) (fun u v => by kernel_rfl)) (fun u v => by kernel_rfl)) (fun u v => by kernel_rfl))
          (fun ri v w => match ri with | 0 => v = .pointer (some ⟨b, 0, none⟩) | 1 => v = .pointer (some ⟨b, 0, none⟩) | 2 => v = .pointer (some ⟨b, 0, none⟩) | 3 => v = .pointer (some ⟨b, 0, none⟩) | 4 => v = .pointer (some ⟨b, 0, none⟩) | 5 => v = .slice none 0 0 | 6 => v = .pointer (some ⟨b, 0, none⟩) | 7 => v = .pointer (some ⟨b, 0, none⟩) | 8 => v = .pointer (some ⟨b, 9, none⟩) | 9 => v = .int .i64 ((0 : Nat) : Int) | 10 => v = .slice none 0 0 | 11 => Own8 w w3.heap.size v lr | 12 => v = .pointer (some ⟨b, 0, none⟩) | 13 => v = .pointer (some ⟨b, 0, none⟩) | 14 => v = .pointer (some ⟨b, 0, none⟩) | 15 => v = .slice none 0 0 | 16 => v = .pointer (some ⟨b, 0, none⟩) | 17 => v = .pointer (some ⟨b, 0, none⟩) | 18 => v = .pointer (some ⟨b, 9, none⟩) | 19 => v = .int .i64 ((0 : Nat) : Int) | 20 => v = .slice none 0 0 | 21 => v = .pointer (some ⟨b, 0, none⟩) | 22 => v = .pointer (some ⟨b, 3, none⟩) | 23 => v = .pointer (some ⟨b, 7, none⟩) | 24 => ∃ bv, w.heap[b]? = some (.cells ((fun bv : Value => PsCells (.slice none 0 0) (s.stage : Int) s.skip s.req.method s.req.target s.req.minor (.slice fa s.req.fields.length fc) bv s.req.keep ((0 : Nat) : Int)) bv) 62 (0, 0)) ∧ Own8 w w3.heap.size bv lr | _ => True)
          (all_succ (all_succ (all_succ (all_succ (all_succ (all_succ (all_succ (all_succ (all_succ (all_succ (all_succ (all_succ (all_succ (all_succ (all_succ (all_succ (all_succ (all_succ (all_succ (all_succ (all_succ (all_succ (all_succ (all_succ (all_succ (all_zero _) ?am0) ?am1) ?am2) ?am3) ?am4) ?am5) ?am6) ?am7) ?am8) ?am9) ?am10) ?am11) ?am12) ?am13) ?am14) ?am15) ?am16) ?am17) ?am18) ?am19) ?am20) ?am21) ?am22) ?am23) ?am24)
          [[], [], [], [2], [3], [4], [], [6], [7], [8], [5, 9], [10], [], [12], [13], [14], [], [16], [17], [18], [15, 19], [0], [21], [22], [23, 11]] (by kernel_rfl)
          ⟨?ao0, ?ao1, ?ao2, ?ao3, ?ao4, ?ao5, ?ao6, ?ao7, ?ao8, ?ao9, ?ao10, ?ao11, ?ao12, ?ao13, ?ao14, ?ao15, ?ao16, ?ao17, ?ao18, ?ao19, ?ao20, ?ao21, ?ao22, ?ao23, ?ao24, trivial⟩ ?adone
        case am0 => intro v w w' h g; exact h
        case am1 => intro v w w' h g; exact h
        case am2 => intro v w w' h g; exact h
        case am3 => intro v w w' h g; exact h
        case am4 => intro v w w' h g; exact h
        case am5 => intro v w w' h g; exact h
        case am6 => intro v w w' h g; exact h
        case am7 => intro v w w' h g; exact h
        case am8 => intro v w w' h g; exact h
        case am9 => intro v w w' h g; exact h
        case am10 => intro v w w' h g; exact h
        case am11 => intro v w w' h g; exact Own8.kept2 h g lb3
        case am12 => intro v w w' h g; exact h
        case am13 => intro v w w' h g; exact h
        case am14 => intro v w w' h g; exact h
        case am15 => intro v w w' h g; exact h
        case am16 => intro v w w' h g; exact h
        case am17 => intro v w w' h g; exact h
        case am18 => intro v w w' h g; exact h
        case am19 => intro v w w' h g; exact h
        case am20 => intro v w w' h g; exact h
        case am21 => intro v w w' h g; exact h
        case am22 => intro v w w' h g; exact h
        case am23 => intro v w w' h g; exact h
        case am24 => intro v w w' h g; obtain ⟨bv, h1, h2⟩ := h; exact ⟨bv, gr_keep g h1 (by simp), h2.keep g⟩
        case ao0 =>
          intro u w g hd K hK
          replace g : (KeepB w3 b (fun bv : Value => PsCells (.slice none 0 0) (s.stage : Int) s.skip s.req.method s.req.target s.req.minor (.slice fa s.req.fields.length fc) bv s.req.keep ((0 : Nat) : Int))) w := g
          clear hd
          simp only [Act.put, List.setIfInBounds_toArray, List.set_cons_zero, List.set_cons_succ] at hK
          go_simp
          exact hK _ _ rfl (gr_refl _ _) (fun e => absurd e (by decide))
        case ao1 =>
          intro u w g hd K hK
          replace g : (KeepB w3 b (fun bv : Value => PsCells (.slice none 0 0) (s.stage : Int) s.skip s.req.method s.req.target s.req.minor (.slice fa s.req.fields.length fc) bv s.req.keep ((0 : Nat) : Int))) w := g
          clear hd
          simp only [Act.put, List.setIfInBounds_toArray, List.set_cons_zero, List.set_cons_succ] at hK
          go_simp
          exact hK _ _ rfl (gr_refl _ _) (fun e => absurd e (by decide))
        case ao2 =>
          intro u w g hd K hK
          replace g : (KeepB w3 b (fun bv : Value => PsCells (.slice none 0 0) (s.stage : Int) s.skip s.req.method s.req.target s.req.minor (.slice fa s.req.fields.length fc) bv s.req.keep ((0 : Nat) : Int))) w := g
          clear hd
          simp only [Act.put, List.setIfInBounds_toArray, List.set_cons_zero, List.set_cons_succ] at hK
          go_simp
          exact hK _ _ rfl (gr_refl _ _) (fun e => absurd e (by decide))
        case ao3 =>
          intro u w g hd K hK
          replace g : (KeepB w3 b (fun bv : Value => PsCells (.slice none 0 0) (s.stage : Int) s.skip s.req.method s.req.target s.req.minor (.slice fa s.req.fields.length fc) bv s.req.keep ((0 : Nat) : Int))) w := g
          have h2 : (u 2) = .pointer (some ⟨b, 0, none⟩) := hd 2 (by simp)
          clear hd
          simp only [Act.put, List.setIfInBounds_toArray, List.set_cons_zero, List.set_cons_succ] at hK
          simp only [h2] at hK ⊢
          go_simp
          exact hK _ _ rfl (gr_refl _ _) (fun e => absurd e (by decide))
        case ao4 =>
          intro u w g hd K hK
          replace g : (KeepB w3 b (fun bv : Value => PsCells (.slice none 0 0) (s.stage : Int) s.skip s.req.method s.req.target s.req.minor (.slice fa s.req.fields.length fc) bv s.req.keep ((0 : Nat) : Int))) w := g
          have h3 : (u 3) = .pointer (some ⟨b, 0, none⟩) := hd 3 (by simp)
          clear hd
          simp only [Act.put, List.setIfInBounds_toArray, List.set_cons_zero, List.set_cons_succ] at hK
          simp only [h3] at hK ⊢
          go_simp
          exact hK _ _ rfl (gr_refl _ _) (fun e => absurd e (by decide))
        case ao5 =>
          intro u w g hd K hK
          replace g : (KeepB w3 b (fun bv : Value => PsCells (.slice none 0 0) (s.stage : Int) s.skip s.req.method s.req.target s.req.minor (.slice fa s.req.fields.length fc) bv s.req.keep ((0 : Nat) : Int))) w := g
          have h4 : (u 4) = .pointer (some ⟨b, 0, none⟩) := hd 4 (by simp)
          clear hd
          simp only [Act.put, List.setIfInBounds_toArray, List.set_cons_zero, List.set_cons_succ] at hK
          obtain ⟨gg, bv, hbv⟩ := g
          have c' := (cell_of_block hbv 0).trans (show _ = some (Value.slice none 0 0) from rfl)
          simp only [h4] at hK ⊢
          go_simp
          exact hK _ _ rfl (gr_refl _ _) (fun e => absurd e (by decide))
        case ao6 =>
          intro u w g hd K hK
          replace g : (KeepB w3 b (fun bv : Value => PsCells (.slice none 0 0) (s.stage : Int) s.skip s.req.method s.req.target s.req.minor (.slice fa s.req.fields.length fc) bv s.req.keep ((0 : Nat) : Int))) w := g
          clear hd
          simp only [Act.put, List.setIfInBounds_toArray, List.set_cons_zero, List.set_cons_succ] at hK
          go_simp
          exact hK _ _ rfl (gr_refl _ _) (fun e => absurd e (by decide))
        case ao7 =>
          intro u w g hd K hK
          replace g : (KeepB w3 b (fun bv : Value => PsCells (.slice none 0 0) (s.stage : Int) s.skip s.req.method s.req.target s.req.minor (.slice fa s.req.fields.length fc) bv s.req.keep ((0 : Nat) : Int))) w := g
          have h6 : (u 6) = .pointer (some ⟨b, 0, none⟩) := hd 6 (by simp)
          clear hd
          simp only [Act.put, List.setIfInBounds_toArray, List.set_cons_zero, List.set_cons_succ] at hK
          simp only [h6] at hK ⊢
          go_simp
          exact hK _ _ rfl (gr_refl _ _) (fun e => absurd e (by decide))
        case ao8 =>
          intro u w g hd K hK
          replace g : (KeepB w3 b (fun bv : Value => PsCells (.slice none 0 0) (s.stage : Int) s.skip s.req.method s.req.target s.req.minor (.slice fa s.req.fields.length fc) bv s.req.keep ((0 : Nat) : Int))) w := g
          have h7 : (u 7) = .pointer (some ⟨b, 0, none⟩) := hd 7 (by simp)
          clear hd
          simp only [Act.put, List.setIfInBounds_toArray, List.set_cons_zero, List.set_cons_succ] at hK
          simp only [h7] at hK ⊢
          go_simp
          exact hK _ _ rfl (gr_refl _ _) (fun e => absurd e (by decide))
        case ao9 =>
          intro u w g hd K hK
          replace g : (KeepB w3 b (fun bv : Value => PsCells (.slice none 0 0) (s.stage : Int) s.skip s.req.method s.req.target s.req.minor (.slice fa s.req.fields.length fc) bv s.req.keep ((0 : Nat) : Int))) w := g
          have h8 : (u 8) = .pointer (some ⟨b, 9, none⟩) := hd 8 (by simp)
          clear hd
          simp only [Act.put, List.setIfInBounds_toArray, List.set_cons_zero, List.set_cons_succ] at hK
          obtain ⟨gg, bv, hbv⟩ := g
          have c' := (cell_of_block hbv 9).trans (show _ = some (Value.int .i64 ((0 : Nat) : Int)) from rfl)
          simp only [h8] at hK ⊢
          go_simp
          exact hK _ _ rfl (gr_refl _ _) (fun e => absurd e (by decide))
        case ao10 =>
          intro u w g hd K hK
          replace g : (KeepB w3 b (fun bv : Value => PsCells (.slice none 0 0) (s.stage : Int) s.skip s.req.method s.req.target s.req.minor (.slice fa s.req.fields.length fc) bv s.req.keep ((0 : Nat) : Int))) w := g
          have h5 : (u 5) = .slice none 0 0 := hd 5 (by simp)
          have h9 : (u 9) = .int .i64 ((0 : Nat) : Int) := hd 9 (by simp)
          clear hd
          simp only [Act.put, List.setIfInBounds_toArray, List.set_cons_zero, List.set_cons_succ] at hK
          simp only [h5, h9] at hK ⊢
          go_simp
          exact hK _ _ rfl (gr_refl _ _) (fun e => absurd e (by decide))
        case ao11 =>
          intro u w g hd K hK
          replace g : (KeepB w3 b (fun bv : Value => PsCells (.slice none 0 0) (s.stage : Int) s.skip s.req.method s.req.target s.req.minor (.slice fa s.req.fields.length fc) bv s.req.keep ((0 : Nat) : Int))) w := g
          have h10 : (u 10) = .slice none 0 0 := hd 10 (by simp)
          clear hd
          simp only [Act.put, List.setIfInBounds_toArray, List.set_cons_zero, List.set_cons_succ] at hK
          obtain ⟨gg, bv, hbv⟩ := g
          simp only [h10] at hK ⊢
          go_simp
          refine (clone_by lr _ w ((HPART.out.kept gg HH3.out (by decide)).bytes) (.inl rfl) (hll)).mono ?_
          rintro e w' ⟨v, rfl, hv, g'⟩
          exact hK _ _ (own8_base hv gg.size) g' (fun e => absurd e (by decide))
        case ao12 =>
          intro u w g hd K hK
          replace g : (KeepB w3 b (fun bv : Value => PsCells (.slice none 0 0) (s.stage : Int) s.skip s.req.method s.req.target s.req.minor (.slice fa s.req.fields.length fc) bv s.req.keep ((0 : Nat) : Int))) w := g
          clear hd
          simp only [Act.put, List.setIfInBounds_toArray, List.set_cons_zero, List.set_cons_succ] at hK
          go_simp
          exact hK _ _ rfl (gr_refl _ _) (fun e => absurd e (by decide))
        case ao13 =>
          intro u w g hd K hK
          replace g : (KeepB w3 b (fun bv : Value => PsCells (.slice none 0 0) (s.stage : Int) s.skip s.req.method s.req.target s.req.minor (.slice fa s.req.fields.length fc) bv s.req.keep ((0 : Nat) : Int))) w := g
          have h12 : (u 12) = .pointer (some ⟨b, 0, none⟩) := hd 12 (by simp)
          clear hd
          simp only [Act.put, List.setIfInBounds_toArray, List.set_cons_zero, List.set_cons_succ] at hK
          simp only [h12] at hK ⊢
          go_simp
          exact hK _ _ rfl (gr_refl _ _) (fun e => absurd e (by decide))
        case ao14 =>
          intro u w g hd K hK
          replace g : (KeepB w3 b (fun bv : Value => PsCells (.slice none 0 0) (s.stage : Int) s.skip s.req.method s.req.target s.req.minor (.slice fa s.req.fields.length fc) bv s.req.keep ((0 : Nat) : Int))) w := g
          have h13 : (u 13) = .pointer (some ⟨b, 0, none⟩) := hd 13 (by simp)
          clear hd
          simp only [Act.put, List.setIfInBounds_toArray, List.set_cons_zero, List.set_cons_succ] at hK
          simp only [h13] at hK ⊢
          go_simp
          exact hK _ _ rfl (gr_refl _ _) (fun e => absurd e (by decide))
        case ao15 =>
          intro u w g hd K hK
          replace g : (KeepB w3 b (fun bv : Value => PsCells (.slice none 0 0) (s.stage : Int) s.skip s.req.method s.req.target s.req.minor (.slice fa s.req.fields.length fc) bv s.req.keep ((0 : Nat) : Int))) w := g
          have h14 : (u 14) = .pointer (some ⟨b, 0, none⟩) := hd 14 (by simp)
          clear hd
          simp only [Act.put, List.setIfInBounds_toArray, List.set_cons_zero, List.set_cons_succ] at hK
          obtain ⟨gg, bv, hbv⟩ := g
          have c' := (cell_of_block hbv 0).trans (show _ = some (Value.slice none 0 0) from rfl)
          simp only [h14] at hK ⊢
          go_simp
          exact hK _ _ rfl (gr_refl _ _) (fun e => absurd e (by decide))
        case ao16 =>
          intro u w g hd K hK
          replace g : (KeepB w3 b (fun bv : Value => PsCells (.slice none 0 0) (s.stage : Int) s.skip s.req.method s.req.target s.req.minor (.slice fa s.req.fields.length fc) bv s.req.keep ((0 : Nat) : Int))) w := g
          clear hd
          simp only [Act.put, List.setIfInBounds_toArray, List.set_cons_zero, List.set_cons_succ] at hK
          go_simp
          exact hK _ _ rfl (gr_refl _ _) (fun e => absurd e (by decide))
        case ao17 =>
          intro u w g hd K hK
          replace g : (KeepB w3 b (fun bv : Value => PsCells (.slice none 0 0) (s.stage : Int) s.skip s.req.method s.req.target s.req.minor (.slice fa s.req.fields.length fc) bv s.req.keep ((0 : Nat) : Int))) w := g
          have h16 : (u 16) = .pointer (some ⟨b, 0, none⟩) := hd 16 (by simp)
          clear hd
          simp only [Act.put, List.setIfInBounds_toArray, List.set_cons_zero, List.set_cons_succ] at hK
          simp only [h16] at hK ⊢
          go_simp
          exact hK _ _ rfl (gr_refl _ _) (fun e => absurd e (by decide))
        case ao18 =>
          intro u w g hd K hK
          replace g : (KeepB w3 b (fun bv : Value => PsCells (.slice none 0 0) (s.stage : Int) s.skip s.req.method s.req.target s.req.minor (.slice fa s.req.fields.length fc) bv s.req.keep ((0 : Nat) : Int))) w := g
          have h17 : (u 17) = .pointer (some ⟨b, 0, none⟩) := hd 17 (by simp)
          clear hd
          simp only [Act.put, List.setIfInBounds_toArray, List.set_cons_zero, List.set_cons_succ] at hK
          simp only [h17] at hK ⊢
          go_simp
          exact hK _ _ rfl (gr_refl _ _) (fun e => absurd e (by decide))
        case ao19 =>
          intro u w g hd K hK
          replace g : (KeepB w3 b (fun bv : Value => PsCells (.slice none 0 0) (s.stage : Int) s.skip s.req.method s.req.target s.req.minor (.slice fa s.req.fields.length fc) bv s.req.keep ((0 : Nat) : Int))) w := g
          have h18 : (u 18) = .pointer (some ⟨b, 9, none⟩) := hd 18 (by simp)
          clear hd
          simp only [Act.put, List.setIfInBounds_toArray, List.set_cons_zero, List.set_cons_succ] at hK
          obtain ⟨gg, bv, hbv⟩ := g
          have c' := (cell_of_block hbv 9).trans (show _ = some (Value.int .i64 ((0 : Nat) : Int)) from rfl)
          simp only [h18] at hK ⊢
          go_simp
          exact hK _ _ rfl (gr_refl _ _) (fun e => absurd e (by decide))
        case ao20 =>
          intro u w g hd K hK
          replace g : (KeepB w3 b (fun bv : Value => PsCells (.slice none 0 0) (s.stage : Int) s.skip s.req.method s.req.target s.req.minor (.slice fa s.req.fields.length fc) bv s.req.keep ((0 : Nat) : Int))) w := g
          have h15 : (u 15) = .slice none 0 0 := hd 15 (by simp)
          have h19 : (u 19) = .int .i64 ((0 : Nat) : Int) := hd 19 (by simp)
          clear hd
          simp only [Act.put, List.setIfInBounds_toArray, List.set_cons_zero, List.set_cons_succ] at hK
          simp only [h15, h19] at hK ⊢
          go_simp
          exact hK _ _ rfl (gr_refl _ _) (fun e => absurd e (by decide))
        case ao21 =>
          intro u w g hd K hK
          replace g : (KeepB w3 b (fun bv : Value => PsCells (.slice none 0 0) (s.stage : Int) s.skip s.req.method s.req.target s.req.minor (.slice fa s.req.fields.length fc) bv s.req.keep ((0 : Nat) : Int))) w := g
          have h0 : (u 0) = .pointer (some ⟨b, 0, none⟩) := hd 0 (by simp)
          clear hd
          simp only [Act.put, List.setIfInBounds_toArray, List.set_cons_zero, List.set_cons_succ] at hK
          simp only [h0] at hK ⊢
          go_simp
          exact hK _ _ rfl (gr_refl _ _) (fun e => absurd e (by decide))
        case ao22 =>
          intro u w g hd K hK
          replace g : (KeepB w3 b (fun bv : Value => PsCells (.slice none 0 0) (s.stage : Int) s.skip s.req.method s.req.target s.req.minor (.slice fa s.req.fields.length fc) bv s.req.keep ((0 : Nat) : Int))) w := g
          have h21 : (u 21) = .pointer (some ⟨b, 0, none⟩) := hd 21 (by simp)
          clear hd
          simp only [Act.put, List.setIfInBounds_toArray, List.set_cons_zero, List.set_cons_succ] at hK
          simp only [h21] at hK ⊢
          go_simp
          exact hK _ _ rfl (gr_refl _ _) (fun e => absurd e (by decide))
        case ao23 =>
          intro u w g hd K hK
          replace g : (KeepB w3 b (fun bv : Value => PsCells (.slice none 0 0) (s.stage : Int) s.skip s.req.method s.req.target s.req.minor (.slice fa s.req.fields.length fc) bv s.req.keep ((0 : Nat) : Int))) w := g
          have h22 : (u 22) = .pointer (some ⟨b, 3, none⟩) := hd 22 (by simp)
          clear hd
          simp only [Act.put, List.setIfInBounds_toArray, List.set_cons_zero, List.set_cons_succ] at hK
          simp only [h22] at hK ⊢
          go_simp
          exact hK _ _ rfl (gr_refl _ _) (fun e => absurd e (by decide))
        case ao24 =>
          intro u w g hd K hK
          replace g : (fun w : World => w3.grownBy w none) w := g
          have h23 : (u 23) = .pointer (some ⟨b, 7, none⟩) := hd 23 (by simp)
          have h11 : Own8 w w3.heap.size (u 11) lr := hd 11 (by simp)
          clear hd
          simp only [Act.put, List.setIfInBounds_toArray, List.set_cons_zero, List.set_cons_succ] at hK
          obtain ⟨xa, xc, e11, -, -⟩ := h11.byAt.shape
          rw [e11] at h11
          have hbw := gr_keep g HH3.out (by simp)
          have c' := (cell_of_block hbw 7).trans (show _ = some (Value.slice ba s.req.body.length bc) from rfl)
          have f' := free_of_block hbw 7
          have l' := lt_of_block hbw
          simp only [h23, e11] at hK ⊢
          go_simp
          refine hK undef _ ?_ ?_ ?_
          · exact ⟨.slice xa lr.length xc, heap_set hbw, h11.kept2 (gr_set (gr_refl _ _)) lb3⟩
          · exact gr_set (gr_refl _ _)
          · exact fun _ => ⟨gr_set (gr_none g), .slice xa lr.length xc, heap_set hbw⟩
        case adone =>
          intro u w hS g
          have s0 : (u 0) = .pointer (some ⟨b, 0, none⟩) := hS 0 (by decide)
          have s1 : (u 1) = .pointer (some ⟨b, 0, none⟩) := hS 1 (by decide)
          have s2 : (u 2) = .pointer (some ⟨b, 0, none⟩) := hS 2 (by decide)
          have s3 : (u 3) = .pointer (some ⟨b, 0, none⟩) := hS 3 (by decide)
          have s4 : (u 4) = .pointer (some ⟨b, 0, none⟩) := hS 4 (by decide)
          have s5 : (u 5) = .slice none 0 0 := hS 5 (by decide)
          have s6 : (u 6) = .pointer (some ⟨b, 0, none⟩) := hS 6 (by decide)
          have s7 : (u 7) = .pointer (some ⟨b, 0, none⟩) := hS 7 (by decide)
          have s8 : (u 8) = .pointer (some ⟨b, 9, none⟩) := hS 8 (by decide)
          have s9 : (u 9) = .int .i64 ((0 : Nat) : Int) := hS 9 (by decide)
          have s10 : (u 10) = .slice none 0 0 := hS 10 (by decide)
          have s11 : Own8 w w3.heap.size (u 11) lr := hS 11 (by decide)
          have s12 : (u 12) = .pointer (some ⟨b, 0, none⟩) := hS 12 (by decide)
          have s13 : (u 13) = .pointer (some ⟨b, 0, none⟩) := hS 13 (by decide)
          have s14 : (u 14) = .pointer (some ⟨b, 0, none⟩) := hS 14 (by decide)
          have s15 : (u 15) = .slice none 0 0 := hS 15 (by decide)
          have s16 : (u 16) = .pointer (some ⟨b, 0, none⟩) := hS 16 (by decide)
          have s17 : (u 17) = .pointer (some ⟨b, 0, none⟩) := hS 17 (by decide)
          have s18 : (u 18) = .pointer (some ⟨b, 9, none⟩) := hS 18 (by decide)
          have s19 : (u 19) = .int .i64 ((0 : Nat) : Int) := hS 19 (by decide)
          have s20 : (u 20) = .slice none 0 0 := hS 20 (by decide)
          have s21 : (u 21) = .pointer (some ⟨b, 0, none⟩) := hS 21 (by decide)
          have s22 : (u 22) = .pointer (some ⟨b, 3, none⟩) := hS 22 (by decide)
          have s23 : (u 23) = .pointer (some ⟨b, 7, none⟩) := hS 23 (by decide)
          have s24 : ∃ bv, w.heap[b]? = some (.cells ((fun bv : Value => PsCells (.slice none 0 0) (s.stage : Int) s.skip s.req.method s.req.target s.req.minor (.slice fa s.req.fields.length fc) bv s.req.keep ((0 : Nat) : Int)) bv) 62 (0, 0)) ∧ Own8 w w3.heap.size bv lr := hS 24 (by decide)
          clear hS
          obtain ⟨bv, hbv, hob⟩ := s24
          have gg : w3.grownBy w (some b) := g.1
          change wpList _ _ _ [_, _, _] _ _
          rw [s1, s20]
          obtain ⟨xa, xc, ebv, -, -⟩ := hob.byAt.shape
          subst ebv
          have HOB := hid hob.byAt
          have G4 := hid (gr_trans (gr_none G2.out) gg)
          have HNw := hid (gr_keep gg HN2.out (blk_ne HN2.out HH3.out (by decide)))
          have HRw := hid (HDROP.out.kept gg HH3.out (by decide))
          have HFw := hid ((HF.out.grow G2.out).kept gg HH3.out (by decide))
          have HHw := hid hbv
          clear s0 s1 s2 s3 s4 s5 s6 s7 s8 s9 s10 s11 s12 s13 s14 s15 s16 s17 s18 s19 s20 s21 s22 s23 gg hbv hob g HDROP HPART HBY HN2 HH3
          generalize u 0 = y0, u 1 = y1, u 2 = y2, u 3 = y3, u 4 = y4, u 5 = y5, u 6 = y6, u 7 = y7, u 8 = y8, u 9 = y9, u 10 = y10, u 11 = y11, u 12 = y12, u 13 = y13, u 14 = y14, u 15 = y15, u 16 = y16, u 17 = y17, u 18 = y18, u 19 = y19, u 21 = y21, u 22 = y22, u 23 = y23
          have c0 := (cell_of_block HHw.out 0).trans (show _ = some (Value.slice none 0 0) from rfl)
          have f0 := free_of_block HHw.out 0
          have lbw := lt_of_block HHw.out
          go_wp2_with fail
          obtain ⟨w4, hw4⟩ : ∃ x, x = w.setCell ⟨b, 0, none⟩ (.slice none 0 0) := ⟨_, rfl⟩
          rw [← hw4]
          have hb4 : w4.heap[b]? = some (.cells (PsCells (.slice none 0 0) (s.stage : Int) s.skip s.req.method s.req.target s.req.minor (.slice fa s.req.fields.length fc) (.slice xa lr.length xc) s.req.keep ((0 : Nat) : Int)) 62 (0, 0)) := by rw [hw4]; exact heap_set HHw.out
          have g4 : w.grownBy w4 (some b) := by rw [hw4]; exact gr_set (gr_refl _ _)
          have HN4 := hid (gr_keep g4 HNw.out (blk_ne HNw.out HHw.out (by decide)))
          have HF4 := hid (HFw.out.kept g4 HHw.out (by decide))
          have HB4 := hid (HOB.out.bo.kept g4 HHw.out (by decide) (no_u8_ps _ _ _ _ _ _ _ _ _ _ _ _))
          have HR4 := hid (HRw.out.kept g4 HHw.out (by decide))
          have G5 := hid (gr_trans G4.out g4)
          clear hw4 g4 c0 f0 lbw HNw HFw HRw HHw HOB
          refine (done_http b _ _ _ _ _ _ _ _ _ _ _ _ _ _ _ _ w4 hb4).mono ?_
          rintro e w5 ⟨rfl, hm, g5⟩
          have HN5 := hid (gr_keep g5 HN4.out (blk_ne HN4.out hb4 (by decide)))
          have HS := hid (show stepS s = doneS { s with req := { s.req with body := s.rest.take s.left }, rest := s.rest.drop s.left } by rw [HSS.out]; unfold bodyS; exact if_neg (by have := HEQ.out; have := HLE.out; omega))
          have HD := hid (fun w9 g9 => done_end2 (w9 := w9) (s := { s with req := { s.req with body := s.rest.take s.left }, rest := s.rest.drop s.left }) (by have := HEQ.out; show 0 = (s.rest.drop s.left).length; rw [List.length_drop]; omega) (show lr.length = (s.rest.take s.left).length by rw [HLR.out, ← HEQ.out.2]) HEQ.out.2 hm (gr_trans G5.out g5) (show ByAt w5 (.slice none 0 0) (s.rest.drop s.left) by rw [← HEQ.out.2]; exact HR4.out.kept g5 hb4 (by decide)) (HF4.out.kept g5 hb4 (by decide)) (show BoAt w5 (.slice xa lr.length xc) (s.rest.take s.left) by rw [← HEQ.out.2, ← HLR.out]; exact HB4.out.kept g5 hb4 (by decide) (no_u8_ps _ _ _ _ _ _ _ _ _ _ _ _)) HN5.out g9 (Nat.le_refl _) (no_u8_pd _ _ _ _ _ _ _))
          clear hm
          have y0 := free_of_block HN5.out 0
          have y1 := free_of_block HN5.out 1
          have y2 := free_of_block HN5.out 2
          have y3 := free_of_block HN5.out 3
          have y4 := free_of_block HN5.out 4
          have y5 := free_of_block HN5.out 5
          have y6 := free_of_block HN5.out 6
          have n0 := (cell_of_block HN5.out 0).trans (show _ = some (Value.int .i64 0) from rfl)
          have n1 := (cell_of_block HN5.out 1).trans (show _ = some (Value.string ⟨#[]⟩) from rfl)
          have n2 := (cell_of_block HN5.out 2).trans (show _ = some (Value.string ⟨#[]⟩) from rfl)
          have n3 := (cell_of_block HN5.out 3).trans (show _ = some (Value.int .i64 0) from rfl)
          have n4 := (cell_of_block HN5.out 4).trans (show _ = some (Value.slice none 0 0) from rfl)
          have n5 := (cell_of_block HN5.out 5).trans (show _ = some (Value.slice none 0 0) from rfl)
          have n6 := (cell_of_block HN5.out 6).trans (show _ = some (Value.bool false) from rfl)
          have lnn := lt_of_block HN5.out
          unfold PdCells str
          go_wp21
          have H7 := pd_set7 (.int .i64 0) (.string ⟨s.req.method.toArray⟩) (.string ⟨s.req.target.toArray⟩) (.int .i64 s.req.minor) (.slice fa s.req.fields.length fc) (.slice xa lr.length xc) (.bool s.req.keep) HN5.out
          revert H7
          generalize ((((((w5.setCell _ _).setCell _ _).setCell _ _).setCell _ _).setCell _ _).setCell _ _).setCell _ _ = w9
          rintro ⟨hn9, g9⟩
          have e0 := cell_of_block hn9 0
          have e1 := cell_of_block hn9 1
          have e2 := cell_of_block hn9 2
          have e3 := cell_of_block hn9 3
          have e4 := cell_of_block hn9 4
          have e5 := cell_of_block hn9 5
          have e6 := cell_of_block hn9 6
          (try simp only [Exit.inBlock, Exit.then])
          refine bodyPost_ret (v := .tuple #[.agg #[.int .i64 0, .string ⟨s.req.method.toArray⟩, .string ⟨s.req.target.toArray⟩, .int .i64 s.req.minor, .slice fa s.req.fields.length fc, .slice xa lr.length xc, .bool s.req.keep], .bool true]) ?_ rfl (by rw [HS.out]; exact HD.out w9 g9)
          simp [results, Tryz.results29, go_sem, e0, e1, e2, e3, e4, e5, e6]
      · have hpa0 : pa = none := by
          rcases HBY.out with ⟨h1, h2⟩ | ⟨g, off, cap, cs, h1, -⟩
          · cases h1
          · cases h1; rfl
        subst hpa0
        have hLc : (L : Int) ≤ (rc : Int) := by omega
        have hLr : (L : Int) ≤ (rn : Int) := by omega
        replace HDROP := hid (by have h := HDROP.out; rw [Option.map_some, Go.WideShapes.add_plain] at h; exact h)
        obtain ⟨lr, hlr0⟩ : ∃ x, x = s.rest.take L := ⟨_, rfl⟩
        rw [← hlr0] at HPART
        have hll : lr.length ≤ 1000000 := by rw [hlr0, List.length_take]; omega
        have HLR := hid hlr0
        clear hlr0
        refine wp_region_spec4 25 24 (some b) (fun w : World => w3.grownBy w none) (KeepB w3 b (fun bv : Value => PsCells (.slice (some ⟨gb, off, none⟩) rn rc) (s.stage : Int) s.skip s.req.method s.req.target s.req.minor (.slice fa s.req.fields.length fc) bv s.req.keep ((L : Nat) : Int))) (by kernel_rfl) (gr_refl _ _) (fun w g => ⟨gr_none g, _, gr_keep g HH3.out (by simp)⟩) (fun w w' h g => gr_trans h g) (fun w w' h g => ⟨gr_trans h.1 (gr_none g), _, gr_keep g h.2.choose_spec (by simp)⟩) (by kernel_rfl) (by kernel_rfl) (by kernel_rfl) (by kernel_rfl) (by kernel_rfl) (by kernel_rfl) [some 27, some 28, some 29, some 30, some 31, some 32, some 33, some 34, some 35, some 36, some 37, some 38, some 39, some 40, some 41, some 42, some 43, some 44, some 45, some 46, some 47, some 48, some 49, some 50, none] (by kernel_rfl) _ (fun u => (by simp only [fill, List.zipIdx_cons, List.zipIdx_nil, List.foldl_cons, List.foldl_nil, Act.put, List.setIfInBounds_toArray, List.set_cons_zero, List.set_cons_succ, Nat.zero_add, Nat.reduceAdd]; exact rfl)) (by kernel_rfl)
          (all_succ (all_succ (all_succ (all_succ (all_succ (all_succ (all_succ (all_succ (all_succ (all_succ (all_succ (all_succ (all_succ (all_succ (all_succ (all_succ (all_succ (all_succ (all_succ (all_succ (all_succ (all_succ (all_succ (all_succ (all_succ (all_zero _) (fun u v => by kernel_rfl)) (fun u v => by kernel_rfl)) (fun u v => by kernel_rfl)) (fun u v => by kernel_rfl)) (fun u v => by kernel_rfl)) (fun u v => by kernel_rfl)) (fun u v => by kernel_rfl)) (fun u v => by kernel_rfl)) (fun u v => by kernel_rfl)) (fun u v => by kernel_rfl)) (fun u v => by kernel_rfl)) (fun u v => by kernel_rfl)) (fun u v => by kernel_rfl)) (fun u v => by kernel_rfl)) (fun u v => by kernel_rfl)) (fun u v => by kernel_rfl)) (fun u v => by kernel_rfl)) (fun u v => by kernel_rfl)) (fun u v => by kernel_rfl)) (fun u v => by kernel_rfl)) (fun u v => by kernel_rfl)) (fun u v => by kernel_rfl)) (fun u v => by kernel_rfl)) (fun u v => by kernel_rfl)) (fun u v => by kernel_rfl))
          (fun ri v w => match ri with | 0 => v = .pointer (some ⟨b, 0, none⟩) | 1 => v = .pointer (some ⟨b, 0, none⟩) | 2 => v = .pointer (some ⟨b, 0, none⟩) | 3 => v = .pointer (some ⟨b, 0, none⟩) | 4 => v = .pointer (some ⟨b, 0, none⟩) | 5 => v = .slice (some ⟨gb, off, none⟩) rn rc | 6 => v = .pointer (some ⟨b, 0, none⟩) | 7 => v = .pointer (some ⟨b, 0, none⟩) | 8 => v = .pointer (some ⟨b, 9, none⟩) | 9 => v = .int .i64 ((L : Nat) : Int) | 10 => v = .slice (some ⟨gb, off, none⟩) L rc | 11 => Own8 w w3.heap.size v lr | 12 => v = .pointer (some ⟨b, 0, none⟩) | 13 => v = .pointer (some ⟨b, 0, none⟩) | 14 => v = .pointer (some ⟨b, 0, none⟩) | 15 => v = .slice (some ⟨gb, off, none⟩) rn rc | 16 => v = .pointer (some ⟨b, 0, none⟩) | 17 => v = .pointer (some ⟨b, 0, none⟩) | 18 => v = .pointer (some ⟨b, 9, none⟩) | 19 => v = .int .i64 ((L : Nat) : Int) | 20 => v = .slice (if rc = L then some ⟨gb, off, none⟩ else some ⟨gb, off + L, none⟩) (rn - L) (rc - L) | 21 => v = .pointer (some ⟨b, 0, none⟩) | 22 => v = .pointer (some ⟨b, 3, none⟩) | 23 => v = .pointer (some ⟨b, 7, none⟩) | 24 => ∃ bv, w.heap[b]? = some (.cells ((fun bv : Value => PsCells (.slice (some ⟨gb, off, none⟩) rn rc) (s.stage : Int) s.skip s.req.method s.req.target s.req.minor (.slice fa s.req.fields.length fc) bv s.req.keep ((L : Nat) : Int)) bv) 62 (0, 0)) ∧ Own8 w w3.heap.size bv lr | _ => True)
          (all_succ (all_succ (all_succ (all_succ (all_succ (all_succ (all_succ (all_succ (all_succ (all_succ (all_succ (all_succ (all_succ (all_succ (all_succ (all_succ (all_succ (all_succ (all_succ (all_succ (all_succ (all_succ (all_succ (all_succ (all_succ (all_zero _) ?bm0) ?bm1) ?bm2) ?bm3) ?bm4) ?bm5) ?bm6) ?bm7) ?bm8) ?bm9) ?bm10) ?bm11) ?bm12) ?bm13) ?bm14) ?bm15) ?bm16) ?bm17) ?bm18) ?bm19) ?bm20) ?bm21) ?bm22) ?bm23) ?bm24)
          [[], [], [], [2], [3], [4], [], [6], [7], [8], [5, 9], [10], [], [12], [13], [14], [], [16], [17], [18], [15, 19], [0], [21], [22], [23, 11]] (by kernel_rfl)
          ⟨?bo0, ?bo1, ?bo2, ?bo3, ?bo4, ?bo5, ?bo6, ?bo7, ?bo8, ?bo9, ?bo10, ?bo11, ?bo12, ?bo13, ?bo14, ?bo15, ?bo16, ?bo17, ?bo18, ?bo19, ?bo20, ?bo21, ?bo22, ?bo23, ?bo24, trivial⟩ ?bdone
        case bm0 => intro v w w' h g; exact h
        case bm1 => intro v w w' h g; exact h
        case bm2 => intro v w w' h g; exact h
        case bm3 => intro v w w' h g; exact h
        case bm4 => intro v w w' h g; exact h
        case bm5 => intro v w w' h g; exact h
        case bm6 => intro v w w' h g; exact h
        case bm7 => intro v w w' h g; exact h
        case bm8 => intro v w w' h g; exact h
        case bm9 => intro v w w' h g; exact h
        case bm10 => intro v w w' h g; exact h
        case bm11 => intro v w w' h g; exact Own8.kept2 h g lb3
        case bm12 => intro v w w' h g; exact h
        case bm13 => intro v w w' h g; exact h
        case bm14 => intro v w w' h g; exact h
        case bm15 => intro v w w' h g; exact h
        case bm16 => intro v w w' h g; exact h
        case bm17 => intro v w w' h g; exact h
        case bm18 => intro v w w' h g; exact h
        case bm19 => intro v w w' h g; exact h
        case bm20 => intro v w w' h g; exact h
        case bm21 => intro v w w' h g; exact h
        case bm22 => intro v w w' h g; exact h
        case bm23 => intro v w w' h g; exact h
        case bm24 => intro v w w' h g; obtain ⟨bv, h1, h2⟩ := h; exact ⟨bv, gr_keep g h1 (by simp), h2.keep g⟩
        case bo0 =>
          intro u w g hd K hK
          replace g : (KeepB w3 b (fun bv : Value => PsCells (.slice (some ⟨gb, off, none⟩) rn rc) (s.stage : Int) s.skip s.req.method s.req.target s.req.minor (.slice fa s.req.fields.length fc) bv s.req.keep ((L : Nat) : Int))) w := g
          clear hd
          simp only [Act.put, List.setIfInBounds_toArray, List.set_cons_zero, List.set_cons_succ] at hK
          go_simp
          exact hK _ _ rfl (gr_refl _ _) (fun e => absurd e (by decide))
        case bo1 =>
          intro u w g hd K hK
          replace g : (KeepB w3 b (fun bv : Value => PsCells (.slice (some ⟨gb, off, none⟩) rn rc) (s.stage : Int) s.skip s.req.method s.req.target s.req.minor (.slice fa s.req.fields.length fc) bv s.req.keep ((L : Nat) : Int))) w := g
          clear hd
          simp only [Act.put, List.setIfInBounds_toArray, List.set_cons_zero, List.set_cons_succ] at hK
          go_simp
          exact hK _ _ rfl (gr_refl _ _) (fun e => absurd e (by decide))
        case bo2 =>
          intro u w g hd K hK
          replace g : (KeepB w3 b (fun bv : Value => PsCells (.slice (some ⟨gb, off, none⟩) rn rc) (s.stage : Int) s.skip s.req.method s.req.target s.req.minor (.slice fa s.req.fields.length fc) bv s.req.keep ((L : Nat) : Int))) w := g
          clear hd
          simp only [Act.put, List.setIfInBounds_toArray, List.set_cons_zero, List.set_cons_succ] at hK
          go_simp
          exact hK _ _ rfl (gr_refl _ _) (fun e => absurd e (by decide))
        case bo3 =>
          intro u w g hd K hK
          replace g : (KeepB w3 b (fun bv : Value => PsCells (.slice (some ⟨gb, off, none⟩) rn rc) (s.stage : Int) s.skip s.req.method s.req.target s.req.minor (.slice fa s.req.fields.length fc) bv s.req.keep ((L : Nat) : Int))) w := g
          have h2 : (u 2) = .pointer (some ⟨b, 0, none⟩) := hd 2 (by simp)
          clear hd
          simp only [Act.put, List.setIfInBounds_toArray, List.set_cons_zero, List.set_cons_succ] at hK
          simp only [h2] at hK ⊢
          go_simp
          exact hK _ _ rfl (gr_refl _ _) (fun e => absurd e (by decide))
        case bo4 =>
          intro u w g hd K hK
          replace g : (KeepB w3 b (fun bv : Value => PsCells (.slice (some ⟨gb, off, none⟩) rn rc) (s.stage : Int) s.skip s.req.method s.req.target s.req.minor (.slice fa s.req.fields.length fc) bv s.req.keep ((L : Nat) : Int))) w := g
          have h3 : (u 3) = .pointer (some ⟨b, 0, none⟩) := hd 3 (by simp)
          clear hd
          simp only [Act.put, List.setIfInBounds_toArray, List.set_cons_zero, List.set_cons_succ] at hK
          simp only [h3] at hK ⊢
          go_simp
          exact hK _ _ rfl (gr_refl _ _) (fun e => absurd e (by decide))
        case bo5 =>
          intro u w g hd K hK
          replace g : (KeepB w3 b (fun bv : Value => PsCells (.slice (some ⟨gb, off, none⟩) rn rc) (s.stage : Int) s.skip s.req.method s.req.target s.req.minor (.slice fa s.req.fields.length fc) bv s.req.keep ((L : Nat) : Int))) w := g
          have h4 : (u 4) = .pointer (some ⟨b, 0, none⟩) := hd 4 (by simp)
          clear hd
          simp only [Act.put, List.setIfInBounds_toArray, List.set_cons_zero, List.set_cons_succ] at hK
          obtain ⟨gg, bv, hbv⟩ := g
          have c' := (cell_of_block hbv 0).trans (show _ = some (Value.slice (some ⟨gb, off, none⟩) rn rc) from rfl)
          simp only [h4] at hK ⊢
          go_simp
          exact hK _ _ rfl (gr_refl _ _) (fun e => absurd e (by decide))
        case bo6 =>
          intro u w g hd K hK
          replace g : (KeepB w3 b (fun bv : Value => PsCells (.slice (some ⟨gb, off, none⟩) rn rc) (s.stage : Int) s.skip s.req.method s.req.target s.req.minor (.slice fa s.req.fields.length fc) bv s.req.keep ((L : Nat) : Int))) w := g
          clear hd
          simp only [Act.put, List.setIfInBounds_toArray, List.set_cons_zero, List.set_cons_succ] at hK
          go_simp
          exact hK _ _ rfl (gr_refl _ _) (fun e => absurd e (by decide))
        case bo7 =>
          intro u w g hd K hK
          replace g : (KeepB w3 b (fun bv : Value => PsCells (.slice (some ⟨gb, off, none⟩) rn rc) (s.stage : Int) s.skip s.req.method s.req.target s.req.minor (.slice fa s.req.fields.length fc) bv s.req.keep ((L : Nat) : Int))) w := g
          have h6 : (u 6) = .pointer (some ⟨b, 0, none⟩) := hd 6 (by simp)
          clear hd
          simp only [Act.put, List.setIfInBounds_toArray, List.set_cons_zero, List.set_cons_succ] at hK
          simp only [h6] at hK ⊢
          go_simp
          exact hK _ _ rfl (gr_refl _ _) (fun e => absurd e (by decide))
        case bo8 =>
          intro u w g hd K hK
          replace g : (KeepB w3 b (fun bv : Value => PsCells (.slice (some ⟨gb, off, none⟩) rn rc) (s.stage : Int) s.skip s.req.method s.req.target s.req.minor (.slice fa s.req.fields.length fc) bv s.req.keep ((L : Nat) : Int))) w := g
          have h7 : (u 7) = .pointer (some ⟨b, 0, none⟩) := hd 7 (by simp)
          clear hd
          simp only [Act.put, List.setIfInBounds_toArray, List.set_cons_zero, List.set_cons_succ] at hK
          simp only [h7] at hK ⊢
          go_simp
          exact hK _ _ rfl (gr_refl _ _) (fun e => absurd e (by decide))
        case bo9 =>
          intro u w g hd K hK
          replace g : (KeepB w3 b (fun bv : Value => PsCells (.slice (some ⟨gb, off, none⟩) rn rc) (s.stage : Int) s.skip s.req.method s.req.target s.req.minor (.slice fa s.req.fields.length fc) bv s.req.keep ((L : Nat) : Int))) w := g
          have h8 : (u 8) = .pointer (some ⟨b, 9, none⟩) := hd 8 (by simp)
          clear hd
          simp only [Act.put, List.setIfInBounds_toArray, List.set_cons_zero, List.set_cons_succ] at hK
          obtain ⟨gg, bv, hbv⟩ := g
          have c' := (cell_of_block hbv 9).trans (show _ = some (Value.int .i64 ((L : Nat) : Int)) from rfl)
          simp only [h8] at hK ⊢
          go_simp
          exact hK _ _ rfl (gr_refl _ _) (fun e => absurd e (by decide))
        case bo10 =>
          intro u w g hd K hK
          replace g : (KeepB w3 b (fun bv : Value => PsCells (.slice (some ⟨gb, off, none⟩) rn rc) (s.stage : Int) s.skip s.req.method s.req.target s.req.minor (.slice fa s.req.fields.length fc) bv s.req.keep ((L : Nat) : Int))) w := g
          have h5 : (u 5) = .slice (some ⟨gb, off, none⟩) rn rc := hd 5 (by simp)
          have h9 : (u 9) = .int .i64 ((L : Nat) : Int) := hd 9 (by simp)
          clear hd
          simp only [Act.put, List.setIfInBounds_toArray, List.set_cons_zero, List.set_cons_succ] at hK
          simp only [h5, h9] at hK ⊢
          go_simp
          exact hK _ _ rfl (gr_refl _ _) (fun e => absurd e (by decide))
        case bo11 =>
          intro u w g hd K hK
          replace g : (KeepB w3 b (fun bv : Value => PsCells (.slice (some ⟨gb, off, none⟩) rn rc) (s.stage : Int) s.skip s.req.method s.req.target s.req.minor (.slice fa s.req.fields.length fc) bv s.req.keep ((L : Nat) : Int))) w := g
          have h10 : (u 10) = .slice (some ⟨gb, off, none⟩) L rc := hd 10 (by simp)
          clear hd
          simp only [Act.put, List.setIfInBounds_toArray, List.set_cons_zero, List.set_cons_succ] at hK
          obtain ⟨gg, bv, hbv⟩ := g
          simp only [h10] at hK ⊢
          go_simp
          refine (clone_by lr _ w ((HPART.out.kept gg HH3.out (by decide)).bytes) (.inr ⟨_, _, _, rfl⟩) (hll)).mono ?_
          rintro e w' ⟨v, rfl, hv, g'⟩
          exact hK _ _ (own8_base hv gg.size) g' (fun e => absurd e (by decide))
        case bo12 =>
          intro u w g hd K hK
          replace g : (KeepB w3 b (fun bv : Value => PsCells (.slice (some ⟨gb, off, none⟩) rn rc) (s.stage : Int) s.skip s.req.method s.req.target s.req.minor (.slice fa s.req.fields.length fc) bv s.req.keep ((L : Nat) : Int))) w := g
          clear hd
          simp only [Act.put, List.setIfInBounds_toArray, List.set_cons_zero, List.set_cons_succ] at hK
          go_simp
          exact hK _ _ rfl (gr_refl _ _) (fun e => absurd e (by decide))
        case bo13 =>
          intro u w g hd K hK
          replace g : (KeepB w3 b (fun bv : Value => PsCells (.slice (some ⟨gb, off, none⟩) rn rc) (s.stage : Int) s.skip s.req.method s.req.target s.req.minor (.slice fa s.req.fields.length fc) bv s.req.keep ((L : Nat) : Int))) w := g
          have h12 : (u 12) = .pointer (some ⟨b, 0, none⟩) := hd 12 (by simp)
          clear hd
          simp only [Act.put, List.setIfInBounds_toArray, List.set_cons_zero, List.set_cons_succ] at hK
          simp only [h12] at hK ⊢
          go_simp
          exact hK _ _ rfl (gr_refl _ _) (fun e => absurd e (by decide))
        case bo14 =>
          intro u w g hd K hK
          replace g : (KeepB w3 b (fun bv : Value => PsCells (.slice (some ⟨gb, off, none⟩) rn rc) (s.stage : Int) s.skip s.req.method s.req.target s.req.minor (.slice fa s.req.fields.length fc) bv s.req.keep ((L : Nat) : Int))) w := g
          have h13 : (u 13) = .pointer (some ⟨b, 0, none⟩) := hd 13 (by simp)
          clear hd
          simp only [Act.put, List.setIfInBounds_toArray, List.set_cons_zero, List.set_cons_succ] at hK
          simp only [h13] at hK ⊢
          go_simp
          exact hK _ _ rfl (gr_refl _ _) (fun e => absurd e (by decide))
        case bo15 =>
          intro u w g hd K hK
          replace g : (KeepB w3 b (fun bv : Value => PsCells (.slice (some ⟨gb, off, none⟩) rn rc) (s.stage : Int) s.skip s.req.method s.req.target s.req.minor (.slice fa s.req.fields.length fc) bv s.req.keep ((L : Nat) : Int))) w := g
          have h14 : (u 14) = .pointer (some ⟨b, 0, none⟩) := hd 14 (by simp)
          clear hd
          simp only [Act.put, List.setIfInBounds_toArray, List.set_cons_zero, List.set_cons_succ] at hK
          obtain ⟨gg, bv, hbv⟩ := g
          have c' := (cell_of_block hbv 0).trans (show _ = some (Value.slice (some ⟨gb, off, none⟩) rn rc) from rfl)
          simp only [h14] at hK ⊢
          go_simp
          exact hK _ _ rfl (gr_refl _ _) (fun e => absurd e (by decide))
        case bo16 =>
          intro u w g hd K hK
          replace g : (KeepB w3 b (fun bv : Value => PsCells (.slice (some ⟨gb, off, none⟩) rn rc) (s.stage : Int) s.skip s.req.method s.req.target s.req.minor (.slice fa s.req.fields.length fc) bv s.req.keep ((L : Nat) : Int))) w := g
          clear hd
          simp only [Act.put, List.setIfInBounds_toArray, List.set_cons_zero, List.set_cons_succ] at hK
          go_simp
          exact hK _ _ rfl (gr_refl _ _) (fun e => absurd e (by decide))
        case bo17 =>
          intro u w g hd K hK
          replace g : (KeepB w3 b (fun bv : Value => PsCells (.slice (some ⟨gb, off, none⟩) rn rc) (s.stage : Int) s.skip s.req.method s.req.target s.req.minor (.slice fa s.req.fields.length fc) bv s.req.keep ((L : Nat) : Int))) w := g
          have h16 : (u 16) = .pointer (some ⟨b, 0, none⟩) := hd 16 (by simp)
          clear hd
          simp only [Act.put, List.setIfInBounds_toArray, List.set_cons_zero, List.set_cons_succ] at hK
          simp only [h16] at hK ⊢
          go_simp
          exact hK _ _ rfl (gr_refl _ _) (fun e => absurd e (by decide))
        case bo18 =>
          intro u w g hd K hK
          replace g : (KeepB w3 b (fun bv : Value => PsCells (.slice (some ⟨gb, off, none⟩) rn rc) (s.stage : Int) s.skip s.req.method s.req.target s.req.minor (.slice fa s.req.fields.length fc) bv s.req.keep ((L : Nat) : Int))) w := g
          have h17 : (u 17) = .pointer (some ⟨b, 0, none⟩) := hd 17 (by simp)
          clear hd
          simp only [Act.put, List.setIfInBounds_toArray, List.set_cons_zero, List.set_cons_succ] at hK
          simp only [h17] at hK ⊢
          go_simp
          exact hK _ _ rfl (gr_refl _ _) (fun e => absurd e (by decide))
        case bo19 =>
          intro u w g hd K hK
          replace g : (KeepB w3 b (fun bv : Value => PsCells (.slice (some ⟨gb, off, none⟩) rn rc) (s.stage : Int) s.skip s.req.method s.req.target s.req.minor (.slice fa s.req.fields.length fc) bv s.req.keep ((L : Nat) : Int))) w := g
          have h18 : (u 18) = .pointer (some ⟨b, 9, none⟩) := hd 18 (by simp)
          clear hd
          simp only [Act.put, List.setIfInBounds_toArray, List.set_cons_zero, List.set_cons_succ] at hK
          obtain ⟨gg, bv, hbv⟩ := g
          have c' := (cell_of_block hbv 9).trans (show _ = some (Value.int .i64 ((L : Nat) : Int)) from rfl)
          simp only [h18] at hK ⊢
          go_simp
          exact hK _ _ rfl (gr_refl _ _) (fun e => absurd e (by decide))
        case bo20 =>
          intro u w g hd K hK
          replace g : (KeepB w3 b (fun bv : Value => PsCells (.slice (some ⟨gb, off, none⟩) rn rc) (s.stage : Int) s.skip s.req.method s.req.target s.req.minor (.slice fa s.req.fields.length fc) bv s.req.keep ((L : Nat) : Int))) w := g
          have h15 : (u 15) = .slice (some ⟨gb, off, none⟩) rn rc := hd 15 (by simp)
          have h19 : (u 19) = .int .i64 ((L : Nat) : Int) := hd 19 (by simp)
          clear hd
          simp only [Act.put, List.setIfInBounds_toArray, List.set_cons_zero, List.set_cons_succ] at hK
          simp only [h15, h19] at hK ⊢
          go_simp
          exact hK _ _ rfl (gr_refl _ _) (fun e => absurd e (by decide))
        case bo21 =>
          intro u w g hd K hK
          replace g : (KeepB w3 b (fun bv : Value => PsCells (.slice (some ⟨gb, off, none⟩) rn rc) (s.stage : Int) s.skip s.req.method s.req.target s.req.minor (.slice fa s.req.fields.length fc) bv s.req.keep ((L : Nat) : Int))) w := g
          have h0 : (u 0) = .pointer (some ⟨b, 0, none⟩) := hd 0 (by simp)
          clear hd
          simp only [Act.put, List.setIfInBounds_toArray, List.set_cons_zero, List.set_cons_succ] at hK
          simp only [h0] at hK ⊢
          go_simp
          exact hK _ _ rfl (gr_refl _ _) (fun e => absurd e (by decide))
        case bo22 =>
          intro u w g hd K hK
          replace g : (KeepB w3 b (fun bv : Value => PsCells (.slice (some ⟨gb, off, none⟩) rn rc) (s.stage : Int) s.skip s.req.method s.req.target s.req.minor (.slice fa s.req.fields.length fc) bv s.req.keep ((L : Nat) : Int))) w := g
          have h21 : (u 21) = .pointer (some ⟨b, 0, none⟩) := hd 21 (by simp)
          clear hd
          simp only [Act.put, List.setIfInBounds_toArray, List.set_cons_zero, List.set_cons_succ] at hK
          simp only [h21] at hK ⊢
          go_simp
          exact hK _ _ rfl (gr_refl _ _) (fun e => absurd e (by decide))
        case bo23 =>
          intro u w g hd K hK
          replace g : (KeepB w3 b (fun bv : Value => PsCells (.slice (some ⟨gb, off, none⟩) rn rc) (s.stage : Int) s.skip s.req.method s.req.target s.req.minor (.slice fa s.req.fields.length fc) bv s.req.keep ((L : Nat) : Int))) w := g
          have h22 : (u 22) = .pointer (some ⟨b, 3, none⟩) := hd 22 (by simp)
          clear hd
          simp only [Act.put, List.setIfInBounds_toArray, List.set_cons_zero, List.set_cons_succ] at hK
          simp only [h22] at hK ⊢
          go_simp
          exact hK _ _ rfl (gr_refl _ _) (fun e => absurd e (by decide))
        case bo24 =>
          intro u w g hd K hK
          replace g : (fun w : World => w3.grownBy w none) w := g
          have h23 : (u 23) = .pointer (some ⟨b, 7, none⟩) := hd 23 (by simp)
          have h11 : Own8 w w3.heap.size (u 11) lr := hd 11 (by simp)
          clear hd
          simp only [Act.put, List.setIfInBounds_toArray, List.set_cons_zero, List.set_cons_succ] at hK
          obtain ⟨xa, xc, e11, -, -⟩ := h11.byAt.shape
          rw [e11] at h11
          have hbw := gr_keep g HH3.out (by simp)
          have c' := (cell_of_block hbw 7).trans (show _ = some (Value.slice ba s.req.body.length bc) from rfl)
          have f' := free_of_block hbw 7
          have l' := lt_of_block hbw
          simp only [h23, e11] at hK ⊢
          go_simp
          refine hK undef _ ?_ ?_ ?_
          · exact ⟨.slice xa lr.length xc, heap_set hbw, h11.kept2 (gr_set (gr_refl _ _)) lb3⟩
          · exact gr_set (gr_refl _ _)
          · exact fun _ => ⟨gr_set (gr_none g), .slice xa lr.length xc, heap_set hbw⟩
        case bdone =>
          intro u w hS g
          have s0 : (u 0) = .pointer (some ⟨b, 0, none⟩) := hS 0 (by decide)
          have s1 : (u 1) = .pointer (some ⟨b, 0, none⟩) := hS 1 (by decide)
          have s2 : (u 2) = .pointer (some ⟨b, 0, none⟩) := hS 2 (by decide)
          have s3 : (u 3) = .pointer (some ⟨b, 0, none⟩) := hS 3 (by decide)
          have s4 : (u 4) = .pointer (some ⟨b, 0, none⟩) := hS 4 (by decide)
          have s5 : (u 5) = .slice (some ⟨gb, off, none⟩) rn rc := hS 5 (by decide)
          have s6 : (u 6) = .pointer (some ⟨b, 0, none⟩) := hS 6 (by decide)
          have s7 : (u 7) = .pointer (some ⟨b, 0, none⟩) := hS 7 (by decide)
          have s8 : (u 8) = .pointer (some ⟨b, 9, none⟩) := hS 8 (by decide)
          have s9 : (u 9) = .int .i64 ((L : Nat) : Int) := hS 9 (by decide)
          have s10 : (u 10) = .slice (some ⟨gb, off, none⟩) L rc := hS 10 (by decide)
          have s11 : Own8 w w3.heap.size (u 11) lr := hS 11 (by decide)
          have s12 : (u 12) = .pointer (some ⟨b, 0, none⟩) := hS 12 (by decide)
          have s13 : (u 13) = .pointer (some ⟨b, 0, none⟩) := hS 13 (by decide)
          have s14 : (u 14) = .pointer (some ⟨b, 0, none⟩) := hS 14 (by decide)
          have s15 : (u 15) = .slice (some ⟨gb, off, none⟩) rn rc := hS 15 (by decide)
          have s16 : (u 16) = .pointer (some ⟨b, 0, none⟩) := hS 16 (by decide)
          have s17 : (u 17) = .pointer (some ⟨b, 0, none⟩) := hS 17 (by decide)
          have s18 : (u 18) = .pointer (some ⟨b, 9, none⟩) := hS 18 (by decide)
          have s19 : (u 19) = .int .i64 ((L : Nat) : Int) := hS 19 (by decide)
          have s20 : (u 20) = .slice (if rc = L then some ⟨gb, off, none⟩ else some ⟨gb, off + L, none⟩) (rn - L) (rc - L) := hS 20 (by decide)
          have s21 : (u 21) = .pointer (some ⟨b, 0, none⟩) := hS 21 (by decide)
          have s22 : (u 22) = .pointer (some ⟨b, 3, none⟩) := hS 22 (by decide)
          have s23 : (u 23) = .pointer (some ⟨b, 7, none⟩) := hS 23 (by decide)
          have s24 : ∃ bv, w.heap[b]? = some (.cells ((fun bv : Value => PsCells (.slice (some ⟨gb, off, none⟩) rn rc) (s.stage : Int) s.skip s.req.method s.req.target s.req.minor (.slice fa s.req.fields.length fc) bv s.req.keep ((L : Nat) : Int)) bv) 62 (0, 0)) ∧ Own8 w w3.heap.size bv lr := hS 24 (by decide)
          clear hS
          by_cases hck : rc = L
          · rw [if_pos hck, show rc - L = 0 by omega] at s20 HDROP
            obtain ⟨bv, hbv, hob⟩ := s24
            have gg : w3.grownBy w (some b) := g.1
            change wpList _ _ _ [_, _, _] _ _
            rw [s1, s20]
            obtain ⟨xa, xc, ebv, -, -⟩ := hob.byAt.shape
            subst ebv
            have HOB := hid hob.byAt
            have G4 := hid (gr_trans (gr_none G2.out) gg)
            have HNw := hid (gr_keep gg HN2.out (blk_ne HN2.out HH3.out (by decide)))
            have HRw := hid (HDROP.out.kept gg HH3.out (by decide))
            have HFw := hid ((HF.out.grow G2.out).kept gg HH3.out (by decide))
            have HHw := hid hbv
            clear s0 s1 s2 s3 s4 s5 s6 s7 s8 s9 s10 s11 s12 s13 s14 s15 s16 s17 s18 s19 s20 s21 s22 s23 gg hbv hob g HDROP HPART HBY HN2 HH3
            generalize u 0 = y0, u 1 = y1, u 2 = y2, u 3 = y3, u 4 = y4, u 5 = y5, u 6 = y6, u 7 = y7, u 8 = y8, u 9 = y9, u 10 = y10, u 11 = y11, u 12 = y12, u 13 = y13, u 14 = y14, u 15 = y15, u 16 = y16, u 17 = y17, u 18 = y18, u 19 = y19, u 21 = y21, u 22 = y22, u 23 = y23
            have c0 := (cell_of_block HHw.out 0).trans (show _ = some (Value.slice (some ⟨gb, off, none⟩) rn rc) from rfl)
            have f0 := free_of_block HHw.out 0
            have lbw := lt_of_block HHw.out
            go_wp2_with fail
            obtain ⟨w4, hw4⟩ : ∃ x, x = w.setCell ⟨b, 0, none⟩ (.slice (some ⟨gb, off, none⟩) (rn - L) 0) := ⟨_, rfl⟩
            rw [← hw4]
            have hb4 : w4.heap[b]? = some (.cells (PsCells (.slice (some ⟨gb, off, none⟩) (rn - L) 0) (s.stage : Int) s.skip s.req.method s.req.target s.req.minor (.slice fa s.req.fields.length fc) (.slice xa lr.length xc) s.req.keep ((L : Nat) : Int)) 62 (0, 0)) := by rw [hw4]; exact heap_set HHw.out
            have g4 : w.grownBy w4 (some b) := by rw [hw4]; exact gr_set (gr_refl _ _)
            have HN4 := hid (gr_keep g4 HNw.out (blk_ne HNw.out HHw.out (by decide)))
            have HF4 := hid (HFw.out.kept g4 HHw.out (by decide))
            have HB4 := hid (HOB.out.bo.kept g4 HHw.out (by decide) (no_u8_ps _ _ _ _ _ _ _ _ _ _ _ _))
            have HR4 := hid (HRw.out.kept g4 HHw.out (by decide))
            have G5 := hid (gr_trans G4.out g4)
            clear hw4 g4 c0 f0 lbw HNw HFw HRw HHw HOB
            refine (done_http b _ _ _ _ _ _ _ _ _ _ _ _ _ _ _ _ w4 hb4).mono ?_
            rintro e w5 ⟨rfl, hm, g5⟩
            have HN5 := hid (gr_keep g5 HN4.out (blk_ne HN4.out hb4 (by decide)))
            have HS := hid (show stepS s = doneS { s with req := { s.req with body := s.rest.take s.left }, rest := s.rest.drop s.left } by rw [HSS.out]; unfold bodyS; exact if_neg (by have := HEQ.out; have := HLE.out; omega))
            have HD := hid (fun w9 g9 => done_end2 (w9 := w9) (s := { s with req := { s.req with body := s.rest.take s.left }, rest := s.rest.drop s.left }) (by have := HEQ.out; show (rn - L) = (s.rest.drop s.left).length; rw [List.length_drop]; omega) (show lr.length = (s.rest.take s.left).length by rw [HLR.out, ← HEQ.out.2]) HEQ.out.2 hm (gr_trans G5.out g5) (show ByAt w5 (.slice (some ⟨gb, off, none⟩) (rn - L) 0) (s.rest.drop s.left) by rw [← HEQ.out.2]; exact HR4.out.kept g5 hb4 (by decide)) (HF4.out.kept g5 hb4 (by decide)) (show BoAt w5 (.slice xa lr.length xc) (s.rest.take s.left) by rw [← HEQ.out.2, ← HLR.out]; exact HB4.out.kept g5 hb4 (by decide) (no_u8_ps _ _ _ _ _ _ _ _ _ _ _ _)) HN5.out g9 (Nat.le_refl _) (no_u8_pd _ _ _ _ _ _ _))
            clear hm
            have y0 := free_of_block HN5.out 0
            have y1 := free_of_block HN5.out 1
            have y2 := free_of_block HN5.out 2
            have y3 := free_of_block HN5.out 3
            have y4 := free_of_block HN5.out 4
            have y5 := free_of_block HN5.out 5
            have y6 := free_of_block HN5.out 6
            have n0 := (cell_of_block HN5.out 0).trans (show _ = some (Value.int .i64 0) from rfl)
            have n1 := (cell_of_block HN5.out 1).trans (show _ = some (Value.string ⟨#[]⟩) from rfl)
            have n2 := (cell_of_block HN5.out 2).trans (show _ = some (Value.string ⟨#[]⟩) from rfl)
            have n3 := (cell_of_block HN5.out 3).trans (show _ = some (Value.int .i64 0) from rfl)
            have n4 := (cell_of_block HN5.out 4).trans (show _ = some (Value.slice none 0 0) from rfl)
            have n5 := (cell_of_block HN5.out 5).trans (show _ = some (Value.slice none 0 0) from rfl)
            have n6 := (cell_of_block HN5.out 6).trans (show _ = some (Value.bool false) from rfl)
            have lnn := lt_of_block HN5.out
            unfold PdCells str
            go_wp21
            have H7 := pd_set7 (.int .i64 0) (.string ⟨s.req.method.toArray⟩) (.string ⟨s.req.target.toArray⟩) (.int .i64 s.req.minor) (.slice fa s.req.fields.length fc) (.slice xa lr.length xc) (.bool s.req.keep) HN5.out
            revert H7
            generalize ((((((w5.setCell _ _).setCell _ _).setCell _ _).setCell _ _).setCell _ _).setCell _ _).setCell _ _ = w9
            rintro ⟨hn9, g9⟩
            have e0 := cell_of_block hn9 0
            have e1 := cell_of_block hn9 1
            have e2 := cell_of_block hn9 2
            have e3 := cell_of_block hn9 3
            have e4 := cell_of_block hn9 4
            have e5 := cell_of_block hn9 5
            have e6 := cell_of_block hn9 6
            (try simp only [Exit.inBlock, Exit.then])
            refine bodyPost_ret (v := .tuple #[.agg #[.int .i64 0, .string ⟨s.req.method.toArray⟩, .string ⟨s.req.target.toArray⟩, .int .i64 s.req.minor, .slice fa s.req.fields.length fc, .slice xa lr.length xc, .bool s.req.keep], .bool true]) ?_ rfl (by rw [HS.out]; exact HD.out w9 g9)
            simp [results, Tryz.results29, go_sem, e0, e1, e2, e3, e4, e5, e6]
          · rw [if_neg hck] at s20 HDROP
            obtain ⟨bv, hbv, hob⟩ := s24
            have gg : w3.grownBy w (some b) := g.1
            change wpList _ _ _ [_, _, _] _ _
            rw [s1, s20]
            obtain ⟨xa, xc, ebv, -, -⟩ := hob.byAt.shape
            subst ebv
            have HOB := hid hob.byAt
            have G4 := hid (gr_trans (gr_none G2.out) gg)
            have HNw := hid (gr_keep gg HN2.out (blk_ne HN2.out HH3.out (by decide)))
            have HRw := hid (HDROP.out.kept gg HH3.out (by decide))
            have HFw := hid ((HF.out.grow G2.out).kept gg HH3.out (by decide))
            have HHw := hid hbv
            clear s0 s1 s2 s3 s4 s5 s6 s7 s8 s9 s10 s11 s12 s13 s14 s15 s16 s17 s18 s19 s20 s21 s22 s23 gg hbv hob g HDROP HPART HBY HN2 HH3
            generalize u 0 = y0, u 1 = y1, u 2 = y2, u 3 = y3, u 4 = y4, u 5 = y5, u 6 = y6, u 7 = y7, u 8 = y8, u 9 = y9, u 10 = y10, u 11 = y11, u 12 = y12, u 13 = y13, u 14 = y14, u 15 = y15, u 16 = y16, u 17 = y17, u 18 = y18, u 19 = y19, u 21 = y21, u 22 = y22, u 23 = y23
            have c0 := (cell_of_block HHw.out 0).trans (show _ = some (Value.slice (some ⟨gb, off, none⟩) rn rc) from rfl)
            have f0 := free_of_block HHw.out 0
            have lbw := lt_of_block HHw.out
            go_wp2_with fail
            obtain ⟨w4, hw4⟩ : ∃ x, x = w.setCell ⟨b, 0, none⟩ (.slice (some ⟨gb, off + L, none⟩) (rn - L) (rc - L)) := ⟨_, rfl⟩
            rw [← hw4]
            have hb4 : w4.heap[b]? = some (.cells (PsCells (.slice (some ⟨gb, off + L, none⟩) (rn - L) (rc - L)) (s.stage : Int) s.skip s.req.method s.req.target s.req.minor (.slice fa s.req.fields.length fc) (.slice xa lr.length xc) s.req.keep ((L : Nat) : Int)) 62 (0, 0)) := by rw [hw4]; exact heap_set HHw.out
            have g4 : w.grownBy w4 (some b) := by rw [hw4]; exact gr_set (gr_refl _ _)
            have HN4 := hid (gr_keep g4 HNw.out (blk_ne HNw.out HHw.out (by decide)))
            have HF4 := hid (HFw.out.kept g4 HHw.out (by decide))
            have HB4 := hid (HOB.out.bo.kept g4 HHw.out (by decide) (no_u8_ps _ _ _ _ _ _ _ _ _ _ _ _))
            have HR4 := hid (HRw.out.kept g4 HHw.out (by decide))
            have G5 := hid (gr_trans G4.out g4)
            clear hw4 g4 c0 f0 lbw HNw HFw HRw HHw HOB
            refine (done_http b _ _ _ _ _ _ _ _ _ _ _ _ _ _ _ _ w4 hb4).mono ?_
            rintro e w5 ⟨rfl, hm, g5⟩
            have HN5 := hid (gr_keep g5 HN4.out (blk_ne HN4.out hb4 (by decide)))
            have HS := hid (show stepS s = doneS { s with req := { s.req with body := s.rest.take s.left }, rest := s.rest.drop s.left } by rw [HSS.out]; unfold bodyS; exact if_neg (by have := HEQ.out; have := HLE.out; omega))
            have HD := hid (fun w9 g9 => done_end2 (w9 := w9) (s := { s with req := { s.req with body := s.rest.take s.left }, rest := s.rest.drop s.left }) (by have := HEQ.out; show (rn - L) = (s.rest.drop s.left).length; rw [List.length_drop]; omega) (show lr.length = (s.rest.take s.left).length by rw [HLR.out, ← HEQ.out.2]) HEQ.out.2 hm (gr_trans G5.out g5) (show ByAt w5 (.slice (some ⟨gb, off + L, none⟩) (rn - L) (rc - L)) (s.rest.drop s.left) by rw [← HEQ.out.2]; exact HR4.out.kept g5 hb4 (by decide)) (HF4.out.kept g5 hb4 (by decide)) (show BoAt w5 (.slice xa lr.length xc) (s.rest.take s.left) by rw [← HEQ.out.2, ← HLR.out]; exact HB4.out.kept g5 hb4 (by decide) (no_u8_ps _ _ _ _ _ _ _ _ _ _ _ _)) HN5.out g9 (Nat.le_refl _) (no_u8_pd _ _ _ _ _ _ _))
            clear hm
            have y0 := free_of_block HN5.out 0
            have y1 := free_of_block HN5.out 1
            have y2 := free_of_block HN5.out 2
            have y3 := free_of_block HN5.out 3
            have y4 := free_of_block HN5.out 4
            have y5 := free_of_block HN5.out 5
            have y6 := free_of_block HN5.out 6
            have n0 := (cell_of_block HN5.out 0).trans (show _ = some (Value.int .i64 0) from rfl)
            have n1 := (cell_of_block HN5.out 1).trans (show _ = some (Value.string ⟨#[]⟩) from rfl)
            have n2 := (cell_of_block HN5.out 2).trans (show _ = some (Value.string ⟨#[]⟩) from rfl)
            have n3 := (cell_of_block HN5.out 3).trans (show _ = some (Value.int .i64 0) from rfl)
            have n4 := (cell_of_block HN5.out 4).trans (show _ = some (Value.slice none 0 0) from rfl)
            have n5 := (cell_of_block HN5.out 5).trans (show _ = some (Value.slice none 0 0) from rfl)
            have n6 := (cell_of_block HN5.out 6).trans (show _ = some (Value.bool false) from rfl)
            have lnn := lt_of_block HN5.out
            unfold PdCells str
            go_wp21
            have H7 := pd_set7 (.int .i64 0) (.string ⟨s.req.method.toArray⟩) (.string ⟨s.req.target.toArray⟩) (.int .i64 s.req.minor) (.slice fa s.req.fields.length fc) (.slice xa lr.length xc) (.bool s.req.keep) HN5.out
            revert H7
            generalize ((((((w5.setCell _ _).setCell _ _).setCell _ _).setCell _ _).setCell _ _).setCell _ _).setCell _ _ = w9
            rintro ⟨hn9, g9⟩
            have e0 := cell_of_block hn9 0
            have e1 := cell_of_block hn9 1
            have e2 := cell_of_block hn9 2
            have e3 := cell_of_block hn9 3
            have e4 := cell_of_block hn9 4
            have e5 := cell_of_block hn9 5
            have e6 := cell_of_block hn9 6
            (try simp only [Exit.inBlock, Exit.then])
            refine bodyPost_ret (v := .tuple #[.agg #[.int .i64 0, .string ⟨s.req.method.toArray⟩, .string ⟨s.req.target.toArray⟩, .int .i64 s.req.minor, .slice fa s.req.fields.length fc, .slice xa lr.length xc, .bool s.req.keep], .bool true]) ?_ rfl (by rw [HS.out]; exact HD.out w9 g9)
            simp [results, Tryz.results29, go_sem, e0, e1, e2, e3, e4, e5, e6]
end Go.Proofs.YtldbcdiomkkinaaGreatDoor
