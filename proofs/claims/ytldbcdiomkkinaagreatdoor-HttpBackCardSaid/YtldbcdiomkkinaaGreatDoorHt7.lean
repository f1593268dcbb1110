/- (*http.Parser).chunk. -/
import Derived.Test.YtldbcdiomkkinaaGreatDoorHt6
import Derived.Lib.SlBytesConst
namespace Go.Proofs.YtldbcdiomkkinaaGreatDoor
open Go.RowKit

/-- A byte of a row, where it is there, is another one. -/
def Off (l : List UInt8) (i : Nat) (m : UInt8) : Prop := i < l.length ∧ l.getD i 0 ≠ m
def ChR (s : Ps) (w2 : World) (vk : Value) (wr : World) : Prop :=
  wr = w2 ∧ ((vk = .int .i64 0) ∨ (vk = .int .i64 1 ∧ ¬ Off s.rest s.left 13) ∨ (vk = .int .i64 2 ∧ (¬ Off s.rest s.left 13) ∧ ¬ Off s.rest (s.left + 1) 10))
set_option maxRecDepth 20000 in
set_option maxHeartbeats 4000000 in
theorem chunk_http (b : Nat) (s : Ps) (w : World) (h : PLive w b s) (hs : s.stage = 3) (hok : PsOk s) : Calls Tryz.prog 41 #[.pointer (some ⟨b, 0, none⟩)] w (StepPost w b (chunkS s)) := by
  have hs5 : s.stage ≠ 5 := by rw [hs]; decide
  have HL := hid h
  have HOK := hid hok
  obtain ⟨rv, fv, bv, hh, hr, hf, hb⟩ := h
  obtain ⟨ra, rc, rfl, hr1, hr2⟩ := hr.shape
  obtain ⟨fa, fc, rfl⟩ := hf.shape
  obtain ⟨ba, bc, rfl, hb1, hb2⟩ := hb.shape
  have HR := hid hr
  have HF := hid hf
  have HBo := hid hb
  have HH := hid hh
  have hlr : s.rest.length ≤ 200000 := hok.1
  have hll : s.left ≤ 8192 := hok.2.2
  have hrc : rc ≤ 9223372036854775807 := hr2
  clear hok hr hf hb
  go_enter Tryz.func41, Tryz.ntmps41
  have hN := heap_alloc_new w (.cells #[.int .i64 0, .string ⟨#[]⟩, .string ⟨#[]⟩, .int .i64 0, .slice none 0 0, .slice none 0 0, .bool false] 46)
  have g1 := World.grownBy_alloc w (.cells #[.int .i64 0, .string ⟨#[]⟩, .string ⟨#[]⟩, .int .i64 0, .slice none 0 0, .slice none 0 0, .bool false] 46) none
  have s1 : (w.alloc (.cells #[.int .i64 0, .string ⟨#[]⟩, .string ⟨#[]⟩, .int .i64 0, .slice none 0 0, .slice none 0 0, .bool false] 46)).heap.size = w.heap.size + 1 := World.size_alloc _ _
  have c9 := g1.cell ((cell_of_block hh 9).trans (show _ = some (Value.int .i64 (s.left : Int)) from rfl)) (by simp)
  have hlt := lt_of_block hh
  clear hh
  go_upto_region 2 with fail
  revert hN g1 s1 c9
  generalize w.alloc _ = w1
  intro hN g1 s1 c9
  have hcv := Lib.run_convert_bytes_const (P := Tryz.prog) w1 22 5 #[.int .u8 13, .int .u8 10] 2 2 Tryz.underlying22 Tryz.underlying5
  have hC := heap_alloc_new w1 (.cells #[.int .u8 13, .int .u8 10] 5 (2, 3))
  have g2 := World.grownBy_alloc w1 (.cells #[.int .u8 13, .int .u8 10] 5 (2, 3)) none
  rw [s1] at hcv hC
  go_wp2_with fail
  revert hC g2
  clear hcv
  generalize w1.alloc _ = w2
  intro hC g2
  have k0 : w2.cell? ⟨w.heap.size + 1, 0, none⟩ = some (.int .u8 13) := by simp only [World.cell?, hC]; rfl
  have k1 : w2.cell? ⟨w.heap.size + 1, 1, none⟩ = some (.int .u8 10) := by simp only [World.cell?, hC]; rfl
  have HN := hid (gr_keep g2 hN (by simp))
  have G2 := hid (gr_trans g1 g2)
  clear hC c9 g1 g2 hN s1
  have hh2 := gr_keep G2.out HH.out (by simp)
  have c0 := (cell_of_block hh2 0).trans (show _ = some (Value.slice ra s.rest.length rc) from rfl)
  have c9 := (cell_of_block hh2 9).trans (show _ = some (Value.int .i64 (s.left : Int)) from rfl)
  have l2 := lt_of_block hh2
  have HH2 := hid hh2
  clear hh2
  go_loopw [16] (fun vk wr => ChR s w2 vk wr) (fun vk _ => 2 - (intOf vk).toNat)
  case atStart => exact ⟨rfl, .inl rfl⟩
  case round =>
    obtain ⟨rfl, rfl | ⟨rfl, h0⟩ | ⟨rfl, h0, h1⟩⟩ := hrel
    all_goals (try replace h0 := hid h0)
    all_goals (try replace h1 := hid h1)
    · have hlw : IntKind.i64.wrap ((s.left : Int) + 0) = (s.left : Int) := by rw [Int.add_zero]; exact IntWalk.i64_in _ (by omega)
      by_cases hlti : s.left < s.rest.length
      · obtain ⟨g, off, rfl⟩ : ∃ g off, ra = some ⟨g, off, none⟩ := by
          rcases HR.out with ⟨_, e⟩ | ⟨g, off, _, _, e, _⟩
          · rw [e] at hlti; simp at hlti
          · cases e; exact ⟨g, off, rfl⟩
        have hby := (HR.out.grow G2.out).bytes.at
        obtain ⟨b', o', e, hcs⟩ := hby.2.2.2 (by omega)
        cases e
        have hcell := hcs (s.left) hlti
        clear hby hcs
        have hli : ((s.left : Int) : Int) < (s.rest.length : Int) := by omega
        by_cases hx : s.rest.getD (s.left) 0 = 13
        · rw [hx] at hcell
          have HO := hid (show ¬ Off s.rest (s.left) 13 from fun h => h.2 hx)
          clear hx
          go_wp2_with fail
          go_roundw
          case rel => exact ⟨rfl, .inr (.inl ⟨rfl, HO.out⟩)⟩
          case measure => simp [intOf]
        · have HO := hid (show Off s.rest (s.left) 13 from ⟨hlti, hx⟩)
          have hxi : (((s.rest.getD (s.left) 0).toNat : Int) != 13) = true := by
            rw [bne_iff_ne]; intro e; exact hx (UInt8.toNat_inj.1 (by simp at e ⊢; omega))
          generalize s.rest.getD (s.left) 0 = x at hcell hxi
          have HS := hid (by unfold chunkS; exact if_pos (.inl HO.out) : chunkS s = failS 400)
          clear hx
          go_wp2_with fail
          refine (fail_http b _ _ _ _ _ _ 400 _ _ _ _ wr HH2.out).mono ?_
          rintro e w3 ⟨rfl, hd, g3⟩
          have HN3 := hid (gr_keep g3 HN.out (blk_ne HN.out HH2.out (by decide)))
          have y0 := free_of_block HN3.out 0
          have y1 := free_of_block HN3.out 1
          have y2 := free_of_block HN3.out 2
          have y3 := free_of_block HN3.out 3
          have y4 := free_of_block HN3.out 4
          have y5 := free_of_block HN3.out 5
          have y6 := free_of_block HN3.out 6
          have n0 := (cell_of_block HN3.out 0).trans (show _ = some (Value.int .i64 0) from rfl)
          have n1 := (cell_of_block HN3.out 1).trans (show _ = some (Value.string ⟨#[]⟩) from rfl)
          have n2 := (cell_of_block HN3.out 2).trans (show _ = some (Value.string ⟨#[]⟩) from rfl)
          have n3 := (cell_of_block HN3.out 3).trans (show _ = some (Value.int .i64 0) from rfl)
          have n4 := (cell_of_block HN3.out 4).trans (show _ = some (Value.slice none 0 0) from rfl)
          have n5 := (cell_of_block HN3.out 5).trans (show _ = some (Value.slice none 0 0) from rfl)
          have n6 := (cell_of_block HN3.out 6).trans (show _ = some (Value.bool false) from rfl)
          have lnn := lt_of_block HN3.out
          unfold PdCells str
          go_wp21
          have H7 := pd_set7 (.int .i64 400) (.string ⟨#[]⟩) (.string ⟨#[]⟩) (.int .i64 0) (.slice none 0 0) (.slice none 0 0) (.bool false) HN3.out
          revert H7
          generalize ((((((w3.setCell _ _).setCell _ _).setCell _ _).setCell _ _).setCell _ _).setCell _ _).setCell _ _ = w9
          rintro ⟨hn9, g9⟩
          have e0 := cell_of_block hn9 0
          have e1 := cell_of_block hn9 1
          have e2 := cell_of_block hn9 2
          have e3 := cell_of_block hn9 3
          have e4 := cell_of_block hn9 4
          have e5 := cell_of_block hn9 5
          have e6 := cell_of_block hn9 6
          (try simp only [Exit.inBlock, Exit.then])
          refine bodyPost_ret (v := .tuple #[.agg #[.int .i64 400, .string ⟨#[]⟩, .string ⟨#[]⟩, .int .i64 0, .slice none 0 0, .slice none 0 0, .bool false], .bool true]) ?_ rfl (by rw [HS.out]; exact fail_end hd (gr_trans (gr_none G2.out) g3) HN3.out g9 (Nat.le_refl _))
          simp [results, Tryz.results41, go_sem, e0, e1, e2, e3, e4, e5, e6]
      · have HO := hid (show ¬ Off s.rest (s.left) 13 from fun h => hlti h.1)
        have hli : ¬ ((s.left : Int) : Int) < (s.rest.length : Int) := by omega
        have hli2 : (s.rest.length : Int) ≤ (s.left : Int) := by omega
        go_wp2_with fail
        go_roundw
        case rel => exact ⟨rfl, .inr (.inl ⟨rfl, HO.out⟩)⟩
        case measure => simp [intOf]
    · have hlw : IntKind.i64.wrap ((s.left : Int) + 1) = (s.left : Int) + 1 := IntWalk.i64_in _ (by omega)
      by_cases hlti : s.left + 1 < s.rest.length
      · obtain ⟨g, off, rfl⟩ : ∃ g off, ra = some ⟨g, off, none⟩ := by
          rcases HR.out with ⟨_, e⟩ | ⟨g, off, _, _, e, _⟩
          · rw [e] at hlti; simp at hlti
          · cases e; exact ⟨g, off, rfl⟩
        have hby := (HR.out.grow G2.out).bytes.at
        obtain ⟨b', o', e, hcs⟩ := hby.2.2.2 (by omega)
        cases e
        have hcell := hcs (s.left + 1) hlti
        clear hby hcs
        have hli : ((s.left : Int) + 1 : Int) < (s.rest.length : Int) := by omega
        by_cases hx : s.rest.getD (s.left + 1) 0 = 10
        · rw [hx] at hcell
          have HO := hid (show ¬ Off s.rest (s.left + 1) 10 from fun h => h.2 hx)
          clear hx
          go_wp2_with fail
          go_roundw
          case rel => exact ⟨rfl, .inr (.inr ⟨rfl, h0.out, HO.out⟩)⟩
          case measure => simp [intOf]
        · have HO := hid (show Off s.rest (s.left + 1) 10 from ⟨hlti, hx⟩)
          have hxi : (((s.rest.getD (s.left + 1) 0).toNat : Int) != 10) = true := by
            rw [bne_iff_ne]; intro e; exact hx (UInt8.toNat_inj.1 (by simp at e ⊢; omega))
          generalize s.rest.getD (s.left + 1) 0 = x at hcell hxi
          have HS := hid (by unfold chunkS; exact if_pos (.inr HO.out) : chunkS s = failS 400)
          clear hx
          go_wp2_with fail
          refine (fail_http b _ _ _ _ _ _ 400 _ _ _ _ wr HH2.out).mono ?_
          rintro e w3 ⟨rfl, hd, g3⟩
          have HN3 := hid (gr_keep g3 HN.out (blk_ne HN.out HH2.out (by decide)))
          have y0 := free_of_block HN3.out 0
          have y1 := free_of_block HN3.out 1
          have y2 := free_of_block HN3.out 2
          have y3 := free_of_block HN3.out 3
          have y4 := free_of_block HN3.out 4
          have y5 := free_of_block HN3.out 5
          have y6 := free_of_block HN3.out 6
          have n0 := (cell_of_block HN3.out 0).trans (show _ = some (Value.int .i64 0) from rfl)
          have n1 := (cell_of_block HN3.out 1).trans (show _ = some (Value.string ⟨#[]⟩) from rfl)
          have n2 := (cell_of_block HN3.out 2).trans (show _ = some (Value.string ⟨#[]⟩) from rfl)
          have n3 := (cell_of_block HN3.out 3).trans (show _ = some (Value.int .i64 0) from rfl)
          have n4 := (cell_of_block HN3.out 4).trans (show _ = some (Value.slice none 0 0) from rfl)
          have n5 := (cell_of_block HN3.out 5).trans (show _ = some (Value.slice none 0 0) from rfl)
          have n6 := (cell_of_block HN3.out 6).trans (show _ = some (Value.bool false) from rfl)
          have lnn := lt_of_block HN3.out
          unfold PdCells str
          go_wp21
          have H7 := pd_set7 (.int .i64 400) (.string ⟨#[]⟩) (.string ⟨#[]⟩) (.int .i64 0) (.slice none 0 0) (.slice none 0 0) (.bool false) HN3.out
          revert H7
          generalize ((((((w3.setCell _ _).setCell _ _).setCell _ _).setCell _ _).setCell _ _).setCell _ _).setCell _ _ = w9
          rintro ⟨hn9, g9⟩
          have e0 := cell_of_block hn9 0
          have e1 := cell_of_block hn9 1
          have e2 := cell_of_block hn9 2
          have e3 := cell_of_block hn9 3
          have e4 := cell_of_block hn9 4
          have e5 := cell_of_block hn9 5
          have e6 := cell_of_block hn9 6
          (try simp only [Exit.inBlock, Exit.then])
          refine bodyPost_ret (v := .tuple #[.agg #[.int .i64 400, .string ⟨#[]⟩, .string ⟨#[]⟩, .int .i64 0, .slice none 0 0, .slice none 0 0, .bool false], .bool true]) ?_ rfl (by rw [HS.out]; exact fail_end hd (gr_trans (gr_none G2.out) g3) HN3.out g9 (Nat.le_refl _))
          simp [results, Tryz.results41, go_sem, e0, e1, e2, e3, e4, e5, e6]
      · have HO := hid (show ¬ Off s.rest (s.left + 1) 10 from fun h => hlti h.1)
        have hli : ¬ ((s.left : Int) + 1 : Int) < (s.rest.length : Int) := by omega
        have hli2 : (s.rest.length : Int) ≤ (s.left : Int) + 1 := by omega
        go_wp2_with fail
        go_roundw
        case rel => exact ⟨rfl, .inr (.inr ⟨rfl, h0.out, HO.out⟩)⟩
        case measure => simp [intOf]
    · by_cases hend : s.rest.length < s.left + 2
      · have HS := hid (show chunkS s = (s, none) by
          unfold chunkS
          rw [if_neg (by rintro (h | h); exact h0.out h; exact h1.out h), if_pos hend])
        have hei : (s.rest.length : Int) < (s.left : Int) + 2 := by omega
        have ln2 := lt_of_block HN.out
        have n0 := (cell_of_block HN.out 0).trans (show _ = some (Value.int .i64 0) from rfl)
        have y0 := free_of_block HN.out 0
        have n1 := (cell_of_block HN.out 1).trans (show _ = some (Value.string ⟨#[]⟩) from rfl)
        have y1 := free_of_block HN.out 1
        have n2 := (cell_of_block HN.out 2).trans (show _ = some (Value.string ⟨#[]⟩) from rfl)
        have y2 := free_of_block HN.out 2
        have n3 := (cell_of_block HN.out 3).trans (show _ = some (Value.int .i64 0) from rfl)
        have y3 := free_of_block HN.out 3
        have n4 := (cell_of_block HN.out 4).trans (show _ = some (Value.slice none 0 0) from rfl)
        have y4 := free_of_block HN.out 4
        have n5 := (cell_of_block HN.out 5).trans (show _ = some (Value.slice none 0 0) from rfl)
        have y5 := free_of_block HN.out 5
        have n6 := (cell_of_block HN.out 6).trans (show _ = some (Value.bool false) from rfl)
        have y6 := free_of_block HN.out 6
        clear hend
        go_wp2_with fail
        have H7 := pd_set7 (.int .i64 0) (.string ⟨#[]⟩) (.string ⟨#[]⟩) (.int .i64 0) (.slice none 0 0) (.slice none 0 0) (.bool false) HN.out
        revert H7
        generalize ((((((wr.setCell _ _).setCell _ _).setCell _ _).setCell _ _).setCell _ _).setCell _ _).setCell _ _ = w9
        rintro ⟨hn9, g9⟩
        have e0 := cell_of_block hn9 0
        have e1 := cell_of_block hn9 1
        have e2 := cell_of_block hn9 2
        have e3 := cell_of_block hn9 3
        have e4 := cell_of_block hn9 4
        have e5 := cell_of_block hn9 5
        have e6 := cell_of_block hn9 6
        (try simp only [Exit.inBlock, Exit.then])
        refine bodyPost_ret (v := .tuple #[.agg #[.int .i64 0, .string ⟨#[]⟩, .string ⟨#[]⟩, .int .i64 0, .slice none 0 0, .slice none 0 0, .bool false], .bool false]) ?_ rfl (by rw [HS.out]; exact none_end (HL.out.grow G2.out) hs5 (gr_none G2.out) HN.out g9 (Nat.le_refl _) (no_u8_pd _ _ _ _ _ _ _))
        simp [results, Tryz.results41, go_sem, e0, e1, e2, e3, e4, e5, e6]
      · have HS := hid (show chunkS s = ({ s with req := { s.req with body := s.req.body ++ s.rest.take s.left }, rest := s.rest.drop (s.left + 2), stage := 2 }, none) by
          unfold chunkS
          rw [if_neg (by rintro (h | h); exact h0.out h; exact h1.out h), if_neg hend])
        have hei : ¬ (s.rest.length : Int) < (s.left : Int) + 2 := by omega
        have hel : s.left + 2 ≤ s.rest.length := by omega
        clear hend
        have c7 := (cell_of_block HH2.out 7).trans (show _ = some (Value.slice ba s.req.body.length bc) from rfl)
        obtain ⟨gb, off, rfl⟩ : ∃ gb off, ra = some ⟨gb, off, none⟩ := by
          rcases HR.out with ⟨_, e⟩ | ⟨g, off, _, _, e, _⟩
          · rw [e] at hel; simp at hel
          · cases e; exact ⟨g, off, rfl⟩
        go_wp2_with fail
        have HB7 := hid (HBo.out.grow G2.out)
        have HR7 := hid (((HR.out.grow G2.out).part s.left (by omega)))
        have HLEN := hid (show s.req.body.length + (s.rest.take s.left).length ≤ 1000000 by have h1 := HOK.out.2.1; have h2 : (s.rest.take s.left).length = s.left := by rw [List.length_take]; omega
                                                                                            omega)
        have HRD := hid ((HR.out.grow G2.out).drop2 (s.left + 2) hel)
        obtain ⟨lb, hlb⟩ : ∃ x, x = s.req.body := ⟨_, rfl⟩
        obtain ⟨lr, hlr'⟩ : ∃ x, x = s.rest.take s.left := ⟨_, rfl⟩
        obtain ⟨bn, hbn⟩ : ∃ x, x = s.req.body.length := ⟨_, rfl⟩
        obtain ⟨rn, hrn⟩ : ∃ x, x = s.rest.length := ⟨_, rfl⟩
        obtain ⟨L, hL⟩ : ∃ x, x = s.left := ⟨_, rfl⟩
        rw [← hbn] at HB7 c7 HH2
        rw [← hlb] at HB7 HLEN
        rw [← hlr'] at HR7 HLEN
        rw [← hrn] at c0 hel hr1 HH2 HRD hlr ⊢
        rw [← hL] at hel hll c9 HR7 HRD HH2 ⊢
        have HEQ := hid (⟨hlb, hlr', hbn, hrn, hL⟩ : lb = s.req.body ∧ lr = s.rest.take s.left ∧ bn = s.req.body.length ∧ rn = s.rest.length ∧ L = s.left)
        clear hlb hlr' hbn hrn hL
        have hLc : (L : Int) ≤ (rc : Int) := by omega
        have hLw : IntKind.i64.wrap ((L : Int) + 2) = (L : Int) + 2 := IntWalk.i64_in _ (by omega)
        obtain ⟨w0, hw0⟩ : ∃ x, x = wr := ⟨_, rfl⟩
        rw [← hw0] at G2 HN HH2 c0 c7 c9 HB7 HR7 HRD l2 ⊢
        clear hw0
        refine wp_region_spec3 17 99 none (by kernel_rfl) (by kernel_rfl) (by kernel_rfl) (by kernel_rfl) (by kernel_rfl) (by kernel_rfl) [some 58, some 59, some 60, some 61, some 62, some 63, some 64, some 65, some 66, some 67, some 68, some 69, some 70, some 71, some 72, some 73, some 74] (by kernel_rfl) _ (fun u => (by simp only [fill, List.zipIdx_cons, List.zipIdx_nil, List.foldl_cons, List.foldl_nil, Act.put, List.setIfInBounds_toArray, List.set_cons_zero, List.set_cons_succ, Nat.zero_add, Nat.reduceAdd]; exact rfl)) (by kernel_rfl)
          (all_succ (all_succ (all_succ (all_succ (all_succ (all_succ (all_succ (all_succ (all_succ (all_succ (all_succ (all_succ (all_succ (all_succ (all_succ (all_succ (all_succ (all_zero _) (fun u v => by kernel_rfl)) (fun u v => by kernel_rfl)) (fun u v => by kernel_rfl)) (fun u v => by kernel_rfl)) (fun u v => by kernel_rfl)) (fun u v => by kernel_rfl)) (fun u v => by kernel_rfl)) (fun u v => by kernel_rfl)) (fun u v => by kernel_rfl)) (fun u v => by kernel_rfl)) (fun u v => by kernel_rfl)) (fun u v => by kernel_rfl)) (fun u v => by kernel_rfl)) (fun u v => by kernel_rfl)) (fun u v => by kernel_rfl)) (fun u v => by kernel_rfl)) (fun u v => by kernel_rfl))
          (fun ri v w => match ri with | 0 => v = .pointer (some ⟨b, 0, none⟩) | 1 => v = .pointer (some ⟨b, 0, none⟩) | 2 => v = .pointer (some ⟨b, 0, none⟩) | 3 => v = .pointer (some ⟨b, 3, none⟩) | 4 => v = .pointer (some ⟨b, 7, none⟩) | 5 => v = .slice ba bn bc | 6 => v = .pointer (some ⟨b, 0, none⟩) | 7 => v = .pointer (some ⟨b, 0, none⟩) | 8 => v = .pointer (some ⟨b, 0, none⟩) | 9 => v = .slice (some ⟨gb, off, none⟩) rn rc | 10 => v = .pointer (some ⟨b, 0, none⟩) | 11 => v = .pointer (some ⟨b, 0, none⟩) | 12 => v = .pointer (some ⟨b, 9, none⟩) | 13 => v = .int .i64 (L : Int) | 14 => v = .slice (some ⟨gb, off, none⟩) L rc | 15 => ∃ k, v = .slice (some ⟨k, 0, none⟩) 2 2 ∧ w.heap[k]? = some (.cells #[.slice ba bn bc, .slice (some ⟨gb, off, none⟩) L rc] 22 (0, 0)) ∧ w0.heap.size ≤ k | 16 => BoAt w v (lb ++ lr) | _ => True)
          (all_succ (all_succ (all_succ (all_succ (all_succ (all_succ (all_succ (all_succ (all_succ (all_succ (all_succ (all_succ (all_succ (all_succ (all_succ (all_succ (all_succ (all_zero _) ?m0) ?m1) ?m2) ?m3) ?m4) ?m5) ?m6) ?m7) ?m8) ?m9) ?m10) ?m11) ?m12) ?m13) ?m14) ?m15) ?m16)
          [[], [], [1], [2], [3], [4], [], [6], [7], [8], [], [10], [11], [12], [9, 13], [5, 14], [15]] (by kernel_rfl)
          ⟨?o0, ?o1, ?o2, ?o3, ?o4, ?o5, ?o6, ?o7, ?o8, ?o9, ?o10, ?o11, ?o12, ?o13, ?o14, ?o15, ?o16, trivial⟩ ?done
        case m0 => intro v w w' h g; first | exact h | (obtain ⟨k, e, hb, hl⟩ := h; exact ⟨k, e, gr_keep g hb (by simp), hl⟩) | exact BoAt.grow h g
        case m1 => intro v w w' h g; first | exact h | (obtain ⟨k, e, hb, hl⟩ := h; exact ⟨k, e, gr_keep g hb (by simp), hl⟩) | exact BoAt.grow h g
        case m2 => intro v w w' h g; first | exact h | (obtain ⟨k, e, hb, hl⟩ := h; exact ⟨k, e, gr_keep g hb (by simp), hl⟩) | exact BoAt.grow h g
        case m3 => intro v w w' h g; first | exact h | (obtain ⟨k, e, hb, hl⟩ := h; exact ⟨k, e, gr_keep g hb (by simp), hl⟩) | exact BoAt.grow h g
        case m4 => intro v w w' h g; first | exact h | (obtain ⟨k, e, hb, hl⟩ := h; exact ⟨k, e, gr_keep g hb (by simp), hl⟩) | exact BoAt.grow h g
        case m5 => intro v w w' h g; first | exact h | (obtain ⟨k, e, hb, hl⟩ := h; exact ⟨k, e, gr_keep g hb (by simp), hl⟩) | exact BoAt.grow h g
        case m6 => intro v w w' h g; first | exact h | (obtain ⟨k, e, hb, hl⟩ := h; exact ⟨k, e, gr_keep g hb (by simp), hl⟩) | exact BoAt.grow h g
        case m7 => intro v w w' h g; first | exact h | (obtain ⟨k, e, hb, hl⟩ := h; exact ⟨k, e, gr_keep g hb (by simp), hl⟩) | exact BoAt.grow h g
        case m8 => intro v w w' h g; first | exact h | (obtain ⟨k, e, hb, hl⟩ := h; exact ⟨k, e, gr_keep g hb (by simp), hl⟩) | exact BoAt.grow h g
        case m9 => intro v w w' h g; first | exact h | (obtain ⟨k, e, hb, hl⟩ := h; exact ⟨k, e, gr_keep g hb (by simp), hl⟩) | exact BoAt.grow h g
        case m10 => intro v w w' h g; first | exact h | (obtain ⟨k, e, hb, hl⟩ := h; exact ⟨k, e, gr_keep g hb (by simp), hl⟩) | exact BoAt.grow h g
        case m11 => intro v w w' h g; first | exact h | (obtain ⟨k, e, hb, hl⟩ := h; exact ⟨k, e, gr_keep g hb (by simp), hl⟩) | exact BoAt.grow h g
        case m12 => intro v w w' h g; first | exact h | (obtain ⟨k, e, hb, hl⟩ := h; exact ⟨k, e, gr_keep g hb (by simp), hl⟩) | exact BoAt.grow h g
        case m13 => intro v w w' h g; first | exact h | (obtain ⟨k, e, hb, hl⟩ := h; exact ⟨k, e, gr_keep g hb (by simp), hl⟩) | exact BoAt.grow h g
        case m14 => intro v w w' h g; first | exact h | (obtain ⟨k, e, hb, hl⟩ := h; exact ⟨k, e, gr_keep g hb (by simp), hl⟩) | exact BoAt.grow h g
        case m15 => intro v w w' h g; first | exact h | (obtain ⟨k, e, hb, hl⟩ := h; exact ⟨k, e, gr_keep g hb (by simp), hl⟩) | exact BoAt.grow h g
        case m16 => intro v w w' h g; first | exact h | (obtain ⟨k, e, hb, hl⟩ := h; exact ⟨k, e, gr_keep g hb (by simp), hl⟩) | exact BoAt.grow h g
        case o0 =>
          intro u w g hd K hK
          replace g : w0.grownBy w (none) := g
          clear hd
          simp only [Act.put, List.setIfInBounds_toArray, List.set_cons_zero, List.set_cons_succ] at hK
          go_simp
          exact hK _ _ rfl (gr_refl _ _)
        case o1 =>
          intro u w g hd K hK
          replace g : w0.grownBy w (none) := g
          clear hd
          simp only [Act.put, List.setIfInBounds_toArray, List.set_cons_zero, List.set_cons_succ] at hK
          go_simp
          exact hK _ _ rfl (gr_refl _ _)
        case o2 =>
          intro u w g hd K hK
          replace g : w0.grownBy w (none) := g
          have h1 : (u 1) = .pointer (some ⟨b, 0, none⟩) := hd 1 (by simp)
          clear hd
          simp only [Act.put, List.setIfInBounds_toArray, List.set_cons_zero, List.set_cons_succ] at hK
          simp only [h1] at hK ⊢
          go_simp
          exact hK _ _ rfl (gr_refl _ _)
        case o3 =>
          intro u w g hd K hK
          replace g : w0.grownBy w (none) := g
          have h2 : (u 2) = .pointer (some ⟨b, 0, none⟩) := hd 2 (by simp)
          clear hd
          simp only [Act.put, List.setIfInBounds_toArray, List.set_cons_zero, List.set_cons_succ] at hK
          simp only [h2] at hK ⊢
          go_simp
          exact hK _ _ rfl (gr_refl _ _)
        case o4 =>
          intro u w g hd K hK
          replace g : w0.grownBy w (none) := g
          have h3 : (u 3) = .pointer (some ⟨b, 3, none⟩) := hd 3 (by simp)
          clear hd
          simp only [Act.put, List.setIfInBounds_toArray, List.set_cons_zero, List.set_cons_succ] at hK
          simp only [h3] at hK ⊢
          go_simp
          exact hK _ _ rfl (gr_refl _ _)
        case o5 =>
          intro u w g hd K hK
          replace g : w0.grownBy w (none) := g
          have h4 : (u 4) = .pointer (some ⟨b, 7, none⟩) := hd 4 (by simp)
          clear hd
          simp only [Act.put, List.setIfInBounds_toArray, List.set_cons_zero, List.set_cons_succ] at hK
          have c' := g.cell c7 (by simp)
          simp only [h4] at hK ⊢
          go_simp
          exact hK _ _ rfl (gr_refl _ _)
        case o6 =>
          intro u w g hd K hK
          replace g : w0.grownBy w (none) := g
          clear hd
          simp only [Act.put, List.setIfInBounds_toArray, List.set_cons_zero, List.set_cons_succ] at hK
          go_simp
          exact hK _ _ rfl (gr_refl _ _)
        case o7 =>
          intro u w g hd K hK
          replace g : w0.grownBy w (none) := g
          have h6 : (u 6) = .pointer (some ⟨b, 0, none⟩) := hd 6 (by simp)
          clear hd
          simp only [Act.put, List.setIfInBounds_toArray, List.set_cons_zero, List.set_cons_succ] at hK
          simp only [h6] at hK ⊢
          go_simp
          exact hK _ _ rfl (gr_refl _ _)
        case o8 =>
          intro u w g hd K hK
          replace g : w0.grownBy w (none) := g
          have h7 : (u 7) = .pointer (some ⟨b, 0, none⟩) := hd 7 (by simp)
          clear hd
          simp only [Act.put, List.setIfInBounds_toArray, List.set_cons_zero, List.set_cons_succ] at hK
          simp only [h7] at hK ⊢
          go_simp
          exact hK _ _ rfl (gr_refl _ _)
        case o9 =>
          intro u w g hd K hK
          replace g : w0.grownBy w (none) := g
          have h8 : (u 8) = .pointer (some ⟨b, 0, none⟩) := hd 8 (by simp)
          clear hd
          simp only [Act.put, List.setIfInBounds_toArray, List.set_cons_zero, List.set_cons_succ] at hK
          have c' := g.cell c0 (by simp)
          simp only [h8] at hK ⊢
          go_simp
          exact hK _ _ rfl (gr_refl _ _)
        case o10 =>
          intro u w g hd K hK
          replace g : w0.grownBy w (none) := g
          clear hd
          simp only [Act.put, List.setIfInBounds_toArray, List.set_cons_zero, List.set_cons_succ] at hK
          go_simp
          exact hK _ _ rfl (gr_refl _ _)
        case o11 =>
          intro u w g hd K hK
          replace g : w0.grownBy w (none) := g
          have h10 : (u 10) = .pointer (some ⟨b, 0, none⟩) := hd 10 (by simp)
          clear hd
          simp only [Act.put, List.setIfInBounds_toArray, List.set_cons_zero, List.set_cons_succ] at hK
          simp only [h10] at hK ⊢
          go_simp
          exact hK _ _ rfl (gr_refl _ _)
        case o12 =>
          intro u w g hd K hK
          replace g : w0.grownBy w (none) := g
          have h11 : (u 11) = .pointer (some ⟨b, 0, none⟩) := hd 11 (by simp)
          clear hd
          simp only [Act.put, List.setIfInBounds_toArray, List.set_cons_zero, List.set_cons_succ] at hK
          simp only [h11] at hK ⊢
          go_simp
          exact hK _ _ rfl (gr_refl _ _)
        case o13 =>
          intro u w g hd K hK
          replace g : w0.grownBy w (none) := g
          have h12 : (u 12) = .pointer (some ⟨b, 9, none⟩) := hd 12 (by simp)
          clear hd
          simp only [Act.put, List.setIfInBounds_toArray, List.set_cons_zero, List.set_cons_succ] at hK
          have c' := g.cell c9 (by simp)
          simp only [h12] at hK ⊢
          go_simp
          exact hK _ _ rfl (gr_refl _ _)
        case o14 =>
          intro u w g hd K hK
          replace g : w0.grownBy w (none) := g
          have h9 : (u 9) = .slice (some ⟨gb, off, none⟩) rn rc := hd 9 (by simp)
          have h13 : (u 13) = .int .i64 (L : Int) := hd 13 (by simp)
          clear hd
          simp only [Act.put, List.setIfInBounds_toArray, List.set_cons_zero, List.set_cons_succ] at hK
          simp only [h9, h13] at hK ⊢
          go_simp
          exact hK _ _ rfl (gr_refl _ _)
        case o15 =>
          intro u w g hd K hK
          replace g : w0.grownBy w (none) := g
          have h5 : (u 5) = .slice ba bn bc := hd 5 (by simp)
          have h14 : (u 14) = .slice (some ⟨gb, off, none⟩) L rc := hd 14 (by simp)
          clear hd
          simp only [Act.put, List.setIfInBounds_toArray, List.set_cons_zero, List.set_cons_succ] at hK
          simp only [h5, h14] at hK ⊢
          go_simp
          exact hK _ _ ⟨w.heap.size, rfl, heap_alloc_new w _, g.size⟩ (World.grownBy_alloc w _ none)
        case o16 =>
          intro u w g hd K hK
          replace g : w0.grownBy w (none) := g
          have h15 : ∃ k, (u 15) = .slice (some ⟨k, 0, none⟩) 2 2 ∧ w.heap[k]? = some (.cells #[.slice ba bn bc, .slice (some ⟨gb, off, none⟩) L rc] 22 (0, 0)) ∧ w0.heap.size ≤ k := hd 15 (by simp)
          clear hd
          simp only [Act.put, List.setIfInBounds_toArray, List.set_cons_zero, List.set_cons_succ] at hK
          obtain ⟨k, e15, hk, hk1⟩ := h15
          simp only [e15] at hK ⊢
          clear e15
          go_simp
          refine (join_two w k 0 2 _ _ lb lr (Nat.le_refl _) ((cell_of_block hk 0).trans rfl) ((cell_of_block hk 1).trans rfl) (HB7.out.grow g).bytes (HR7.out.grow g).bytes HLEN.out).mono ?_
          rintro e w' ⟨v, rfl, hv, g'⟩
          exact hK _ _ hv g'
        case done =>
          intro u w hS g
          have s0 : (u 0) = .pointer (some ⟨b, 0, none⟩) := hS 0 (by decide)
          have s1 : (u 1) = .pointer (some ⟨b, 0, none⟩) := hS 1 (by decide)
          have s2 : (u 2) = .pointer (some ⟨b, 0, none⟩) := hS 2 (by decide)
          have s3 : (u 3) = .pointer (some ⟨b, 3, none⟩) := hS 3 (by decide)
          have s4 : (u 4) = .pointer (some ⟨b, 7, none⟩) := hS 4 (by decide)
          have s5 : (u 5) = .slice ba bn bc := hS 5 (by decide)
          have s6 : (u 6) = .pointer (some ⟨b, 0, none⟩) := hS 6 (by decide)
          have s7 : (u 7) = .pointer (some ⟨b, 0, none⟩) := hS 7 (by decide)
          have s8 : (u 8) = .pointer (some ⟨b, 0, none⟩) := hS 8 (by decide)
          have s9 : (u 9) = .slice (some ⟨gb, off, none⟩) rn rc := hS 9 (by decide)
          have s10 : (u 10) = .pointer (some ⟨b, 0, none⟩) := hS 10 (by decide)
          have s11 : (u 11) = .pointer (some ⟨b, 0, none⟩) := hS 11 (by decide)
          have s12 : (u 12) = .pointer (some ⟨b, 9, none⟩) := hS 12 (by decide)
          have s13 : (u 13) = .int .i64 (L : Int) := hS 13 (by decide)
          have s14 : (u 14) = .slice (some ⟨gb, off, none⟩) L rc := hS 14 (by decide)
          have s15 : ∃ k, (u 15) = .slice (some ⟨k, 0, none⟩) 2 2 ∧ w.heap[k]? = some (.cells #[.slice ba bn bc, .slice (some ⟨gb, off, none⟩) L rc] 22 (0, 0)) ∧ w0.heap.size ≤ k := hS 15 (by decide)
          have s16 : BoAt w (u 16) (lb ++ lr) := hS 16 (by decide)
          clear hS
          replace g : w0.grownBy w none := g
          change wpList _ _ _ [_, _, _, _] _ _
          rw [s0]
          have HB16 := hid s16
          obtain ⟨xa, xc, ex, -, -⟩ := s16.shape
          have G3 := hid (gr_trans G2.out g)
          have HG := hid g
          have HH3 := hid (gr_keep g HH2.out (by simp))
          have HN3 := hid (gr_keep g HN.out (by simp))
          clear s1 s2 s3 s4 s5 s6 s7 s8 s9 s10 s11 s12 s13 s14 s15 s0 s16 c0 c7 c9 l2 g
          obtain ⟨lx, hlx⟩ : ∃ x, x = lb ++ lr := ⟨_, rfl⟩
          rw [← hlx] at HB16 ex
          have HLX := hid hlx
          clear hlx
          generalize u 16 = vx at *
          subst ex
          generalize u 0 = x0, u 1 = x1, u 2 = x2, u 3 = x3, u 4 = x4, u 5 = x5, u 6 = x6, u 7 = x7, u 8 = x8, u 9 = x9, u 10 = x10, u 11 = x11, u 12 = x12, u 13 = x13, u 14 = x14, u 15 = x15
          have c7 := (cell_of_block HH3.out 7).trans (show _ = some (Value.slice ba bn bc) from rfl)
          have f7 := free_of_block HH3.out 7
          have lh3 := lt_of_block HH3.out
          go_upto_region 12 with fail
          obtain ⟨w5, hw5⟩ : ∃ x, x = w.setCell ⟨b, 7, none⟩ (.slice xa lx.length xc) := ⟨_, rfl⟩
          rw [← hw5]
          have hb5 : w5.heap[b]? = some (.cells (PsCells (.slice (some ⟨gb, off, none⟩) rn rc) (s.stage : Int) s.skip s.req.method s.req.target s.req.minor (.slice fa s.req.fields.length fc) (.slice xa lx.length xc) s.req.keep (L : Int)) 62 (0, 0)) := by rw [hw5]; exact heap_set HH3.out
          have g5 : w.grownBy w5 (some b) := by rw [hw5]; exact gr_set (gr_refl _ _)
          have HN5 := hid (gr_keep g5 HN3.out (blk_ne HN3.out HH3.out (by decide)))
          have HF5 := hid ((HF.out.grow G3.out).kept g5 HH3.out (by decide))
          have HB5 := hid (HB16.out.kept g5 HH3.out (by decide) (no_u8_ps _ _ _ _ _ _ _ _ _ _ _ _))
          have HR5 := hid ((HRD.out.grow (gr_trans (gr_refl _ _) HG.out)).kept g5 HH3.out (by decide))
          have G5 := hid (gr_trans (gr_none G3.out) g5)
          clear hw5 g5 c7 f7 lh3 HB16 HN3
          have lb5 := lt_of_block hb5
          have ln5 := lt_of_block HN5.out
          have c0 := (cell_of_block hb5 0).trans (show _ = some (Value.slice (some ⟨gb, off, none⟩) rn rc) from rfl)
          have c1 := (cell_of_block hb5 1).trans (show _ = some (Value.int .i64 (s.stage : Int)) from rfl)
          have f0 := free_of_block hb5 0
          have f1 := free_of_block hb5 1
          have HBB := hid hb5
          clear hb5 HH3
          have hend1 : (0 : Int) ≤ (L : Int) + 2 := by omega
          have hend2 : (L : Int) + 2 ≤ (rn : Int) := by omega
          have hend3 : ((L : Int) + 2).toNat = L + 2 := by omega
          have hdrop : lx.length = (s.req.body ++ s.rest.take s.left).length := by rw [HLX.out, HEQ.out.1, HEQ.out.2.1]
          have HDL := hid hdrop
          clear hdrop
          by_cases hck : rc = L + 2
          · rw [if_pos hck] at HR5
            have HR6 := hid (by have h := HR5.out; rw [hck, Nat.sub_self] at h; exact h)
            clear HR5
            go_upto_region 13 with fail
            obtain ⟨w6, hw6⟩ : ∃ x, x = (w5.setCell ⟨b, 0, none⟩ (.slice (some ⟨gb, off, none⟩) (rn - (L + 2)) 0)).setCell ⟨b, 1, none⟩ (.int .i64 2) := ⟨_, rfl⟩
            rw [← hw6]
            have hb6 : w6.heap[b]? = some (.cells (PsCells (.slice (some ⟨gb, off, none⟩) (rn - (L + 2)) 0) 2 s.skip s.req.method s.req.target s.req.minor (.slice fa s.req.fields.length fc) (.slice xa lx.length xc) s.req.keep (L : Int)) 62 (0, 0)) := by rw [hw6]; exact heap_set (heap_set HBB.out)
            have g6 : w5.grownBy w6 (some b) := by rw [hw6]; exact gr_set (gr_set (gr_refl _ _))
            have HN6 := hid (gr_keep g6 HN5.out (blk_ne HN5.out HBB.out (by decide)))
            have HF6 := hid (HF5.out.kept g6 HBB.out (by decide))
            have HB6 := hid (HB5.out.kept g6 HBB.out (by decide) (no_u8_ps _ _ _ _ _ _ _ _ _ _ _ _))
            have HR7' := hid (HR6.out.kept g6 HBB.out (by decide))
            have G6 := hid (gr_trans G5.out g6)
            have HL6 := hid (show PLive w6 b { s with req := { s.req with body := s.req.body ++ s.rest.take s.left }, rest := s.rest.drop (s.left + 2), stage := 2 } from by
              have e := HEQ.out
              refine ⟨_, _, _, (by rw [← e.2.2.2.2]; exact hb6), ?_, HF6.out, ?_⟩
              · rw [← e.2.2.2.2]; exact HR7'.out
              · rw [← e.1, ← e.2.1, ← HLX.out]; exact HB6.out)
            clear hw6 g6 c0 c1 f0 f1 lb5 ln5 HN5 HF5 HB5 HR6 G5 HBB hb6
            have ln6 := lt_of_block HN6.out
            have n0 := (cell_of_block HN6.out 0).trans (show _ = some (Value.int .i64 0) from rfl)
            have y0 := free_of_block HN6.out 0
            have n1 := (cell_of_block HN6.out 1).trans (show _ = some (Value.string ⟨#[]⟩) from rfl)
            have y1 := free_of_block HN6.out 1
            have n2 := (cell_of_block HN6.out 2).trans (show _ = some (Value.string ⟨#[]⟩) from rfl)
            have y2 := free_of_block HN6.out 2
            have n3 := (cell_of_block HN6.out 3).trans (show _ = some (Value.int .i64 0) from rfl)
            have y3 := free_of_block HN6.out 3
            have n4 := (cell_of_block HN6.out 4).trans (show _ = some (Value.slice none 0 0) from rfl)
            have y4 := free_of_block HN6.out 4
            have n5 := (cell_of_block HN6.out 5).trans (show _ = some (Value.slice none 0 0) from rfl)
            have y5 := free_of_block HN6.out 5
            have n6 := (cell_of_block HN6.out 6).trans (show _ = some (Value.bool false) from rfl)
            have y6 := free_of_block HN6.out 6
            go_wp2_with fail
            have H7 := pd_set7 (.int .i64 0) (.string ⟨#[]⟩) (.string ⟨#[]⟩) (.int .i64 0) (.slice none 0 0) (.slice none 0 0) (.bool false) HN6.out
            revert H7
            generalize ((((((w6.setCell _ _).setCell _ _).setCell _ _).setCell _ _).setCell _ _).setCell _ _).setCell _ _ = w9
            rintro ⟨hn9, g9⟩
            have e0 := cell_of_block hn9 0
            have e1 := cell_of_block hn9 1
            have e2 := cell_of_block hn9 2
            have e3 := cell_of_block hn9 3
            have e4 := cell_of_block hn9 4
            have e5 := cell_of_block hn9 5
            have e6 := cell_of_block hn9 6
            (try simp only [Exit.inBlock, Exit.then])
            refine bodyPost_ret (v := .tuple #[.agg #[.int .i64 0, .string ⟨#[]⟩, .string ⟨#[]⟩, .int .i64 0, .slice none 0 0, .slice none 0 0, .bool false], .bool false]) ?_ rfl (by rw [HS.out]; exact none_end HL6.out (show (2 : Nat) ≠ 5 by decide) G6.out HN6.out g9 (Nat.le_refl _) (no_u8_pd _ _ _ _ _ _ _))
            simp [results, Tryz.results41, go_sem, e0, e1, e2, e3, e4, e5, e6]
          · rw [if_neg hck, Option.map_some, Go.WideShapes.add_plain] at HR5
            have HR6 := HR5
            clear HR5
            go_upto_region 13 with fail
            obtain ⟨w6, hw6⟩ : ∃ x, x = (w5.setCell ⟨b, 0, none⟩ (.slice (some ⟨gb, off + (L + 2), none⟩) (rn - (L + 2)) (rc - (L + 2)))).setCell ⟨b, 1, none⟩ (.int .i64 2) := ⟨_, rfl⟩
            rw [← hw6]
            have hb6 : w6.heap[b]? = some (.cells (PsCells (.slice (some ⟨gb, off + (L + 2), none⟩) (rn - (L + 2)) (rc - (L + 2))) 2 s.skip s.req.method s.req.target s.req.minor (.slice fa s.req.fields.length fc) (.slice xa lx.length xc) s.req.keep (L : Int)) 62 (0, 0)) := by rw [hw6]; exact heap_set (heap_set HBB.out)
            have g6 : w5.grownBy w6 (some b) := by rw [hw6]; exact gr_set (gr_set (gr_refl _ _))
            have HN6 := hid (gr_keep g6 HN5.out (blk_ne HN5.out HBB.out (by decide)))
            have HF6 := hid (HF5.out.kept g6 HBB.out (by decide))
            have HB6 := hid (HB5.out.kept g6 HBB.out (by decide) (no_u8_ps _ _ _ _ _ _ _ _ _ _ _ _))
            have HR7' := hid (HR6.out.kept g6 HBB.out (by decide))
            have G6 := hid (gr_trans G5.out g6)
            have HL6 := hid (show PLive w6 b { s with req := { s.req with body := s.req.body ++ s.rest.take s.left }, rest := s.rest.drop (s.left + 2), stage := 2 } from by
              have e := HEQ.out
              refine ⟨_, _, _, (by rw [← e.2.2.2.2]; exact hb6), ?_, HF6.out, ?_⟩
              · rw [← e.2.2.2.2]; exact HR7'.out
              · rw [← e.1, ← e.2.1, ← HLX.out]; exact HB6.out)
            clear hw6 g6 c0 c1 f0 f1 lb5 ln5 HN5 HF5 HB5 HR6 G5 HBB hb6
            have ln6 := lt_of_block HN6.out
            have n0 := (cell_of_block HN6.out 0).trans (show _ = some (Value.int .i64 0) from rfl)
            have y0 := free_of_block HN6.out 0
            have n1 := (cell_of_block HN6.out 1).trans (show _ = some (Value.string ⟨#[]⟩) from rfl)
            have y1 := free_of_block HN6.out 1
            have n2 := (cell_of_block HN6.out 2).trans (show _ = some (Value.string ⟨#[]⟩) from rfl)
            have y2 := free_of_block HN6.out 2
            have n3 := (cell_of_block HN6.out 3).trans (show _ = some (Value.int .i64 0) from rfl)
            have y3 := free_of_block HN6.out 3
            have n4 := (cell_of_block HN6.out 4).trans (show _ = some (Value.slice none 0 0) from rfl)
            have y4 := free_of_block HN6.out 4
            have n5 := (cell_of_block HN6.out 5).trans (show _ = some (Value.slice none 0 0) from rfl)
            have y5 := free_of_block HN6.out 5
            have n6 := (cell_of_block HN6.out 6).trans (show _ = some (Value.bool false) from rfl)
            have y6 := free_of_block HN6.out 6
            go_wp2_with fail
            have H7 := pd_set7 (.int .i64 0) (.string ⟨#[]⟩) (.string ⟨#[]⟩) (.int .i64 0) (.slice none 0 0) (.slice none 0 0) (.bool false) HN6.out
            revert H7
            generalize ((((((w6.setCell _ _).setCell _ _).setCell _ _).setCell _ _).setCell _ _).setCell _ _).setCell _ _ = w9
            rintro ⟨hn9, g9⟩
            have e0 := cell_of_block hn9 0
            have e1 := cell_of_block hn9 1
            have e2 := cell_of_block hn9 2
            have e3 := cell_of_block hn9 3
            have e4 := cell_of_block hn9 4
            have e5 := cell_of_block hn9 5
            have e6 := cell_of_block hn9 6
            (try simp only [Exit.inBlock, Exit.then])
            refine bodyPost_ret (v := .tuple #[.agg #[.int .i64 0, .string ⟨#[]⟩, .string ⟨#[]⟩, .int .i64 0, .slice none 0 0, .slice none 0 0, .bool false], .bool false]) ?_ rfl (by rw [HS.out]; exact none_end HL6.out (show (2 : Nat) ≠ 5 by decide) G6.out HN6.out g9 (Nat.le_refl _) (no_u8_pd _ _ _ _ _ _ _))
            simp [results, Tryz.results41, go_sem, e0, e1, e2, e3, e4, e5, e6]
end Go.Proofs.YtldbcdiomkkinaaGreatDoor
