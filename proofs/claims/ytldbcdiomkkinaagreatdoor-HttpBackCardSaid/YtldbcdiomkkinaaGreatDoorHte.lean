/- (*http.Parser).judge: the first line. -/
import Derived.Test.YtldbcdiomkkinaaGreatDoorHtc
namespace Go.Proofs.YtldbcdiomkkinaaGreatDoor
open Go.RowKit

theorem judgeS_first {s : Ps} {texts : List (List UInt8)} {bare : Bool} {t0 : List UInt8} (ht0 : texts[0]? = some t0) (h : bare = true ∨ (stR t0).2.2.2 = false) : judgeS s texts bare = failS 400 := by
  unfold judgeS
  rcases texts with _ | ⟨t, r⟩
  · simp at ht0
  · obtain rfl : t = t0 := by simpa using ht0
    exact if_pos h
theorem judgeS_method {s : Ps} {texts : List (List UInt8)} {t0 : List UInt8} (ht0 : texts[0]? = some t0) (h : (stR t0).2.2.2 = true) (hm : (stR t0).1 ∉ methodsL) : judgeS s texts false = failS 501 := by
  unfold judgeS
  rcases texts with _ | ⟨t, r⟩
  · simp at ht0
  · obtain rfl : t = t0 := by simpa using ht0
    dsimp only [List.headD]
    rw [if_neg (by simp [h]), if_pos hm]
set_option maxRecDepth 20000 in
set_option maxHeartbeats 4000000 in
theorem judge_first (b : Nat) (s : Ps) (w : World) (base : Nat) (tv : Value) (texts : List (List UInt8)) (t0 : List UInt8) (mx : Int) (bare : Bool) (h : PLive w b s) (hs : s.stage = 0) (hz : s.req = Rq.zero) (hok : PsOk s) (htv : w.ownsRow base 9 1 tv texts.length (texts.map str))
    (ht0 : texts[0]? = some t0) (hlen : ∀ t ∈ texts, t.length ≤ 200000) (hcnt : texts.length ≤ 200000) (hm : w.cell? ⟨0, 0, none⟩ = some (.int .i64 mx)) (hc : bare = true ∨ (stR t0).2.2.2 = false) :
    Calls Tryz.prog 53 #[.pointer (some ⟨b, 0, none⟩), tv, .bool bare] w (StepPost w b (judgeS s texts bare)) := by
  have HS := hid (judgeS_first (s := s) ht0 hc)
  have HC := hid hc
  clear hc
  have HL := hid h
  have HOK := hid hok
  obtain ⟨rv, fv, bv, hh, hr, hf, hb⟩ := h
  rw [hz] at hf hb
  obtain rfl := hf.empty
  obtain ⟨ba, bc, rfl, hb1, hb2⟩ := hb.shape
  obtain ⟨ra, rc, rfl, hr1, hr2⟩ := hr.shape
  replace hh : w.heap[b]? = some (.cells (PsCells (.slice ra s.rest.length rc) 0 s.skip [] [] 0 (.slice none 0 0) (.slice ba 0 bc) false (s.left : Int)) 62 (0, 0)) := by rw [hs, hz] at hh; exact hh
  obtain ⟨ta, tc, rfl, htc⟩ := own_shape htv
  obtain ⟨n, hn⟩ : ∃ n, n = texts.length := ⟨_, rfl⟩
  have hn0 : 0 < n := by rw [hn]; exact (List.getElem?_eq_some_iff.1 ht0).1
  obtain ⟨gt, gc, egt, hgc, hgl, hcells⟩ := own_cell htv (by omega)
  obtain ⟨rfl, rfl⟩ : ta = some ⟨gt, 0, none⟩ ∧ tc = gc := by simpa using egt
  have hcell := hcells 0 (str t0) (by rw [List.getElem?_map, ht0]; rfl)
  unfold str at hcell
  have htl : t0.length ≤ 200000 := hlen t0 (List.mem_of_getElem? ht0)
  have hgt : gt < w.heap.size := World.block_lt_of_cell? _ _ hcell
  have hlt := lt_of_block hh
  rw [← hn] at htc htv ⊢
  have HNN := hid hn
  have HTN := hid (⟨htc, by rw [hn]; exact hcnt⟩ : n ≤ tc ∧ n ≤ 200000)
  have hnc : n ≤ 200000 := HTN.out.2
  have hn1 : (0 : Int) < (n : Int) := by omega
  have HR := hid hr
  have HBo := hid hb
  have HH := hid hh
  have HTV := hid htv
  have HLEN := hid hlen
  have HT0 := hid ht0
  have HM := hid hm
  clear hok hr hf hb hh hn htv hlen hcells egt ht0 hgc hgl htc hcnt hm
  go_enter Tryz.func53, Tryz.ntmps53
  go_wp2_with fail
  have hN := heap_alloc_new w (.cells #[.int .i64 0, .string ⟨#[]⟩, .string ⟨#[]⟩, .int .i64 0, .slice none 0 0, .slice none 0 0, .bool false] 46)
  have g1 := World.grownBy_alloc w (.cells #[.int .i64 0, .string ⟨#[]⟩, .string ⟨#[]⟩, .int .i64 0, .slice none 0 0, .slice none 0 0, .bool false] 46) none
  revert hN g1
  generalize w.alloc _ = w1
  intro hN g1
  refine (start_any ⟨t0.toArray⟩ mx w1 (g1.cell HM.out (by simp)) (by rw [Lib.size_eq]; simp; omega)).mono ?_
  rintro e w2 ⟨rfl, g2⟩
  rw [show (ByteArray.mk t0.toArray).data.toList = t0 from rfl]
  rcases hst : stR t0 with ⟨m1, t1, mi, ok⟩
  have HST := hid hst
  have G2 := hid (gr_trans g1 g2)
  have HN2 := hid (gr_keep g2 hN (by simp))
  have hh2 := gr_keep G2.out HH.out (by simp)
  have c3 := (cell_of_block hh2 3).trans (show _ = some (Value.string ⟨#[]⟩) from rfl)
  have c4 := (cell_of_block hh2 4).trans (show _ = some (Value.string ⟨#[]⟩) from rfl)
  have c5 := (cell_of_block hh2 5).trans (show _ = some (Value.int .i64 0) from rfl)
  have f3 := free_of_block hh2 3
  have f4 := free_of_block hh2 4
  have f5 := free_of_block hh2 5
  have lb2 := lt_of_block hh2
  have HH2 := hid hh2
  clear hst g1 g2 hN hh2 hlt hcell htl hgt
  dsimp only
  unfold str
  go_upto_region 4 with fail
  obtain ⟨w3, hw3⟩ : ∃ x, x = ((w2.setCell ⟨b, 3, none⟩ (.string ⟨m1.toArray⟩)).setCell ⟨b, 4, none⟩ (.string ⟨t1.toArray⟩)).setCell ⟨b, 5, none⟩ (.int .i64 mi) := ⟨_, rfl⟩
  rw [← hw3]
  have hb3 : w3.heap[b]? = some (.cells (PsCells (.slice ra s.rest.length rc) 0 s.skip m1 t1 mi (.slice none 0 0) (.slice ba 0 bc) false (s.left : Int)) 62 (0, 0)) := by rw [hw3]; exact heap_set (heap_set (heap_set HH2.out))
  have g3 : w2.grownBy w3 (some b) := by rw [hw3]; exact gr_set (gr_set (gr_set (gr_refl _ _)))
  have HN3 := hid (gr_keep g3 HN2.out (blk_ne HN2.out HH2.out (by decide)))
  have HBo3 := hid ((HBo.out.grow G2.out).kept g3 HH2.out (by decide) (no_u8_ps _ _ _ _ _ _ _ _ _ _ _ _))
  have HR3 := hid ((HR.out.grow G2.out).kept g3 HH2.out (by decide))
  have HTV3 := hid (row_ty (row_none HTV.out G2.out) g3 HH2.out (by decide))
  have G3 := hid (gr_trans (gr_none G2.out) g3)
  have HH3 := hid hb3
  clear c3 c4 c5 f3 f4 f5 lb2 hw3 g3 HN2 HH2 G2 hb3 HR HBo HTV HL HM HH
  have lb3 := lt_of_block HH3.out
  have ln3 := lt_of_block HN3.out
  cases bare
  · obtain rfl : ok = false := by have := HC.out; rw [HST.out] at this; simpa using this
    clear HC
    go_wp2_with fail
    refine (fail_http b _ _ _ _ _ _ 400 _ _ _ _ w3 HH3.out).mono ?_
    rintro e w9' ⟨rfl, hd, g9'⟩
    have HN9 := hid (gr_keep g9' HN3.out (blk_ne HN3.out HH3.out (by decide)))
    have y0 := free_of_block HN9.out 0
    have y1 := free_of_block HN9.out 1
    have y2 := free_of_block HN9.out 2
    have y3 := free_of_block HN9.out 3
    have y4 := free_of_block HN9.out 4
    have y5 := free_of_block HN9.out 5
    have y6 := free_of_block HN9.out 6
    have n0 := (cell_of_block HN9.out 0).trans (show _ = some (Value.int .i64 0) from rfl)
    have n1 := (cell_of_block HN9.out 1).trans (show _ = some (Value.string ⟨#[]⟩) from rfl)
    have n2 := (cell_of_block HN9.out 2).trans (show _ = some (Value.string ⟨#[]⟩) from rfl)
    have n3 := (cell_of_block HN9.out 3).trans (show _ = some (Value.int .i64 0) from rfl)
    have n4 := (cell_of_block HN9.out 4).trans (show _ = some (Value.slice none 0 0) from rfl)
    have n5 := (cell_of_block HN9.out 5).trans (show _ = some (Value.slice none 0 0) from rfl)
    have n6 := (cell_of_block HN9.out 6).trans (show _ = some (Value.bool false) from rfl)
    have lnn := lt_of_block HN9.out
    unfold PdCells str
    go_wp21
    have H7 := pd_set7 (.int .i64 400) (.string ⟨#[]⟩) (.string ⟨#[]⟩) (.int .i64 0) (.slice none 0 0) (.slice none 0 0) (.bool false) HN9.out
    revert H7
    generalize ((((((w9'.setCell _ _).setCell _ _).setCell _ _).setCell _ _).setCell _ _).setCell _ _).setCell _ _ = w9
    rintro ⟨hn9, g9⟩
    have e0 := cell_of_block hn9 0
    have e1 := cell_of_block hn9 1
    have e2 := cell_of_block hn9 2
    have e3 := cell_of_block hn9 3
    have e4 := cell_of_block hn9 4
    have e5 := cell_of_block hn9 5
    have e6 := cell_of_block hn9 6
    (try simp only [Exit.inBlock, Exit.then])
    refine bodyPost_ret (v := .tuple #[.agg #[.int .i64 400, .string ⟨#[]⟩, .string ⟨#[]⟩, .int .i64 0, .slice none 0 0, .slice none 0 0, .bool false], .bool true]) ?_ rfl (by rw [HS.out]; exact fail_end hd (gr_trans G3.out g9') HN9.out g9 (Nat.le_refl _))
    simp [results, Tryz.results53, go_sem, e0, e1, e2, e3, e4, e5, e6]
  · clear HC
    cases ok
    all_goals
      go_wp2_with fail
      refine (fail_http b _ _ _ _ _ _ 400 _ _ _ _ w3 HH3.out).mono ?_
      rintro e w9' ⟨rfl, hd, g9'⟩
      have HN9 := hid (gr_keep g9' HN3.out (blk_ne HN3.out HH3.out (by decide)))
      have y0 := free_of_block HN9.out 0
      have y1 := free_of_block HN9.out 1
      have y2 := free_of_block HN9.out 2
      have y3 := free_of_block HN9.out 3
      have y4 := free_of_block HN9.out 4
      have y5 := free_of_block HN9.out 5
      have y6 := free_of_block HN9.out 6
      have n0 := (cell_of_block HN9.out 0).trans (show _ = some (Value.int .i64 0) from rfl)
      have n1 := (cell_of_block HN9.out 1).trans (show _ = some (Value.string ⟨#[]⟩) from rfl)
      have n2 := (cell_of_block HN9.out 2).trans (show _ = some (Value.string ⟨#[]⟩) from rfl)
      have n3 := (cell_of_block HN9.out 3).trans (show _ = some (Value.int .i64 0) from rfl)
      have n4 := (cell_of_block HN9.out 4).trans (show _ = some (Value.slice none 0 0) from rfl)
      have n5 := (cell_of_block HN9.out 5).trans (show _ = some (Value.slice none 0 0) from rfl)
      have n6 := (cell_of_block HN9.out 6).trans (show _ = some (Value.bool false) from rfl)
      have lnn := lt_of_block HN9.out
      unfold PdCells str
      go_wp21
      have H7 := pd_set7 (.int .i64 400) (.string ⟨#[]⟩) (.string ⟨#[]⟩) (.int .i64 0) (.slice none 0 0) (.slice none 0 0) (.bool false) HN9.out
      revert H7
      generalize ((((((w9'.setCell _ _).setCell _ _).setCell _ _).setCell _ _).setCell _ _).setCell _ _).setCell _ _ = w9
      rintro ⟨hn9, g9⟩
      have e0 := cell_of_block hn9 0
      have e1 := cell_of_block hn9 1
      have e2 := cell_of_block hn9 2
      have e3 := cell_of_block hn9 3
      have e4 := cell_of_block hn9 4
      have e5 := cell_of_block hn9 5
      have e6 := cell_of_block hn9 6
      (try simp only [Exit.inBlock, Exit.then])
      refine bodyPost_ret (v := .tuple #[.agg #[.int .i64 400, .string ⟨#[]⟩, .string ⟨#[]⟩, .int .i64 0, .slice none 0 0, .slice none 0 0, .bool false], .bool true]) ?_ rfl (by rw [HS.out]; exact fail_end hd (gr_trans G3.out g9') HN9.out g9 (Nat.le_refl _))
      simp [results, Tryz.results53, go_sem, e0, e1, e2, e3, e4, e5, e6]
end Go.Proofs.YtldbcdiomkkinaaGreatDoor
