/- (*http.Parser).judge as one law; (*http.Parser).head. -/
import Derived.Test.YtldbcdiomkkinaaGreatDoorHte4
import Derived.Test.YtldbcdiomkkinaaGreatDoorHts
namespace Go.Proofs.YtldbcdiomkkinaaGreatDoor
open Go.RowKit

theorem judge_http (b : Nat) (s : Ps) (w : World) (base : Nat) (tv : Value) (texts : List (List UInt8)) (mx : Int) (bare : Bool) (h : PLive w b s) (hs : s.stage = 0) (hz : s.req = Rq.zero) (hok : PsOk s) (htv : w.ownsRow base 9 1 tv texts.length (texts.map str))
    (hne : texts ≠ []) (hlen : ∀ t ∈ texts, t.length ≤ 200000) (hcnt : texts.length ≤ 200000) (hm : w.cell? ⟨0, 0, none⟩ = some (.int .i64 mx)) :
    Calls Tryz.prog 53 #[.pointer (some ⟨b, 0, none⟩), tv, .bool bare] w (StepPost w b (judgeS s texts bare)) := by
  obtain ⟨t0, ht0⟩ : ∃ t0, texts[0]? = some t0 := ⟨_, List.getElem?_eq_getElem (List.length_pos_iff.2 hne)⟩
  by_cases h1 : bare = true ∨ (stR t0).2.2.2 = false
  · exact judge_first b s w base tv texts t0 mx bare h hs hz hok htv ht0 hlen hcnt hm h1
  · obtain rfl : bare = false := by cases bare <;> simp_all
    have h2 : (stR t0).2.2.2 = true := by simpa using h1
    by_cases h3 : (stR t0).1 ∈ methodsL
    · exact judge_fields b s w base tv texts t0 mx h hs hz hok htv ht0 hlen hcnt hm h2 h3
    · exact judge_method b s w base tv texts t0 mx h hs hz hok htv ht0 hlen hcnt hm h2 h3
theorem blockGo_ne (least : Nat) : ∀ (f : Nat) (texts : List (List UInt8)) (bare : Bool) (b : List UInt8) (ts : List (List UInt8)) (x : Bool) (r : List UInt8), blockGo least f texts bare b = some (ts, x, r) → least ≤ ts.length
  | 0, _, _, _, _, _, _, h => by cases h
  | f + 1, texts, bare, b, ts, x, r, h => by
    unfold blockGo at h
    split at h
    · cases h
    · split at h
      · rename_i hc
        simp only [Option.some.injEq, Prod.mk.injEq] at h
        rw [← h.1]
        exact hc.2
      · exact blockGo_ne least f _ _ _ _ _ _ h
theorem blockL_ne {b : List UInt8} {ts : List (List UInt8)} {x : Bool} {r : List UInt8} (h : blockL b 1 = some (ts, x, r)) : ts ≠ [] := by
  have := blockGo_ne 1 _ _ _ _ _ _ _ h
  intro e
  rw [e] at this
  simp at this
theorem StepPost.wrap2 {w w1 w3 w9 : World} {b n0 : Nat} {r : Ps × Option Pd} {e : Ending} {cs : Array Value} (h : StepPost w1 b r e w3) (g1 : w.grownBy w1 (some b)) (hn : w3.heap[n0]? = some (.cells cs 46 (0, 0))) (g9 : w3.grownBy w9 (some n0)) (h0 : w.heap.size ≤ n0) (hu : NoU8 cs) : StepPost w b r e w9 := by
  obtain ⟨hp, g, hh⟩ := h
  refine ⟨hp.kept g9 hn (by decide) (by decide) (by decide) hu, gr_new (gr_trans g1 g) g9 h0, ?_⟩
  rcases hh with h1 | ⟨p, fa, fc, ba, bc, h1, h2, h3, h4⟩
  · exact .inl h1
  · exact .inr ⟨p, fa, fc, ba, bc, h1, h2, h3.kept g9 hn (by decide), h4.kept g9 hn (by decide) hu⟩
theorem headS_line {s : Ps} {t r : List UInt8} {bare : Bool} (h : lineL s.rest = some (t, bare, r)) (hc : ¬ (t = [] ∧ bare = false ∧ s.skip = false)) :
    headS s = match blockL s.rest 1 with
    | none => if 4096 ≤ s.rest.length then failS 431 else (s, none)
    | some (texts, bare, rest) => if s.rest.length - rest.length ≤ 4096 then judgeS { s with rest := rest } texts bare else failS 431 := by
  unfold headS
  rw [h]
  exact if_neg hc
set_option maxRecDepth 20000 in
set_option maxHeartbeats 4000000 in
theorem head_http (b : Nat) (s : Ps) (w : World) (mx : Int) (h : PLive w b s) (hs : s.stage = 0) (hz : s.req = Rq.zero) (hok : PsOk s) (hm : w.cell? ⟨0, 0, none⟩ = some (.int .i64 mx)) (hb0 : b ≠ 0) :
    Calls Tryz.prog 38 #[.pointer (some ⟨b, 0, none⟩)] w (StepPost w b (headS s)) := by
  have hs5 : s.stage ≠ 5 := by rw [hs]; decide
  have HL := hid h
  have HOK := hid hok
  obtain ⟨rv, fv, bv, hh, hr, hf, hb⟩ := h
  obtain ⟨ra, rc, rfl, hr1, hr2⟩ := hr.shape
  obtain ⟨fa, fc, rfl⟩ := hf.shape
  obtain ⟨ba, bc, rfl, hb1, hb2⟩ := hb.shape
  have c0 := (cell_of_block hh 0).trans (show _ = some (Value.slice ra s.rest.length rc) from rfl)
  have hlt := lt_of_block hh
  have HR := hid hr
  have HF := hid hf
  have HBo := hid hb
  have HH := hid hh
  have HM := hid hm
  have HSZ := hid (⟨hs, hz⟩ : s.stage = 0 ∧ s.req = Rq.zero)
  have hlr : s.rest.length ≤ 200000 := hok.1
  clear hok hr hf hb hh hm hs hz
  go_enter Tryz.func38, Tryz.ntmps38
  go_wp2_with fail
  have hN := heap_alloc_new w (.cells #[.int .i64 0, .string ⟨#[]⟩, .string ⟨#[]⟩, .int .i64 0, .slice none 0 0, .slice none 0 0, .bool false] 46)
  have g1 := World.grownBy_alloc w (.cells #[.int .i64 0, .string ⟨#[]⟩, .string ⟨#[]⟩, .int .i64 0, .slice none 0 0, .slice none 0 0, .bool false] 46) none
  revert hN g1
  generalize w.alloc _ = w1
  intro hN g1
  refine (line_http s.rest _ w1 (HR.out.grow g1) (by omega)).mono ?_
  rintro e w2 ⟨g2, ⟨hl, rfl⟩ | ⟨t, bare, r', rv', hl, rfl, hrv⟩⟩
  · have HN := hid (gr_keep g2 hN (by simp))
    have G2 := hid (gr_trans g1 g2)
    have hh2 := gr_keep G2.out HH.out (by simp)
    have c0 := (cell_of_block hh2 0).trans (show _ = some (Value.slice ra s.rest.length rc) from rfl)
    have l2 := lt_of_block hh2
    have ln2 := lt_of_block HN.out
    have HH2 := hid hh2
    clear hh2 g1 g2 hN hlt
    by_cases h4096 : 4096 ≤ s.rest.length
    · have HS := hid (show headS s = failS 431 by unfold headS; rw [hl]; exact if_pos h4096)
      have h4096' : (4096 : Int) ≤ (s.rest.length : Int) := by omega
      have h4b : decide ((4096 : Int) ≤ (s.rest.length : Int)) = true := by simpa using h4096'
      clear hl h4096
      go_wp2_with fail
      refine (fail_http b _ _ _ _ _ _ 431 _ _ _ _ w2 HH2.out).mono ?_
      rintro e w9' ⟨rfl, hd, g9'⟩
      have HN9 := hid (gr_keep g9' HN.out (blk_ne HN.out HH2.out (by decide)))
      have y0 := free_of_block HN9.out 0
      have y1 := free_of_block HN9.out 1
      have y2 := free_of_block HN9.out 2
      have y3 := free_of_block HN9.out 3
      have y4 := free_of_block HN9.out 4
      have y5 := free_of_block HN9.out 5
      have y6 := free_of_block HN9.out 6
      have n0 := (cell_of_block HN9.out 0).trans (show _ = some (Value.int .i64 0) from rfl)
      have n1 := (cell_of_block HN9.out 1).trans (show _ = some (Value.string ⟨#[]⟩) from rfl)
      have n2 := (cell_of_block HN9.out 2).trans (show _ = some (Value.string ⟨#[]⟩) from rfl)
      have n3 := (cell_of_block HN9.out 3).trans (show _ = some (Value.int .i64 0) from rfl)
      have n4 := (cell_of_block HN9.out 4).trans (show _ = some (Value.slice none 0 0) from rfl)
      have n5 := (cell_of_block HN9.out 5).trans (show _ = some (Value.slice none 0 0) from rfl)
      have n6 := (cell_of_block HN9.out 6).trans (show _ = some (Value.bool false) from rfl)
      have lnn := lt_of_block HN9.out
      unfold PdCells str
      go_wp21
      have H7 := pd_set7 (.int .i64 431) (.string ⟨#[]⟩) (.string ⟨#[]⟩) (.int .i64 0) (.slice none 0 0) (.slice none 0 0) (.bool false) HN9.out
      revert H7
      generalize ((((((w9'.setCell _ _).setCell _ _).setCell _ _).setCell _ _).setCell _ _).setCell _ _).setCell _ _ = w9
      rintro ⟨hn9, g9⟩
      have e0 := cell_of_block hn9 0
      have e1 := cell_of_block hn9 1
      have e2 := cell_of_block hn9 2
      have e3 := cell_of_block hn9 3
      have e4 := cell_of_block hn9 4
      have e5 := cell_of_block hn9 5
      have e6 := cell_of_block hn9 6
      (try simp only [Exit.inBlock, Exit.then])
      refine bodyPost_ret (v := .tuple #[.agg #[.int .i64 431, .string ⟨#[]⟩, .string ⟨#[]⟩, .int .i64 0, .slice none 0 0, .slice none 0 0, .bool false], .bool true]) ?_ rfl (by rw [HS.out]; exact fail_end hd (gr_trans (gr_none G2.out) g9') HN9.out g9 (Nat.le_refl _))
      simp [results, Tryz.results38, go_sem, e0, e1, e2, e3, e4, e5, e6]
    · have HS := hid (show headS s = (s, none) by unfold headS; rw [hl]; exact if_neg h4096)
      have h4096' : ¬ (4096 : Int) ≤ (s.rest.length : Int) := by omega
      have h4b : decide ((4096 : Int) ≤ (s.rest.length : Int)) = false := by simpa using h4096'
      clear hl h4096
      have n0 := (cell_of_block HN.out 0).trans (show _ = some (Value.int .i64 0) from rfl)
      have y0 := free_of_block HN.out 0
      have n1 := (cell_of_block HN.out 1).trans (show _ = some (Value.string ⟨#[]⟩) from rfl)
      have y1 := free_of_block HN.out 1
      have n2 := (cell_of_block HN.out 2).trans (show _ = some (Value.string ⟨#[]⟩) from rfl)
      have y2 := free_of_block HN.out 2
      have n3 := (cell_of_block HN.out 3).trans (show _ = some (Value.int .i64 0) from rfl)
      have y3 := free_of_block HN.out 3
      have n4 := (cell_of_block HN.out 4).trans (show _ = some (Value.slice none 0 0) from rfl)
      have y4 := free_of_block HN.out 4
      have n5 := (cell_of_block HN.out 5).trans (show _ = some (Value.slice none 0 0) from rfl)
      have y5 := free_of_block HN.out 5
      have n6 := (cell_of_block HN.out 6).trans (show _ = some (Value.bool false) from rfl)
      have y6 := free_of_block HN.out 6
      go_wp21
      have H7 := pd_set7 (.int .i64 0) (.string ⟨#[]⟩) (.string ⟨#[]⟩) (.int .i64 0) (.slice none 0 0) (.slice none 0 0) (.bool false) HN.out
      revert H7
      generalize ((((((w2.setCell _ _).setCell _ _).setCell _ _).setCell _ _).setCell _ _).setCell _ _).setCell _ _ = w9
      rintro ⟨hn9, g9⟩
      have e0 := cell_of_block hn9 0
      have e1 := cell_of_block hn9 1
      have e2 := cell_of_block hn9 2
      have e3 := cell_of_block hn9 3
      have e4 := cell_of_block hn9 4
      have e5 := cell_of_block hn9 5
      have e6 := cell_of_block hn9 6
      (try simp only [Exit.inBlock, Exit.then])
      refine bodyPost_ret (v := .tuple #[.agg #[.int .i64 0, .string ⟨#[]⟩, .string ⟨#[]⟩, .int .i64 0, .slice none 0 0, .slice none 0 0, .bool false], .bool false]) ?_ rfl (by rw [HS.out]; exact none_end (HL.out.grow G2.out) hs5 (gr_none G2.out) HN.out g9 (Nat.le_refl _) (no_u8_pd _ _ _ _ _ _ _))
      simp [results, Tryz.results38, go_sem, e0, e1, e2, e3, e4, e5, e6]
  · obtain ⟨va, vc, rfl, hv1, hv2⟩ := hrv.shape
    have HN := hid (gr_keep g2 hN (by simp))
    have G2 := hid (gr_trans g1 g2)
    have hh2 := gr_keep G2.out HH.out (by simp)
    have c2 := (cell_of_block hh2 2).trans (show _ = some (Value.bool s.skip) from rfl)
    have l2 := lt_of_block hh2
    have ln2 := lt_of_block HN.out
    have HH2 := hid hh2
    have HRV := hid hrv
    have HLL := hid hl
    clear hh2 g1 g2 hN hlt hrv hv1 hv2 c0 hl
    unfold str
    obtain ⟨sk, hsk⟩ : ∃ x, x = s.skip := ⟨_, rfl⟩
    rw [← hsk] at c2
    have HSK := hid hsk
    clear hsk
    go_upto_region 2 with fail
    go_cut [34] (fun v34 wx => v34 = .bool (decide (t = [] ∧ bare = false ∧ sk = false)) ∧ w2 = wx)
    case first =>
      by_cases ht : t = []
      · subst ht
        cases bare
        · cases sk
          all_goals
            go_wp2_with fail
            go_meet
            exact ⟨by simp, rfl⟩
        · go_wp2_with fail
          go_meet
          exact ⟨by simp, rfl⟩
      · have hte : t.isEmpty = false := by simpa using ht
        go_wp2_with fail
        go_meet
        exact ⟨by simp [ht], rfl⟩
    case rest =>
      obtain ⟨rfl, rfl⟩ := hcut
      rw [HSK.out]
      by_cases hc : t = [] ∧ bare = false ∧ s.skip = false
      · rw [show decide (t = [] ∧ bare = false ∧ s.skip = false) = true from decide_eq_true hc]
        have HS := hid (show headS s = ({ s with rest := r', skip := true }, none) by unfold headS; rw [HLL.out]; exact if_pos hc)
        clear hc HLL
        have c0 := (cell_of_block HH2.out 0).trans (show _ = some (Value.slice ra s.rest.length rc) from rfl)
        have f0 := free_of_block HH2.out 0
        have f2 := free_of_block HH2.out 2
        go_upto_region 4 with fail
        obtain ⟨w3, hw3⟩ : ∃ x, x = (w2.setCell ⟨b, 0, none⟩ (.slice va r'.length vc)).setCell ⟨b, 2, none⟩ (.bool true) := ⟨_, rfl⟩
        rw [← hw3]
        have hb3 : w3.heap[b]? = some (.cells (PsCells (.slice va r'.length vc) (s.stage : Int) true s.req.method s.req.target s.req.minor (.slice fa s.req.fields.length fc) (.slice ba s.req.body.length bc) s.req.keep (s.left : Int)) 62 (0, 0)) := by rw [hw3]; exact heap_set (heap_set HH2.out)
        have g3 : w2.grownBy w3 (some b) := by rw [hw3]; exact gr_set (gr_set (gr_refl _ _))
        have HN3 := hid (gr_keep g3 HN.out (blk_ne HN.out HH2.out (by decide)))
        have HF3 := hid ((HF.out.grow G2.out).kept g3 HH2.out (by decide))
        have HBo3 := hid ((HBo.out.grow G2.out).kept g3 HH2.out (by decide) (no_u8_ps _ _ _ _ _ _ _ _ _ _ _ _))
        have HR3 := hid (HRV.out.kept g3 HH2.out (by decide))
        have G3 := hid (gr_trans (gr_none G2.out) g3)
        have HLV := hid (show PLive w3 b { s with rest := r', skip := true } from ⟨_, _, _, hb3, HR3.out, HF3.out, HBo3.out⟩)
        clear hw3 g3 c0 c2 f0 f2 hb3 HN HH2 l2 ln2
        have n0 := (cell_of_block HN3.out 0).trans (show _ = some (Value.int .i64 0) from rfl)
        have y0 := free_of_block HN3.out 0
        have n1 := (cell_of_block HN3.out 1).trans (show _ = some (Value.string ⟨#[]⟩) from rfl)
        have y1 := free_of_block HN3.out 1
        have n2 := (cell_of_block HN3.out 2).trans (show _ = some (Value.string ⟨#[]⟩) from rfl)
        have y2 := free_of_block HN3.out 2
        have n3 := (cell_of_block HN3.out 3).trans (show _ = some (Value.int .i64 0) from rfl)
        have y3 := free_of_block HN3.out 3
        have n4 := (cell_of_block HN3.out 4).trans (show _ = some (Value.slice none 0 0) from rfl)
        have y4 := free_of_block HN3.out 4
        have n5 := (cell_of_block HN3.out 5).trans (show _ = some (Value.slice none 0 0) from rfl)
        have y5 := free_of_block HN3.out 5
        have n6 := (cell_of_block HN3.out 6).trans (show _ = some (Value.bool false) from rfl)
        have y6 := free_of_block HN3.out 6
        have ln3 := lt_of_block HN3.out
        go_wp21
        have H7 := pd_set7 (.int .i64 0) (.string ⟨#[]⟩) (.string ⟨#[]⟩) (.int .i64 0) (.slice none 0 0) (.slice none 0 0) (.bool false) HN3.out
        revert H7
        generalize ((((((w3.setCell _ _).setCell _ _).setCell _ _).setCell _ _).setCell _ _).setCell _ _).setCell _ _ = w9
        rintro ⟨hn9, g9⟩
        have e0 := cell_of_block hn9 0
        have e1 := cell_of_block hn9 1
        have e2 := cell_of_block hn9 2
        have e3 := cell_of_block hn9 3
        have e4 := cell_of_block hn9 4
        have e5 := cell_of_block hn9 5
        have e6 := cell_of_block hn9 6
        (try simp only [Exit.inBlock, Exit.then])
        refine bodyPost_ret (v := .tuple #[.agg #[.int .i64 0, .string ⟨#[]⟩, .string ⟨#[]⟩, .int .i64 0, .slice none 0 0, .slice none 0 0, .bool false], .bool false]) ?_ rfl (by rw [HS.out]; exact none_end HLV.out hs5 G3.out HN3.out g9 (Nat.le_refl _) (no_u8_pd _ _ _ _ _ _ _))
        simp [results, Tryz.results38, go_sem, e0, e1, e2, e3, e4, e5, e6]
      · rw [show decide (t = [] ∧ bare = false ∧ s.skip = false) = false from decide_eq_false hc]
        have HE := hid (headS_line HLL.out hc)
        clear hc HLL HRV c2
        have c0 := (cell_of_block HH2.out 0).trans (show _ = some (Value.slice ra s.rest.length rc) from rfl)
        go_wp2_with fail
        refine (block_http s.rest _ 1 w2 (HR.out.grow G2.out) (by omega) (by omega)).mono ?_
        rintro e w3 ⟨g3, ⟨hl, rfl⟩ | ⟨texts, bare', r2, tv, rv', hl, rfl, htv, hrv⟩⟩
        · have HN3 := hid (gr_keep g3 HN.out (by simp))
          have HH3 := hid (gr_keep g3 HH2.out (by simp))
          have G3 := hid (gr_trans G2.out g3)
          clear c0 g3 HN HH2 l2 ln2
          have c0 := (cell_of_block HH3.out 0).trans (show _ = some (Value.slice ra s.rest.length rc) from rfl)
          have l3 := lt_of_block HH3.out
          have ln3 := lt_of_block HN3.out
          have HE2 := hid (HE.out.trans (by rw [hl]))
          clear HE hl
          by_cases h4096 : 4096 ≤ s.rest.length
          · have HS := hid (HE2.out.trans (if_pos h4096))
            have h4096' : (4096 : Int) ≤ (s.rest.length : Int) := by omega
            have h4b : decide ((4096 : Int) ≤ (s.rest.length : Int)) = true := by simpa using h4096'
            clear h4096 HE2
            go_wp2_with fail
            refine (fail_http b _ _ _ _ _ _ 431 _ _ _ _ w3 HH3.out).mono ?_
            rintro e w9' ⟨rfl, hd, g9'⟩
            have HN9 := hid (gr_keep g9' HN3.out (blk_ne HN3.out HH3.out (by decide)))
            have y0 := free_of_block HN9.out 0
            have y1 := free_of_block HN9.out 1
            have y2 := free_of_block HN9.out 2
            have y3 := free_of_block HN9.out 3
            have y4 := free_of_block HN9.out 4
            have y5 := free_of_block HN9.out 5
            have y6 := free_of_block HN9.out 6
            have n0 := (cell_of_block HN9.out 0).trans (show _ = some (Value.int .i64 0) from rfl)
            have n1 := (cell_of_block HN9.out 1).trans (show _ = some (Value.string ⟨#[]⟩) from rfl)
            have n2 := (cell_of_block HN9.out 2).trans (show _ = some (Value.string ⟨#[]⟩) from rfl)
            have n3 := (cell_of_block HN9.out 3).trans (show _ = some (Value.int .i64 0) from rfl)
            have n4 := (cell_of_block HN9.out 4).trans (show _ = some (Value.slice none 0 0) from rfl)
            have n5 := (cell_of_block HN9.out 5).trans (show _ = some (Value.slice none 0 0) from rfl)
            have n6 := (cell_of_block HN9.out 6).trans (show _ = some (Value.bool false) from rfl)
            have lnn := lt_of_block HN9.out
            unfold PdCells str
            go_wp21
            have H7 := pd_set7 (.int .i64 431) (.string ⟨#[]⟩) (.string ⟨#[]⟩) (.int .i64 0) (.slice none 0 0) (.slice none 0 0) (.bool false) HN9.out
            revert H7
            generalize ((((((w9'.setCell _ _).setCell _ _).setCell _ _).setCell _ _).setCell _ _).setCell _ _).setCell _ _ = w9
            rintro ⟨hn9, g9⟩
            have e0 := cell_of_block hn9 0
            have e1 := cell_of_block hn9 1
            have e2 := cell_of_block hn9 2
            have e3 := cell_of_block hn9 3
            have e4 := cell_of_block hn9 4
            have e5 := cell_of_block hn9 5
            have e6 := cell_of_block hn9 6
            (try simp only [Exit.inBlock, Exit.then])
            refine bodyPost_ret (v := .tuple #[.agg #[.int .i64 431, .string ⟨#[]⟩, .string ⟨#[]⟩, .int .i64 0, .slice none 0 0, .slice none 0 0, .bool false], .bool true]) ?_ rfl (by rw [HS.out]; exact fail_end hd (gr_trans (gr_none G3.out) g9') HN9.out g9 (Nat.le_refl _))
            simp [results, Tryz.results38, go_sem, e0, e1, e2, e3, e4, e5, e6]
          · have HS := hid (HE2.out.trans (if_neg h4096))
            have h4096' : ¬ (4096 : Int) ≤ (s.rest.length : Int) := by omega
            have h4b : decide ((4096 : Int) ≤ (s.rest.length : Int)) = false := by simpa using h4096'
            clear h4096 HE2
            have n0 := (cell_of_block HN3.out 0).trans (show _ = some (Value.int .i64 0) from rfl)
            have y0 := free_of_block HN3.out 0
            have n1 := (cell_of_block HN3.out 1).trans (show _ = some (Value.string ⟨#[]⟩) from rfl)
            have y1 := free_of_block HN3.out 1
            have n2 := (cell_of_block HN3.out 2).trans (show _ = some (Value.string ⟨#[]⟩) from rfl)
            have y2 := free_of_block HN3.out 2
            have n3 := (cell_of_block HN3.out 3).trans (show _ = some (Value.int .i64 0) from rfl)
            have y3 := free_of_block HN3.out 3
            have n4 := (cell_of_block HN3.out 4).trans (show _ = some (Value.slice none 0 0) from rfl)
            have y4 := free_of_block HN3.out 4
            have n5 := (cell_of_block HN3.out 5).trans (show _ = some (Value.slice none 0 0) from rfl)
            have y5 := free_of_block HN3.out 5
            have n6 := (cell_of_block HN3.out 6).trans (show _ = some (Value.bool false) from rfl)
            have y6 := free_of_block HN3.out 6
            go_wp21
            have H7 := pd_set7 (.int .i64 0) (.string ⟨#[]⟩) (.string ⟨#[]⟩) (.int .i64 0) (.slice none 0 0) (.slice none 0 0) (.bool false) HN3.out
            revert H7
            generalize ((((((w3.setCell _ _).setCell _ _).setCell _ _).setCell _ _).setCell _ _).setCell _ _).setCell _ _ = w9
            rintro ⟨hn9, g9⟩
            have e0 := cell_of_block hn9 0
            have e1 := cell_of_block hn9 1
            have e2 := cell_of_block hn9 2
            have e3 := cell_of_block hn9 3
            have e4 := cell_of_block hn9 4
            have e5 := cell_of_block hn9 5
            have e6 := cell_of_block hn9 6
            (try simp only [Exit.inBlock, Exit.then])
            refine bodyPost_ret (v := .tuple #[.agg #[.int .i64 0, .string ⟨#[]⟩, .string ⟨#[]⟩, .int .i64 0, .slice none 0 0, .slice none 0 0, .bool false], .bool false]) ?_ rfl (by rw [HS.out]; exact none_end (HL.out.grow G3.out) hs5 (gr_none G3.out) HN3.out g9 (Nat.le_refl _) (no_u8_pd _ _ _ _ _ _ _))
            simp [results, Tryz.results38, go_sem, e0, e1, e2, e3, e4, e5, e6]
        · obtain ⟨va2, vc2, rfl, hv1, hv2⟩ := hrv.shape
          obtain ⟨ta, tc, rfl, ht1⟩ := own_shape htv
          have hlen := blockL_len hl
          have HTL := hid (⟨fun t ht => Nat.le_trans (hlen.2 t ht) hlr, blockL_ne hl, Nat.le_trans (blockL_cnt hl) hlr⟩ : (∀ t ∈ texts, t.length ≤ 200000) ∧ texts ≠ [] ∧ texts.length ≤ 200000)
          have hlen1 := hlen.1
          have HN3 := hid (gr_keep g3 HN.out (by simp))
          have HH3 := hid (gr_keep g3 HH2.out (by simp))
          have G3 := hid (gr_trans G2.out g3)
          have HRV := hid hrv
          have HTV := hid htv
          clear c0 g3 HN HH2 l2 ln2 hrv hv1 hv2 hlen htv
          have c0 := (cell_of_block HH3.out 0).trans (show _ = some (Value.slice ra s.rest.length rc) from rfl)
          have l3 := lt_of_block HH3.out
          have ln3 := lt_of_block HN3.out
          have HE2 := hid (HE.out.trans (by rw [hl]))
          clear HE hl
          obtain ⟨d, hd⟩ : ∃ d, d = s.rest.length - r2.length := ⟨_, rfl⟩
          have hdi : (s.rest.length : Int) - (r2.length : Int) = (d : Int) := by omega
          have hdi2 : IntKind.i64.wrap ((s.rest.length : Int) - (r2.length : Int)) = (d : Int) := by rw [hdi]; exact IntWalk.i64_in _ (by omega)
          by_cases h4096 : d ≤ 4096
          · have HSS := hid (HE2.out.trans (if_pos (by omega)))
            have h4b : decide ((d : Int) ≤ 4096) = true := by simp; omega
            clear hd h4096 HE2
            have f0 := free_of_block HH3.out 0
            go_upto_region 10 with fail
            obtain ⟨w4, hw4⟩ : ∃ x, x = w3.setCell ⟨b, 0, none⟩ (.slice va2 r2.length vc2) := ⟨_, rfl⟩
            rw [← hw4]
            have hb4 : w4.heap[b]? = some (.cells (PsCells (.slice va2 r2.length vc2) (s.stage : Int) s.skip s.req.method s.req.target s.req.minor (.slice fa s.req.fields.length fc) (.slice ba s.req.body.length bc) s.req.keep (s.left : Int)) 62 (0, 0)) := by rw [hw4]; exact heap_set HH3.out
            have g4 : w3.grownBy w4 (some b) := by rw [hw4]; exact gr_set (gr_refl _ _)
            have HN4 := hid (gr_keep g4 HN3.out (blk_ne HN3.out HH3.out (by decide)))
            have HF4 := hid ((HF.out.grow G3.out).kept g4 HH3.out (by decide))
            have HBo4 := hid ((HBo.out.grow G3.out).kept g4 HH3.out (by decide) (no_u8_ps _ _ _ _ _ _ _ _ _ _ _ _))
            have HR4 := hid (HRV.out.kept g4 HH3.out (by decide))
            have HTV4 := hid (row_ty HTV.out g4 HH3.out (by decide))
            have G4 := hid (gr_trans (gr_none G3.out) g4)
            have HH4 := hid hb4
            have HLV := hid (show PLive w4 b { s with rest := r2 } from ⟨_, _, _, hb4, HR4.out, HF4.out, HBo4.out⟩)
            have hm4 := hid (G4.out.cell HM.out (by simpa using Ne.symm hb0))
            clear hw4 g4 c0 f0 hb4 HN3 HH3 l3 ln3 hdi hdi2 h4b
            go_wp2_with fail
            refine (judge_http b { s with rest := r2 } w4 _ _ texts mx bare' HLV.out HSZ.out.1 HSZ.out.2 ⟨by have := HOK.out.1; show r2.length ≤ 200000; omega, HOK.out.2⟩ HTV4.out HTL.out.2.1 HTL.out.1 HTL.out.2.2 hm4.out).mono ?_
            intro e w5 hp
            obtain ⟨st, m, t', mi, fa', fn', fc', ba', bn', bc', k, ok', rfl⟩ := hp.shape
            have HPP := hid hp
            have hg3 := hp.2.1
            have HNz := hid (gr_keep hg3 HN4.out (blk_ne HN4.out HH4.out (by decide)))
            clear hp hg3
            have y0 := free_of_block HNz.out 0
            have y1 := free_of_block HNz.out 1
            have y2 := free_of_block HNz.out 2
            have y3 := free_of_block HNz.out 3
            have y4 := free_of_block HNz.out 4
            have y5 := free_of_block HNz.out 5
            have y6 := free_of_block HNz.out 6
            have n0 := (cell_of_block HNz.out 0).trans (show _ = some (Value.int .i64 0) from rfl)
            have n1 := (cell_of_block HNz.out 1).trans (show _ = some (Value.string ⟨#[]⟩) from rfl)
            have n2 := (cell_of_block HNz.out 2).trans (show _ = some (Value.string ⟨#[]⟩) from rfl)
            have n3 := (cell_of_block HNz.out 3).trans (show _ = some (Value.int .i64 0) from rfl)
            have n4 := (cell_of_block HNz.out 4).trans (show _ = some (Value.slice none 0 0) from rfl)
            have n5 := (cell_of_block HNz.out 5).trans (show _ = some (Value.slice none 0 0) from rfl)
            have n6 := (cell_of_block HNz.out 6).trans (show _ = some (Value.bool false) from rfl)
            have lnn := lt_of_block HNz.out
            go_wp21
            have H7 := pd_set7 (.int .i64 st) (.string ⟨m.toArray⟩) (.string ⟨t'.toArray⟩) (.int .i64 mi) (.slice fa' fn' fc') (.slice ba' bn' bc') (.bool k) HNz.out
            revert H7
            generalize ((((((w5.setCell _ _).setCell _ _).setCell _ _).setCell _ _).setCell _ _).setCell _ _).setCell _ _ = w9
            rintro ⟨hn9, g9⟩
            have e0 := cell_of_block hn9 0
            have e1 := cell_of_block hn9 1
            have e2 := cell_of_block hn9 2
            have e3 := cell_of_block hn9 3
            have e4 := cell_of_block hn9 4
            have e5 := cell_of_block hn9 5
            have e6 := cell_of_block hn9 6
            (try simp only [Exit.inBlock, Exit.then])
            refine bodyPost_ret (v := .tuple #[.agg #[.int .i64 st, .string ⟨m.toArray⟩, .string ⟨t'.toArray⟩, .int .i64 mi, .slice fa' fn' fc', .slice ba' bn' bc', .bool k], .bool ok']) ?_ rfl (by rw [HSS.out]; exact HPP.out.wrap2 G4.out HNz.out g9 (Nat.le_refl _) (no_u8_pd _ _ _ _ _ _ _))
            simp [results, Tryz.results38, go_sem, e0, e1, e2, e3, e4, e5, e6]
          · have HS := hid (HE2.out.trans (if_neg (by omega)))
            have h4b : decide ((d : Int) ≤ 4096) = false := by simp; omega
            clear hd HE2
            go_wp2_with fail
            refine (fail_http b _ _ _ _ _ _ 431 _ _ _ _ w3 HH3.out).mono ?_
            rintro e w9' ⟨rfl, hd, g9'⟩
            have HN9 := hid (gr_keep g9' HN3.out (blk_ne HN3.out HH3.out (by decide)))
            have y0 := free_of_block HN9.out 0
            have y1 := free_of_block HN9.out 1
            have y2 := free_of_block HN9.out 2
            have y3 := free_of_block HN9.out 3
            have y4 := free_of_block HN9.out 4
            have y5 := free_of_block HN9.out 5
            have y6 := free_of_block HN9.out 6
            have n0 := (cell_of_block HN9.out 0).trans (show _ = some (Value.int .i64 0) from rfl)
            have n1 := (cell_of_block HN9.out 1).trans (show _ = some (Value.string ⟨#[]⟩) from rfl)
            have n2 := (cell_of_block HN9.out 2).trans (show _ = some (Value.string ⟨#[]⟩) from rfl)
            have n3 := (cell_of_block HN9.out 3).trans (show _ = some (Value.int .i64 0) from rfl)
            have n4 := (cell_of_block HN9.out 4).trans (show _ = some (Value.slice none 0 0) from rfl)
            have n5 := (cell_of_block HN9.out 5).trans (show _ = some (Value.slice none 0 0) from rfl)
            have n6 := (cell_of_block HN9.out 6).trans (show _ = some (Value.bool false) from rfl)
            have lnn := lt_of_block HN9.out
            unfold PdCells str
            go_wp21
            have H7 := pd_set7 (.int .i64 431) (.string ⟨#[]⟩) (.string ⟨#[]⟩) (.int .i64 0) (.slice none 0 0) (.slice none 0 0) (.bool false) HN9.out
            revert H7
            generalize ((((((w9'.setCell _ _).setCell _ _).setCell _ _).setCell _ _).setCell _ _).setCell _ _).setCell _ _ = w9
            rintro ⟨hn9, g9⟩
            have e0 := cell_of_block hn9 0
            have e1 := cell_of_block hn9 1
            have e2 := cell_of_block hn9 2
            have e3 := cell_of_block hn9 3
            have e4 := cell_of_block hn9 4
            have e5 := cell_of_block hn9 5
            have e6 := cell_of_block hn9 6
            (try simp only [Exit.inBlock, Exit.then])
            refine bodyPost_ret (v := .tuple #[.agg #[.int .i64 431, .string ⟨#[]⟩, .string ⟨#[]⟩, .int .i64 0, .slice none 0 0, .slice none 0 0, .bool false], .bool true]) ?_ rfl (by rw [HS.out]; exact fail_end hd (gr_trans (gr_none G3.out) g9') HN9.out g9 (Nat.le_refl _))
            simp [results, Tryz.results38, go_sem, e0, e1, e2, e3, e4, e5, e6]
end Go.Proofs.YtldbcdiomkkinaaGreatDoor
