/- (*http.Parser).judge: the fields. -/
import Derived.Test.YtldbcdiomkkinaaGreatDoorHte3
namespace Go.Proofs.YtldbcdiomkkinaaGreatDoor
open Go.RowKit

set_option maxRecDepth 20000 in
set_option maxHeartbeats 4000000 in
theorem judge_fields (b : Nat) (s : Ps) (w : World) (base : Nat) (tv : Value) (texts : List (List UInt8)) (t0 : List UInt8) (mx : Int) (h : PLive w b s) (hs : s.stage = 0) (hz : s.req = Rq.zero) (hok : PsOk s) (htv : w.ownsRow base 9 1 tv texts.length (texts.map str))
    (ht0 : texts[0]? = some t0) (hlen : ∀ t ∈ texts, t.length ≤ 200000) (hcnt : texts.length ≤ 200000) (hm : w.cell? ⟨0, 0, none⟩ = some (.int .i64 mx)) (hc : (stR t0).2.2.2 = true) (hc2 : (stR t0).1 ∈ methodsL) :
    Calls Tryz.prog 53 #[.pointer (some ⟨b, 0, none⟩), tv, .bool false] w (StepPost w b (judgeS s texts false)) := by
  have HC := hid (⟨hc, hc2, fun m1 t1 mi hst => judgeS_fields hz ht0 hst⟩ : (stR t0).2.2.2 = true ∧ (stR t0).1 ∈ methodsL ∧ ∀ m1 t1 mi, stR t0 = (m1, t1, mi, true) → m1 ∈ methodsL → judgeS s texts false = match fieldsL texts.tail with | none => failS 400 | some fs => jd2 s ⟨m1, t1, mi, fs, [], false⟩)
  clear hc hc2
  have HL := hid h
  have HOK := hid hok
  obtain ⟨rv, fv, bv, hh, hr, hf, hb⟩ := h
  rw [hz] at hf hb
  obtain rfl := hf.empty
  obtain ⟨ba, bc, rfl, hb1, hb2⟩ := hb.shape
  obtain ⟨ra, rc, rfl, hr1, hr2⟩ := hr.shape
  replace hh : w.heap[b]? = some (.cells (PsCells (.slice ra s.rest.length rc) 0 s.skip [] [] 0 (.slice none 0 0) (.slice ba 0 bc) false (s.left : Int)) 62 (0, 0)) := by rw [hs, hz] at hh; exact hh
  obtain ⟨ta, tc, rfl, htc⟩ := own_shape htv
  obtain ⟨n, hn⟩ : ∃ n, n = texts.length := ⟨_, rfl⟩
  have hn0 : 0 < n := by rw [hn]; exact (List.getElem?_eq_some_iff.1 ht0).1
  obtain ⟨gt, gc, egt, hgc, hgl, hcells⟩ := own_cell htv (by omega)
  obtain ⟨rfl, rfl⟩ : ta = some ⟨gt, 0, none⟩ ∧ tc = gc := by simpa using egt
  have hcell := hcells 0 (str t0) (by rw [List.getElem?_map, ht0]; rfl)
  unfold str at hcell
  have htl : t0.length ≤ 200000 := hlen t0 (List.mem_of_getElem? ht0)
  have hgt : gt < w.heap.size := World.block_lt_of_cell? _ _ hcell
  have hlt := lt_of_block hh
  rw [← hn] at htc htv ⊢
  have HNN := hid hn
  have HTN := hid (⟨htc, by rw [hn]; exact hcnt⟩ : n ≤ tc ∧ n ≤ 200000)
  have hnc : n ≤ 200000 := HTN.out.2
  have hn1 : (0 : Int) < (n : Int) := by omega
  have HR := hid hr
  have HBo := hid hb
  have HH := hid hh
  have HTV := hid htv
  have HLEN := hid hlen
  have HT0 := hid ht0
  have HM := hid hm
  clear hok hr hf hb hh hn htv hlen hcells egt ht0 hgc hgl htc hcnt hm
  go_enter Tryz.func53, Tryz.ntmps53
  go_wp2_with fail
  have hN := heap_alloc_new w (.cells #[.int .i64 0, .string ⟨#[]⟩, .string ⟨#[]⟩, .int .i64 0, .slice none 0 0, .slice none 0 0, .bool false] 46)
  have g1 := World.grownBy_alloc w (.cells #[.int .i64 0, .string ⟨#[]⟩, .string ⟨#[]⟩, .int .i64 0, .slice none 0 0, .slice none 0 0, .bool false] 46) none
  revert hN g1
  generalize w.alloc _ = w1
  intro hN g1
  refine (start_any ⟨t0.toArray⟩ mx w1 (g1.cell HM.out (by simp)) (by rw [Lib.size_eq]; simp; omega)).mono ?_
  rintro e w2 ⟨rfl, g2⟩
  rw [show (ByteArray.mk t0.toArray).data.toList = t0 from rfl]
  rcases hst : stR t0 with ⟨m1, t1, mi, ok⟩
  have HST := hid hst
  have G2 := hid (gr_trans g1 g2)
  have HN2 := hid (gr_keep g2 hN (by simp))
  have hh2 := gr_keep G2.out HH.out (by simp)
  have c3 := (cell_of_block hh2 3).trans (show _ = some (Value.string ⟨#[]⟩) from rfl)
  have c4 := (cell_of_block hh2 4).trans (show _ = some (Value.string ⟨#[]⟩) from rfl)
  have c5 := (cell_of_block hh2 5).trans (show _ = some (Value.int .i64 0) from rfl)
  have f3 := free_of_block hh2 3
  have f4 := free_of_block hh2 4
  have f5 := free_of_block hh2 5
  have lb2 := lt_of_block hh2
  have HH2 := hid hh2
  clear hst g1 g2 hN hh2 hlt hcell htl hgt
  dsimp only
  unfold str
  go_upto_region 4 with fail
  obtain ⟨w3, hw3⟩ : ∃ x, x = ((w2.setCell ⟨b, 3, none⟩ (.string ⟨m1.toArray⟩)).setCell ⟨b, 4, none⟩ (.string ⟨t1.toArray⟩)).setCell ⟨b, 5, none⟩ (.int .i64 mi) := ⟨_, rfl⟩
  rw [← hw3]
  have hb3 : w3.heap[b]? = some (.cells (PsCells (.slice ra s.rest.length rc) 0 s.skip m1 t1 mi (.slice none 0 0) (.slice ba 0 bc) false (s.left : Int)) 62 (0, 0)) := by rw [hw3]; exact heap_set (heap_set (heap_set HH2.out))
  have g3 : w2.grownBy w3 (some b) := by rw [hw3]; exact gr_set (gr_set (gr_set (gr_refl _ _)))
  have HN3 := hid (gr_keep g3 HN2.out (blk_ne HN2.out HH2.out (by decide)))
  have HBo3 := hid ((HBo.out.grow G2.out).kept g3 HH2.out (by decide) (no_u8_ps _ _ _ _ _ _ _ _ _ _ _ _))
  have HR3 := hid ((HR.out.grow G2.out).kept g3 HH2.out (by decide))
  have HTV3 := hid (row_ty (row_none HTV.out G2.out) g3 HH2.out (by decide))
  have G3 := hid (gr_trans (gr_none G2.out) g3)
  have HH3 := hid hb3
  clear c3 c4 c5 f3 f4 f5 lb2 hw3 g3 HN2 HH2 G2 hb3 HR HBo HTV HL HM HH
  have lb3 := lt_of_block HH3.out
  have ln3 := lt_of_block HN3.out
  have hck := HC.out
  rw [HST.out] at hck
  obtain ⟨rfl, hnm, hj⟩ : ok = true ∧ m1 ∈ methodsL ∧ _ := hck
  have HE := hid (hj m1 t1 mi rfl hnm)
  have HNM := hid hnm
  clear hnm hj HC
  have c3 := (cell_of_block HH3.out 3).trans (show _ = some (Value.string ⟨m1.toArray⟩) from rfl)
  go_wp2_with fail
  have hA := heap_alloc_new w3 (.cells #[.string ⟨#[71, 69, 84]⟩, .string ⟨#[72, 69, 65, 68]⟩, .string ⟨#[80, 79, 83, 84]⟩, .string ⟨#[83, 85, 66, 83, 67, 82, 73, 66, 69]⟩, .string ⟨#[85, 78, 83, 85, 66, 83, 67, 82, 73, 66, 69]⟩] 9)
  have g4 := World.grownBy_alloc w3 (.cells #[.string ⟨#[71, 69, 84]⟩, .string ⟨#[72, 69, 65, 68]⟩, .string ⟨#[80, 79, 83, 84]⟩, .string ⟨#[83, 85, 66, 83, 67, 82, 73, 66, 69]⟩, .string ⟨#[85, 78, 83, 85, 66, 83, 67, 82, 73, 66, 69]⟩] 9) none
  revert hA g4
  generalize w3.alloc _ = w4
  intro hA g4
  have HH4 := hid (gr_keep g4 HH3.out (by simp))
  have HN4 := hid (gr_keep g4 HN3.out (by simp))
  have G4 := hid (gr_trans G3.out (gr_none g4))
  have HTV4 := hid (row_none HTV3.out g4)
  have HBo4 := hid (HBo3.out.grow g4)
  have HR4 := hid (HR3.out.grow g4)
  clear c3 g4 HH3 HN3 G3 HTV3 HBo3 HR3 lb3 ln3
  refine (contains_five w3.heap.size [⟨#[71, 69, 84]⟩, ⟨#[72, 69, 65, 68]⟩, ⟨#[80, 79, 83, 84]⟩, ⟨#[83, 85, 66, 83, 67, 82, 73, 66, 69]⟩, ⟨#[85, 78, 83, 85, 66, 83, 67, 82, 73, 66, 69]⟩] ⟨m1.toArray⟩ w4 9 rfl hA).mono ?_
  rintro e w5 ⟨rfl, rfl⟩
  rw [methods_contains]
  clear hA
  have lb4 := lt_of_block HH4.out
  have ln4 := lt_of_block HN4.out
  rw [show decide (m1 ∈ methodsL) = true from decide_eq_true HNM.out]
  obtain ⟨gt', gc, egt, hgc, hgl, -⟩ := own_cell HTV4.out (by omega)
  clear egt hgc gt'
  have hn2 : (1 : Int) ≤ (n : Int) := by omega
  have hnt : n ≤ tc := HTN.out.1
  have hnt2 : (n : Int) ≤ (tc : Int) := by omega
  obtain ⟨n1, hn1'⟩ : ∃ x, x = n - 1 := ⟨_, rfl⟩
  have HN1 := hid hn1'
  have hwn : IntKind.i64.wrap ((n : Int) - 1) = (n1 : Int) := by rw [show (n : Int) - 1 = (n1 : Int) by omega]; exact IntWalk.i64_in _ (by omega)
  clear hn1'
  go_upto_region 8 with fail
  go_cut [60, 61, 62] (fun v60 v61 v62 wx => ∃ av cc, v60 = .slice av n1 cc ∧ v61 = .int .i64 (n1 : Int) ∧ v62 = .int .i64 0 ∧ (2 ≤ n → av = some ⟨gt, 1, none⟩) ∧ w4 = wx)
  case first =>
    by_cases htc : tc = 1
    · have hn11 : n = 1 := by omega
      go_wp2_with fail
      go_meet
      have e1 : n1 = 0 := by have := HN1.out; omega
      exact ⟨some ⟨gt, 0, none⟩, 0, by rw [e1], by rw [e1]; rfl, rfl, fun h => by omega, rfl⟩
    · go_wp2_with fail
      go_meet
      have e1 : n - 1 = n1 := HN1.out.symm
      exact ⟨_, _, by rw [e1], by rw [e1], rfl, fun _ => rfl, rfl⟩
  case rest =>
    obtain ⟨av, cc, rfl, rfl, rfl, hav, rfl⟩ := hcut
    have HAV := hid hav
    clear hav hwn
    have htl1 : texts.tail.length = n1 := by rw [List.length_tail, ← HNN.out, ← HN1.out]
    have HTL1 := hid htl1
    obtain ⟨iF, hi', hz', hs', hb'⟩ := info_parts infoField
    have hiF := hid hi'
    have hzF := hid hz'
    have hsF := hid hs'
    have hbF := hid hb'
    clear hi' hz' hs' hb'
    have hn1c : n1 ≤ 200000 := by have := HN1.out; omega
    clear htl1 hnt hnt2 hn2 hn1
    go_wp2_with fail
    go_loopw [62] (fun vk wr => JdR w4 b texts.tail (fun fv => PsCells (.slice ra s.rest.length rc) 0 s.skip m1 t1 mi fv (.slice ba 0 bc) false (s.left : Int)) vk wr) (fun vk _ => n1 - (intOf vk).toNat)
    case atStart => exact ⟨0, [], .slice none 0 0, rfl, Nat.zero_le _, rfl, gr_refl _ _, HH4.out, ⟨rfl, .inl ⟨rfl, rfl⟩⟩, fun _ => rfl⟩
    case round =>
      obtain ⟨k, fs, fv, rfl, hk, hfs, gw, hbr, how, hk0⟩ := hrel
      rw [HTL1.out] at hk
      obtain ⟨fa, fc, rfl, hfc⟩ := row_shape how
      replace hbr : wr.heap[b]? = some (.cells (PsCells (.slice ra s.rest.length rc) 0 s.skip m1 t1 mi (.slice fa k fc) (.slice ba 0 bc) false (s.left : Int)) 62 (0, 0)) := hbr
      have HHR0 := hid hbr
      have HNR0 := hid (gr_keep gw HN4.out (blk_ne HN4.out HH4.out (by decide)))
      have HFS := hid hfs
      have HOW0 := hid how
      have HK0 := hid hk0
      have lr := lt_of_block hbr
      have lnr := lt_of_block HNR0.out
      clear hfs hbr how hk0 lb4 ln4 hfc
      by_cases hkl : k < n1
      · have hav' := HAV.out (by have := HN1.out; omega)
        subst hav'
        obtain ⟨t, htk⟩ : ∃ t, texts.tail[k]? = some t := ⟨_, List.getElem?_eq_getElem (by rw [HTL1.out]; exact hkl)⟩
        have htk1 : texts[k + 1]? = some t := by rw [← htk, List.getElem?_tail]
        obtain ⟨gt', gc, egt, hgc, hgl, hcells⟩ := own_cell (row_ty HTV4.out gw HH4.out (by decide)) (by have := HN1.out; omega)
        obtain ⟨rfl, rfl⟩ : gt = gt' ∧ tc = gc := by simpa using egt
        have hcell := hcells (k + 1) (str t) (by rw [List.getElem?_map, htk1]; rfl)
        rw [Nat.add_comm] at hcell
        unfold str at hcell
        have htl : t.length ≤ 200000 := HLEN.out t (List.mem_of_getElem? htk1)
        have HTK := hid htk
        have hki : (k : Int) < (n1 : Int) := by omega
        have hk5 : k ≤ 200000 := by omega
        clear hcells egt htk htk1 hgc hgl
        go_wp2_with fail
        refine (line_any ⟨t.toArray⟩ wr (by rw [Lib.size_eq]; simp; omega)).mono ?_
        rintro e w5 ⟨rfl, g5⟩
        rw [show (ByteArray.mk t.toArray).data.toList = t from rfl]
        have HH5 := hid (gr_keep g5 HHR0.out (by simp))
        have HN5 := hid (gr_keep g5 HNR0.out (by simp))
        have G5 := hid (gr_trans gw (gr_none g5))
        have HOW5 := hid (row_none HOW0.out g5)
        have HSZ5 := hid (Nat.le_trans gw.size g5.size)
        have HR5sz := hid g5.size
        clear g5 gw HHR0 HNR0 HOW0 lr lnr hcell
        cases hgd : (lnR t).2.2
        · have HS := hid (show judgeS s texts false = failS 400 by
            rw [HE.out]
            have hb := fieldsL_bad texts.tail t (List.mem_of_getElem? HTK.out) hgd
            cases hf : fieldsL texts.tail with
            | none => rfl
            | some x => rw [hf] at hb; cases hb)
          clear HE hgd
          unfold str
          generalize (lnR t).1 = fn1
          generalize (lnR t).2.1 = fv1
          go_wp2_with fail
          have g6 := World.grownBy_alloc w5 (.cells #[.string ⟨fn1.toArray⟩, .string ⟨fv1.toArray⟩] 26) none
          revert g6
          generalize w5.alloc _ = w6
          intro g6
          have HH6 := hid (gr_keep g6 HH5.out (by simp))
          have HN6 := hid (gr_keep g6 HN5.out (by simp))
          have G6 := hid (gr_trans G4.out (gr_trans G5.out (gr_none g6)))
          refine (fail_http b _ _ _ _ _ _ 400 _ _ _ _ w6 HH6.out).mono ?_
          rintro e w9' ⟨rfl, hd, g9'⟩
          have HN9 := hid (gr_keep g9' HN6.out (blk_ne HN6.out HH6.out (by decide)))
          have y0 := free_of_block HN9.out 0
          have y1 := free_of_block HN9.out 1
          have y2 := free_of_block HN9.out 2
          have y3 := free_of_block HN9.out 3
          have y4 := free_of_block HN9.out 4
          have y5 := free_of_block HN9.out 5
          have y6 := free_of_block HN9.out 6
          have n0 := (cell_of_block HN9.out 0).trans (show _ = some (Value.int .i64 0) from rfl)
          have n1 := (cell_of_block HN9.out 1).trans (show _ = some (Value.string ⟨#[]⟩) from rfl)
          have n2 := (cell_of_block HN9.out 2).trans (show _ = some (Value.string ⟨#[]⟩) from rfl)
          have n3 := (cell_of_block HN9.out 3).trans (show _ = some (Value.int .i64 0) from rfl)
          have n4 := (cell_of_block HN9.out 4).trans (show _ = some (Value.slice none 0 0) from rfl)
          have n5 := (cell_of_block HN9.out 5).trans (show _ = some (Value.slice none 0 0) from rfl)
          have n6 := (cell_of_block HN9.out 6).trans (show _ = some (Value.bool false) from rfl)
          have lnn := lt_of_block HN9.out
          unfold PdCells str
          go_wp21
          have H7 := pd_set7 (.int .i64 400) (.string ⟨#[]⟩) (.string ⟨#[]⟩) (.int .i64 0) (.slice none 0 0) (.slice none 0 0) (.bool false) HN9.out
          revert H7
          generalize ((((((w9'.setCell _ _).setCell _ _).setCell _ _).setCell _ _).setCell _ _).setCell _ _).setCell _ _ = w9
          rintro ⟨hn9, g9⟩
          have e0 := cell_of_block hn9 0
          have e1 := cell_of_block hn9 1
          have e2 := cell_of_block hn9 2
          have e3 := cell_of_block hn9 3
          have e4 := cell_of_block hn9 4
          have e5 := cell_of_block hn9 5
          have e6 := cell_of_block hn9 6
          (try simp only [Exit.inBlock, Exit.then])
          refine bodyPost_ret (v := .tuple #[.agg #[.int .i64 400, .string ⟨#[]⟩, .string ⟨#[]⟩, .int .i64 0, .slice none 0 0, .slice none 0 0, .bool false], .bool true]) ?_ rfl (by rw [HS.out]; exact fail_end hd (gr_trans G6.out g9') HN9.out g9 (Nat.le_refl _))
          simp [results, Tryz.results53, go_sem, e0, e1, e2, e3, e4, e5, e6]
        · have HFN := hid (show fieldsL (texts.tail.take (k + 1)) = some (fs ++ [((lnR t).1, (lnR t).2.1)]) by
            rw [List.take_add_one, HTK.out]
            exact fieldsL_snoc _ _ _ HFS.out hgd)
          clear hgd
          unfold str
          generalize (lnR t).1 = fn1 at HFN ⊢
          generalize (lnR t).2.1 = fv1 at HFN ⊢
          go_upto_region 14 with fail
          have hF := heap_alloc_new w5 (.cells #[.string ⟨fn1.toArray⟩, .string ⟨fv1.toArray⟩] 26)
          have g6 := World.grownBy_alloc w5 (.cells #[.string ⟨fn1.toArray⟩, .string ⟨fv1.toArray⟩] 26) none
          have HFK := hid (show some w5.heap.size ≠ (Value.slice fa k fc).ownBlock from fun e => by have := (HOW5.out.lt _ e.symm).2; omega)
          obtain ⟨fb, hfb⟩ : ∃ x, x = w5.heap.size := ⟨_, rfl⟩
          rw [← hfb] at hF HFK ⊢
          clear hfb
          revert hF g6
          generalize w5.alloc _ = w0
          intro g6 hF
          have HF0 := hid hF
          have HHR := hid (gr_keep g6 HH5.out (by simp))
          have HNR := hid (gr_keep g6 HN5.out (by simp))
          have GR := hid (gr_trans G5.out (gr_none g6))
          have HOW := hid (row_none HOW5.out g6)
          have HSZ := hid (Nat.le_trans HSZ5.out g6.size)
          have HBK := hid (own_ne HOW.out HHR.out (by decide))
          have HNK := hid (own_ne HOW.out HNR.out (by decide))
          have HRL := hid (fun k' h => (HOW.out.lt k' h).2 : ∀ k', (Value.slice fa k fc).ownBlock = some k' → k' < w0.heap.size)
          clear hF g6 HH5 HN5 G5 HOW5 HSZ5 HR5sz htl
          refine wp_region_spec3 8 7 (Value.slice fa k fc).ownBlock (by kernel_rfl) (by kernel_rfl) (by kernel_rfl) (by kernel_rfl) (by kernel_rfl) (by kernel_rfl) [some 77, some 78, some 79, some 80, some 81, some 82, some 83, some 84] (by kernel_rfl) _ (fun u => (by simp only [fill, List.zipIdx_cons, List.zipIdx_nil, List.foldl_cons, List.foldl_nil, Act.put, List.setIfInBounds_toArray, List.set_cons_zero, List.set_cons_succ, Nat.zero_add, Nat.reduceAdd]; exact rfl)) (by kernel_rfl)
            (all_succ (all_succ (all_succ (all_succ (all_succ (all_succ (all_succ (all_succ (all_zero _) (fun u v => by kernel_rfl)) (fun u v => by kernel_rfl)) (fun u v => by kernel_rfl)) (fun u v => by kernel_rfl)) (fun u v => by kernel_rfl)) (fun u v => by kernel_rfl)) (fun u v => by kernel_rfl)) (fun u v => by kernel_rfl))
            (fun ri v w => match ri with | 0 => v = .pointer (some ⟨b, 3, none⟩) | 1 => v = .pointer (some ⟨b, 3, none⟩) | 2 => v = .pointer (some ⟨b, 3, none⟩) | 3 => v = .pointer (some ⟨b, 6, none⟩) | 4 => v = .slice fa k fc | 5 => v = .agg #[.string ⟨fn1.toArray⟩, .string ⟨fv1.toArray⟩] | 6 => FsNew w0 fn1 fv1 v w | 7 => w.ownsRow w4.heap.size 26 2 v (k + 1) (flatF fs ++ [str fn1, str fv1]) | _ => True)
            (all_succ (all_succ (all_succ (all_succ (all_succ (all_succ (all_succ (all_succ (all_zero _) ?m0) ?m1) ?m2) ?m3) ?m4) ?m5) ?m6) ?m7)
            [[], [], [1], [2], [3], [], [5], [4, 6]] (by kernel_rfl)
            ⟨?o0, ?o1, ?o2, ?o3, ?o4, ?o5, ?o6, ?o7, trivial⟩ ?done
          case m0 => intro v w w' h g; first | exact h | exact FsNew.kept h g HRL.out | exact row_none h g
          case m1 => intro v w w' h g; first | exact h | exact FsNew.kept h g HRL.out | exact row_none h g
          case m2 => intro v w w' h g; first | exact h | exact FsNew.kept h g HRL.out | exact row_none h g
          case m3 => intro v w w' h g; first | exact h | exact FsNew.kept h g HRL.out | exact row_none h g
          case m4 => intro v w w' h g; first | exact h | exact FsNew.kept h g HRL.out | exact row_none h g
          case m5 => intro v w w' h g; first | exact h | exact FsNew.kept h g HRL.out | exact row_none h g
          case m6 => intro v w w' h g; first | exact h | exact FsNew.kept h g HRL.out | exact row_none h g
          case m7 => intro v w w' h g; first | exact h | exact FsNew.kept h g HRL.out | exact row_none h g
          case o0 =>
            intro u w g hd K hK
            replace g : w0.grownBy w ((Value.slice fa k fc).ownBlock) := g
            clear hd
            simp only [Act.put, List.setIfInBounds_toArray, List.set_cons_zero, List.set_cons_succ] at hK
            go_simp
            exact hK _ _ rfl (gr_refl _ _)
          case o1 =>
            intro u w g hd K hK
            replace g : w0.grownBy w ((Value.slice fa k fc).ownBlock) := g
            clear hd
            simp only [Act.put, List.setIfInBounds_toArray, List.set_cons_zero, List.set_cons_succ] at hK
            go_simp
            exact hK _ _ rfl (gr_refl _ _)
          case o2 =>
            intro u w g hd K hK
            replace g : w0.grownBy w ((Value.slice fa k fc).ownBlock) := g
            have h1 : (u 1) = .pointer (some ⟨b, 3, none⟩) := hd 1 (by simp)
            clear hd
            simp only [Act.put, List.setIfInBounds_toArray, List.set_cons_zero, List.set_cons_succ] at hK
            simp only [h1] at hK ⊢
            go_simp
            exact hK _ _ rfl (gr_refl _ _)
          case o3 =>
            intro u w g hd K hK
            replace g : w0.grownBy w ((Value.slice fa k fc).ownBlock) := g
            have h2 : (u 2) = .pointer (some ⟨b, 3, none⟩) := hd 2 (by simp)
            clear hd
            simp only [Act.put, List.setIfInBounds_toArray, List.set_cons_zero, List.set_cons_succ] at hK
            simp only [h2] at hK ⊢
            go_simp
            exact hK _ _ rfl (gr_refl _ _)
          case o4 =>
            intro u w g hd K hK
            replace g : w0.grownBy w ((Value.slice fa k fc).ownBlock) := g
            have h3 : (u 3) = .pointer (some ⟨b, 6, none⟩) := hd 3 (by simp)
            clear hd
            simp only [Act.put, List.setIfInBounds_toArray, List.set_cons_zero, List.set_cons_succ] at hK
            have c' := (cell_of_block (gr_keep g HHR.out HBK.out) 6).trans (show _ = some (Value.slice fa k fc) from rfl)
            simp only [h3] at hK ⊢
            go_simp
            exact hK _ _ rfl (gr_refl _ _)
          case o5 =>
            intro u w g hd K hK
            replace g : w0.grownBy w ((Value.slice fa k fc).ownBlock) := g
            clear hd
            simp only [Act.put, List.setIfInBounds_toArray, List.set_cons_zero, List.set_cons_succ] at hK
            have hf := gr_keep g HF0.out HFK.out
            have c0' := (cell_of_block hf 0).trans (show _ = some (Value.string ⟨fn1.toArray⟩) from rfl)
            have c1' := (cell_of_block hf 1).trans (show _ = some (Value.string ⟨fv1.toArray⟩) from rfl)
            go_simp
            exact hK _ _ rfl (gr_refl _ _)
          case o6 =>
            intro u w g hd K hK
            replace g : w0.grownBy w ((Value.slice fa k fc).ownBlock) := g
            have h5 : (u 5) = .agg #[.string ⟨fn1.toArray⟩, .string ⟨fv1.toArray⟩] := hd 5 (by simp)
            clear hd
            simp only [Act.put, List.setIfInBounds_toArray, List.set_cons_zero, List.set_cons_succ] at hK
            simp only [h5] at hK ⊢
            go_simp
            exact hK _ _ ⟨_, _, rfl, heap_alloc_new w _, g.size⟩ (World.grownBy_alloc w _ none)
          case o7 =>
            intro u w g hd K hK
            replace g : w0.grownBy w none := g
            have h4 : (u 4) = .slice fa k fc := hd 4 (by simp)
            have h6 : FsNew w0 fn1 fv1 (u 6) w := hd 6 (by simp)
            clear hd
            simp only [Act.put, List.setIfInBounds_toArray, List.set_cons_zero, List.set_cons_succ] at hK
            obtain ⟨gg, cc, e6, hgg, hge⟩ := h6
            simp only [h4, e6] at hK ⊢
            split
            rotate_left
            · rename_i hno; exact absurd rfl hno
            refine wp_append_own w (.tmp 81) (.tmp 83) 27 rfl w4.heap.size 26 iF _ 2 _ Tryz.underlying27 hiF.out hzF.out hsF.out hbF.out rfl (by decide) (.slice fa k fc) k (flatF fs) (by rfl) (row_none HOW.out g) ⟨gg, 0, none⟩ 1 cc [str fn1, str fv1] (by rfl) rfl (fun j u hu => by rw [Go.WideShapes.add_plain, Nat.zero_add, cell_of_block hgg j]; simpa using hu) (fun u hu => by rcases List.mem_cons.1 hu with rfl | hu; exact rfl; obtain rfl := List.mem_singleton.1 hu; exact rfl) (by unfold maxLen; omega) (by omega) (Nat.le_trans HSZ.out g.size) ?_
            intro v' w' q1 q2 _
            exact hK v' w' q1 q2
          case done =>
            intro u w hS g
            have s0 : (u 0) = .pointer (some ⟨b, 3, none⟩) := hS 0 (by decide)
            have s1 : (u 1) = .pointer (some ⟨b, 3, none⟩) := hS 1 (by decide)
            have s2 : (u 2) = .pointer (some ⟨b, 3, none⟩) := hS 2 (by decide)
            have s3 : (u 3) = .pointer (some ⟨b, 6, none⟩) := hS 3 (by decide)
            have s4 : (u 4) = .slice fa k fc := hS 4 (by decide)
            have s5 : (u 5) = .agg #[.string ⟨fn1.toArray⟩, .string ⟨fv1.toArray⟩] := hS 5 (by decide)
            have s6 : FsNew w0 fn1 fv1 (u 6) w := hS 6 (by decide)
            have s7 : w.ownsRow w4.heap.size 26 2 (u 7) (k + 1) (flatF fs ++ [str fn1, str fv1]) := hS 7 (by decide)
            clear hS
            change wpList _ _ _ [_, _, _] _ _
            rw [s0]
            have gg : w0.grownBy w (Value.slice fa k fc).ownBlock := g
            have hb4 := gr_keep gg HHR.out HBK.out
            have hn4 := gr_keep gg HNR.out HNK.out
            have G4 := hid (gr_row GR.out HOW.out (Nat.le_refl _) gg)
            obtain ⟨ya, yc, ey7, -⟩ := row_shape s7
            rw [ey7] at s7 ⊢
            have HOW4 := hid s7
            have c6 := (cell_of_block hb4 6).trans (show _ = some (Value.slice fa k fc) from rfl)
            have f6 := free_of_block hb4 6
            have lb4 := lt_of_block hb4
            have ln4 := lt_of_block hn4
            have HH4 := hid hb4
            have HN4 := hid hn4
            clear s0 s1 s2 s3 s4 s5 s6 s7 g gg hb4 hn4 ey7
            generalize u 0 = y0, u 1 = y1, u 2 = y2, u 3 = y3, u 4 = y4, u 5 = y5, u 6 = y6
            go_wp2_with fail
            have hb5 := heap_set (o := 6) (v := (.slice ya (k + 1) yc)) HH4.out
            have g5 : w.grownBy (w.setCell ⟨b, 6, none⟩ (.slice ya (k + 1) yc)) (some b) := gr_set (gr_refl _ _)
            have hown5 := row_ty HOW4.out g5 HH4.out (by decide)
            go_roundw
            case rel => exact ⟨k + 1, fs ++ [(fn1, fv1)], (.slice ya (k + 1) yc), by go_num, (by rw [HTL1.out]; omega), HFN.out, gr_trans G4.out g5, hb5, by rw [flatF_snoc]; exact hown5, fun h => absurd h (by omega)⟩
            case measure => simp [intOf]; omega
      · obtain rfl : k = n1 := by omega
        have hfs := HFS.out
        rw [List.take_of_length_le (by rw [HTL1.out]; exact Nat.le_refl _)] at hfs
        have hlf : fs.length = k := by rw [fieldsL_len _ _ hfs, HTL1.out]
        have HFA := hid (fs_of_row (fs := fs) (by rw [hlf]; exact HOW0.out) (fun h => HK0.out (by rw [← hlf, h]; rfl)))
        have HE2 := hid (show judgeS s texts false = jd2 s ⟨m1, t1, mi, fs, [], false⟩ by rw [HE.out, hfs])
        have HXV := hid (fieldsL_vlen 200000 _ _ hfs (fun t ht => HLEN.out t (List.mem_of_mem_tail ht)))
        have hk5 : fs.length ≤ 200000 := by omega
        rw [← hlf] at HHR0 HFA ⊢
        have GW := hid (gr_trans G4.out gw)
        have HBoR := hid (HBo4.out.kept gw HH4.out (by decide) (no_u8_ps _ _ _ _ _ _ _ _ _ _ _ _))
        have HRR := hid (HR4.out.kept gw HH4.out (by decide))
        have hki : ¬ (fs.length : Int) < (fs.length : Int) := by omega
        have c6 := (cell_of_block HHR0.out 6).trans (show _ = some (Value.slice fa fs.length fc) from rfl)
        clear hfs hkl hk hlf HOW0 HK0 HFS HE HH4 HN4 G4 HTV4 HBo4 HR4 gw HTL1 HN1 HNN HTN HT0 HLEN HST HNM HAV hiF hzF hsF hbF
        go_wp2_with fail
        refine (get_sat wr _ fs [104, 111, 115, 116] HFA.out hk5).mono ?_
        rintro e w5 ⟨hv', rfl, hsat, g5⟩
        obtain ⟨ha, hc, rfl, -, -⟩ := hsat
        obtain ⟨hn, hhn⟩ : ∃ x, x = (getL fs [104, 111, 115, 116]).length := ⟨_, rfl⟩
        rw [← hhn]
        have HHN := hid hhn
        have HH5 := hid (gr_keep g5 HHR0.out (by simp))
        have HN5 := hid (gr_keep g5 HNR0.out (by simp))
        have HF5 := hid (HFA.out.grow g5)
        have HR5 := hid (HRR.out.grow g5)
        have HBo5 := hid (HBoR.out.grow g5)
        have G5 := hid (gr_trans GW.out (gr_none g5))
        have c6 := (cell_of_block HH5.out 6).trans (show _ = some (Value.slice fa fs.length fc) from rfl)
        have c5 := (cell_of_block HH5.out 5).trans (show _ = some (Value.int .i64 mi) from rfl)
        have lb5 := lt_of_block HH5.out
        have ln5 := lt_of_block HN5.out
        clear hhn g5 HHR0 HNR0 HFA HRR HBoR GW lr lnr
        by_cases h40 : 40 < fs.length
        · have HS := hid (HE2.out.trans (if_pos h40))
          have h40' : decide ((40 : Int) < (fs.length : Int)) = true := by simp; omega
          go_wp2_with fail
          refine (fail_http b _ _ _ _ _ _ 431 _ _ _ _ w5 HH5.out).mono ?_
          rintro e w9' ⟨rfl, hd, g9'⟩
          have HN9 := hid (gr_keep g9' HN5.out (blk_ne HN5.out HH5.out (by decide)))
          have y0 := free_of_block HN9.out 0
          have y1 := free_of_block HN9.out 1
          have y2 := free_of_block HN9.out 2
          have y3 := free_of_block HN9.out 3
          have y4 := free_of_block HN9.out 4
          have y5 := free_of_block HN9.out 5
          have y6 := free_of_block HN9.out 6
          have n0 := (cell_of_block HN9.out 0).trans (show _ = some (Value.int .i64 0) from rfl)
          have n1 := (cell_of_block HN9.out 1).trans (show _ = some (Value.string ⟨#[]⟩) from rfl)
          have n2 := (cell_of_block HN9.out 2).trans (show _ = some (Value.string ⟨#[]⟩) from rfl)
          have n3 := (cell_of_block HN9.out 3).trans (show _ = some (Value.int .i64 0) from rfl)
          have n4 := (cell_of_block HN9.out 4).trans (show _ = some (Value.slice none 0 0) from rfl)
          have n5 := (cell_of_block HN9.out 5).trans (show _ = some (Value.slice none 0 0) from rfl)
          have n6 := (cell_of_block HN9.out 6).trans (show _ = some (Value.bool false) from rfl)
          have lnn := lt_of_block HN9.out
          unfold PdCells str
          go_wp21
          have H7 := pd_set7 (.int .i64 431) (.string ⟨#[]⟩) (.string ⟨#[]⟩) (.int .i64 0) (.slice none 0 0) (.slice none 0 0) (.bool false) HN9.out
          revert H7
          generalize ((((((w9'.setCell _ _).setCell _ _).setCell _ _).setCell _ _).setCell _ _).setCell _ _).setCell _ _ = w9
          rintro ⟨hn9, g9⟩
          have e0 := cell_of_block hn9 0
          have e1 := cell_of_block hn9 1
          have e2 := cell_of_block hn9 2
          have e3 := cell_of_block hn9 3
          have e4 := cell_of_block hn9 4
          have e5 := cell_of_block hn9 5
          have e6 := cell_of_block hn9 6
          (try simp only [Exit.inBlock, Exit.then])
          refine bodyPost_ret (v := .tuple #[.agg #[.int .i64 431, .string ⟨#[]⟩, .string ⟨#[]⟩, .int .i64 0, .slice none 0 0, .slice none 0 0, .bool false], .bool true]) ?_ rfl (by rw [HS.out]; exact fail_end hd (gr_trans G5.out g9') HN9.out g9 (Nat.le_refl _))
          simp [results, Tryz.results53, go_sem, e0, e1, e2, e3, e4, e5, e6]
        · have HE3 := hid (HE2.out.trans (if_neg h40))
          dsimp only at HE3
          rw [← HHN.out] at HE3
          have h40' : decide ((40 : Int) < (fs.length : Int)) = false := by simp; omega
          clear HE2 h40
          by_cases h1 : 1 < hn
          · have HS := hid (HE3.out.trans (if_pos (.inl h1)))
            have h1' : decide ((1 : Int) < (hn : Int)) = true := by simp; omega
            go_wp2_with fail
            refine (fail_http b _ _ _ _ _ _ 400 _ _ _ _ w5 HH5.out).mono ?_
            rintro e w9' ⟨rfl, hd, g9'⟩
            have HN9 := hid (gr_keep g9' HN5.out (blk_ne HN5.out HH5.out (by decide)))
            have y0 := free_of_block HN9.out 0
            have y1 := free_of_block HN9.out 1
            have y2 := free_of_block HN9.out 2
            have y3 := free_of_block HN9.out 3
            have y4 := free_of_block HN9.out 4
            have y5 := free_of_block HN9.out 5
            have y6 := free_of_block HN9.out 6
            have n0 := (cell_of_block HN9.out 0).trans (show _ = some (Value.int .i64 0) from rfl)
            have n1 := (cell_of_block HN9.out 1).trans (show _ = some (Value.string ⟨#[]⟩) from rfl)
            have n2 := (cell_of_block HN9.out 2).trans (show _ = some (Value.string ⟨#[]⟩) from rfl)
            have n3 := (cell_of_block HN9.out 3).trans (show _ = some (Value.int .i64 0) from rfl)
            have n4 := (cell_of_block HN9.out 4).trans (show _ = some (Value.slice none 0 0) from rfl)
            have n5 := (cell_of_block HN9.out 5).trans (show _ = some (Value.slice none 0 0) from rfl)
            have n6 := (cell_of_block HN9.out 6).trans (show _ = some (Value.bool false) from rfl)
            have lnn := lt_of_block HN9.out
            unfold PdCells str
            go_wp21
            have H7 := pd_set7 (.int .i64 400) (.string ⟨#[]⟩) (.string ⟨#[]⟩) (.int .i64 0) (.slice none 0 0) (.slice none 0 0) (.bool false) HN9.out
            revert H7
            generalize ((((((w9'.setCell _ _).setCell _ _).setCell _ _).setCell _ _).setCell _ _).setCell _ _).setCell _ _ = w9
            rintro ⟨hn9, g9⟩
            have e0 := cell_of_block hn9 0
            have e1 := cell_of_block hn9 1
            have e2 := cell_of_block hn9 2
            have e3 := cell_of_block hn9 3
            have e4 := cell_of_block hn9 4
            have e5 := cell_of_block hn9 5
            have e6 := cell_of_block hn9 6
            (try simp only [Exit.inBlock, Exit.then])
            refine bodyPost_ret (v := .tuple #[.agg #[.int .i64 400, .string ⟨#[]⟩, .string ⟨#[]⟩, .int .i64 0, .slice none 0 0, .slice none 0 0, .bool false], .bool true]) ?_ rfl (by rw [HS.out]; exact fail_end hd (gr_trans G5.out g9') HN9.out g9 (Nat.le_refl _))
            simp [results, Tryz.results53, go_sem, e0, e1, e2, e3, e4, e5, e6]
          · have h1' : decide ((1 : Int) < (hn : Int)) = false := by simp; omega
            by_cases h2 : (hn : Int) < mi
            · have HS := hid (HE3.out.trans (if_pos (.inr h2)))
              have h2' : decide ((hn : Int) < mi) = true := by simpa using h2
              go_wp2_with fail
              refine (fail_http b _ _ _ _ _ _ 400 _ _ _ _ w5 HH5.out).mono ?_
              rintro e w9' ⟨rfl, hd, g9'⟩
              have HN9 := hid (gr_keep g9' HN5.out (blk_ne HN5.out HH5.out (by decide)))
              have y0 := free_of_block HN9.out 0
              have y1 := free_of_block HN9.out 1
              have y2 := free_of_block HN9.out 2
              have y3 := free_of_block HN9.out 3
              have y4 := free_of_block HN9.out 4
              have y5 := free_of_block HN9.out 5
              have y6 := free_of_block HN9.out 6
              have n0 := (cell_of_block HN9.out 0).trans (show _ = some (Value.int .i64 0) from rfl)
              have n1 := (cell_of_block HN9.out 1).trans (show _ = some (Value.string ⟨#[]⟩) from rfl)
              have n2 := (cell_of_block HN9.out 2).trans (show _ = some (Value.string ⟨#[]⟩) from rfl)
              have n3 := (cell_of_block HN9.out 3).trans (show _ = some (Value.int .i64 0) from rfl)
              have n4 := (cell_of_block HN9.out 4).trans (show _ = some (Value.slice none 0 0) from rfl)
              have n5 := (cell_of_block HN9.out 5).trans (show _ = some (Value.slice none 0 0) from rfl)
              have n6 := (cell_of_block HN9.out 6).trans (show _ = some (Value.bool false) from rfl)
              have lnn := lt_of_block HN9.out
              unfold PdCells str
              go_wp21
              have H7 := pd_set7 (.int .i64 400) (.string ⟨#[]⟩) (.string ⟨#[]⟩) (.int .i64 0) (.slice none 0 0) (.slice none 0 0) (.bool false) HN9.out
              revert H7
              generalize ((((((w9'.setCell _ _).setCell _ _).setCell _ _).setCell _ _).setCell _ _).setCell _ _).setCell _ _ = w9
              rintro ⟨hn9, g9⟩
              have e0 := cell_of_block hn9 0
              have e1 := cell_of_block hn9 1
              have e2 := cell_of_block hn9 2
              have e3 := cell_of_block hn9 3
              have e4 := cell_of_block hn9 4
              have e5 := cell_of_block hn9 5
              have e6 := cell_of_block hn9 6
              (try simp only [Exit.inBlock, Exit.then])
              refine bodyPost_ret (v := .tuple #[.agg #[.int .i64 400, .string ⟨#[]⟩, .string ⟨#[]⟩, .int .i64 0, .slice none 0 0, .slice none 0 0, .bool false], .bool true]) ?_ rfl (by rw [HS.out]; exact fail_end hd (gr_trans G5.out g9') HN9.out g9 (Nat.le_refl _))
              simp [results, Tryz.results53, go_sem, e0, e1, e2, e3, e4, e5, e6]
            · have HE4 := hid (HE3.out.trans (if_neg (by rintro (h | h) <;> omega)))
              have h2' : decide ((hn : Int) < mi) = false := by simpa using h2
              clear HE3
              go_wp2_with fail
              refine (framing_http b ⟨m1, t1, mi, fs, [], false⟩ ra fa ba s.rest.length rc fc 0 bc s.skip s.left w5 HH5.out HF5.out hk5 (fun f hf => Nat.le_trans (HXV.out f hf) (by omega))).mono ?_
              rintro e w6 ⟨rfl, g6, st', lf', hb6, hpost⟩
              obtain ⟨f1, f2, f3, hfr⟩ : ∃ f1 f2 f3, framingL ⟨m1, t1, mi, fs, [], false⟩ = (f1, f2, f3) := ⟨_, _, _, rfl⟩
              rw [hfr] at hpost ⊢
              rw [hfr] at HE4
              dsimp only at hpost HE4 ⊢
              have HN6 := hid (gr_keep g6 HN5.out (blk_ne HN5.out HH5.out (by decide)))
              have HH6 := hid hb6
              have G6 := hid (gr_trans G5.out g6)
              have HF6 := hid (HF5.out.kept g6 HH5.out (by decide))
              have HR6 := hid (HR5.out.kept g6 HH5.out (by decide))
              have HBo6 := hid (HBo5.out.kept g6 HH5.out (by decide) (no_u8_ps _ _ _ _ _ _ _ _ _ _ _ _))
              have HP := hid hpost
              have HFR := hid hfr
              clear hpost hfr hb6 g6 HH5 HN5 HF5 HR5 HBo5 G5 c5 c6 lb5 ln5 h1' h2' h40' h1 h2
              dsimp only at HH6
              have lb6 := lt_of_block HH6.out
              have ln6 := lt_of_block HN6.out
              by_cases hf1 : f1 = 0
              · subst hf1
                obtain ⟨rfl, hlf⟩ := HP.out rfl
                have HE5 := hid (HE4.out.trans (if_neg (by simp)))
                have HLF := hid hlf
                clear HP HE4 hlf
                have c3 := (cell_of_block HH6.out 3).trans (show _ = some (Value.string ⟨m1.toArray⟩) from rfl)
                have c4 := (cell_of_block HH6.out 4).trans (show _ = some (Value.string ⟨t1.toArray⟩) from rfl)
                have c5 := (cell_of_block HH6.out 5).trans (show _ = some (Value.int .i64 mi) from rfl)
                have c6 := (cell_of_block HH6.out 6).trans (show _ = some (Value.slice fa fs.length fc) from rfl)
                have c7 := (cell_of_block HH6.out 7).trans (show _ = some (Value.slice ba 0 bc) from rfl)
                have c8 := (cell_of_block HH6.out 8).trans (show _ = some (Value.bool false) from rfl)
                go_wp2_with fail
                refine (keep_http ⟨m1, t1, mi, fs, [], false⟩ fa ba fc bc w6 HF6.out hk5 (fun f hf => Nat.le_trans (HXV.out f hf) (by omega))).mono ?_
                rintro e w7 ⟨rfl, g7⟩
                obtain ⟨kp, hkp⟩ : ∃ x, x = keepL ⟨m1, t1, mi, fs, [], false⟩ := ⟨_, rfl⟩
                rw [← hkp] at HE5 ⊢
                clear hkp c3 c4 c5 c6 c7 c8 lb6 ln6
                have HH7 := hid (gr_keep g7 HH6.out (by simp))
                have HN7 := hid (gr_keep g7 HN6.out (by simp))
                have G7 := hid (gr_trans G6.out (gr_none g7))
                have HF7 := hid (HF6.out.grow g7)
                have HR7 := hid (HR6.out.grow g7)
                have HBo7 := hid (HBo6.out.grow g7)
                clear g7 HH6 HN6 G6 HF6 HR6 HBo6
                have c8 := (cell_of_block HH7.out 8).trans (show _ = some (Value.bool false) from rfl)
                have fr8 := free_of_block HH7.out 8
                have lb7 := lt_of_block HH7.out
                go_upto_region 25 with fail
                obtain ⟨w8, hw8⟩ : ∃ x, x = w7.setCell ⟨b, 8, none⟩ (.bool kp) := ⟨_, rfl⟩
                rw [← hw8]
                have hb8 : w8.heap[b]? = some (.cells (PsCells (.slice ra s.rest.length rc) (st' : Int) s.skip m1 t1 mi (.slice fa fs.length fc) (.slice ba 0 bc) kp (lf' : Int)) 62 (0, 0)) := by rw [hw8]; exact heap_set HH7.out
                have g8 : w7.grownBy w8 (some b) := by rw [hw8]; exact gr_set (gr_refl _ _)
                have HN8 := hid (gr_keep g8 HN7.out (blk_ne HN7.out HH7.out (by decide)))
                have HF8 := hid (HF7.out.kept g8 HH7.out (by decide))
                have HBo8 := hid (HBo7.out.kept g8 HH7.out (by decide) (no_u8_ps _ _ _ _ _ _ _ _ _ _ _ _))
                have HR8 := hid (HR7.out.kept g8 HH7.out (by decide))
                have G8 := hid (gr_trans G7.out g8)
                have HH8 := hid hb8
                clear hw8 g8 c8 fr8 lb7 hb8 HH7 HN7 G7 HF7 HR7 HBo7
                have c1 := (cell_of_block HH8.out 1).trans (show _ = some (Value.int .i64 (st' : Int)) from rfl)
                have lb8 := lt_of_block HH8.out
                by_cases hst : st' = 0
                · subst hst
                  have HS := hid (HE5.out.trans (if_pos rfl))
                  clear HE5
                  go_wp2_with fail
                  refine (done_http b _ _ _ _ _ _ _ _ _ _ _ _ _ _ _ _ w8 HH8.out).mono ?_
                  rintro e w9' ⟨rfl, hm, g9'⟩
                  have HN9 := hid (gr_keep g9' HN8.out (blk_ne HN8.out HH8.out (by decide)))
                  have HD := hid (fun (w9 : World) (g9 : w9'.grownBy w9 (some w.heap.size)) => done_end2 (w9 := w9) (s := ({ s with req := ⟨m1, t1, mi, fs, [], kp⟩, stage := 0, left := if (0 : Nat) = 1 then f3 else s.left } : Ps)) (w := w) rfl rfl HLF.out hm (gr_trans G8.out g9') (HR8.out.kept g9' HH8.out (by decide)) (HF8.out.kept g9' HH8.out (by decide)) (HBo8.out.kept g9' HH8.out (by decide) (no_u8_ps _ _ _ _ _ _ _ _ _ _ _ _)) HN9.out g9 (Nat.le_refl _) (no_u8_pd _ _ _ _ _ _ _))
                  clear hm
                  have y0 := free_of_block HN9.out 0
                  have y1 := free_of_block HN9.out 1
                  have y2 := free_of_block HN9.out 2
                  have y3 := free_of_block HN9.out 3
                  have y4 := free_of_block HN9.out 4
                  have y5 := free_of_block HN9.out 5
                  have y6 := free_of_block HN9.out 6
                  have n0 := (cell_of_block HN9.out 0).trans (show _ = some (Value.int .i64 0) from rfl)
                  have n1 := (cell_of_block HN9.out 1).trans (show _ = some (Value.string ⟨#[]⟩) from rfl)
                  have n2 := (cell_of_block HN9.out 2).trans (show _ = some (Value.string ⟨#[]⟩) from rfl)
                  have n3 := (cell_of_block HN9.out 3).trans (show _ = some (Value.int .i64 0) from rfl)
                  have n4 := (cell_of_block HN9.out 4).trans (show _ = some (Value.slice none 0 0) from rfl)
                  have n5 := (cell_of_block HN9.out 5).trans (show _ = some (Value.slice none 0 0) from rfl)
                  have n6 := (cell_of_block HN9.out 6).trans (show _ = some (Value.bool false) from rfl)
                  have lnn := lt_of_block HN9.out
                  unfold PdCells str
                  go_wp21
                  have H7 := pd_set7 (.int .i64 0) (.string ⟨m1.toArray⟩) (.string ⟨t1.toArray⟩) (.int .i64 mi) (.slice fa fs.length fc) (.slice ba 0 bc) (.bool kp) HN9.out
                  revert H7
                  generalize ((((((w9'.setCell _ _).setCell _ _).setCell _ _).setCell _ _).setCell _ _).setCell _ _).setCell _ _ = w9
                  rintro ⟨hn9, g9⟩
                  have e0 := cell_of_block hn9 0
                  have e1 := cell_of_block hn9 1
                  have e2 := cell_of_block hn9 2
                  have e3 := cell_of_block hn9 3
                  have e4 := cell_of_block hn9 4
                  have e5 := cell_of_block hn9 5
                  have e6 := cell_of_block hn9 6
                  (try simp only [Exit.inBlock, Exit.then])
                  refine bodyPost_ret (v := .tuple #[.agg #[.int .i64 0, .string ⟨m1.toArray⟩, .string ⟨t1.toArray⟩, .int .i64 mi, .slice fa fs.length fc, .slice ba 0 bc, .bool kp], .bool true]) ?_ rfl (by rw [HS.out]; exact HD.out w9 g9)
                  simp [results, Tryz.results53, go_sem, e0, e1, e2, e3, e4, e5, e6]
                · have HS := hid (HE5.out.trans (if_neg hst))
                  clear HE5
                  have hst' : (((st' : Nat) : Int) == 0) = false := by rw [beq_eq_false_iff_ne]; omega
                  have h5 := framing_stage ⟨m1, t1, mi, fs, [], false⟩
                  rw [HFR.out] at h5
                  have HLV := hid (show PLive w8 b ({ s with req := ⟨m1, t1, mi, fs, [], kp⟩, stage := st', left := if st' = 1 then f3 else s.left } : Ps) from ⟨_, _, _, by rw [← HLF.out]; exact HH8.out, HR8.out, HF8.out, HBo8.out⟩)
                  have n0 := (cell_of_block HN8.out 0).trans (show _ = some (Value.int .i64 0) from rfl)
                  have y0 := free_of_block HN8.out 0
                  have n1 := (cell_of_block HN8.out 1).trans (show _ = some (Value.string ⟨#[]⟩) from rfl)
                  have y1 := free_of_block HN8.out 1
                  have n2 := (cell_of_block HN8.out 2).trans (show _ = some (Value.string ⟨#[]⟩) from rfl)
                  have y2 := free_of_block HN8.out 2
                  have n3 := (cell_of_block HN8.out 3).trans (show _ = some (Value.int .i64 0) from rfl)
                  have y3 := free_of_block HN8.out 3
                  have n4 := (cell_of_block HN8.out 4).trans (show _ = some (Value.slice none 0 0) from rfl)
                  have y4 := free_of_block HN8.out 4
                  have n5 := (cell_of_block HN8.out 5).trans (show _ = some (Value.slice none 0 0) from rfl)
                  have y5 := free_of_block HN8.out 5
                  have n6 := (cell_of_block HN8.out 6).trans (show _ = some (Value.bool false) from rfl)
                  have y6 := free_of_block HN8.out 6
                  have ln8 := lt_of_block HN8.out
                  go_wp21
                  have H7 := pd_set7 (.int .i64 0) (.string ⟨#[]⟩) (.string ⟨#[]⟩) (.int .i64 0) (.slice none 0 0) (.slice none 0 0) (.bool false) HN8.out
                  revert H7
                  generalize ((((((w8.setCell _ _).setCell _ _).setCell _ _).setCell _ _).setCell _ _).setCell _ _).setCell _ _ = w9
                  rintro ⟨hn9, g9⟩
                  have e0 := cell_of_block hn9 0
                  have e1 := cell_of_block hn9 1
                  have e2 := cell_of_block hn9 2
                  have e3 := cell_of_block hn9 3
                  have e4 := cell_of_block hn9 4
                  have e5 := cell_of_block hn9 5
                  have e6 := cell_of_block hn9 6
                  (try simp only [Exit.inBlock, Exit.then])
                  refine bodyPost_ret (v := .tuple #[.agg #[.int .i64 0, .string ⟨#[]⟩, .string ⟨#[]⟩, .int .i64 0, .slice none 0 0, .slice none 0 0, .bool false], .bool false]) ?_ rfl (by rw [HS.out]; exact none_end HLV.out h5 G8.out HN8.out g9 (Nat.le_refl _) (no_u8_pd _ _ _ _ _ _ _))
                  simp [results, Tryz.results53, go_sem, e0, e1, e2, e3, e4, e5, e6]
              · have HS := hid (HE4.out.trans (if_pos hf1))
                have hf1' : (f1 == 0) = false := by rw [beq_eq_false_iff_ne]; exact hf1
                go_wp2_with fail
                refine (fail_http b _ _ _ _ _ _ f1 _ _ _ _ w6 HH6.out).mono ?_
                rintro e w9' ⟨rfl, hd, g9'⟩
                have HN9 := hid (gr_keep g9' HN6.out (blk_ne HN6.out HH6.out (by decide)))
                have y0 := free_of_block HN9.out 0
                have y1 := free_of_block HN9.out 1
                have y2 := free_of_block HN9.out 2
                have y3 := free_of_block HN9.out 3
                have y4 := free_of_block HN9.out 4
                have y5 := free_of_block HN9.out 5
                have y6 := free_of_block HN9.out 6
                have n0 := (cell_of_block HN9.out 0).trans (show _ = some (Value.int .i64 0) from rfl)
                have n1 := (cell_of_block HN9.out 1).trans (show _ = some (Value.string ⟨#[]⟩) from rfl)
                have n2 := (cell_of_block HN9.out 2).trans (show _ = some (Value.string ⟨#[]⟩) from rfl)
                have n3 := (cell_of_block HN9.out 3).trans (show _ = some (Value.int .i64 0) from rfl)
                have n4 := (cell_of_block HN9.out 4).trans (show _ = some (Value.slice none 0 0) from rfl)
                have n5 := (cell_of_block HN9.out 5).trans (show _ = some (Value.slice none 0 0) from rfl)
                have n6 := (cell_of_block HN9.out 6).trans (show _ = some (Value.bool false) from rfl)
                have lnn := lt_of_block HN9.out
                unfold PdCells str
                go_wp21
                have H7 := pd_set7 (.int .i64 f1) (.string ⟨#[]⟩) (.string ⟨#[]⟩) (.int .i64 0) (.slice none 0 0) (.slice none 0 0) (.bool false) HN9.out
                revert H7
                generalize ((((((w9'.setCell _ _).setCell _ _).setCell _ _).setCell _ _).setCell _ _).setCell _ _).setCell _ _ = w9
                rintro ⟨hn9, g9⟩
                have e0 := cell_of_block hn9 0
                have e1 := cell_of_block hn9 1
                have e2 := cell_of_block hn9 2
                have e3 := cell_of_block hn9 3
                have e4 := cell_of_block hn9 4
                have e5 := cell_of_block hn9 5
                have e6 := cell_of_block hn9 6
                (try simp only [Exit.inBlock, Exit.then])
                refine bodyPost_ret (v := .tuple #[.agg #[.int .i64 f1, .string ⟨#[]⟩, .string ⟨#[]⟩, .int .i64 0, .slice none 0 0, .slice none 0 0, .bool false], .bool true]) ?_ rfl (by rw [HS.out]; exact fail_end hd (gr_trans G6.out g9') HN9.out g9 (Nat.le_refl _))
                simp [results, Tryz.results53, go_sem, e0, e1, e2, e3, e4, e5, e6]
end Go.Proofs.YtldbcdiomkkinaaGreatDoor
