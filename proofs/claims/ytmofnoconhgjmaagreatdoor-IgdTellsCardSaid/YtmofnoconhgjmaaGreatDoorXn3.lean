/- hearthref17.Doc: element, its walk. -/
import Derived.Test.YtmofnoconhgjmaaGreatDoorXnW
import Derived.RegionTactic
import Derived.Deep.RegionLaw
import Derived.Deep.QuietTactic
import Derived.BigQuiet
import Derived.Deep.DeepCutAuto
namespace Go.Proofs.YtmofnoconhgjmaaGreatDoor
open Go.RowKit
set_option linter.unusedVariables false
set_option linter.unusedSimpArgs false

set_option maxRecDepth 20000 in
set_option maxHeartbeats 20000000 in
theorem element_r (N : Nat) (hin : InsideOk N) (hbad : InsideBad) : ElementOk N := by
  intro m w b S r L vL deep cnt full hm hr hd hS hbn hL hb1 hb2 hb3
  have HIN := hid hin
  have HBAD := hid hbad
  obtain ⟨R, hR⟩ : ∃ R, R = elmL m L.reverse r deep cnt full := ⟨_, rfl⟩
  rw [← hR]
  have HR0 := hid (hR.trans elmL_at)
  have hfl := fullL_len r
  have HBL := hid hd.lt
  have HM := hid (show m ≤ N ∧ r.length < m from ⟨hm, hr⟩)
  obtain ⟨w1, hw1⟩ : ∃ w1, w1 = w.alloc (.cells #[.string ⟨#[]⟩, .string ⟨#[]⟩, .slice none 0 0, .string ⟨#[]⟩, .slice none 0 0] 25) := ⟨_, rfl⟩
  have G1 := hid (show w.grownBy w1 none by rw [hw1]; exact gr_alloc (gr_refl _ _) _)
  have T1 := hid (show ElB w1 w.heap.size [] [] (.slice none 0 0) [] (.slice none 0 0) by rw [hw1]; exact heap_alloc_new w _)
  have HSZ := hid (show w.heap.size + 1 = w1.heap.size by rw [hw1]; simp)
  have HD1 := hid (hd.grow G1.out)
  have BN1 := hid (hbn.grow G1.out)
  have D1 := hid (hd.grow G1.out)
  have HW1 := hid hw1
  have hvL := hbn
  obtain ⟨ua, uc, rfl, -⟩ := hvL
  clear hin hbad hR hd hbn hw1 hm hr
  have HF := hid (rfull_r b S r cnt full w1 HD1.out (by omega))
  generalize fullL r = F at *
  obtain ⟨⟨f1, f2, f3⟩, f4⟩ := F
  simp only at hfl
  have HR1 := hid (show R = if f3 then elmR m f1 f2 L.reverse deep cnt full (attrsA f4) else none from HR0.out)
  clear HR0
  go_enter Tryz.func75, Tryz.ntmps75
  go_wp2_with fail
  rw [← HW1.out]
  clear HW1
  refine HF.out.mono ?_
  rintro e w2 ⟨rfl, hd2, g2⟩
  unfold str
  have HBN := hid (fun (W : World) (g : w1.grownBy W (some b)) => (show ElB W w.heap.size [] [] (.slice none 0 0) [] (.slice none 0 0) from gr_keep g T1.out (by have := HBL.out; simp; omega)))
  have HD2 := hid hd2
  have G2 := hid g2
  have NONE := hid (fun (W : World) (s n tx r' : Bs) (cnt' : Int) (full' : Bool) (aa ka : Option Addr) (al ac kl kc : Nat) (hR : R = none) (g : w1.grownBy W (some b)) (hd : DcR W b S r' cnt' true full') => re_none (s := s) (n := n) (tx := tx) (aa := aa) (ka := ka) (al := al) (ac := ac) (kl := kl) (kc := kc) hR G1.out g hd HBL.out)
  clear hd2 g2 HF HD1
  obtain ⟨-, d3, -⟩ := HD2.out.cells
  cases f3
  · have d3' : w2.cell? ⟨b, 3, none⟩ = some (.bool true) := d3
    have T2 := hid (HBN.out w2 G2.out)
    have HN := hid (show R = none from HR1.out)
    obtain ⟨k0, k1, k2, k3, k4⟩ := ElB.cells T2.out
    have z0 := ElB.free T2.out 0
    have z1 := ElB.free T2.out 1
    have z2 := ElB.free T2.out 2
    have z3 := ElB.free T2.out 3
    have z4 := ElB.free T2.out 4
    clear d3 HR1 T1 HBN HIN HBAD BN1
    go_wp2
    refine bodyPost_ret (v := .agg #[.string ⟨#[]⟩, .string ⟨#[]⟩, .slice none 0 0, .string ⟨#[]⟩, .slice none 0 0]) (by simp [results, Tryz.results75, go_sem, k0, k1, k2, k3, k4]) rfl ?_
    exact NONE.out w2 [] [] [] f4 _ _ none none 0 0 0 0 HN.out G2.out HD2.out
  · have d3' : w2.cell? ⟨b, 3, none⟩ = some (.bool false) := d3
    have HR2 := hid (show R = elmR m f1 f2 L.reverse deep cnt full (attrsA f4) from HR1.out)
    have HD2' := hid (show DcR w2 b S f4 cnt false full from HD2.out)
    have HAT := hid (attrs_r b S f4 cnt full w2 HD2'.out hS)
    have hac := hid (fun l b r' (h : attrsA f4 = some (l, b, r')) => And.intro (attrsA_sum h) (attrsA_len h))
    unfold RAttPost at HAT
    generalize attrsA f4 = AT at *
    clear d3 HR1 HD2
    go_wp2_with fail
    refine HAT.out.mono ?_
    rintro e w3 ⟨g3, h3⟩
    have G3 := hid (gr_trans G2.out g3)
    have hlow := G2.out.size
    have HA : Hid (∃ l emp r' v bad, e = .returned (.tuple #[v, .bool emp]) ∧ DcR w3 b S r' cnt bad full ∧ w3.ownsRow w1.heap.size xraw 3 v l.length (tri l) ∧ l.length ≤ 100000 ∧ (bad = true → R = none) ∧ (bad = false → R = elmR m f1 f2 L.reverse deep cnt full (some (l, emp, r')) ∧ l.length + r'.length ≤ r.length ∧ r'.length < r.length)) := by
      rcases h3 with ⟨l, emp, r', v, h4, rfl, h5, h6⟩ | ⟨h4, l, r', v, rfl, h5, h6, h7⟩
      · obtain ⟨h7, h8⟩ := hac.out _ _ _ h4
        exact hid ⟨l, emp, r', v, false, rfl, h5, row_low h6 hlow, by omega, (fun h => by cases h), fun _ => ⟨by rw [HR2.out, h4], by omega, by omega⟩⟩
      · exact hid ⟨l, false, r', v, true, rfl, h5, row_low h6 hlow, h7, (fun _ => by rw [HR2.out, h4]; rfl), fun h => by cases h⟩
    clear h3 g3 hac HAT HR2 G2 HD2' d3' hlow
    obtain ⟨l, emp, r', v, bad, rfl, hd3, hrow, hll, hyes, hno⟩ := HA.out
    have HYES := hid hyes
    have HNO := hid hno
    have HD3 := hid hd3
    have HROW := hid hrow
    clear HA hd3 hyes hno
    obtain ⟨va, vc, rfl, -⟩ := row_shape hrow
    clear hrow
    obtain ⟨c2, c3, c4, q2, q3, q4⟩ := HD3.out.cells
    have hcb : (cnt : Int) + 1 ≤ 40001 := by omega
    obtain ⟨FB, hFB⟩ : ∃ FB, FB = fullB full (cnt + 1) deep l.length := ⟨_, rfl⟩
    have HFB := hid hFB
    have D4 := hid (show DcR ((w3.setCell ⟨b, 2, none⟩ (.int .i64 ((cnt : Int) + 1))).setCell ⟨b, 4, none⟩ (.bool FB)) b S r' ((cnt : Int) + 1) bad FB from (HD3.out.setCnt _).setFull FB)
    have G4 := hid (show w1.grownBy ((w3.setCell ⟨b, 2, none⟩ (.int .i64 ((cnt : Int) + 1))).setCell ⟨b, 4, none⟩ (.bool FB)) (some b) from gr_set (gr_set G3.out))
    have L4 : Hid (((w3.setCell ⟨b, 2, none⟩ (.int .i64 ((cnt : Int) + 1))).setCell ⟨b, 4, none⟩ (.bool FB)).ownsRow w1.heap.size xraw 3 (.slice va l.length vc) l.length (tri l)) := by
      obtain ⟨cs, hb⟩ := HD3.out.blk
      exact hid (row_ty HROW.out (gr_set (gr_set (gr_refl _ (some b)))) hb (by decide))
    clear hFB HROW
    go_upto_region 6 with fail
    go_cut [63] (fun v63 wx => wx = (w3.setCell ⟨b, 2, none⟩ (.int .i64 ((cnt : Int) + 1))).setCell ⟨b, 4, none⟩ (.bool FB))
    case first =>
      clear HYES HNO D4 G4 L4 HIN HBAD NONE HBN T1 BN1
      unfold fullB at HFB
      cases full
      · by_cases h1 : (64 : Int) < (cnt : Int) + 1
        · have hv := hid (show FB = true by rw [HFB.out]; simp; omega)
          go_wp2_with fail
          go_meet
          rw [hv.out]
        · by_cases h2 : (8 : Int) < (deep : Int)
          · have hv := hid (show FB = true by rw [HFB.out]; simp; omega)
            go_wp2_with fail
            go_meet
            rw [hv.out]
          · have hv := hid (show FB = decide (16 < l.length) by rw [HFB.out, decide_eq_false (by omega), decide_eq_false (by omega)]; rfl)
            go_wp2_with fail
            go_meet
            rw [hv.out, show decide ((16 : Int) < (l.length : Int)) = decide (16 < l.length) from decide_eq_decide.2 (by omega)]
      · have hv := hid (show FB = true by rw [HFB.out]; simp)
        go_wp2_with fail
        go_meet
        rw [hv.out]
    case rest =>
      obtain rfl := hcut
      generalize (w3.setCell ⟨b, 2, none⟩ (.int .i64 ((cnt : Int) + 1))).setCell ⟨b, 4, none⟩ (.bool FB) = w4 at *
      clear c2 c3 c4 q2 q3 q4 HD3 G3
      have HLR := hid (show bad = false → l.length + r'.length ≤ r.length from fun h => (HNO.out h).2.1)
      have O0 := hid (show (w4.alloc (.cells #[] 155)).ownsRow w1.heap.size 155 2 (.slice (some ⟨w4.heap.size, 0, none⟩) 0 0) ([] : List (Bs × Bs)).length (duo []) from
        ⟨rfl, .inr ⟨w4.heap.size, 0, #[], rfl, G4.out.size, heap_alloc_new w4 _, Nat.le_refl _, Nat.zero_le _, rfl, rfl⟩⟩)
      have HBL1 := hid (show b < w1.heap.size by have := HBL.out; have := HSZ.out; omega)
      have BN4 := hid ((BN1.out.step D1.out G4.out).grow (gr_alloc (gr_refl _ none) (.cells #[] 155)))
      have E4 := hid (fun (w8 : World) (vo : Value) (g : (w4.alloc (.cells #[] 155)).grownBy w8 (Value.slice (some ⟨w4.heap.size, 0, none⟩) 0 0).ownBlock) (h8 : w8.ownsRow w1.heap.size xbn 2 vo L.length (duo L)) =>
        (show ES w1 w8 b S r' ((cnt : Int) + 1) bad FB (.slice va l.length vc) l vo L from
          ES.app (vo := .slice (some ⟨w4.heap.size, 0, none⟩) 0 0) (own := []) ⟨gr_alloc G4.out _, D4.out.grow (gr_alloc (gr_refl _ _) _), row_none L4.out (gr_alloc (gr_refl _ _) _), O0.out, HBL1.out⟩ (gr_refl _ _) g h8))
      have hw1s : w1.heap.size ≤ (w4.alloc (.cells #[] 155)).heap.size := by have := G4.out.size; simp; omega
      have HNUM := hid (show S.length ≤ 20000 ∧ L.length + r.length ≤ 40000 ∧ deep + r.length ≤ 40000 ∧ cnt + r.length ≤ 40000 ∧ f4.length ≤ r.length ∧ l.length ≤ 100000 ∧ 0 < L.length from ⟨hS, hb1, hb2, hb3, hfl, hll, hL⟩)
      clear hS hb1 hb2 hb3 hfl hll hcb hL
      go_wp2_with (at_builtin; refine wpl_app2 rfl _ _ rfl rfl rfl O0.out BN4.out HNUM.out.2.2.2.2.2.2 (by have := HNUM.out; simp; omega) hw1s ?_; intro ad8 c8 w8 h8 g8)
      have ES0 := hid (E4.out w8 (.slice ad8 L.length c8) g8 h8)
      clear h8 g8 E4 BN4 O0 hw1s L4 D4 G4 BN1
      go_loopw [11, 12] (fun v11 v12 wr => ∃ (j : Nat) (own : List (Bs × Bs)), v12 = .int .i64 (j : Int) ∧ j ≤ l.length ∧ ES w1 wr b S r' ((cnt : Int) + 1) (bad || !bindOk (l.take j)) FB (.slice va l.length vc) l v11 own ∧ Hid (own.reverse = bindB (l.take j) L.reverse) ∧ own.length ≤ L.length + j ∧ 0 < own.length) (fun _ v12 _ => l.length - (intOf v12).toNat)
      case atStart => exact ⟨0, L, rfl, Nat.zero_le _, by rw [show (bad || !bindOk (l.take 0)) = bad by simp [bindOk]]; exact ES0.out, rfl, Nat.le_refl _, HNUM.out.2.2.2.2.2.2⟩
      case round =>
        obtain ⟨j, own, rfl, hj, hst, hown, hol, hop⟩ := hrel
        have ST := hid hst
        clear hst ES0
        obtain ⟨oa, oc, rfl, -⟩ := row_shape ST.out.own
        by_cases hlt : j < l.length
        · -- H1
          obtain ⟨g, cap, hg, -, hg3, -, -, hcell⟩ := own_tri ST.out.lst (by omega)
          simp only [Value.slice.injEq] at hg
          obtain ⟨rfl, -, rfl⟩ := hg
          have hbt := hid (show bindB (l.take (j + 1)) L.reverse = if isNs (l.getD j at0) then (nsOf (l.getD j at0), (l.getD j at0).2.2) :: own.reverse else own.reverse by rw [take_snoc_at l j hlt, bindB_snoc, hown.out])
          obtain ⟨bd, hbd⟩ : ∃ bd, bd = (bad || !bindOk (l.take j)) := ⟨_, rfl⟩
          rw [← hbd] at ST
          have HBD := hid (show (bad || !bindOk (l.take (j + 1))) = (bd || (decide ((l.getD j at0).1 = nsT) && decide ((l.getD j at0).2.2 = []))) by
            rw [take_snoc_at l j hlt, bindOk_snoc, hbd]
            cases bad <;> cases bindOk (l.take j) <;> cases decide ((l.getD j at0).1 = nsT) <;> cases decide ((l.getD j at0).2.2 = []) <;> rfl)
          have HC := hid (fun (W : World) (h : W.ownsRow w1.heap.size xraw 3 (.slice (some ⟨g, 0, none⟩) l.length vc) l.length (tri l)) =>
            (show TriAt W g (j * 3) (l.getD j at0) from by
              obtain ⟨g', cap', e', -, -, -, -, hc'⟩ := own_tri h (by omega)
              cases e'
              exact hc' j hlt))
          generalize l.getD j at0 = t at *
          obtain ⟨t1, t2, t3⟩ := t
          simp only at HBD hbt
          clear hcell hbd hown
          have HI := hid (show isNs (t1, t2, t3) = (decide (t1 = nsT) || (decide (t1 = []) && decide (t2 = nsT))) from rfl)
          have HNS := hid (show nsOf (t1, t2, t3) = if t1 = nsT then t2 else [] from rfl)
          have e0 := (HC.out wr ST.out.lst).c0
          have e1 := (HC.out wr ST.out.lst).c1
          have e2 := (HC.out wr ST.out.lst).c2
          simp only at e0 e1 e2
          have hjj : (j : Int) < (l.length : Int) := by omega
          have hji : (j : Int) + 1 ≤ 100001 := by have := HNUM.out; omega
          by_cases h1 : t1 = nsT
          · have q1 : (t1 == [120, 109, 108, 110, 115]) = true := by rw [h1]; rfl
            have q2 : t1.isEmpty = false := by rw [h1]; rfl
            have HB1 := hid (show bindB (l.take (j + 1)) L.reverse = (t2, t3) :: own.reverse by rw [hbt.out, HI.out, HNS.out, if_pos h1, decide_eq_true h1]; rfl)
            have HBD1 := hid (show (bad || !bindOk (l.take (j + 1))) = (bd || decide (t3 = [])) by rw [HBD.out, decide_eq_true h1, Bool.true_and])
            clear h1 HI HNS hbt HBD
            obtain ⟨c2, c3, c4, p2, p3, p4⟩ := ST.out.dc.cells
            obtain ⟨e3, he3⟩ : ∃ e3, e3 = t3.isEmpty := ⟨_, rfl⟩
            have q3 : t3.isEmpty = e3 := he3.symm
            have HE3 := hid (show decide (t3 = []) = e3 by rw [he3]; cases t3 <;> rfl)
            clear he3
            go_upto_if 88 with fail
            go_cut [12] (fun v12 wx => v12 = .int .i64 (j : Int) ∧ ES w1 wx b S r' ((cnt : Int) + 1) (bd || decide (t3 = [])) FB (.slice (some ⟨g, 0, none⟩) l.length vc) l (.slice oa own.length oc) own)
            case first =>
              clear q3
              cases e3
              · go_wp2_with fail
                go_meet
                exact ⟨rfl, by rw [HE3.out, Bool.or_false]; exact ST.out⟩
              · go_wp2_with fail
                go_meet
                exact ⟨rfl, by rw [HE3.out, Bool.or_true]; exact ST.out.setBad true⟩
            case rest =>
              obtain ⟨rfl, hst5⟩ := hcut
              have ST5 := hid hst5
              rw [← HBD1.out] at ST5
              clear hst5 ST e0 e1 e2 c2 c3 c4 p2 p3 p4
              have e0 := (HC.out wc ST5.out.lst).c0
              have e1 := (HC.out wc ST5.out.lst).c1
              have e2 := (HC.out wc ST5.out.lst).c2
              simp only at e0 e1 e2
              have hsz5 := ST5.out.gr.size
              have hal := hid (show own.length ≤ 1000000 by have := HNUM.out; omega)
              go_upto_if 97 with fail
              go_cut [11] (fun v11 wx => ∃ ad c, v11 = .slice ad (own.length + 1) c ∧ ES w1 wx b S r' ((cnt : Int) + 1) (bad || !bindOk (l.take (j + 1))) FB (.slice (some ⟨g, 0, none⟩) l.length vc) l (.slice ad (own.length + 1) c) (own ++ [(t2, t3)]))
              case first =>
                go_upto_region 14 with fail
                go_region_law
                  (first | (refine step_app2 (t := (t2, t3)) (by rfl) (.tmp 98) (.tmp 110) (by rfl) (by rfl) (by rfl) (row_none ST5.out.own (by (repeat (first | exact gr_refl _ _ | assumption | refine gr_drew ?_ | refine gr_drewN _ ?_ | refine gr_alloc ?_ _ | refine gr_set ?_ | refine gr_set_new ?_ (by first | omega | (simp; omega)))))) (by first | exact heap_alloc_new _ _ | (rw [heap_drew]; exact heap_alloc_new _ _)) hal.out (by simp; omega) ?_; intro ad8 c8 w8 h8 g8))
                all_goals
                  have h8' : w8.ownsRow w1.heap.size xbn 2 (.slice ad8 (own.length + 1) c8) (own ++ [(t2, t3)]).length (duo (own ++ [(t2, t3)])) := by
                    have := h8
                    rw [List.length_append] at this ⊢
                    exact this
                  have ST8 := hid (ES.app ST5.out (by (repeat (first | exact gr_refl _ _ | assumption | refine gr_drew ?_ | refine gr_drewN _ ?_ | refine gr_alloc ?_ _ | refine gr_set ?_ | refine gr_set_new ?_ (by first | omega | (simp; omega))))) g8 h8')
                  clear h8 h8' g8 e0 e1 e2
                  go_wp2_with fail
                  go_meet
                  exact ⟨_, _, rfl, ST8.out⟩
              case rest =>
                obtain ⟨ad8, c8, rfl, hst8⟩ := hcut
                have ST8 := hid hst8
                clear hst8 ST5 e0 e1 e2
                have e0 := (HC.out wc ST8.out.lst).c0
                have e1 := (HC.out wc ST8.out.lst).c1
                have e2 := (HC.out wc ST8.out.lst).c2
                simp only at e0 e1 e2
                go_wp2_with fail
                go_roundw
                case rel => exact ⟨j + 1, own ++ [(t2, t3)], by go_num, by omega, ST8.out, hid (by rw [HB1.out, List.reverse_append]; rfl), by simp; omega, by simp⟩
                case measure => simp [intOf]; omega
          · have q1 : (t1 == [120, 109, 108, 110, 115]) = false := by rw [beq_dec, decide_eq_false]; exact h1
            have HBD1 := hid (show (bad || !bindOk (l.take (j + 1))) = bd by rw [HBD.out, decide_eq_false h1, Bool.false_and, Bool.or_false])
            have HI1 := hid (show isNs (t1, t2, t3) = (decide (t1 = []) && decide (t2 = nsT)) by rw [HI.out, decide_eq_false h1, Bool.false_or])
            have HNS1 := hid (show nsOf (t1, t2, t3) = [] by rw [HNS.out, if_neg h1])
            clear HI HNS h1 HBD
            by_cases h2 : t1 = []
            · have q2 : t1.isEmpty = true := by rw [h2]; rfl
              by_cases h4 : t2 = nsT
              · have q4 : (t2 == [120, 109, 108, 110, 115]) = true := by rw [h4]; rfl
                have HB1 := hid (show bindB (l.take (j + 1)) L.reverse = ([], t3) :: own.reverse by rw [hbt.out, HI1.out, HNS1.out, decide_eq_true h2, decide_eq_true h4]; rfl)
                clear h2 h4 HI1 HNS1 hbt
                have hsz : w1.heap.size ≤ (wr.alloc (.cells #[.string ⟨#[]⟩, .string ⟨t3.toArray⟩] 155)).heap.size := by have := ST.out.gr.size; simp; omega
                have BNX := hid (show BnAt (wr.alloc (.cells #[.string ⟨#[]⟩, .string ⟨t3.toArray⟩] 155)) (.slice (some ⟨wr.heap.size, 0, none⟩) 1 1) [([], t3)] from bn_new wr [] t3)
                go_wp2_with (at_builtin; refine wpl_app2 rfl _ _ rfl rfl rfl (row_none ST.out.own (gr_alloc (gr_refl _ none) (.cells #[.string ⟨#[]⟩, .string ⟨t3.toArray⟩] 155))) BNX.out (by simp) (by have := HNUM.out; simp; omega) hsz ?_; intro ad8 c8 w8 h8 g8)
                have h8' : w8.ownsRow w1.heap.size xbn 2 (.slice ad8 (own.length + 1) c8) (own ++ [(([] : Bs), t3)]).length (duo (own ++ [([], t3)])) := by
                  have := h8
                  rw [List.length_append] at this ⊢
                  exact this
                have ST8 := hid (ES.app ST.out (gr_alloc (gr_refl _ none) (.cells #[.string ⟨#[]⟩, .string ⟨t3.toArray⟩] 155)) g8 h8')
                rw [← HBD1.out] at ST8
                clear h8 h8' g8 BNX hsz
                go_roundw
                case rel => exact ⟨j + 1, own ++ [([], t3)], by go_num, by omega, ST8.out, hid (by rw [HB1.out, List.reverse_append]; rfl), by simp; omega, by simp⟩
                case measure => simp [intOf]; omega
              · have q4 : (t2 == [120, 109, 108, 110, 115]) = false := by rw [beq_dec, decide_eq_false]; exact h4
                have HB1 := hid (show bindB (l.take (j + 1)) L.reverse = own.reverse by rw [hbt.out, HI1.out, decide_eq_false h4, Bool.and_false]; rfl)
                rw [← HBD1.out] at ST
                clear h2 h4 HI1 HNS1 hbt
                go_wp2_with fail
                go_roundw
                case rel => exact ⟨j + 1, own, by go_num, by omega, ST.out, hid HB1.out.symm, by omega, hop⟩
                case measure => simp [intOf]; omega
            · have q2 : t1.isEmpty = false := by
                cases t1 with
                | nil => exact absurd rfl h2
                | cons _ _ => rfl
              have HB1 := hid (show bindB (l.take (j + 1)) L.reverse = own.reverse by rw [hbt.out, HI1.out, decide_eq_false h2, Bool.false_and]; rfl)
              rw [← HBD1.out] at ST
              clear h2 HI1 HNS1 hbt
              go_wp2_with fail
              go_roundw
              case rel => exact ⟨j + 1, own, by go_num, by omega, ST.out, hid HB1.out.symm, by omega, hop⟩
              case measure => simp [intOf]; omega
        · obtain rfl : j = l.length := by omega
          obtain ⟨bd, hbd⟩ : ∃ bd, bd = (bad || !bindOk (l.take l.length)) := ⟨_, rfl⟩
          rw [← hbd] at ST
          rw [List.take_length] at hbd
          have hown' := hown.out
          rw [List.take_length] at hown'
          have HBD := hid hbd
          have HOWN := hid hown'
          clear hbd hown hown' hlt hj
          obtain ⟨OW, hOW⟩ : ∃ OW, OW = own.reverse := ⟨_, rfl⟩
          rw [← hOW] at HOWN
          have HOW := hid hOW
          have HSPC := hid (fun (W : World) (h : W.ownsRow w1.heap.size xbn 2 (.slice oa own.length oc) own.length (duo own)) (p : Bs) =>
            (show Calls Tryz.prog 123 #[.slice oa own.length oc, .string ⟨p.toArray⟩] W fun e w' => e = .returned (.tuple #[str (spcL OW p).1, .bool (spcL OW p).2]) ∧ W = w' from by
              rw [hOW]; exact space_r (.slice oa own.length oc) own p W (bn_of_own h) (by have := HNUM.out; omega)))
          have ET0 := hid (show ET w1 (wr.alloc (.cells #[.string ⟨#[]⟩, .string ⟨f2.toArray⟩, .slice none 0 0, .string ⟨#[]⟩, .slice none 0 0] 25)) b S r' ((cnt : Int) + 1) bd FB (.slice va l.length vc) l (.slice oa own.length oc) own wr.heap.size [] f2 (.slice none 0 0) [] from
            ⟨ST.out.grow (gr_alloc (gr_refl _ _) _), heap_alloc_new wr _, ⟨rfl, .inl ⟨rfl, rfl⟩⟩, ST.out.gr.size⟩)
          clear hOW ST
          go_wp2_with fail
          generalize wr.heap.size = eb at *
          generalize wr.alloc (.cells #[.string ⟨#[]⟩, .string ⟨f2.toArray⟩, .slice none 0 0, .string ⟨#[]⟩, .slice none 0 0] 25) = w5 at *
          have HF1 := hid (HSPC.out w5 ET0.out.st.own f1)
          obtain ⟨SP, hSP⟩ : ∃ SP, SP = spcL OW f1 := ⟨_, rfl⟩
          rw [← hSP] at HF1
          have HSP := hid hSP
          clear hSP
          obtain ⟨sp1, sp2⟩ := SP
          refine HF1.out.mono ?_
          rintro e w6 ⟨rfl, rfl⟩
          unfold str
          obtain ⟨s0, s1, s2, s3, s4⟩ := ET0.out.blk.cells
          have z0 := ET0.out.blk.free 0
          have ET1 := hid (ET0.out.setS sp1)
          go_upto_region 19 with fail
          go_cut [14, 15] (fun v14 v15 wx => v14 = .string ⟨sp1.toArray⟩ ∧ v15 = .bool sp2 ∧ w5.setCell ⟨eb, 0, none⟩ (.string ⟨sp1.toArray⟩) = wx)
          case first =>
            go_wp2_with fail
            go_meet
            exact ⟨rfl, rfl, rfl⟩
          case rest =>
            obtain ⟨rfl, rfl, rfl⟩ := hcut
            rename_i ha0
            refine ha0 _ _ ?_
            exact element_tail HIN HBAD HM G1 T1 HSZ HBL HBL1 HFB HYES HNO HNUM HOW HOWN HBD HSP hop hol ET1
end Go.Proofs.YtmofnoconhgjmaaGreatDoor
