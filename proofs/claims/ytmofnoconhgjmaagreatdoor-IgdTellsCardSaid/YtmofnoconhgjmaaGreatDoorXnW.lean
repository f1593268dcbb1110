/- hearthref17.Doc: element behind its beginning (region 20 on), a theorem of its own: a part of a function's code. -/
import Derived.Test.YtmofnoconhgjmaaGreatDoorXn2
import Derived.RegionTactic
import Derived.Deep.RegionLaw
import Derived.Deep.QuietTactic
import Derived.BigQuiet
import Derived.Deep.DeepCutAuto
namespace Go.Proofs.YtmofnoconhgjmaaGreatDoor
open Go.RowKit
set_option linter.unusedVariables false
set_option linter.unusedSimpArgs false

/-- The code behind region n. -/
def restOf (n : Nat) : Code → Option Code
  | .seq a b => (match a with
      | .region m _ _ => if m = n then some b else none
      | _ => none).or ((restOf n a).or (restOf n b))
  | .block _ c => restOf n c
  | .loop c => restOf n c
  | .scope c => restOf n c
  | .cond _ a b => (restOf n a).or (restOf n b)
  | _ => none
set_option maxRecDepth 20000 in
set_option maxHeartbeats 20000000 in
theorem element_tail {N m : Nat} {w w1 w6 : World} {b : Nat} {S r r' f1 f2 f4 sp1 : Bs} {L own OW : List (Bs × Bs)} {l : List At} {deep cnt : Nat} {full FB bad bd emp sp2 : Bool} {R : Option Res} {ua va oa : Option Addr} {uc vc oc eb : Nat} {u3 u4 u5 u16 u17 u18 u19 u20 u21 u22 u23 u24 u25 u26 u27 u28 u29 u30 u31 u32 u33 u34 u35 u36 u37 u38 u39 u40 u41 u42 u43 u44 u45 u46 u47 u48 u49 u50 u51 u52 u53 u54 u55 u56 u57 u58 u59 u60 u61 u62 u63 u64 u65 u66 u67 u68 u69 u70 u71 u72 u73 u74 u75 u76 u77 u78 u79 u80 u81 u82 u83 u84 u85 u86 u87 u88 u89 u90 u91 u92 u93 u94 u95 u96 u97 u98 u99 u100 u101 u102 u103 u104 u105 u106 u107 u108 u109 u110 u111 u112 u113 u114 u115 u116 u117 u118 u119 u120 u121 u122 u123 u124 u125 u126 u127 u128 u129 u130 u131 u132 u133 u134 u135 u136 u137 u138 u139 u140 u141 u142 u143 u144 u145 u146 u147 u148 u149 u150 u151 u152 u153 u154 u155 u156 u157 u158 u159 u160 u161 u162 u163 u164 u165 u166 u167 u168 u169 u170 u171 u172 u173 u174 u175 u176 u177 u178 u179 u180 u181 u182 u183 u184 u185 u186 u187 u188 u189 u190 u191 u192 u193 u194 u195 u196 u197 u198 u199 u200 u201 u202 u203 u204 u205 u206 u207 u208 u209 u210 u211 u212 u213 u214 u215 u216 u217 u218 u219 u220 u221 u222 u223 u224 u225 u226 u227 u228 u229 u230 u231 u232 u233 u234 u235 u236 u237 u238 u239 u240 : Value}
    (HIN : Hid (InsideOk N)) (HBAD : Hid InsideBad) (HM : Hid (m ≤ N ∧ r.length < m)) (G1 : Hid (w.grownBy w1 none)) (T1 : Hid (ElB w1 w.heap.size [] [] (.slice none 0 0) [] (.slice none 0 0))) (HSZ : Hid (w.heap.size + 1 = w1.heap.size)) (HBL : Hid (b < w.heap.size)) (HBL1 : Hid (b < w1.heap.size)) (HFB : Hid (FB = fullB full (cnt + 1) deep l.length))
    (HYES : Hid (bad = true → R = none)) (HNO : Hid (bad = false → R = elmR m f1 f2 L.reverse deep cnt full (some (l, emp, r')) ∧ l.length + r'.length ≤ r.length ∧ r'.length < r.length))
    (HNUM : Hid (S.length ≤ 20000 ∧ L.length + r.length ≤ 40000 ∧ deep + r.length ≤ 40000 ∧ cnt + r.length ≤ 40000 ∧ f4.length ≤ r.length ∧ l.length ≤ 100000 ∧ 0 < L.length))
    (HOW : Hid (OW = own.reverse)) (HOWN : Hid (OW = bindB l L.reverse)) (HBD : Hid (bd = (bad || !bindOk l))) (HSP : Hid ((sp1, sp2) = spcL OW f1)) (hop : 0 < own.length) (hol : own.length ≤ L.length + l.length)
    (ET1 : Hid (ET w1 w6 b S r' ((cnt : Int) + 1) bd FB (.slice va l.length vc) l (.slice oa own.length oc) own eb sp1 f2 (.slice none 0 0) [])) :
    Code.wp Tryz.prog ((restOf 19 (Tryz.f75.body.getD .skip)).getD .skip) (bodyPost Tryz.prog Tryz.f75 (RePost w b w.heap.size S R)) { tmps := #[.pointer (some ⟨b, 0, none⟩), .slice ua L.length uc, .int .i64 (deep : Int), u3, u4, u5, .pointer (some ⟨w.heap.size, 0, none⟩), .string ⟨f1.toArray⟩, .string ⟨f2.toArray⟩, .slice va l.length vc, .bool emp, .slice oa own.length oc, .int .i64 (l.length : Int), .pointer (some ⟨eb, 0, none⟩), .string ⟨sp1.toArray⟩, .bool sp2, u16, u17, u18, u19, u20, u21, u22, u23, u24, u25, u26, u27, u28, u29, u30, u31, u32, u33, u34, u35, u36, u37, u38, u39, u40, u41, u42, u43, u44, u45, u46, u47, u48, u49, u50, u51, u52, u53, u54, u55, u56, u57, u58, u59, u60, u61, u62, u63, u64, u65, u66, u67, u68, u69, u70, u71, u72, u73, u74, u75, u76, u77, u78, u79, u80, u81, u82, u83, u84, u85, u86, u87, u88, u89, u90, u91, u92, u93, u94, u95, u96, u97, u98, u99, u100, u101, u102, u103, u104, u105, u106, u107, u108, u109, u110, u111, u112, u113, u114, u115, u116, u117, u118, u119, u120, u121, u122, u123, u124, u125, u126, u127, u128, u129, u130, u131, u132, u133, u134, u135, u136, u137, u138, u139, u140, u141, u142, u143, u144, u145, u146, u147, u148, u149, u150, u151, u152, u153, u154, u155, u156, u157, u158, u159, u160, u161, u162, u163, u164, u165, u166, u167, u168, u169, u170, u171, u172, u173, u174, u175, u176, u177, u178, u179, u180, u181, u182, u183, u184, u185, u186, u187, u188, u189, u190, u191, u192, u193, u194, u195, u196, u197, u198, u199, u200, u201, u202, u203, u204, u205, u206, u207, u208, u209, u210, u211, u212, u213, u214, u215, u216, u217, u218, u219, u220, u221, u222, u223, u224, u225, u226, u227, u228, u229, u230, u231, u232, u233, u234, u235, u236, u237, u238, u239, u240], defers := [] } w6 := by
  have HSPC := hid (fun (W : World) (h : W.ownsRow w1.heap.size xbn 2 (.slice oa own.length oc) own.length (duo own)) (p : Bs) =>
    (show Calls Tryz.prog 123 #[.slice oa own.length oc, .string ⟨p.toArray⟩] W fun e w' => e = .returned (.tuple #[str (spcL OW p).1, .bool (spcL OW p).2]) ∧ W = w' from by
      rw [HOW.out]; exact space_r (.slice oa own.length oc) own p W (bn_of_own h) (by have := HNUM.out; omega)))
  have HBN := hid (fun (W : World) (g : w1.grownBy W (some b)) => (show ElB W w.heap.size [] [] (.slice none 0 0) [] (.slice none 0 0) from gr_keep g T1.out (by have := HBL.out; simp; omega)))
  conv in Option.getD (restOf _ _) _ => whnf
  go_wp2_with fail
  go_loopw [15, 16] (fun v15 v16 wr => ∃ (j : Nat) (acc : List At) (v : Value) (ok : Bool), v16 = .int .i64 (j : Int) ∧ j ≤ l.length ∧ v15 = .bool (sp2 && ok) ∧ ET w1 wr b S r' ((cnt : Int) + 1) bd FB (.slice va l.length vc) l (.slice oa own.length oc) own eb sp1 f2 v acc ∧ Hid (attB OW l [] = ((attB OW (l.drop j) acc).1, ok && (attB OW (l.drop j) acc).2)) ∧ acc.length ≤ j) (fun _ v16 _ => l.length - (intOf v16).toNat)
  case atStart => exact ⟨0, [], _, true, rfl, Nat.zero_le _, by rw [Bool.and_true], ET1.out, hid (by rw [Bool.true_and]; rfl), Nat.le_refl _⟩
  case round =>
    obtain ⟨j, acc, v, ok, rfl, hj, rfl, het, hatt, hacc⟩ := hrel
    have ET2 := hid het
    clear het ET1
    obtain ⟨aa, ac, rfl, -⟩ := row_shape ET2.out.att
    by_cases hlt : j < l.length
    · obtain ⟨g, cap, hg, -, hg3, -, -, hcell⟩ := own_tri ET2.out.st.lst (by omega)
      simp only [Value.slice.injEq] at hg
      obtain ⟨rfl, -, rfl⟩ := hg
      have hT := hcell j hlt
      have hatt' := hatt.out
      rw [drop_at l j hlt] at hatt'
      generalize l.getD j at0 = t at *
      obtain ⟨t1, t2, t3⟩ := t
      have e0 := hT.c0
      have e1 := hT.c1
      have e2 := hT.c2
      simp only at e0 e1 e2
      have HAT := hid hatt'
      have HNSE := hid (fun h => attB_ns OW (t1, t2, t3) (l.drop (j + 1)) acc h)
      have HATE := hid (fun h => attB_at OW (t1, t2, t3) (l.drop (j + 1)) acc h)
      simp only at HATE
      have HI := hid (show isNs (t1, t2, t3) = (decide (t1 = nsT) || (decide (t1 = []) && decide (t2 = nsT))) from rfl)
      generalize isNs (t1, t2, t3) = I at *
      have HSA := hid (show atSp OW t1 = if t1 = [] then ([], true) else spcL OW t1 from rfl)
      have hjj : (j : Int) < (l.length : Int) := by omega
      have hji : (j : Int) + 1 ≤ 100001 := by have := HNUM.out; omega
      have ET3 := hid (ET2.out.grow (gr_alloc (gr_refl wr none) (.cells #[.string ⟨t1.toArray⟩, .string ⟨t2.toArray⟩, .string ⟨t3.toArray⟩] 201)))
      have HA3 := hid (heap_alloc_new wr (.cells #[.string ⟨t1.toArray⟩, .string ⟨t2.toArray⟩, .string ⟨t3.toArray⟩] 201))
      clear hcell hT hatt hatt'
      go_upto_region 24 with fail
      generalize wr.heap.size = A at *
      generalize wr.alloc (.cells #[.string ⟨t1.toArray⟩, .string ⟨t2.toArray⟩, .string ⟨t3.toArray⟩] 201) = w7 at *
      have a0 : w7.cell? ⟨A, 0, none⟩ = some (.string ⟨t1.toArray⟩) := cell_of_block HA3.out 0
      have a1 : w7.cell? ⟨A, 1, none⟩ = some (.string ⟨t2.toArray⟩) := cell_of_block HA3.out 1
      have a2 : w7.cell? ⟨A, 2, none⟩ = some (.string ⟨t3.toArray⟩) := cell_of_block HA3.out 2
      clear e0 e1 e2 ET2 hg3
      go_cut [167] (fun v167 wx => v167 = .bool I ∧ w7 = wx)
      case first =>
        clear HAT HNSE HATE HSA HSPC ET3
        by_cases h1 : t1 = nsT
        · have q1 : (t1 == [120, 109, 108, 110, 115]) = true := by rw [h1]; rfl
          have HX := hid (show I = true by rw [HI.out, decide_eq_true h1]; rfl)
          clear h1 HI
          go_wp2_with fail
          go_meet
          exact ⟨by rw [HX.out], rfl⟩
        · have q1 : (t1 == [120, 109, 108, 110, 115]) = false := by rw [beq_dec, decide_eq_false]; exact h1
          have HI1 := hid (show I = (decide (t1 = []) && decide (t2 = nsT)) by rw [HI.out, decide_eq_false h1, Bool.false_or])
          clear h1 HI
          by_cases h2 : t1 = []
          · have q2 : t1.isEmpty = true := by rw [h2]; rfl
            obtain ⟨e4, he4⟩ : ∃ e4, e4 = (t2 == [120, 109, 108, 110, 115]) := ⟨_, rfl⟩
            have HX := hid (show I = e4 by rw [HI1.out, decide_eq_true h2, Bool.true_and, he4, beq_dec]; rfl)
            have q4 : (t2 == [120, 109, 108, 110, 115]) = e4 := he4.symm
            clear h2 HI1 he4
            cases e4
            · go_wp2_with fail
              go_meet
              exact ⟨by rw [HX.out], rfl⟩
            · go_wp2_with fail
              go_meet
              exact ⟨by rw [HX.out], rfl⟩
          · have q2 : t1.isEmpty = false := by
              cases t1 with
              | nil => exact absurd rfl h2
              | cons _ _ => rfl
            have HX := hid (show I = false by rw [HI1.out, decide_eq_false h2, Bool.false_and])
            clear h2 HI1
            go_wp2_with fail
            go_meet
            exact ⟨by rw [HX.out], rfl⟩
      case rest =>
        obtain ⟨rfl, rfl⟩ := hcut
        clear HI
        cases I
        rotate_left
        · have HX := hid (show attB OW l [] = ((attB OW (l.drop (j + 1)) acc).1, ok && (attB OW (l.drop (j + 1)) acc).2) by rw [HAT.out, HNSE.out rfl])
          clear HAT HNSE HATE
          go_wp2
          go_roundw
          case rel => exact ⟨j + 1, acc, _, ok, by go_num, by omega, rfl, ET3.out, HX, by omega⟩
          case measure => simp [intOf]; omega
        · have HX := hid (show attB OW l [] = ((attB OW (l.drop (j + 1)) (acc ++ [((atSp OW t1).1, t2, t3)])).1, ok && ((atSp OW t1).2 && !acc.any (sameA (atSp OW t1).1 t2) && (attB OW (l.drop (j + 1)) (acc ++ [((atSp OW t1).1, t2, t3)])).2)) by rw [HAT.out, HATE.out rfl])
          clear HAT HNSE HATE
          have HFD := hid (HSPC.out w7 ET3.out.st.own t1)
          generalize atSp OW t1 = AT2 at *
          generalize spcL OW t1 = SC at *
          obtain ⟨at1, at2⟩ := AT2
          obtain ⟨sc1, sc2⟩ := SC
          simp only at HX HFD
          unfold str at HFD
          obtain ⟨ne, hne⟩ : ∃ ne, ne = (!t1.isEmpty) := ⟨_, rfl⟩
          have HNE := hid (show t1 = [] ↔ ne = false by rw [hne]; cases t1 <;> simp)
          go_upto_if 170 with fail
          rw [← hne]
          clear hne
          go_cut [18, 19] (fun v18 v19 wx => v18 = .string ⟨at1.toArray⟩ ∧ v19 = .bool at2 ∧ w7 = wx)
          case first =>
            clear HX ET3 HSPC hji hjj
            cases ne
            rotate_left
            · have hsa := HSA.out
              rw [if_neg (fun h => by have := HNE.out.1 h; cases this)] at hsa
              simp only [Prod.mk.injEq] at hsa
              obtain ⟨rfl, rfl⟩ := hsa
              clear HSA HNE
              go_wp2_with fail
              refine HFD.out.mono ?_
              rintro e w8 ⟨rfl, rfl⟩
              go_wp2_with fail
              go_meet
              exact ⟨rfl, rfl, rfl⟩
            · have hsa := HSA.out
              rw [if_pos (HNE.out.2 rfl)] at hsa
              simp only [Prod.mk.injEq] at hsa
              obtain ⟨rfl, rfl⟩ := hsa
              clear HSA HNE
              go_wp2_with fail
              go_meet
              exact ⟨rfl, rfl, rfl⟩
          case rest =>
            obtain ⟨rfl, rfl, rfl⟩ := hcut
            clear HSA HFD HNE
            have hal : acc.length ≤ 100000 := by have := HNUM.out; omega
            have HAL := hid hal
            have hacj : acc.length ≤ j := hacc
            clear hal a0 a1 a2
            go_wp2_with fail
            go_loopw [19, 20] (fun v19 v20 wx => ∃ i : Nat, v20 = .int .i64 (i : Int) ∧ i ≤ acc.length ∧ v19 = .bool (at2 && !(acc.take i).any (sameA at1 t2)) ∧ ET w1 wx b S r' ((cnt : Int) + 1) bd FB (.slice (some ⟨g, 0, none⟩) l.length vc) l (.slice oa own.length oc) own eb sp1 f2 (.slice aa acc.length ac) acc ∧ Hid (wx.heap[A]? = some (.cells #[.string ⟨t1.toArray⟩, .string ⟨t2.toArray⟩, .string ⟨t3.toArray⟩] 201 (0, 0)))) (fun _ v20 _ => acc.length - (intOf v20).toNat)
            case atStart => exact ⟨0, rfl, Nat.zero_le _, by simp, ET3.out, HA3⟩
            case round =>
              obtain ⟨i, rfl, hi, rfl, hS, hA⟩ := hrel
              have ET5 := hid hS
              clear hS ET3 HA3
              obtain ⟨s0, s1, s2, s3, s4⟩ := ET5.out.blk.cells
              have a0 : wr.cell? ⟨A, 0, none⟩ = some (.string ⟨t1.toArray⟩) := cell_of_block hA.out 0
              have a1 : wr.cell? ⟨A, 1, none⟩ = some (.string ⟨t2.toArray⟩) := cell_of_block hA.out 1
              have a2 : wr.cell? ⟨A, 2, none⟩ = some (.string ⟨t3.toArray⟩) := cell_of_block hA.out 2
              have hi2 : (i : Int) + 1 ≤ 100001 := by have := HAL.out; omega
              by_cases hlt2 : i < acc.length
              · obtain ⟨g2, cap2, hg2, -, hg3, -, -, hcell⟩ := own_tri ET5.out.att (by omega)
                simp only [Value.slice.injEq] at hg2
                obtain ⟨rfl, -, rfl⟩ := hg2
                have hT := hcell i hlt2
                have hstep := hid (show (acc.take (i + 1)).any (sameA at1 t2) = ((acc.take i).any (sameA at1 t2) || sameA at1 t2 (acc.getD i at0)) by
                  rw [take_snoc_at acc i hlt2, List.any_append]; simp)
                generalize acc.getD i at0 = y at *
                obtain ⟨y1, y2, y3⟩ := y
                have e0 := hT.c0
                have e1 := hT.c1
                simp only at e0 e1
                obtain ⟨an, han⟩ : ∃ an, an = (acc.take i).any (sameA at1 t2) := ⟨_, rfl⟩
                rw [← han] at hstep ⊢
                obtain ⟨ob, hob⟩ : ∃ ob, ob = (at2 && !an) := ⟨_, rfl⟩
                rw [← hob]
                have HOB := hid hob
                have hj0 : (0 : Int) ≤ (i : Int) := by omega
                have hj1 : (i : Int) < (acc.length : Int) := by omega
                clear hT hcell han hob
                have HNX := hid (show (at2 && !(acc.take (i + 1)).any (sameA at1 t2)) = (ob && !(decide (at1 = y1) && decide (t2 = y2))) by
                  rw [hstep.out, HOB.out, Bool.not_or, ← Bool.and_assoc]; rfl)
                clear hstep
                cases ob
                · go_wp2_with fail
                  go_quiet (fail)
                  have ET6 := hid (ET5.out.grow (gr_drewN nq (gr_refl _ _)))
                  have HA6 := hid (gr_keep (gr_drewN nq (gr_refl wr none)) hA.out (by simp))
                  go_wp2
                  go_roundw
                  case rel => exact ⟨i + 1, by go_num, by omega, by rw [HNX.out]; rfl, ET6.out, HA6⟩
                  case measure => simp [intOf]; omega
                · by_cases h1 : y1 = at1
                  · have hb1 : (y1 != at1) = false := by simp [h1]
                    have hb1' : (y1 == at1) = true := by simp [h1]
                    have HX2 := hid (HNX.out.trans (show (true && !(decide (at1 = y1) && decide (t2 = y2))) = (y2 != t2) by
                      rw [decide_eq_true h1.symm, Bool.true_and, Bool.true_and, bne, beq_dec]
                      congr 1
                      exact decide_eq_decide.2 eq_comm))
                    clear h1
                    go_wp2_with fail
                    go_quiet (fail)
                    have ET6 := hid (ET5.out.grow (gr_drewN nq (gr_refl _ _)))
                    have HA6 := hid (gr_keep (gr_drewN nq (gr_refl wr none)) hA.out (by simp))
                    go_wp2
                    go_roundw
                    case rel => exact ⟨i + 1, by go_num, by omega, by rw [HX2.out]; first | done | rfl, ET6.out, HA6⟩
                    case measure => simp [intOf]; omega
                  · have hb1 : (y1 != at1) = true := by simpa using h1
                    have hb1' : (y1 == at1) = false := by simpa using h1
                    have HX2 := hid (HNX.out.trans (show (true && !(decide (at1 = y1) && decide (t2 = y2))) = true by rw [decide_eq_false (fun h => h1 h.symm)]; rfl))
                    clear h1
                    go_wp2_with fail
                    go_quiet (fail)
                    have ET6 := hid (ET5.out.grow (gr_drewN nq (gr_refl _ _)))
                    have HA6 := hid (gr_keep (gr_drewN nq (gr_refl wr none)) hA.out (by simp))
                    go_wp2
                    go_roundw
                    case rel => exact ⟨i + 1, by go_num, by omega, by rw [HX2.out], ET6.out, HA6⟩
                    case measure => simp [intOf]; omega
              · obtain rfl : i = acc.length := by omega
                rw [List.take_length]
                obtain ⟨an, han⟩ : ∃ an, an = acc.any (sameA at1 t2) := ⟨_, rfl⟩
                rw [← han] at HX ⊢
                obtain ⟨is, his⟩ : ∃ is, is = (at2 && !an) := ⟨_, rfl⟩
                rw [← his] at HX ⊢
                obtain ⟨o1, ho1⟩ : ∃ o1, o1 = (sp2 && ok) := ⟨_, rfl⟩
                have HOK := hid (show (sp2 && (ok && is)) = (o1 && is) by rw [ho1, Bool.and_assoc])
                rw [← ho1]
                have HX2 := hid (show attB OW l [] = ((attB OW (l.drop (j + 1)) (acc ++ [(at1, t2, t3)])).1, (ok && is) && (attB OW (l.drop (j + 1)) (acc ++ [(at1, t2, t3)])).2) by rw [HX.out, Bool.and_assoc])
                clear HX han his ho1 hlt2 hi
                have hsz := ET5.out.st.gr.size
                have hsz2 : w1.heap.size ≤ (wr.alloc (.cells #[.string ⟨at1.toArray⟩, .string ⟨t2.toArray⟩, .string ⟨t3.toArray⟩] 102)).heap.size := by simp; omega
                have TRN := hid (tri_new wr at1 t2 t3 102)
                have ROW := hid (row_none ET5.out.att (gr_alloc (gr_refl _ none) (.cells #[.string ⟨at1.toArray⟩, .string ⟨t2.toArray⟩, .string ⟨t3.toArray⟩] 102)))
                have APP := hid (fun (w8 : World) (va' : Value) (g8 : (wr.alloc (.cells #[.string ⟨at1.toArray⟩, .string ⟨t2.toArray⟩, .string ⟨t3.toArray⟩] 102)).grownBy w8 (Value.slice aa acc.length ac).ownBlock) (h8 : w8.ownsRow w1.heap.size 102 3 va' (acc ++ [(at1, t2, t3)]).length (tri (acc ++ [(at1, t2, t3)]))) =>
                  ET5.out.app (gr_alloc (gr_refl _ none) (.cells #[.string ⟨at1.toArray⟩, .string ⟨t2.toArray⟩, .string ⟨t3.toArray⟩] 102)) g8 h8)
                clear ET5 hsz
                go_upto_region 32 with fail
                go_cut [15] (fun v15 wx => v15 = .bool (o1 && is) ∧ wr = wx)
                case first =>
                  clear APP ROW TRN HX2
                  cases o1
                  · go_wp2_with fail
                    go_meet
                    exact ⟨rfl, rfl⟩
                  · go_wp2_with fail
                    go_meet
                    exact ⟨rfl, rfl⟩
                case rest =>
                  obtain ⟨rfl, rfl⟩ := hcut
                  go_wp2_with (at_builtin; refine wpl_app3 rfl _ _ rfl rfl rfl ROW.out TRN.out (by have := HAL.out; omega) hsz2 ?_; intro ad8 c8 w8 h8 g8; have P8 := (APP.out w8 _ g8 h8).1; have y2 := (ElB.cells P8).2.2.1; have y3 := ElB.free P8 2)
                  have ET8 := hid (APP.out w8 _ g8 h8).2
                  clear h8 g8 P8 y2 y3 APP ROW TRN hsz2
                  go_roundw
                  case rel => exact ⟨j + 1, acc ++ [(at1, t2, t3)], _, ok && is, by go_num, by omega, by rw [HOK.out], ET8.out, HX2, by rw [List.length_append, List.length_singleton]; omega⟩
                  case measure => simp [intOf]; omega
    · obtain rfl : j = l.length := by omega
      have HX := hid (show attB OW l [] = (acc, ok) by rw [hatt.out, List.drop_length]; simp [attB])
      clear hatt hlt hj
      have HYN := hid (show bd = true ∨ (sp2 && ok) = false → R = none from fun h => by
        cases hbb : bad with
        | true => exact HYES.out hbb
        | false =>
          rw [(HNO.out hbb).1]
          refine elmR_no HOWN.out ?_
          rw [← HSP.out, HX.out]
          have hB := HBD.out
          rw [hbb, Bool.false_or] at hB
          show (bindOk l && (sp2 && ok)) = false
          rcases h with h | h
          · rw [h] at hB
            cases hb : bindOk l with
            | false => rfl
            | true => rw [hb] at hB; cases hB
          · rw [h, Bool.and_false])
      have HYY := hid (show bd = false → (sp2 && ok) = true → bad = false ∧ R = (if emp then some (⟨sp1, f2, acc, [], .nil⟩, r', cnt + 1, FB) else inL m r' ⟨f1, f2, sp1, acc, [], .nil, OW⟩ deep (cnt + 1) FB) from fun h1 h2 => by
        have hB := HBD.out
        rw [h1] at hB
        cases hbb : bad with
        | true => rw [hbb] at hB; cases hB
        | false =>
          rw [hbb, Bool.false_or] at hB
          refine ⟨rfl, ?_⟩
          rw [(HNO.out hbb).1, elmR_yes HOWN.out (by
            rw [← HSP.out, HX.out]
            show (bindOk l && (sp2 && ok)) = true
            rw [h2, Bool.and_true]
            cases hb : bindOk l with
            | true => rfl
            | false => rw [hb] at hB; cases hB), ← HSP.out, HX.out, ← HFB.out])
      obtain ⟨c2, c3, c4, p2, p3, p4⟩ := ET2.out.st.dc.cells
      obtain ⟨o1, ho1⟩ : ∃ o1, o1 = (sp2 && ok) := ⟨_, rfl⟩
      rw [← ho1] at HYN HYY ⊢
      clear ho1 HBD HX HSP HOWN HSPC
      go_upto_region 34 with fail
      go_cut [10] (fun v10 wx => v10 = .bool emp ∧ ET w1 wx b S r' ((cnt : Int) + 1) (bd || !o1) FB (.slice va l.length vc) l (.slice oa own.length oc) own eb sp1 f2 (.slice aa acc.length ac) acc)
      case first =>
        clear HYN HYY
        cases bd
        · go_wp2_with fail
          go_meet
          exact ⟨rfl, ET2.out.setBad (!o1)⟩
        · go_wp2_with fail
          go_meet
          exact ⟨rfl, ET2.out.setBad true⟩
      case rest =>
        obtain ⟨rfl, het⟩ := hcut
        obtain ⟨b3, hb3'⟩ : ∃ b3, b3 = (bd || !o1) := ⟨_, rfl⟩
        rw [← hb3'] at het
        have HRN := hid (show b3 = true → R = none from fun h => HYN.out (by rw [h] at hb3'; cases bd <;> cases o1 <;> simp at hb3' ⊢))
        have HRY := hid (show b3 = false → bad = false ∧ R = (if emp then some (⟨sp1, f2, acc, [], .nil⟩, r', cnt + 1, FB) else inL m r' ⟨f1, f2, sp1, acc, [], .nil, OW⟩ deep (cnt + 1) FB) from fun h => HYY.out (by rw [h] at hb3'; cases bd <;> cases o1 <;> simp at hb3' ⊢) (by rw [h] at hb3'; cases bd <;> cases o1 <;> simp at hb3' ⊢))
        have ET9 := hid het
        clear het hb3' HYN HYY ET2 c2 c3 c4 p2 p3 p4
        have HAO := hid (ats_of_own ET9.out.att (Nat.le_refl _))
        obtain ⟨s0, s1, s2, s3, s4⟩ := ET9.out.blk.cells
        have hcc : ((cnt + 1 : Nat) : Int) = (cnt : Int) + 1 := by omega
        rename_i hx6 hx5 hx4 hx3 hx2 hx1 ha0
        refine ha0 _ _ ?_
        clear ha0
        try clear hx1
        try clear hx2
        try clear hx3
        try clear hx4
        try clear hx5
        try clear hx6
        cases emp
        rotate_left
        · have T9 := hid (show wc.heap[w.heap.size]? = some (.cells #[.string ⟨#[]⟩, .string ⟨#[]⟩, .slice none 0 0, .string ⟨#[]⟩, .slice none 0 0] 25 (0, 0)) from HBN.out wc ET9.out.st.gr)
          have HBK := hid (show wc.heap[eb]? = some (.cells #[.string ⟨sp1.toArray⟩, .string ⟨f2.toArray⟩, .slice aa acc.length ac, .string ⟨#[]⟩, .slice none 0 0] 25 (0, 0)) from ET9.out.blk)
          have HCC := hid hcc
          clear hcc T1 HBN HIN HBAD s0 s1 s2 s3 s4
          have h15 := hid (show (#[.string ⟨sp1.toArray⟩, .string ⟨f2.toArray⟩, .slice aa acc.length ac, .string ⟨#[]⟩, .slice none 0 0] : Array Value).all (·.oneCell') = true from five_one sp1 f2 [] aa none acc.length ac 0 0)
          go_upto_region 36 with fail
          refine wp_region_lit ?_
          refine wpList_load_row rfl 25 (.tmp 13) rfl eb rfl 25 #[.string ⟨sp1.toArray⟩, .string ⟨f2.toArray⟩, .slice aa acc.length ac, .string ⟨#[]⟩, .slice none 0 0] (0, 0) _ HBK.out Tryz.underlying25 rfl (five_size _ _ _ _ _) ?_
          refine wpList_store_row (o := ⟨none, _, _, _, _, _⟩) rfl 25 (.tmp 6) (.tmp 234) rfl w.heap.size #[.string ⟨sp1.toArray⟩, .string ⟨f2.toArray⟩, .slice aa acc.length ac, .string ⟨#[]⟩, .slice none 0 0] (by rfl) (by rfl) 25 _ T9.out (five_size _ _ _ _ _) rfl h15.out ?_
          simp only [wpList, Exit.then]
          rename_i hK
          refine hK _ _ ?_
          clear hK
          refine wp_ret ?_
          simp only [Exit.then]
          refine bodyPost_ret (v := .agg #[.string ⟨sp1.toArray⟩, .string ⟨f2.toArray⟩, .slice aa acc.length ac, .string ⟨#[]⟩, .slice none 0 0]) ?_ ?_ ?_
          rotate_left
          · rfl
          rotate_left
          · exact results_cell_row rfl _ _ w.heap.size 25 #[.string ⟨sp1.toArray⟩, .string ⟨f2.toArray⟩, .slice aa acc.length ac, .string ⟨#[]⟩, .slice none 0 0] (0, 0) _ rfl (setRow_heap _ _ _ _ _ _ T9.out) Tryz.underlying25 rfl (five_size _ _ _ _ _)
          cases b3
          · have HRE := (HRY.out rfl).2
            rw [if_pos rfl] at HRE
            have hd9 := ET9.out.st.dc
            rw [← HCC.out] at hd9
            exact re_some5 (x := (⟨sp1, f2, acc, [], .nil⟩, r', cnt + 1, FB)) HRE G1.out HSZ.out ET9.out.st.gr hd9 HBL.out HAO.out ⟨none, 0, rfl, fun hl => by simp [Fo.len] at hl⟩ _
          · exact re_none5 (s := sp1) (n := f2) (tx := []) (HRN.out rfl) G1.out ET9.out.st.gr ET9.out.st.dc HBL.out _
        · have hszc := ET9.out.st.gr.size
          have CALLU : Hid (Calls Tryz.prog 124 #[.pointer (some ⟨b, 0, none⟩), .agg #[.string ⟨sp1.toArray⟩, .string ⟨f2.toArray⟩, .slice aa acc.length ac, .string ⟨#[]⟩, .slice none 0 0], .slice oa own.length oc, .int .i64 (deep : Int), .string ⟨f1.toArray⟩] wc fun e w' => ∃ (s' n' tx' : Bs) (a1 a2 : Option Addr) (l1 l2 l3 l4 : Nat), e = .returned (.agg #[.string ⟨s'.toArray⟩, .string ⟨n'.toArray⟩, .slice a1 l1 l2, .string ⟨tx'.toArray⟩, .slice a2 l3 l4]) ∧ w1.grownBy w' (some b) ∧
              ((∃ x, R = some x ∧ s' = x.1.s ∧ n' = x.1.n ∧ tx' = x.1.tx ∧ DcR w' b S x.2.1 (x.2.2.1 : Int) false x.2.2.2 ∧ AtsAt w' (· < w1.heap.size) (.slice a1 l1 l2) x.1.ats ∧ KidV w' (· < w1.heap.size) (.slice a2 l3 l4) x.1.kids) ∨ (R = none ∧ ∃ r2 cnt2 full2, DcR w' b S r2 cnt2 true full2))) := by
            cases b3
            · obtain ⟨hbf, hre⟩ := HRY.out rfl
              have HRE := hid (show R = inL m r' ⟨f1, f2, sp1, acc, [], .nil, OW⟩ deep (cnt + 1) FB from hre)
              have hnn := (HNO.out hbf).2
              have hd9 := ET9.out.st.dc
              rw [← hcc] at hd9
              have CALL := HIN.out m wc b w1.heap.size S r' f1 f2 sp1 acc (.slice aa acc.length ac) own (.slice oa own.length oc) deep (cnt + 1) FB HM.out.1 (by have := HM.out; omega) hd9 HBL1.out hszc (by have := HNUM.out; omega) HAO.out (bn_of_own ET9.out.st.own) hop (by have := HNUM.out; omega) (by have := HNUM.out; omega) (by have := HNUM.out; omega)
              rw [← HOW.out, ← HRE.out] at CALL
              refine hid (CALL.mono ?_)
              rintro e w9 ⟨g9, h9⟩
              rcases h9 with ⟨x, av, kv, hx, rfl, hd10, ha10, hk10⟩ | ⟨hx, s', n', tx', a1, a2, l1, l2, l3, l4, r2, cnt2, full2, rfl, hd10⟩
              · have ha11 := ha10
                have hk11 := hk10
                obtain ⟨xa, xc, rfl, -⟩ := ha11
                obtain ⟨ya, yc, rfl, -⟩ := hk11
                exact ⟨x.1.s, x.1.n, x.1.tx, xa, ya, _, xc, _, yc, rfl, gr_trans ET9.out.st.gr g9, .inl ⟨x, hx, rfl, rfl, rfl, hd10, ha10, hk10⟩⟩
              · exact ⟨s', n', tx', a1, a2, l1, l2, l3, l4, rfl, gr_trans ET9.out.st.gr g9, .inr ⟨hx, r2, cnt2, full2, hd10⟩⟩
            · have CALL := HBAD.out wc b w1.heap.size S r' f1 f2 sp1 aa acc.length ac (.slice oa own.length oc) deep _ FB ET9.out.st.dc HBL1.out hszc
              refine hid (CALL.mono ?_)
              rintro e w9 ⟨g9, h9⟩
              rcases h9 with ⟨x, av, kv, hx, -⟩ | ⟨hx, s', n', tx', a1, a2, l1, l2, l3, l4, r2, cnt2, full2, rfl, hd10⟩
              · cases hx
              · exact ⟨s', n', tx', a1, a2, l1, l2, l3, l4, rfl, gr_trans ET9.out.st.gr g9, .inr ⟨HRN.out rfl, r2, cnt2, full2, hd10⟩⟩
          clear hcc HRY HRN HAO HIN HBAD hszc T1
          go_wp2_with fail
          refine CALLU.out.mono ?_
          rintro e w9 ⟨s', n', tx', a1, a2, l1, l2, l3, l4, rfl, g9, h9⟩
          have T9 := hid (show w9.heap[w.heap.size]? = some (.cells #[.string ⟨#[]⟩, .string ⟨#[]⟩, .slice none 0 0, .string ⟨#[]⟩, .slice none 0 0] 25 (0, 0)) from HBN.out w9 g9)
          have G9 := hid g9
          have H9 := hid h9
          clear HBN CALLU s0 s1 s2 s3 s4 ET9 g9 h9
          have h15 := hid (five_one s' n' tx' a1 a2 l1 l2 l3 l4)
          rename_i hK
          refine hK _ _ ?_
          clear hK
          refine wpList_store_row (o := ⟨none, _, _, _, _, _⟩) rfl 25 (.tmp 6) (.tmp 240) rfl w.heap.size #[.string ⟨s'.toArray⟩, .string ⟨n'.toArray⟩, .slice a1 l1 l2, .string ⟨tx'.toArray⟩, .slice a2 l3 l4] (by rfl) (by rfl) 25 _ T9.out (five_size _ _ _ _ _) rfl h15.out ?_
          simp only [wpList, Exit.then]
          rename_i hKa hKb
          first
            | refine hKb _ _ ?_
            | refine hKa _ _ ?_
          refine wp_ret ?_
          try simp only [Exit.then]
          refine bodyPost_ret (v := .agg #[.string ⟨s'.toArray⟩, .string ⟨n'.toArray⟩, .slice a1 l1 l2, .string ⟨tx'.toArray⟩, .slice a2 l3 l4]) ?_ ?_ ?_
          rotate_left
          · rfl
          rotate_left
          · exact results_cell_row rfl _ _ w.heap.size 25 #[.string ⟨s'.toArray⟩, .string ⟨n'.toArray⟩, .slice a1 l1 l2, .string ⟨tx'.toArray⟩, .slice a2 l3 l4] (0, 0) _ rfl (setRow_heap _ _ _ _ _ _ T9.out) Tryz.underlying25 rfl (five_size _ _ _ _ _)
          rcases H9.out with ⟨x, hx, rfl, rfl, rfl, hd10, ha10, hk10⟩ | ⟨hx, r2, cnt2, full2, hd10⟩
          · exact re_some5 hx G1.out HSZ.out G9.out hd10 HBL.out ha10 hk10 _
          · exact re_none5 hx G1.out G9.out hd10 HBL.out _
end Go.Proofs.YtmofnoconhgjmaaGreatDoor
