/- hearthref17.Stands. -/
import Derived.Test.YtmofnoconhgjmaaGreatDoorMP
import Derived.Test.YtmofnoconhgjmaaGreatDoorXme
import Derived.Deep.DeepCutAuto
namespace Go.Proofs.YtmofnoconhgjmaaGreatDoor
open Go.RowKit
set_option linter.unusedVariables false
set_option linter.unusedSimpArgs false

theorem str_app (a b : Bs) : (ByteArray.mk a.toArray) ++ (ByteArray.mk b.toArray) = ⟨(a ++ b).toArray⟩ := by
  simp [ByteArray.ext_iff]
theorem drop_cons {s : Bs} {k : Nat} (h : k < s.length) : s.drop k = s.getD k 0 :: s.drop (k + 1) := by
  rw [List.drop_eq_getElem_cons h, List.getD_eq_getElem?_getD, List.getElem?_eq_getElem h]; rfl
theorem pre_at (t : Bs) (q : UInt8) (m : Nat) : Lib.hasPrefix (t.drop m) [q] = (decide (m < t.length) && (q == t.getD m 0)) := by
  by_cases h : m < t.length
  · rw [drop_cons h, pre_one, decide_eq_true h]; simp
  · rw [List.drop_eq_nil_of_le (by omega), decide_eq_false h]; rfl
theorem cut_semi (t : Bs) (q : UInt8) (j : Nat) (hj : j < t.length) (h : (t.take j).all (fun c => !(q == c)) = true) (hq : t.getD j 0 = q) : Lib.cut t [q] = (t.take j, t.drop (j + 1), true) := by
  refine cut_at t [q] j (by omega) (fun m hm => ?_) ?_
  · rw [pre_at]
    rw [List.all_eq_true] at h
    have : t.getD m 0 ∈ t.take j := by
      rw [List.getD_eq_getElem?_getD, List.getElem?_eq_getElem (by omega)]
      exact List.mem_take_iff_getElem.2 ⟨m, by omega, rfl⟩
    have := h _ this
    simp only [Bool.not_eq_true'] at this
    rw [this]; simp
  · rw [pre_at, hq, decide_eq_true hj]; simp
theorem cut_none (t : Bs) (q : UInt8) (h : t.all (fun c => !(q == c)) = true) : Lib.cut t [q] = (t, [], false) := by
  refine cut_no t [q] (fun m hm => ?_)
  rw [pre_at]
  by_cases hl : m < t.length
  · rw [List.all_eq_true] at h
    have : t.getD m 0 ∈ t := by
      rw [List.getD_eq_getElem?_getD, List.getElem?_eq_getElem hl]
      exact List.getElem_mem _
    have := h _ this
    simp only [Bool.not_eq_true'] at this
    rw [this]; simp
  · rw [decide_eq_false hl]; rfl
theorem names_cell (w : World) (m : Nat) (hm : m < 5) : ((w.alloc (.cells #[.string ⟨#[108, 116]⟩, .string ⟨#[103, 116]⟩, .string ⟨#[97, 109, 112]⟩, .string ⟨#[113, 117, 111, 116]⟩, .string ⟨#[97, 112, 111, 115]⟩] 9)).alloc (.cells #[.string ⟨#[60]⟩, .string ⟨#[62]⟩, .string ⟨#[38]⟩, .string ⟨#[34]⟩, .string ⟨#[39]⟩] 9)).cell? ⟨w.heap.size, m, none⟩ = some (.string ⟨(entN.getD m []).toArray⟩) := by
  have h := gr_keep (gr_alloc (gr_refl (w.alloc (.cells #[.string ⟨#[108, 116]⟩, .string ⟨#[103, 116]⟩, .string ⟨#[97, 109, 112]⟩, .string ⟨#[113, 117, 111, 116]⟩, .string ⟨#[97, 112, 111, 115]⟩] 9)) none) (.cells #[.string ⟨#[60]⟩, .string ⟨#[62]⟩, .string ⟨#[38]⟩, .string ⟨#[34]⟩, .string ⟨#[39]⟩] 9)) (heap_alloc_new w _) (by simp)
  rw [cell_of_block h]
  match m, hm with
  | 0, _ => rfl
  | 1, _ => rfl
  | 2, _ => rfl
  | 3, _ => rfl
  | 4, _ => rfl
theorem chars_cell (w : World) (m : Nat) (hm : m < 5) : ((w.alloc (.cells #[.string ⟨#[108, 116]⟩, .string ⟨#[103, 116]⟩, .string ⟨#[97, 109, 112]⟩, .string ⟨#[113, 117, 111, 116]⟩, .string ⟨#[97, 112, 111, 115]⟩] 9)).alloc (.cells #[.string ⟨#[60]⟩, .string ⟨#[62]⟩, .string ⟨#[38]⟩, .string ⟨#[34]⟩, .string ⟨#[39]⟩] 9)).cell? ⟨w.heap.size + 1, m, none⟩ = some (.string ⟨(entC.getD m []).toArray⟩) := by
  have h := heap_alloc_new (w.alloc (.cells #[.string ⟨#[108, 116]⟩, .string ⟨#[103, 116]⟩, .string ⟨#[97, 109, 112]⟩, .string ⟨#[113, 117, 111, 116]⟩, .string ⟨#[97, 112, 111, 115]⟩] 9)) (.cells #[.string ⟨#[60]⟩, .string ⟨#[62]⟩, .string ⟨#[38]⟩, .string ⟨#[34]⟩, .string ⟨#[39]⟩] 9)
  rw [show (w.alloc (.cells #[.string ⟨#[108, 116]⟩, .string ⟨#[103, 116]⟩, .string ⟨#[97, 109, 112]⟩, .string ⟨#[113, 117, 111, 116]⟩, .string ⟨#[97, 112, 111, 115]⟩] 9)).heap.size = w.heap.size + 1 by simp] at h
  rw [cell_of_block h]
  match m, hm with
  | 0, _ => rfl
  | 1, _ => rfl
  | 2, _ => rfl
  | 3, _ => rfl
  | 4, _ => rfl
theorem entC_len (m : Nat) (hm : m < 5) : (entC.getD m []).length ≤ 1 := by
  match m, hm with
  | 0, _ => decide
  | 1, _ => decide
  | 2, _ => decide
  | 3, _ => decide
  | 4, _ => decide
set_option maxRecDepth 100000 in
set_option maxHeartbeats 20000000 in
theorem stands_r (s : Bs) (w : World) (hs : s.length ≤ 100000) : Calls Tryz.prog 195 #[.string ⟨s.toArray⟩] w (EntPost w (unescA s)) := by
  obtain ⟨R, hR⟩ : ∃ R, unescA s = R := ⟨_, rfl⟩
  rw [hR]
  have HR := hid hR
  clear hR
  go_enter Tryz.func195, Tryz.ntmps195
  go_wp2_with fail
  go_loopw [4, 5] (fun v4 v5 wr => ∃ (k : Nat) (out : Bs), v5 = .int .i64 (k : Int) ∧ v4 = .string ⟨out.toArray⟩ ∧ k ≤ s.length ∧ Hid ((unescA (s.drop k)).map (out ++ ·) = R) ∧ w.grownBy wr none ∧ out.length ≤ 5 * k) (fun _ v5 _ => s.length - (intOf v5).toNat)
  case atStart => exact ⟨0, [], rfl, rfl, by omega, by have := HR.out; rw [List.drop_zero, this]; simp [hid], gr_refl _ _, by simp⟩
  case round =>
    obtain ⟨k, out, rfl, rfl, hk, hun, gw, hol⟩ := hrel
    have hsz : (ByteArray.mk s.toArray).size = s.length := by rw [Lib.size_eq]
    by_cases hlt : k < s.length
    · have hc : (ByteArray.mk s.toArray)[k]'(by rw [hsz]; exact hlt) = s.getD k 0 := by rw [strAt]
      have hun' := hun.out
      rw [drop_cons hlt] at hun'
      have HUN := hid hun'
      clear hun hun'
      by_cases h38 : s.getD k 0 = 38
      · rw [h38] at hc HUN
        rw [unescA_amp] at HUN
        have hTl : (s.drop (k + 1)).length = s.length - (k + 1) := List.length_drop
        obtain ⟨T, hT⟩ : ∃ T, T = s.drop (k + 1) := ⟨_, rfl⟩
        rw [← hT] at HUN hTl
        have HT := hid hT
        clear h38 hT
        go_wp2_with fail
        go_loop [6] (fun v6 => ∃ J : Nat, v6 = .int .i64 (J : Int) ∧ k + 1 ≤ J ∧ J ≤ s.length ∧ Hid ((T.take (J - (k + 1))).all (fun c => !((59 : UInt8) == c)) = true)) (fun v6 => s.length - (intOf v6).toNat)
        case atStart => exact ⟨k + 1, by go_num, by omega, by omega, by rw [Nat.sub_self]; rfl⟩
        case round =>
          obtain ⟨J, rfl, hJ1, hJ2, hall⟩ := hrel
          by_cases hJ : J < s.length
          · have hcJ : (ByteArray.mk s.toArray)[J]'(by rw [hsz]; exact hJ) = T.getD (J - (k + 1)) 0 := by
              rw [strAt, HT.out]
              simp only [List.getD_eq_getElem?_getD, List.getElem?_drop]
              rw [show k + 1 + (J - (k + 1)) = J by omega]
            have hjl : J - (k + 1) < T.length := by omega
            by_cases h59 : T.getD (J - (k + 1)) 0 = 59
            · have HC := hid (cut_semi T 59 (J - (k + 1)) hjl hall.out h59)
              rw [h59] at hcJ
              have hun2 := HUN.out
              rw [HC.out] at hun2
              simp only [if_true] at hun2
              have hX : (ByteArray.mk s.toArray).extract (k + 1) J = ⟨(T.take (J - (k + 1))).toArray⟩ := by
                have := ext_at s (k + 1) (J - (k + 1))
                rw [← HT.out, show k + 1 + (J - (k + 1)) = J by omega] at this
                exact this
              have hWl : (T.take (J - (k + 1))).length ≤ 100000 := by rw [List.length_take]; omega
              have HD := hid (show T.drop (J - (k + 1) + 1) = s.drop (J + 1) by rw [HT.out, List.drop_drop]; congr 1; omega)
              rw [HD.out] at hun2
              generalize T.take (J - (k + 1)) = W at *
              have HUN2 := hid hun2
              clear hun2 HUN HC HD h59 hjl hall hTl HT hc
              have HNM := hid (fun W2 => rnumber_any ⟨(W.drop 2).toArray⟩ 16 1114111 W2 (by rw [Lib.size_eq]; simp; omega))
              rw [show (ByteArray.mk (W.drop 2).toArray).data.toList = W.drop 2 from rfl] at HNM
              have HND := hid (fun W2 => rnumber_any ⟨(W.drop 1).toArray⟩ 10 1114111 W2 (by rw [Lib.size_eq]; simp; omega))
              rw [show (ByteArray.mk (W.drop 1).toArray).data.toList = W.drop 1 from rfl] at HND
              go_wp2_with fail
              obtain ⟨w2, hw2⟩ : ∃ w2, w2 = ((wr.alloc (.cells #[.string ⟨#[108, 116]⟩, .string ⟨#[103, 116]⟩, .string ⟨#[97, 109, 112]⟩, .string ⟨#[113, 117, 111, 116]⟩, .string ⟨#[97, 112, 111, 115]⟩] 9)).alloc (.cells #[.string ⟨#[60]⟩, .string ⟨#[62]⟩, .string ⟨#[38]⟩, .string ⟨#[34]⟩, .string ⟨#[39]⟩] 9)) := ⟨_, rfl⟩
              rw [← hw2]
              have gw2 : w.grownBy w2 none := by rw [hw2]; exact gr_alloc (gr_alloc gw _) _
              have HCN : Hid (∀ m, m < 5 → w2.cell? ⟨wr.heap.size, m, none⟩ = some (.string ⟨(entN.getD m []).toArray⟩)) := hid (by
                intro m hm; subst hw2; exact names_cell wr m hm)
              have HCC : Hid (∀ m, m < 5 → w2.cell? ⟨wr.heap.size + 1, m, none⟩ = some (.string ⟨(entC.getD m []).toArray⟩)) := hid (by
                intro m hm; subst hw2; exact chars_cell wr m hm)
              obtain ⟨ga, hga⟩ : ∃ g, g = wr.heap.size := ⟨_, rfl⟩
              rw [← hga] at HCN HCC ⊢
              clear hw2 gw hga
              go_loop [4, 10, 11] (fun v4 v10 v11 => ∃ m : Nat, m ≤ 5 ∧ v11 = .int .i64 (m : Int) ∧ v10 = .bool (fndE W m) ∧ v4 = .string ⟨(out ++ chrE W m).toArray⟩) (fun _ _ v11 => 5 - (intOf v11).toNat)
              case atStart => exact ⟨0, by omega, rfl, rfl, by simp [chrE]⟩
              case round =>
                obtain ⟨m, hm, rfl, rfl, rfl⟩ := hrel
                by_cases hm5 : m < 5
                · have hf := hid (fndE_step W m hm5)
                  have hch := hid (chrE_step W m hm5)
                  have hcl := chrE_len W m
                  have cN := HCN.out m hm5
                  have cC := HCC.out m hm5
                  have hel1 := entC_len m hm5
                  obtain ⟨O, hO⟩ : ∃ O, O = out ++ chrE W m := ⟨_, rfl⟩
                  have hOl : O.length ≤ 600000 := by rw [hO, List.length_append]; omega
                  rw [← hO]
                  have HO := hid hO
                  obtain ⟨fm, hfm⟩ : ∃ fm, fm = fndE W m := ⟨_, rfl⟩
                  rw [← hfm]
                  have HFM := hid hfm
                  clear hO hfm hcl HUN2 hWl HNM HND HCN HCC
                  generalize entN.getD m [] = nm at *
                  generalize entC.getD m [] = cm at *
                  have hq9 : ¬ 9223372036854775807 < O.length + cm.length := by omega
                  by_cases hw : W = nm
                  · have HO2 : Hid ((ByteArray.mk O.toArray) ++ (ByteArray.mk cm.toArray) = ⟨(out ++ chrE W (m + 1)).toArray⟩) := hid (by
                      rw [str_app, hch.out, if_pos hw, HO.out, List.append_assoc])
                    have HF : Hid (fndE W (m + 1) = true) := hid (by rw [hf.out, decide_eq_true hw, Bool.or_true])
                    have hq : (W == nm) = true := by rw [beq_dec, decide_eq_true hw]
                    clear hf hch hw
                    go_wp2_with fail
                    go_round
                    case rel => exact ⟨m + 1, by omega, by go_num, by rw [HF.out], congrArg Value.string HO2.out⟩
                    case measure => simp [intOf]; omega
                  · have HO2 : Hid (O = out ++ chrE W (m + 1)) := hid (by
                      rw [hch.out, if_neg hw, HO.out, List.append_nil])
                    have HF : Hid (fndE W (m + 1) = fm) := hid (by rw [hf.out, decide_eq_false hw, Bool.or_false, HFM.out])
                    have hq : (W == nm) = false := by rw [beq_dec, decide_eq_false hw]
                    clear hf hch hw
                    go_wp2_with fail
                    go_round
                    case rel => exact ⟨m + 1, by omega, by go_num, by rw [HF.out], by rw [← HO2.out]⟩
                    case measure => simp [intOf]; omega
                · obtain rfl : m = 5 := by omega
                  clear hm hm5 HCN HCC
                  have hcl := chrE_len W 5
                  have hfo := ent_found W
                  have hfn := ent_not W
                  obtain ⟨fm, hfm⟩ : ∃ fm, fm = fndE W 5 := ⟨_, rfl⟩
                  rw [← hfm] at hfo hfn ⊢
                  clear hfm
                  cases fm
                  · obtain ⟨hce, hen⟩ := hfn rfl
                    rw [hce, List.append_nil]
                    rw [hen] at HUN2
                    clear hce hen hfo hfn hcl
                    have hel := hid (numE_bd W)
                    obtain ⟨N, hN⟩ : ∃ N, N = numE W := ⟨_, rfl⟩
                    rw [← hN] at hel HUN2
                    have HN := hid (show N = if 2 < W.length ∧ W.take 2 = [35, 120] ∧ W.length ≤ 8 then numR 16 1114111 (W.drop 2) else if 1 < W.length ∧ W.getD 0 0 = 35 ∧ W.getD 1 0 ≠ 120 then numR 10 1114111 (W.drop 1) else (0, false) from hN)
                    clear hN
                    go_upto_region 24 with fail
                    go_cut [86] (fun v86 wx => v86 = .bool (decide (2 < W.length ∧ W.take 2 = [35, 120] ∧ W.length ≤ 8)) ∧ w2 = wx)
                    case first =>
                      clear HN HNM HND HUN2 hel
                      by_cases a1 : 2 < W.length
                      · have a1' : (2 : Int) < (W.length : Int) := by omega
                        have hx2 : ((ByteArray.mk W.toArray).extract 0 2).toList = W.take 2 := by rw [ext_list]; rfl
                        by_cases a2 : W.take 2 = [35, 120]
                        · have q2 : (((ByteArray.mk W.toArray).extract 0 2).toList == [35, 120]) = true := by rw [hx2, a2]; rfl
                          have Q := hid (show decide (2 < W.length ∧ W.take 2 = [35, 120] ∧ W.length ≤ 8) = decide (W.length ≤ 8) from decide_eq_decide.2 ⟨fun h => h.2.2, fun h => ⟨a1, a2, h⟩⟩)
                          have a3' : decide ((W.length : Int) ≤ 8) = decide (W.length ≤ 8) := decide_eq_decide.2 (by omega)
                          generalize decide (W.length ≤ 8) = p3 at *
                          clear a2 hx2
                          go_wp2_with fail
                          go_meet
                          exact ⟨by rw [Q.out], rfl⟩
                        · have q2 : (((ByteArray.mk W.toArray).extract 0 2).toList == [35, 120]) = false := by rw [hx2, beq_dec, decide_eq_false a2]
                          have Q := hid (decide_eq_false (show ¬ (2 < W.length ∧ W.take 2 = [35, 120] ∧ W.length ≤ 8) from fun h => a2 h.2.1))
                          clear a2 hx2
                          go_wp2_with fail
                          go_meet
                          exact ⟨by rw [Q.out], rfl⟩
                      · have a1' : ¬ (2 : Int) < (W.length : Int) := by omega
                        have Q := hid (decide_eq_false (show ¬ (2 < W.length ∧ W.take 2 = [35, 120] ∧ W.length ≤ 8) from fun h => a1 h.1))
                        go_wp2_with fail
                        go_meet
                        exact ⟨by rw [Q.out], rfl⟩
                    case rest =>
                      obtain ⟨rfl, rfl⟩ := hcut
                      go_upto_if 86 with fail
                      go_cut [12, 13] (fun v12 v13 wx => v12 = .int .i64 N.1 ∧ v13 = .bool N.2 ∧ w.grownBy wx none)
                      case first =>
                        clear HUN2 hel
                        by_cases hA : 2 < W.length ∧ W.take 2 = [35, 120] ∧ W.length ≤ 8
                        · rw [decide_eq_true hA]
                          have HNA := hid (show N = numR 16 1114111 (W.drop 2) by rw [HN.out, if_pos hA])
                          rw [← HNA.out] at HNM
                          have hA1 : 2 < W.length := hA.1
                          have hA2 : (2 : Int) ≤ (W.length : Int) := by omega
                          clear HNA hA HN HND
                          obtain ⟨n, ok⟩ := N
                          go_wp2_with fail
                          rw [ext_drop]
                          refine (HNM.out _).mono ?_
                          rintro e w3 ⟨rfl, g3⟩
                          have gw3 := gr_trans gw2 g3
                          clear g3 gw2 HNM
                          go_wp2_with fail
                          go_meet
                          exact ⟨rfl, rfl, gw3⟩
                        · rw [decide_eq_false hA]
                          have HN2 := hid (show N = if 1 < W.length ∧ W.getD 0 0 = 35 ∧ W.getD 1 0 ≠ 120 then numR 10 1114111 (W.drop 1) else (0, false) by rw [HN.out, if_neg hA])
                          clear hA HN HNM
                          have hszW : (ByteArray.mk W.toArray).size = W.length := by rw [Lib.size_eq]
                          by_cases b1 : 1 < W.length
                          · have b1' : (1 : Int) < (W.length : Int) := by omega
                            have b1'' : (1 : Int) ≤ (W.length : Int) := by omega
                            have hc0 : (ByteArray.mk W.toArray)[0]'(by rw [hszW]; omega) = W.getD 0 0 := by rw [strAt]
                            have hc1 : (ByteArray.mk W.toArray)[1]'(by rw [hszW]; exact b1) = W.getD 1 0 := by rw [strAt]
                            by_cases b2 : W.getD 0 0 = 35
                            · by_cases b3 : W.getD 1 0 ≠ 120
                              · have HN3 := hid (show N = numR 10 1114111 (W.drop 1) by rw [HN2.out, if_pos ⟨b1, b2, b3⟩])
                                rw [← HN3.out] at HND
                                rw [b2] at hc0
                                have b3' : ((W.getD 1 0).toNat : Int) ≠ 120 := fun e => b3 (UInt8.toNat_inj.1 (by simpa using (show (W.getD 1 0).toNat = 120 by omega)))
                                have b4 : (((W.getD 1 0).toNat : Int) != 120) = true := by simpa using b3'
                                clear b2 b3 b3' HN2 HN3
                                obtain ⟨c1, hc1e⟩ : ∃ c1, c1 = W.getD 1 0 := ⟨_, rfl⟩
                                rw [← hc1e] at hc1 b4
                                have HC1 := hid hc1e
                                clear hc1e
                                obtain ⟨n, ok⟩ := N
                                go_wp2_with fail
                                rw [ext_drop]
                                refine (HND.out _).mono ?_
                                rintro e w3 ⟨rfl, g3⟩
                                have gw3 := gr_trans gw2 g3
                                clear g3 gw2 HND
                                go_wp2_with fail
                                go_meet
                                exact ⟨rfl, rfl, gw3⟩
                              · have b3' : W.getD 1 0 = 120 := Decidable.not_not.1 b3
                                obtain rfl : N = (0, false) := by rw [HN2.out, if_neg (fun h => h.2.2 b3')]
                                rw [b2] at hc0
                                rw [b3'] at hc1
                                clear b2 b3 b3' HN2 HND
                                go_wp2_with fail
                                go_meet
                                exact ⟨rfl, rfl, gw2⟩
                            · obtain rfl : N = (0, false) := by rw [HN2.out, if_neg (fun h => b2 h.2.1)]
                              have b3' : ((W.getD 0 0).toNat : Int) ≠ 35 := fun e => b2 (UInt8.toNat_inj.1 (by simpa using (show (W.getD 0 0).toNat = 35 by omega)))
                              have b4 : (((W.getD 0 0).toNat : Int) == 35) = false := by simpa using b3'
                              clear b2 b3' HN2 HND
                              obtain ⟨c1, hc1e⟩ : ∃ c1, c1 = W.getD 0 0 := ⟨_, rfl⟩
                              rw [← hc1e] at hc0 b4
                              have HC1 := hid hc1e
                              clear hc1e hc1
                              go_wp2_with fail
                              go_meet
                              exact ⟨rfl, rfl, gw2⟩
                          · obtain rfl : N = (0, false) := by rw [HN2.out, if_neg (fun h => b1 h.1)]
                            have b1' : ¬ (1 : Int) < (W.length : Int) := by omega
                            clear HN2 HND
                            go_wp2_with fail
                            go_meet
                            exact ⟨rfl, rfl, gw2⟩
                      case rest =>
                        obtain ⟨rfl, rfl, gw3⟩ := hcut
                        obtain ⟨n, ok⟩ := N
                        clear HN HNM HND gw2
                        cases ok
                        · have HE := hid (show R = none by rw [← HUN2.out, chrO_no]; rfl)
                          go_wp2
                          ((try simp only [Exit.inBlock, Exit.then]); refine bodyPost_ret (results_tmp2 rfl _ _ _) rfl ?_)
                          rw [HE.out]
                          exact ⟨rfl, gw3⟩
                        · obtain ⟨n0, n1⟩ := hel.out
                          go_upto_region 28 with fail
                          go_cut [145] (fun v145 wx => v145 = .bool (!decide (charP n)) ∧ wc = wx)
                          case first =>
                            have FIN := hid (fun (q : Bool) (hq : q = true ↔ ¬ charP n) => (show q = !decide (charP n) by rw [Bool.eq_iff_iff, hq]; simp))
                            clear HUN2 hel
                            by_cases e9 : n = 9
                            · subst e9
                              go_wp2
                              go_meet
                              exact ⟨congrArg Value.bool (FIN.out _ (by decide)), rfl⟩
                            by_cases e10 : n = 10
                            · subst e10
                              go_wp2
                              go_meet
                              exact ⟨congrArg Value.bool (FIN.out _ (by decide)), rfl⟩
                            by_cases e13 : n = 13
                            · subst e13
                              go_wp2
                              go_meet
                              exact ⟨congrArg Value.bool (FIN.out _ (by decide)), rfl⟩
                            have q9 : (n != 9) = true := by simpa using e9
                            have q10 : (n != 10) = true := by simpa using e10
                            have q13 : (n != 13) = true := by simpa using e13
                            clear e9 e10 e13
                            go_wp2
                            all_goals
                              go_meet
                              refine ⟨congrArg Value.bool (FIN.out _ ?_), rfl⟩
                              unfold charP
                              simp only [Array.getD_eq_getD_getElem?, beq_iff_eq, bne_iff_ne, ne_eq, Bool.and_eq_true, Bool.or_eq_true, decide_eq_true_eq, true_iff, false_iff, Bool.false_eq_true]
                              simp only [bne_iff_ne, ne_eq] at q9 q10 q13
                              omega
                          case rest =>
                            obtain ⟨rfl, rfl⟩ := hcut
                            have HU := hid (fun W2 hc => utf_r n W2 n0 hc)
                            have hen := enc_len n
                            by_cases hc : charP n
                            · have HUT := hid (fun W2 => HU.out W2 hc)
                              rw [decide_eq_true hc]
                              have hch : chrO (n, true) = some (Lib.encodeRune n) := if_pos ⟨rfl, hc⟩
                              have HS := hid (show (unescA (s.drop (J + 1))).map ((out ++ Lib.encodeRune n) ++ ·) = R by
                                rw [← HUN2.out, hch]
                                simp only [Option.bind_some, Option.map_map]
                                refine congrArg (fun f => Option.map f (unescA (s.drop (J + 1)))) ?_
                                funext o; simp [Function.comp])
                              have HL := hid (show (out ++ Lib.encodeRune n).length ≤ 5 * (J + 1) by rw [List.length_append]; omega)
                              have hq9 : ¬ 9223372036854775807 < out.length + (Lib.encodeRune n).length := by omega
                              have HX := hid (str_app out (Lib.encodeRune n))
                              clear hc
                              generalize Lib.encodeRune n = E at *
                              clear hch HU HUN2 hen
                              go_wp2_with fail
                              refine (HUT.out _).mono ?_
                              rintro e w4 ⟨rfl, g4⟩
                              unfold str
                              have gw4 := gr_trans gw3 g4
                              clear g4 gw3 HUT
                              go_wp2
                              go_roundw
                              case rel => exact ⟨J + 1, out ++ E, by go_num, by rw [HX.out], by omega, HS, gw4, HL.out⟩
                              case measure => simp [intOf]; omega
                            · have HE := hid (show R = none by rw [← HUN2.out, show chrO (n, true) = none from if_neg (fun h => hc h.2)]; rfl)
                              rw [decide_eq_false hc]
                              clear hc hen HUN2
                              go_wp2
                              ((try simp only [Exit.inBlock, Exit.then]); refine bodyPost_ret (results_tmp2 rfl _ _ _) rfl ?_)
                              rw [HE.out]
                              exact ⟨rfl, gw3⟩
                  · have hen := hfo rfl
                    rw [hen] at HUN2
                    have HS := hid (show (unescA (s.drop (J + 1))).map ((out ++ chrE W 5) ++ ·) = R by
                      rw [← HUN2.out]
                      simp only [Option.bind_some, Option.map_map]
                      refine congrArg (fun f => Option.map f (unescA (s.drop (J + 1)))) ?_
                      funext o; simp [Function.comp])
                    have HL := hid (show (out ++ chrE W 5).length ≤ 5 * (J + 1) by rw [List.length_append]; omega)
                    generalize out ++ chrE W 5 = O at *
                    clear hen hfo hfn hcl HNM HND HUN2
                    go_wp2
                    go_roundw
                    case rel => exact ⟨J + 1, O, by go_num, rfl, by omega, HS, gw2, HL.out⟩
                    case measure => simp [intOf]; omega
            · have hb : ((T.getD (J - (k + 1)) 0).toNat : Int) ≠ 59 := fun e => h59 (UInt8.toNat_inj.1 (by simpa using (show (T.getD (J - (k + 1)) 0).toNat = 59 by omega)))
              have hb2 : (((T.getD (J - (k + 1)) 0).toNat : Int) != 59) = true := by simpa using hb
              have HN := hid (show (T.take (J + 1 - (k + 1))).all (fun c => !((59 : UInt8) == c)) = true by
                rw [show J + 1 - (k + 1) = J - (k + 1) + 1 by omega, xall_snoc T _ _ hjl, hall.out]
                simp only [Bool.true_and, Bool.not_eq_true', beq_eq_false_iff_ne]
                exact fun e => h59 e.symm)
              clear h59 hb hjl hall
              generalize T.getD (J - (k + 1)) 0 = c at *
              go_wp2
              go_round
              case rel => exact ⟨J + 1, by go_num, by omega, by omega, HN⟩
              case measure => simp [intOf]; omega
          · have HE := hid (show R = none by
              rw [← HUN.out, cut_none T 59 (by have := hall.out; rwa [List.take_of_length_le (by omega)] at this)]; rfl)
            have hJe : J = s.length := by omega
            subst hJe
            go_wp2
            ((try simp only [Exit.inBlock, Exit.then]); refine bodyPost_ret (results_tmp2 rfl _ _ _) rfl ?_)
            rw [HE.out]
            exact ⟨rfl, gw⟩
      · have hb : ((s.getD k 0).toNat : Int) ≠ 38 := fun e => h38 (UInt8.toNat_inj.1 (by simpa using (show (s.getD k 0).toNat = 38 by omega)))
        have hb2 : (((s.getD k 0).toNat : Int) != 38) = true := by simpa using hb
        have HS := hid (show (unescA (s.drop (k + 1))).map ((out ++ [s.getD k 0]) ++ ·) = R by
          rw [← HUN.out, unescA_char _ _ h38, Option.map_map]
          refine congrArg (fun f => Option.map f (unescA (s.drop (k + 1)))) ?_
          funext o; simp [Function.comp])
        have HX := hid (show (ByteArray.mk out.toArray) ++ (ByteArray.mk s.toArray).extract k (k + 1) = ⟨(out ++ [s.getD k 0]).toArray⟩ by
          rw [ext_at, drop_cons hlt]
          simp [ByteArray.ext_iff])
        clear h38 hb HUN
        generalize s.getD k 0 = c at *
        go_wp2
        go_roundw
        case rel => exact ⟨k + 1, out ++ [c], by go_num, by rw [HX.out], by omega, HS, gw, by rw [List.length_append, List.length_singleton]; omega⟩
        case measure => simp [intOf]; omega
    · have HE := hid (show R = some out by rw [← hun.out, List.drop_eq_nil_of_le (by omega), unescA_nil]; simp)
      go_wp2
      ((try simp only [Exit.inBlock, Exit.then]); refine bodyPost_ret (results_tmp2 rfl _ _ _) rfl ?_)
      rw [HE.out]
      exact ⟨rfl, gw⟩
end Go.Proofs.YtmofnoconhgjmaaGreatDoor
