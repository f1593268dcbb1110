/- ssdp.fields. -/
import Derived.Test.YtnapfecalckajaaDoorSs1
import Derived.Deep.DeepCutAuto
namespace Go.Proofs.YtnapfecalckajaaDoor
open Go.RowKit

def FieldsPost (w : World) (o : Option (List (List UInt8 × List UInt8))) (e : Ending) (w' : World) : Prop :=
  ∃ v, e = .returned (.tuple #[v, .bool o.isSome]) ∧ FsAt w' v (o.getD []) ∧ w.grownBy w' none
theorem fields_no {w w' : World} {o : Option (List (List UInt8 × List UInt8))} (h : o = none) (g : w.grownBy w' none) : FieldsPost w o (.returned (.tuple #[.slice none 0 0, .bool false])) w' := by
  subst h; exact ⟨_, rfl, FsAt.nil _, g⟩
/-- What holds at the head of the loop over lines. -/
def FlR (w0 : World) (tail : List (List UInt8)) (vo vi : Value) (wr : World) : Prop :=
  ∃ (k : Nat) (fs : List (List UInt8 × List UInt8)), vi = .int .i64 k ∧ k ≤ tail.length ∧ fieldsL (tail.take k) = some fs ∧ wr.ownsRow w0.heap.size 60 2 vo k (flatF fs) ∧ w0.grownBy wr none ∧ (k = 0 → vo = .slice none 0 0)
theorem ofPieces_no {ps : List (List UInt8)} (h : (stR (ps.headD [])).2.2.2 = false ∨ (stR (ps.headD [])).1 ≠ msearchT ∨ (stR (ps.headD [])).2.1 ≠ [42] ∨ (stR (ps.headD [])).2.2.1 ≠ 1) : ofPieces ps = none := by
  unfold ofPieces
  rw [if_neg]
  rintro ⟨a, b, c, d⟩
  rcases h with h | h | h | h
  · rw [h] at a; cases a
  · exact h b
  · exact h c
  · exact h d
set_option maxRecDepth 20000 in
set_option maxHeartbeats 4000000 in
theorem fields_any (t : List UInt8) (v : Value) (m : Int) (w : World) (hb : Bytes w v t) (hl : t.length ≤ 100000) (hm : w.cell? ⟨0, 0, none⟩ = some (.int .i64 m)) :
    Calls Tryd.prog 14 #[v] w (FieldsPost w (ssF t)) := by
  obtain ⟨a, c, rfl, h1, h2, h3⟩ := id hb
  have HB := hid hb
  have HM := hid hm
  obtain ⟨sf, hsf⟩ : ∃ sf, Lib.hasSuffix t crlf4 = sf := ⟨_, rfl⟩
  have HSF := hid hsf
  obtain ⟨body, hbody⟩ : ∃ b, Lib.trimSuffix t crlf4 = b := ⟨_, rfl⟩
  have HBO := hid hbody
  have HBL := hid (show body.length ≤ 100000 by rw [← hbody]; exact Nat.le_trans (trimSuffix_len t _) hl)
  have HCS := hid (Tryd.strings_CutSuffix ⟨t.toArray⟩ ⟨#[13, 10, 13, 10]⟩ w (by rw [Lib.size_eq]; simp; omega))
  obtain ⟨n, hn⟩ : ∃ n, n = t.length := ⟨_, rfl⟩
  rw [← hn] at h1 hl ⊢
  have HN := hid hn
  have HB2 := hid (show Bytes w (.slice a n c) t by rw [hn]; exact hb)
  clear hb hm hsf hbody h2 h3 hn
  go_enter Tryd.func14, Tryd.ntmps14
  go_wp2_with fail
  rw [run_b2s (l := t) Tryd.underlying29 Tryd.underlying5 Tryd.underlying9 (v := .slice a n c) HB2.out]
  unfold str
  go_wp2_with fail
  refine HCS.out.mono ?_
  rw [show ([13, 10, 13, 10] : List UInt8) = crlf4 from rfl, HBO.out, HSF.out]
  rintro e w1 ⟨rfl, rfl⟩
  cases sf with
  | false =>
    have HS := hid (show ssF t = none by unfold ssF; rw [HSF.out]; rfl)
    go_wp2
    go_ret2
    exact fields_no HS.out (gr_refl _ _)
  | true =>
    by_cases hbig : n ≤ 1024
    · have hbig' : (n : Int) ≤ 1024 := by omega
      have HS := hid (show ssF t = ofPieces (lns body) by unfold ssF; rw [if_pos ⟨HSF.out, by rw [← HN.out]; exact hbig⟩, HBO.out])
      obtain ⟨p0, tl, hps⟩ : ∃ p0 tl, lns body = p0 :: tl := by
        cases h : lns body with
        | nil => exact absurd h (lns_ne body)
        | cons p0 tl => exact ⟨p0, tl, rfl⟩
      have HSP := hid (split_crlf body m w1 HM.out HBL.out)
      have HL0 := hid (show p0.length ≤ 100000 from Nat.le_trans (lns_each body p0 (by rw [hps]; simp)) HBL.out)
      have HLT := hid (fun p hp => Nat.le_trans (lns_each body p (by rw [hps]; simp [hp])) HBL.out : ∀ p ∈ tl, p.length ≤ 100000)
      have HCT := hid (show tl.length ≤ 100000 from by have := lns_len body; rw [hps] at this; simp only [List.length_cons] at this; have := HBL.out; omega)
      have HPS := hid hps
      clear hps HCS HBO HBL
      go_wp2_with fail
      refine HSP.out.mono ?_
      rw [HPS.out]
      rintro e w2 ⟨rfl, h2⟩
      have hA : w2.heap[w1.heap.size]? = some (.cells ((p0 :: tl).map str).toArray 9 (0, 0)) := by rw [h2]; exact heap_alloc_new w1 _
      have g2 : w1.grownBy w2 none := by rw [h2]; exact World.grownBy_alloc w1 _ none
      have hc0 : w2.cell? ⟨w1.heap.size, 0, none⟩ = some (.string ⟨p0.toArray⟩) := (cell_of_block hA 0).trans rfl
      have HA := hid hA
      have G2 := hid g2
      have HM2 := hid (g2.cell HM.out (by simp))
      clear h2 hA g2 HSP
      obtain ⟨gb, hgb⟩ : ∃ x, x = w1.heap.size := ⟨_, rfl⟩
      rw [← hgb] at HA hc0 ⊢
      clear hgb
      obtain ⟨q, hq⟩ : ∃ q, q = (p0 :: tl).length := ⟨_, rfl⟩
      have hq1 : q = tl.length + 1 := by rw [hq]; rfl
      have hq2 : q ≤ 200000 := by have := HCT.out; omega
      have hq3 : 1 ≤ q := by omega
      rw [← hq]
      have HQ := hid hq1
      clear hq hq1
      go_wp2_with fail
      refine (start_any ⟨p0.toArray⟩ m w2 HM2.out (by rw [Lib.size_eq]; simp; have := HL0.out; omega)).mono ?_
      rintro e w3 ⟨rfl, g3⟩
      have G3 := hid (gr_trans G2.out g3)
      have HA3 := hid (gr_keep g3 HA.out (by simp))
      clear g3 hc0 HA G2 HM2
      rw [show (ByteArray.mk p0.toArray).data.toList = p0 from rfl]
      have HE := hid (show ssF t = ofPieces (p0 :: tl) by rw [HS.out, HPS.out])
      clear HS HPS
      obtain ⟨m1, t1, mi, ok, hst⟩ : ∃ m1 t1 mi ok, stR p0 = (m1, t1, mi, ok) := ⟨_, _, _, _, rfl⟩
      rw [hst]
      have HST := hid hst
      clear hst
      unfold str
      cases ok with
      | false =>
        have HS := hid (show ssF t = none by rw [HE.out]; exact ofPieces_no (.inl (by rw [List.headD_cons, HST.out])))
        go_wp2
        go_ret2
        exact fields_no HS.out G3.out
      | true =>
        by_cases hm1 : m1 = [77, 45, 83, 69, 65, 82, 67, 72]
        · by_cases ht1 : t1 = [42]
          · by_cases hmi : (mi != 1) = false
            · have hmi1 : mi = 1 := by simpa using hmi
              have HF := hid (show ssF t = fieldsL tl by
                rw [HE.out]; unfold ofPieces
                rw [List.headD_cons, HST.out, if_pos ⟨rfl, hm1, ht1, hmi1⟩]; rfl)
              clear hmi1 HE HST
              go_upto_region 8 with fail
              go_cut [52, 53, 54] (fun v52 v53 v54 wx => ∃ av cc, v52 = .slice av tl.length cc ∧ v53 = .int .i64 (tl.length : Int) ∧ v54 = .int .i64 0 ∧ (1 ≤ tl.length → av = some ⟨gb, 1, none⟩) ∧ w3 = wx)
              case first =>
                clear hm1 ht1 hmi
                by_cases hq1 : q = 1
                · go_wp2_with fail
                  go_meet
                  have e1 : tl.length = 0 := by have := HQ.out; omega
                  exact ⟨some ⟨gb, 0, none⟩, 0, by rw [e1], by rw [e1]; rfl, rfl, (fun h => by omega), rfl⟩
                · go_wp2_with fail
                  go_meet
                  have e1 : q - 1 = tl.length := by have := HQ.out; omega
                  exact ⟨_, _, by rw [e1], by rw [e1], rfl, (fun _ => rfl), rfl⟩
              case rest =>
                obtain ⟨av, cc, rfl, rfl, rfl, hav, rfl⟩ := hcut
                have HAV := hid hav
                clear hav hm1 ht1 hmi
                obtain ⟨i0, hi, hz0, hz1, hz2⟩ := info_parts infoField
                obtain ⟨n1, hn1⟩ : ∃ x, x = tl.length := ⟨_, rfl⟩
                rw [← hn1] at HAV HQ ⊢
                have HN1 := hid hn1
                have hn1c : n1 ≤ 100000 := by have := HCT.out; omega
                clear hn1
                go_wp2_with fail
                go_loopw [2, 54] (fun vo vi wr => FlR w3 tl vo vi wr) (fun _ vi _ => n1 - (intOf vi).toNat)
                case atStart => exact ⟨0, [], rfl, Nat.zero_le _, rfl, ⟨rfl, .inl ⟨rfl, rfl⟩⟩, gr_refl _ _, fun _ => rfl⟩
                case round =>
                  obtain ⟨k, fs, rfl, hk, hfs, how, gw, hk0⟩ := hrel
                  rw [← HN1.out] at hk
                  have HFS := hid hfs
                  have HK0 := hid hk0
                  clear hfs hk0
                  have hsz := gw.size
                  by_cases hkl : k < n1
                  · have hav := HAV.out (by omega)
                    subst hav
                    obtain ⟨x, htk⟩ : ∃ x, tl[k]? = some x := ⟨_, List.getElem?_eq_getElem (by rw [← HN1.out]; exact hkl)⟩
                    have HTK := hid htk
                    have HA4 := gr_keep gw HA3.out (by simp)
                    have hcell : wr.cell? ⟨gb, k + 1, none⟩ = some (.string ⟨x.toArray⟩) := (cell_of_block HA4 (k + 1)).trans (by simp [htk]; rfl)
                    rw [Nat.add_comm] at hcell
                    have htl : x.length ≤ 100000 := HLT.out x (List.mem_of_getElem? htk)
                    clear htk HA4
                    go_wp2_with fail
                    refine (line_any ⟨x.toArray⟩ wr (by rw [Lib.size_eq]; simp; omega)).mono ?_
                    rintro e w5 ⟨rfl, g5⟩
                    rw [show (ByteArray.mk x.toArray).data.toList = x from rfl]
                    have how5 := row_none how g5
                    have g05 := gr_trans gw g5
                    have hsz5 := g5.size
                    clear how gw g5 hcell htl
                    cases hgd : (lnR x).2.2
                    · have HS := hid (show ssF t = none by
                        rw [HF.out]
                        have hb := fieldsL_bad tl x (List.mem_of_getElem? HTK.out) hgd
                        cases hf : fieldsL tl with
                        | none => rfl
                        | some x => rw [hf] at hb; cases hb)
                      clear hgd
                      unfold str
                      generalize (lnR x).1 = fn1
                      generalize (lnR x).2.1 = fv1
                      have G5 := hid (gr_trans G3.out g05)
                      clear g05
                      go_wp2_with fail
                      go_ret2
                      exact fields_no HS.out (gr_alloc G5.out _)
                    · have HFN := hid (show fieldsL (tl.take (k + 1)) = some (fs ++ [((lnR x).1, (lnR x).2.1)]) by
                        rw [List.take_add_one, HTK.out]
                        exact fieldsL_snoc _ _ _ HFS.out hgd)
                      clear hgd HFS HTK
                      unfold str
                      generalize (lnR x).1 = fn1 at HFN ⊢
                      generalize (lnR x).2.1 = fv1 at HFN ⊢
                      go_wp2_with (at_builtin; refine wpList_append_own _ rfl _ _ 44 rfl w3.heap.size 60 i0 _ 2 32 Tryd.underlying44 hi hz0 hz1 hz2 rfl (by decide) _ _ _ rfl ((how5.alloc _).alloc _) ⟨w5.heap.size + 1, 0, none⟩ 1 1 [.string ⟨fn1.toArray⟩, .string ⟨fv1.toArray⟩] rfl rfl ?c1 ?c2 ?c3 ?c4 ?c5 ?_)
                      case c1 =>
                        intro j u hj
                        match j, hj with
                        | 0, hj => simp at hj; subst hj; simp [Addr.add]
                        | 1, hj => simp at hj; subst hj; simp [Addr.add]
                      case c2 => intro u hu; simp at hu; rcases hu with rfl | rfl <;> rfl
                      case c3 => unfold maxLen; omega
                      case c4 => omega
                      case c5 => simp; omega
                      · intro v' w6 hown' hgrow _
                        have hg' := gr_own (gr_alloc (gr_alloc g05 _) _) ((how5.alloc _).alloc _) (Nat.le_refl _) hgrow
                        clear hgrow how5 g05
                        go_wp2
                        go_roundw
                        case rel => exact ⟨k + 1, _, by go_num, by rw [← HN1.out]; omega, HFN.out, by rw [flatF_snoc]; exact hown', hg', fun h => by omega⟩
                        case measure => simp [intOf]; omega
                  · obtain rfl : k = n1 := by omega
                    have hfs := HFS.out
                    rw [List.take_of_length_le (by rw [← HN1.out]; exact Nat.le_refl _)] at hfs
                    have hlf : fs.length = k := by rw [fieldsL_len _ _ hfs, HN1.out]
                    have HFA := hid (fs_of_row (fs := fs) (by rw [hlf]; exact how) (fun h => HK0.out (by rw [← hlf, h]; rfl)))
                    have HS := hid (HF.out.trans hfs)
                    have G5 := hid (gr_trans G3.out gw)
                    clear hfs hlf gw how
                    go_wp2_with fail
                    go_ret2
                    exact ⟨_, by rw [HS.out]; rfl, by rw [HS.out]; exact HFA.out, G5.out⟩
            · have HS := hid (show ssF t = none by rw [HE.out]; exact ofPieces_no (.inr (.inr (.inr (by rw [List.headD_cons, HST.out]; simpa using hmi)))))
              have hmi' : (mi != 1) = true := by simpa using hmi
              clear hmi
              go_wp2
              go_ret2
              exact fields_no HS.out G3.out
          · have HS := hid (show ssF t = none by rw [HE.out]; exact ofPieces_no (.inr (.inr (.inl (by rw [List.headD_cons, HST.out]; exact ht1)))))
            go_wp2
            go_ret2
            exact fields_no HS.out G3.out
        · have HS := hid (show ssF t = none by rw [HE.out]; exact ofPieces_no (.inr (.inl (by rw [List.headD_cons, HST.out]; exact hm1))))
          go_wp2
          go_ret2
          exact fields_no HS.out G3.out
    · have HS := hid (show ssF t = none by unfold ssF; rw [if_neg (by rw [← HN.out]; exact fun e => hbig e.2)])
      have hbig' : ¬ (n : Int) ≤ 1024 := by omega
      go_wp2
      go_ret2
      exact fields_no HS.out (gr_refl _ _)
end Go.Proofs.YtnapfecalckajaaDoor
