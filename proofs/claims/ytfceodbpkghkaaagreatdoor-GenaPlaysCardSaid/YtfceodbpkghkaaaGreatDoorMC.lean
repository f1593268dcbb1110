/- Texts of one proof, put together: Gn2, Gn3. -/
import Derived.Test.YtfceodbpkghkaaaGreatDoorGt1
import Derived.Test.YtfceodbpkghkaaaGreatDoorMI
import Derived.BigQuiet
/- gena.Callback. -/
namespace Go.Proofs.YtfceodbpkghkaaaGreatDoor
open Go.RowKit
set_option linter.unusedVariables false
set_option linter.unusedSimpArgs false

theorem results_tmp4 {fn : Func} {t u v x : Tmp} (h : fn.results = #[.tmp t, .tmp u, .tmp v, .tmp x]) (tmps : Array Value) (P : Program) (w : World) :
    (results fn tmps).run P w = .ok (.tuple #[tmps.getD t undef, tmps.getD u undef, tmps.getD v undef, tmps.getD x undef]) w := by
  simp [results, h]
def cbV : Option (Nat × Nat × Gs) → Value
  | none => .tuple #[.int .u32 0, .int .u16 0, .string ⟨#[]⟩, .bool false]
  | some (h, p, t) => .tuple #[.int .u32 h, .int .u16 p, .string ⟨t.toArray⟩, .bool true]
theorem vnum_bd (m : Int) (d : Gs) (h : (vnum m d).2 = true) : (vnum m d).1 ≤ m := by
  unfold vnum at h ⊢
  split
  · rename_i hh; rw [if_pos hh] at h; cases h
  · rename_i hh
    rw [if_neg hh] at h
    generalize dgo 0 d = o at h ⊢
    cases o with
    | none => cases h
    | some n =>
      unfold dFin at h ⊢
      simp only at h ⊢
      split
      · rename_i hx; rw [if_pos hx] at h; cases h
      · omega
theorem gext_tw (q : UInt8) (a : Gs) (k : Nat) (hk : k = (tw q a).length) : (⟨a.toArray⟩ : ByteArray).extract 0 k = ⟨(tw q a).toArray⟩ := by
  have h : (⟨a.toArray⟩ : ByteArray).extract 0 k = ⟨(a.take k).toArray⟩ := by
    ext1
    simp [ByteArray.data_extract, List.extract_eq_take_drop]
  rw [h, hk]
  congr 2
  conv => lhs; arg 2; rw [← tw_dw q a]
  exact List.take_left
theorem gext_dw (q : UInt8) (a : Gs) (k n : Nat) (hk : k = (tw q a).length) (hn : n = a.length) : (⟨a.toArray⟩ : ByteArray).extract k n = ⟨(dw q a).toArray⟩ := by
  have h : (⟨a.toArray⟩ : ByteArray).extract k n = ⟨(a.drop k).toArray⟩ := by
    ext1
    simp [ByteArray.data_extract, List.extract_eq_take_drop, hn]
    exact List.take_of_length_le (by simp)
  rw [h, hk]
  congr 2
  conv => lhs; arg 2; rw [← tw_dw q a]
  exact List.drop_left
theorem gall_snoc (l : Gs) (p : UInt8 → Bool) (k : Nat) (hk : k < l.length) : (l.take (k + 1)).all p = ((l.take k).all p && p (l.getD k 0)) := by
  rw [List.take_succ_eq_append_getElem hk, List.all_append]
  rw [show l.getD k 0 = l[k] by rw [List.getD_eq_getElem?_getD, List.getElem?_eq_getElem hk]; rfl]
  simp
/-- The parts as the walk meets them. -/
def cbE (h : Nat) (nn : Int) (o : Bool) (t : Gs) : Option (Nat × Nat × Gs) := if o && t.all cbB && decide (t.length ≤ 256) then some (h, nn.toNat, t) else none
theorem cbA_none (nm tg : Gs) : cbA nm none tg = cbE (prsR nm).1 80 (prsR nm).2 tg := by
  unfold cbA cbE
  cases (prsR nm).2 <;> cases tg.all cbB <;> by_cases h : tg.length ≤ 256 <;> simp [h]
theorem cbA_some (nm d tg : Gs) : cbA nm (some d) tg = cbE (prsR nm).1 (vnum 65535 d).1 ((prsR nm).2 && (vnum 65535 d).2 && decide (0 < (vnum 65535 d).1)) tg := by
  unfold cbA cbE
  cases (prsR nm).2 <;> cases tg.all cbB <;> by_cases h : tg.length ≤ 256 <;> rcases Bool.eq_false_or_eq_true (vnum 65535 d).2 with h2 | h2 <;> by_cases h0 : 0 < (vnum 65535 d).1 <;> simp [h, h0, h2]
set_option maxHeartbeats 4000000 in
set_option maxRecDepth 20000 in
theorem callback_x (s : ByteArray) (m : Int) (w : World) (hm : Hid (MaxCell m w)) (h10 : Hid (P10 w)) (hs : s.size ≤ 2000) :
    Calls Tryz.prog 8 #[.string s] w fun e w' => e = .returned (cbV (cbL s.data.toList)) ∧ w.grownBy w' none := by
  obtain ⟨l, hl⟩ : ∃ l, l = s.data.toList := ⟨_, rfl⟩
  have hlen : s.size = l.length := by rw [hl, ← Lib.size_eq]
  have HP := Tryz.strings_CutPrefix s ⟨#[60, 104, 116, 116, 112, 58, 47, 47]⟩ w
  rw [← hl] at HP ⊢
  rw [show (⟨#[60, 104, 116, 116, 112, 58, 47, 47]⟩ : ByteArray).data.toList = hdH from rfl] at HP
  obtain ⟨p1, hp1⟩ : ∃ p, p = Lib.trimPrefix l hdH := ⟨_, rfl⟩
  obtain ⟨S1, hS1⟩ : ∃ S : ByteArray, S = ⟨p1.toArray⟩ := ⟨_, rfl⟩
  obtain ⟨b1, hb1⟩ : ∃ b, b = Lib.hasPrefix l hdH := ⟨_, rfl⟩
  have hp1l : p1.length ≤ l.length := by rw [hp1]; unfold Lib.trimPrefix; split <;> simp
  have hS1d : S1.data.toList = p1 := by rw [hS1]
  have hS1s : S1.size = p1.length := by rw [hS1]; exact Lib.size_eq _
  rw [← hp1, ← hb1, ← hS1] at HP
  have HC := fun w h => Tryz.strings_Cut S1 ⟨#[62]⟩ m w (by omega) h
  rw [hS1d, show (⟨#[62]⟩ : ByteArray).data.toList = [62] from rfl, cut_tw] at HC
  obtain ⟨a, ha⟩ : ∃ a, a = tw 62 p1 := ⟨_, rfl⟩
  obtain ⟨S2, hS2⟩ : ∃ S : ByteArray, S = ⟨a.toArray⟩ := ⟨_, rfl⟩
  obtain ⟨r2, hr2⟩ : ∃ r : ByteArray, r = ⟨(dw 62 p1).tail.toArray⟩ := ⟨_, rfl⟩
  obtain ⟨b2, hb2⟩ : ∃ b, b = p1.contains 62 := ⟨_, rfl⟩
  have hal : a.length ≤ l.length := by rw [ha]; have := tw_len 62 p1; omega
  have hS2d : S2.data.toList = a := by rw [hS2]
  have hS2s : S2.size = a.length := by rw [hS2]; exact Lib.size_eq _
  rw [← ha, ← hb2, ← hS2, ← hr2] at HC
  have HI := fun w => Tryz.strings_IndexByte S2 47 w
  rw [hS2d, show (47 : Int).toNat.toUInt8 = 47 from rfl, ib_tw] at HI
  have hL : cbL l = if b1 && b2 then cbW a else none := by
    unfold cbL
    rw [← hb1]
    cases b1
    · rfl
    · have : p1 = l.drop 8 := by rw [hp1]; unfold Lib.trimPrefix; rw [if_pos hb1.symm]; rfl
      rw [hb2, ha, this]
  have HS2 := hid hS2
  have HS2s := hid hS2s
  clear hb1 hb2 hp1 ha hS1 hr2 hS2 hS2s hS2d hS1d hS1s
  obtain ⟨iv, hiv⟩ : ∃ iv : Int, iv = if a.contains 47 = true then ((tw 47 a).length : Int) else -1 := ⟨_, rfl⟩
  rw [← hiv] at HI
  have HIV := hid hiv
  clear hiv
  have HL := hid hL
  have HP := hid HP
  have HC := hid HC
  have HI := hid HI
  clear hL hl
  go_enter Tryz.func8, Tryz.ntmps8
  go_wp2_with fail
  refine HP.out.mono ?_
  rintro e w ⟨rfl, rfl⟩
  go_wp2_with fail
  refine (HC.out _ hm.out).mono ?_
  rintro e w1 ⟨rfl, n1, e1⟩
  have G1 := hid (show w.grownBy w1 none by rw [e1]; exact gr_drewN n1 (gr_refl w none))
  clear e1
  go_wp2_with fail
  refine (HI.out w1).mono ?_
  rintro e w1 ⟨rfl, rfl⟩
  by_cases hb : (b1 && b2) = false
  · have R := hid (show cbL l = none by rw [HL.out, hb]; rfl)
    clear HL HP HC HI
    by_cases h1 : b1 = true
    · subst h1
      obtain rfl : b2 = false := by simpa using hb
      go_wp2
      ((try simp only [Exit.inBlock, Exit.then]); refine bodyPost_ret (results_tmp4 rfl _ _ _) rfl ?_)
      exact ⟨by rw [R.out]; rfl, G1.out⟩
    · obtain rfl : b1 = false := by simpa using h1
      go_wp2
      ((try simp only [Exit.inBlock, Exit.then]); refine bodyPost_ret (results_tmp4 rfl _ _ _) rfl ?_)
      exact ⟨by rw [R.out]; rfl, G1.out⟩
  obtain ⟨rfl, rfl⟩ : b1 = true ∧ b2 = true := by simpa using hb
  clear hb
  by_cases h47 : a.contains 47 = false
  · have R := hid (show cbL l = none by rw [HL.out]; unfold cbW; rw [h47]; rfl)
    obtain rfl : iv = -1 := by rw [HIV.out, h47]; rfl
    clear HL HP HC HI
    go_wp2
    ((try simp only [Exit.inBlock, Exit.then]); refine bodyPost_ret (results_tmp4 rfl _ _ _) rfl ?_)
    exact ⟨by rw [R.out]; rfl, G1.out⟩
  have h47 : a.contains 47 = true := by simpa using h47
  have R1 := hid (show cbL l = cbA (tw 58 (tw 47 a)) (if (tw 47 a).contains 58 then some (dw 58 (tw 47 a)).tail else none) (dw 47 a) by rw [HL.out]; unfold cbW; rw [if_pos h47]; rfl)
  obtain ⟨k, hk⟩ : ∃ k, k = (tw 47 a).length := ⟨_, rfl⟩
  obtain rfl : iv = (k : Int) := by rw [HIV.out, h47, if_pos rfl, hk]
  clear HIV
  obtain ⟨x, hx⟩ : ∃ x, x = tw 47 a := ⟨_, rfl⟩
  obtain ⟨t, ht⟩ : ∃ t, t = dw 47 a := ⟨_, rfl⟩
  obtain ⟨X, hX⟩ : ∃ S : ByteArray, S = ⟨x.toArray⟩ := ⟨_, rfl⟩
  obtain ⟨T, hT⟩ : ∃ S : ByteArray, S = ⟨t.toArray⟩ := ⟨_, rfl⟩
  have E1 := hid (show S2.extract 0 k = X by rw [HS2.out, hX, hx]; exact gext_tw 47 a k hk)
  have E2 := hid (show S2.extract k a.length = T by rw [HS2.out, hT, ht]; exact gext_dw 47 a k _ hk rfl)
  have hkl : k ≤ a.length := by rw [hk]; exact tw_len 47 a
  have hxl : x.length ≤ a.length := by rw [hx]; exact tw_len 47 a
  have htl : t.length ≤ a.length := by rw [ht]; exact dw_len 47 a
  rw [← hx, ← ht] at R1
  clear hk hx ht h47 HL HP HC HI
  have hXd : X.data.toList = x := by rw [hX]
  have hXs : X.size = x.length := by rw [hX]; exact Lib.size_eq _
  have hTd : T.data.toList = t := by rw [hT]
  have hTs : T.size = t.length := by rw [hT]; exact Lib.size_eq _
  have HC := fun w h => Tryz.strings_Cut X ⟨#[58]⟩ m w (by omega) h
  rw [hXd, show (⟨#[58]⟩ : ByteArray).data.toList = [58] from rfl, cut_tw] at HC
  obtain ⟨nm, hnm⟩ : ∃ a, a = tw 58 x := ⟨_, rfl⟩
  obtain ⟨d, hd⟩ : ∃ a, a = (dw 58 x).tail := ⟨_, rfl⟩
  obtain ⟨NM, hNM⟩ : ∃ S : ByteArray, S = ⟨nm.toArray⟩ := ⟨_, rfl⟩
  obtain ⟨D, hD⟩ : ∃ S : ByteArray, S = ⟨d.toArray⟩ := ⟨_, rfl⟩
  obtain ⟨b3, hb3⟩ : ∃ b, b = x.contains 58 := ⟨_, rfl⟩
  have hdl : d.length ≤ x.length := by rw [hd]; have := dw_len 58 x; simp; omega
  have hNMl : nm.length ≤ x.length := by rw [hnm]; exact tw_len 58 x
  rw [← hnm, ← hd, ← hb3] at R1 HC
  rw [← hNM, ← hD] at HC
  have hNMd : NM.data.toList = nm := by rw [hNM]
  have hDd : D.data.toList = d := by rw [hD]
  have hDs : D.size = d.length := by rw [hD]; exact Lib.size_eq _
  have HTE := hid hT
  clear hnm hd hb3 hNM hD hX hT
  have HPA := fun w h h' => parse_in NM m w h h'
  rw [parse_same, hNMd] at HPA
  have HNU := fun w => num_any D 65535 w (by omega)
  rw [hDd] at HNU
  have hvb := vnum_bd 65535 d
  obtain ⟨hh, hhh⟩ : ∃ h, h = (prsR nm).1 := ⟨_, rfl⟩
  obtain ⟨ho, hho⟩ : ∃ h, h = (prsR nm).2 := ⟨_, rfl⟩
  obtain ⟨nv, hnv⟩ : ∃ h, h = (vnum 65535 d).1 := ⟨_, rfl⟩
  obtain ⟨no, hno⟩ : ∃ h, h = (vnum 65535 d).2 := ⟨_, rfl⟩
  have R2 := hid (show cbL l = if b3 then cbE hh nv (ho && no && decide (0 < nv)) t else cbE hh 80 ho t by
    rw [R1.out]
    cases b3
    · rw [if_neg (by decide), if_neg (by decide), cbA_none, ← hhh, ← hho]
    · rw [if_pos rfl, if_pos rfl, cbA_some, ← hhh, ← hho, ← hnv, ← hno])
  rw [← hnv, ← hno] at hvb HNU
  rw [← hhh, ← hho] at HPA
  clear hhh hho hnv hno R1
  have HPA := hid HPA
  have HNU := hid HNU
  have HVB := hid hvb
  have HC := hid HC
  clear hvb hXd hNMd hDd
  have HZ := HS2s.out
  go_wp2_with fail
  go_quiet (fail)
  rw [E1.out, E2.out]
  have G2 := hid (gr_drewN nq G1.out)
  generalize w1.drewN nq = w2 at G2 ⊢
  have hm2 := hid (show MaxCell m w2 from G2.out.cell hm.out (by simp))
  have h102 := hid (h10.out.grown G2.out)
  clear G1 E1 E2 HZ HS2s HS2
  go_wp2_with fail
  refine (HC.out _ hm2.out).mono ?_
  rintro e w3 ⟨rfl, n3, e3⟩
  have G3 := hid (show w.grownBy w3 none by rw [e3]; exact gr_drewN n3 G2.out)
  clear e3 G2 hm2 h102
  have hm3 := hid (show MaxCell m w3 from G3.out.cell hm.out (by simp))
  have h103 := hid (h10.out.grown G3.out)
  go_wp2_with fail
  refine (HPA.out _ hm3.out h103.out).mono ?_
  rintro e w4 ⟨rfl, g4⟩
  have G4 := hid (gr_trans G3.out g4)
  clear g4 G3 hm3 h103 HPA HC
  have hTm : T.size ≤ 2000 := by omega
  have HTS := hid hTs
  have HTD := hid hTd
  clear hTs hTd
  cases b3
  · have R3 := hid (show cbL l = cbE hh 80 ho t by rw [R2.out]; rfl)
    clear R2 HVB HNU
    have HNN := hid (show ho = true → (0 : Int) ≤ 80 ∧ (80 : Int) ≤ 65535 from fun _ => by omega)
    go_wp2_with (refine wpl_s2b rfl 9 37 5 _ rfl Tryz.underlying9 Tryz.underlying37 Tryz.underlying5 T rfl (by unfold maxLen; omega) ?_; intro g cap w6 hg hrow gw)
    rw [HTD.out] at hrow
    rw [HTS.out]
    have G6 := hid (gr_trans G4.out gw)
    clear gw hg
    go_loop [5, 76] (fun vb vk => ∃ (k : Nat) (b : Bool), k ≤ t.length ∧ vk = .int .i64 k ∧ vb = .bool b ∧ Hid (b = (ho && (t.take k).all cbB))) (fun _ vk => t.length - (intOf vk).toNat)
    case atStart => exact ⟨0, ho, Nat.zero_le _, rfl, rfl, by show _ = _; simp⟩
    case round =>
      obtain ⟨k, b, hk, rfl, rfl, hb⟩ := hrel
      by_cases hlt : k < t.length
      · have hc := hrow.cell (i := k) hlt
        have hnext := gall_snoc t cbB k hlt
        have hv : cbB (t.getD k 0) = (decide (32 < (t.getD k 0).toNat) && decide ((t.getD k 0).toNat ≤ 126) && (t.getD k 0) != 60) := rfl
        generalize t.getD k 0 = c at hc hnext hv
        have HN := hid (show (ho && (t.take (k + 1)).all cbB) = (b && cbB c) by rw [hnext, hb.out, Bool.and_assoc])
        have HV := hid hv
        clear hnext hv hb
        cases b
        · go_wp2
          go_round
          case rel => exact ⟨k + 1, false, by omega, by go_num, rfl, hid (by rw [HN.out]; rfl)⟩
          case measure => simp [intOf]; omega
        · by_cases x1 : (32 : Int) < (c.toNat : Int)
          · by_cases x2 : (c.toNat : Int) ≤ 126
            · have hq : ((c.toNat : Int) != 60) = (c != 60) := by
                rw [Bool.eq_iff_iff, bne_iff_ne, bne_iff_ne]
                constructor
                · intro h e; exact h (by rw [e]; rfl)
                · intro h e; exact h (UInt8.toNat_inj.1 (by rw [show ((60 : UInt8).toNat) = 60 from rfl]; omega))
              have HW := hid (show cbB c = (c != 60) by rw [HV.out, decide_eq_true (by omega), decide_eq_true (by omega)]; rfl)
              generalize (c != 60) = q at hq HW
              go_wp2
              go_round
              case rel => exact ⟨k + 1, q, by omega, by go_num, by first | rfl | rw [hq], hid (by rw [HN.out, HW.out]; rfl)⟩
              case measure => simp [intOf]; omega
            · have HW := hid (show cbB c = false by rw [HV.out, decide_eq_false (p := c.toNat ≤ 126) (by omega), Bool.and_false, Bool.false_and])
              go_wp2
              go_round
              case rel => exact ⟨k + 1, false, by omega, by go_num, by first | rfl | skip, hid (by rw [HN.out, HW.out]; rfl)⟩
              case measure => simp [intOf]; omega
          · have HW := hid (show cbB c = false by rw [HV.out, decide_eq_false (by omega)]; rfl)
            go_wp2
            go_round
            case rel => exact ⟨k + 1, false, by omega, by go_num, by first | rfl | skip, hid (by rw [HN.out, HW.out]; rfl)⟩
            case measure => simp [intOf]; omega
      · obtain rfl : k = t.length := by omega
        have hb' := hb.out
        rw [List.take_length] at hb'
        have RF := hid (show cbL l = if b && decide (t.length ≤ 256) then some (hh, (80 : Int).toNat, t) else none by rw [R3.out, hb']; rfl)
        have HB := hid hb'
        clear hb hb' hlt hk
        cases b
        · have RG := hid (show cbL l = none by rw [RF.out]; rfl)
          go_wp2
          ((try simp only [Exit.inBlock, Exit.then]); refine bodyPost_ret (results_tmp4 rfl _ _ _) rfl ?_)
          exact ⟨by rw [RG.out]; rfl, G6.out⟩
        · by_cases h256 : (256 : Int) < (t.length : Int)
          · have RG := hid (show cbL l = none by rw [RF.out, decide_eq_false (by omega)]; rfl)
            have h256' := decide_eq_true h256
            have HTSo := HTS.out
            go_wp2
            ((try simp only [Exit.inBlock, Exit.then]); refine bodyPost_ret (results_tmp4 rfl _ _ _) rfl ?_)
            exact ⟨by rw [RG.out]; rfl, G6.out⟩
          · have RG := hid (show cbL l = some (hh, (80 : Int).toNat, t) by rw [RF.out, decide_eq_true (by omega)]; rfl)
            have hoo : ho = true := (Bool.and_eq_true_iff.1 HB.out.symm).1
            have hn := HNN.out (by first | exact hoo | trivial)
            have HTSo := HTS.out
            obtain ⟨nk, hnk⟩ : ∃ nk : Nat, (80 : Int) = nk := ⟨(80 : Int).toNat, by omega⟩
            have h256' := decide_eq_false h256
            have RH := hid (show cbL l = some (hh, nk, t) by rw [RG.out, hnk]; rfl)
            clear hoo HB RF RG
            go_wp2
            ((try simp only [Exit.inBlock, Exit.then]); refine bodyPost_ret (results_tmp4 rfl _ _ _) rfl ?_)
            exact ⟨by rw [RH.out, HTE.out]; rfl, G6.out⟩
  · have R3 := hid (show cbL l = cbE hh nv (ho && no && decide (0 < nv)) t by rw [R2.out]; rfl)
    clear R2
    go_wp2_with fail
    refine (HNU.out _).mono ?_
    rintro e w5 ⟨rfl, g5⟩
    have G5 := hid (gr_trans G4.out g5)
    clear g5 G4 HNU
    by_cases h1 : ho = true
    · subst h1
      by_cases h2 : no = true
      · subst h2
        by_cases h3 : (0 : Int) < nv
        · have h3' := decide_eq_true h3
          have R4 := hid (show cbL l = cbE hh nv true t by rw [R3.out, h3']; rfl)
          have HNN := hid (show true = true → (0 : Int) ≤ nv ∧ nv ≤ 65535 from fun _ => ⟨by omega, HVB.out rfl⟩)
          clear R3 HVB
          go_wp2_with (refine wpl_s2b rfl 9 37 5 _ rfl Tryz.underlying9 Tryz.underlying37 Tryz.underlying5 T rfl (by unfold maxLen; omega) ?_; intro g cap w6 hg hrow gw)
          rw [HTD.out] at hrow
          rw [HTS.out]
          have G6 := hid (gr_trans G5.out gw)
          clear gw hg
          go_loop [5, 76] (fun vb vk => ∃ (k : Nat) (b : Bool), k ≤ t.length ∧ vk = .int .i64 k ∧ vb = .bool b ∧ Hid (b = (true && (t.take k).all cbB))) (fun _ vk => t.length - (intOf vk).toNat)
          case atStart => exact ⟨0, true, Nat.zero_le _, rfl, rfl, by show _ = _; simp⟩
          case round =>
            obtain ⟨k, b, hk, rfl, rfl, hb⟩ := hrel
            by_cases hlt : k < t.length
            · have hc := hrow.cell (i := k) hlt
              have hnext := gall_snoc t cbB k hlt
              have hv : cbB (t.getD k 0) = (decide (32 < (t.getD k 0).toNat) && decide ((t.getD k 0).toNat ≤ 126) && (t.getD k 0) != 60) := rfl
              generalize t.getD k 0 = c at hc hnext hv
              have HN := hid (show (true && (t.take (k + 1)).all cbB) = (b && cbB c) by rw [hnext, hb.out, Bool.and_assoc])
              have HV := hid hv
              clear hnext hv hb
              cases b
              · go_wp2
                go_round
                case rel => exact ⟨k + 1, false, by omega, by go_num, rfl, hid (by rw [HN.out]; rfl)⟩
                case measure => simp [intOf]; omega
              · by_cases x1 : (32 : Int) < (c.toNat : Int)
                · by_cases x2 : (c.toNat : Int) ≤ 126
                  · have hq : ((c.toNat : Int) != 60) = (c != 60) := by
                      rw [Bool.eq_iff_iff, bne_iff_ne, bne_iff_ne]
                      constructor
                      · intro h e; exact h (by rw [e]; rfl)
                      · intro h e; exact h (UInt8.toNat_inj.1 (by rw [show ((60 : UInt8).toNat) = 60 from rfl]; omega))
                    have HW := hid (show cbB c = (c != 60) by rw [HV.out, decide_eq_true (by omega), decide_eq_true (by omega)]; rfl)
                    generalize (c != 60) = q at hq HW
                    go_wp2
                    go_round
                    case rel => exact ⟨k + 1, q, by omega, by go_num, by first | rfl | rw [hq], hid (by rw [HN.out, HW.out]; rfl)⟩
                    case measure => simp [intOf]; omega
                  · have HW := hid (show cbB c = false by rw [HV.out, decide_eq_false (p := c.toNat ≤ 126) (by omega), Bool.and_false, Bool.false_and])
                    go_wp2
                    go_round
                    case rel => exact ⟨k + 1, false, by omega, by go_num, by first | rfl | skip, hid (by rw [HN.out, HW.out]; rfl)⟩
                    case measure => simp [intOf]; omega
                · have HW := hid (show cbB c = false by rw [HV.out, decide_eq_false (by omega)]; rfl)
                  go_wp2
                  go_round
                  case rel => exact ⟨k + 1, false, by omega, by go_num, by first | rfl | skip, hid (by rw [HN.out, HW.out]; rfl)⟩
                  case measure => simp [intOf]; omega
            · obtain rfl : k = t.length := by omega
              have hb' := hb.out
              rw [List.take_length] at hb'
              have RF := hid (show cbL l = if b && decide (t.length ≤ 256) then some (hh, (nv : Int).toNat, t) else none by rw [R4.out, hb']; rfl)
              have HB := hid hb'
              clear hb hb' hlt hk
              cases b
              · have RG := hid (show cbL l = none by rw [RF.out]; rfl)
                go_wp2
                ((try simp only [Exit.inBlock, Exit.then]); refine bodyPost_ret (results_tmp4 rfl _ _ _) rfl ?_)
                exact ⟨by rw [RG.out]; rfl, G6.out⟩
              · by_cases h256 : (256 : Int) < (t.length : Int)
                · have RG := hid (show cbL l = none by rw [RF.out, decide_eq_false (by omega)]; rfl)
                  have h256' := decide_eq_true h256
                  have HTSo := HTS.out
                  go_wp2
                  ((try simp only [Exit.inBlock, Exit.then]); refine bodyPost_ret (results_tmp4 rfl _ _ _) rfl ?_)
                  exact ⟨by rw [RG.out]; rfl, G6.out⟩
                · have RG := hid (show cbL l = some (hh, (nv : Int).toNat, t) by rw [RF.out, decide_eq_true (by omega)]; rfl)
                  have hoo : true = true := (Bool.and_eq_true_iff.1 HB.out.symm).1
                  have hn := HNN.out (by first | exact hoo | trivial)
                  have HTSo := HTS.out
                  obtain ⟨nk, hnk⟩ : ∃ nk : Nat, (nv : Int) = nk := ⟨(nv : Int).toNat, by omega⟩
                  have h256' := decide_eq_false h256
                  have RH := hid (show cbL l = some (hh, nk, t) by rw [RG.out, hnk]; rfl)
                  clear hoo HB RF RG
                  go_wp2
                  ((try simp only [Exit.inBlock, Exit.then]); refine bodyPost_ret (results_tmp4 rfl _ _ _) rfl ?_)
                  exact ⟨by rw [RH.out, HTE.out]; rfl, G6.out⟩
        · have h3' := decide_eq_false h3
          have R4 := hid (show cbL l = cbE hh nv false t by rw [R3.out, h3']; rfl)
          have HNN := hid (show false = true → (0 : Int) ≤ nv ∧ nv ≤ 65535 from fun h => by cases h)
          clear R3 HVB
          go_wp2_with (refine wpl_s2b rfl 9 37 5 _ rfl Tryz.underlying9 Tryz.underlying37 Tryz.underlying5 T rfl (by unfold maxLen; omega) ?_; intro g cap w6 hg hrow gw)
          rw [HTD.out] at hrow
          rw [HTS.out]
          have G6 := hid (gr_trans G5.out gw)
          clear gw hg
          go_loop [5, 76] (fun vb vk => ∃ (k : Nat) (b : Bool), k ≤ t.length ∧ vk = .int .i64 k ∧ vb = .bool b ∧ Hid (b = (false && (t.take k).all cbB))) (fun _ vk => t.length - (intOf vk).toNat)
          case atStart => exact ⟨0, false, Nat.zero_le _, rfl, rfl, by show _ = _; simp⟩
          case round =>
            obtain ⟨k, b, hk, rfl, rfl, hb⟩ := hrel
            by_cases hlt : k < t.length
            · have hc := hrow.cell (i := k) hlt
              have hnext := gall_snoc t cbB k hlt
              have hv : cbB (t.getD k 0) = (decide (32 < (t.getD k 0).toNat) && decide ((t.getD k 0).toNat ≤ 126) && (t.getD k 0) != 60) := rfl
              generalize t.getD k 0 = c at hc hnext hv
              have HN := hid (show (false && (t.take (k + 1)).all cbB) = (b && cbB c) by rw [hnext, hb.out, Bool.and_assoc])
              have HV := hid hv
              clear hnext hv hb
              cases b
              · go_wp2
                go_round
                case rel => exact ⟨k + 1, false, by omega, by go_num, rfl, hid (by rw [HN.out]; rfl)⟩
                case measure => simp [intOf]; omega
              · by_cases x1 : (32 : Int) < (c.toNat : Int)
                · by_cases x2 : (c.toNat : Int) ≤ 126
                  · have hq : ((c.toNat : Int) != 60) = (c != 60) := by
                      rw [Bool.eq_iff_iff, bne_iff_ne, bne_iff_ne]
                      constructor
                      · intro h e; exact h (by rw [e]; rfl)
                      · intro h e; exact h (UInt8.toNat_inj.1 (by rw [show ((60 : UInt8).toNat) = 60 from rfl]; omega))
                    have HW := hid (show cbB c = (c != 60) by rw [HV.out, decide_eq_true (by omega), decide_eq_true (by omega)]; rfl)
                    generalize (c != 60) = q at hq HW
                    go_wp2
                    go_round
                    case rel => exact ⟨k + 1, q, by omega, by go_num, by first | rfl | rw [hq], hid (by rw [HN.out, HW.out]; rfl)⟩
                    case measure => simp [intOf]; omega
                  · have HW := hid (show cbB c = false by rw [HV.out, decide_eq_false (p := c.toNat ≤ 126) (by omega), Bool.and_false, Bool.false_and])
                    go_wp2
                    go_round
                    case rel => exact ⟨k + 1, false, by omega, by go_num, by first | rfl | skip, hid (by rw [HN.out, HW.out]; rfl)⟩
                    case measure => simp [intOf]; omega
                · have HW := hid (show cbB c = false by rw [HV.out, decide_eq_false (by omega)]; rfl)
                  go_wp2
                  go_round
                  case rel => exact ⟨k + 1, false, by omega, by go_num, by first | rfl | skip, hid (by rw [HN.out, HW.out]; rfl)⟩
                  case measure => simp [intOf]; omega
            · obtain rfl : k = t.length := by omega
              have hb' := hb.out
              rw [List.take_length] at hb'
              have RF := hid (show cbL l = if b && decide (t.length ≤ 256) then some (hh, (nv : Int).toNat, t) else none by rw [R4.out, hb']; rfl)
              have HB := hid hb'
              clear hb hb' hlt hk
              cases b
              · have RG := hid (show cbL l = none by rw [RF.out]; rfl)
                go_wp2
                ((try simp only [Exit.inBlock, Exit.then]); refine bodyPost_ret (results_tmp4 rfl _ _ _) rfl ?_)
                exact ⟨by rw [RG.out]; rfl, G6.out⟩
              · by_cases h256 : (256 : Int) < (t.length : Int)
                · have RG := hid (show cbL l = none by rw [RF.out, decide_eq_false (by omega)]; rfl)
                  have h256' := decide_eq_true h256
                  have HTSo := HTS.out
                  go_wp2
                  ((try simp only [Exit.inBlock, Exit.then]); refine bodyPost_ret (results_tmp4 rfl _ _ _) rfl ?_)
                  exact ⟨by rw [RG.out]; rfl, G6.out⟩
                · have RG := hid (show cbL l = some (hh, (nv : Int).toNat, t) by rw [RF.out, decide_eq_true (by omega)]; rfl)
                  have hoo : false = true := (Bool.and_eq_true_iff.1 HB.out.symm).1
                  have hn := HNN.out (by first | exact hoo | trivial)
                  have HTSo := HTS.out
                  obtain ⟨nk, hnk⟩ : ∃ nk : Nat, (nv : Int) = nk := ⟨(nv : Int).toNat, by omega⟩
                  have h256' := decide_eq_false h256
                  have RH := hid (show cbL l = some (hh, nk, t) by rw [RG.out, hnk]; rfl)
                  clear hoo HB RF RG
                  go_wp2
                  ((try simp only [Exit.inBlock, Exit.then]); refine bodyPost_ret (results_tmp4 rfl _ _ _) rfl ?_)
                  exact ⟨by rw [RH.out, HTE.out]; rfl, G6.out⟩
      · obtain rfl : no = false := by simpa using h2
        have R4 := hid (show cbL l = cbE hh nv false t by rw [R3.out]; rfl)
        have HNN := hid (show false = true → (0 : Int) ≤ nv ∧ nv ≤ 65535 from fun h => by cases h)
        clear R3 HVB
        go_wp2_with (refine wpl_s2b rfl 9 37 5 _ rfl Tryz.underlying9 Tryz.underlying37 Tryz.underlying5 T rfl (by unfold maxLen; omega) ?_; intro g cap w6 hg hrow gw)
        rw [HTD.out] at hrow
        rw [HTS.out]
        have G6 := hid (gr_trans G5.out gw)
        clear gw hg
        go_loop [5, 76] (fun vb vk => ∃ (k : Nat) (b : Bool), k ≤ t.length ∧ vk = .int .i64 k ∧ vb = .bool b ∧ Hid (b = (false && (t.take k).all cbB))) (fun _ vk => t.length - (intOf vk).toNat)
        case atStart => exact ⟨0, false, Nat.zero_le _, rfl, rfl, by show _ = _; simp⟩
        case round =>
          obtain ⟨k, b, hk, rfl, rfl, hb⟩ := hrel
          by_cases hlt : k < t.length
          · have hc := hrow.cell (i := k) hlt
            have hnext := gall_snoc t cbB k hlt
            have hv : cbB (t.getD k 0) = (decide (32 < (t.getD k 0).toNat) && decide ((t.getD k 0).toNat ≤ 126) && (t.getD k 0) != 60) := rfl
            generalize t.getD k 0 = c at hc hnext hv
            have HN := hid (show (false && (t.take (k + 1)).all cbB) = (b && cbB c) by rw [hnext, hb.out, Bool.and_assoc])
            have HV := hid hv
            clear hnext hv hb
            cases b
            · go_wp2
              go_round
              case rel => exact ⟨k + 1, false, by omega, by go_num, rfl, hid (by rw [HN.out]; rfl)⟩
              case measure => simp [intOf]; omega
            · by_cases x1 : (32 : Int) < (c.toNat : Int)
              · by_cases x2 : (c.toNat : Int) ≤ 126
                · have hq : ((c.toNat : Int) != 60) = (c != 60) := by
                    rw [Bool.eq_iff_iff, bne_iff_ne, bne_iff_ne]
                    constructor
                    · intro h e; exact h (by rw [e]; rfl)
                    · intro h e; exact h (UInt8.toNat_inj.1 (by rw [show ((60 : UInt8).toNat) = 60 from rfl]; omega))
                  have HW := hid (show cbB c = (c != 60) by rw [HV.out, decide_eq_true (by omega), decide_eq_true (by omega)]; rfl)
                  generalize (c != 60) = q at hq HW
                  go_wp2
                  go_round
                  case rel => exact ⟨k + 1, q, by omega, by go_num, by first | rfl | rw [hq], hid (by rw [HN.out, HW.out]; rfl)⟩
                  case measure => simp [intOf]; omega
                · have HW := hid (show cbB c = false by rw [HV.out, decide_eq_false (p := c.toNat ≤ 126) (by omega), Bool.and_false, Bool.false_and])
                  go_wp2
                  go_round
                  case rel => exact ⟨k + 1, false, by omega, by go_num, by first | rfl | skip, hid (by rw [HN.out, HW.out]; rfl)⟩
                  case measure => simp [intOf]; omega
              · have HW := hid (show cbB c = false by rw [HV.out, decide_eq_false (by omega)]; rfl)
                go_wp2
                go_round
                case rel => exact ⟨k + 1, false, by omega, by go_num, by first | rfl | skip, hid (by rw [HN.out, HW.out]; rfl)⟩
                case measure => simp [intOf]; omega
          · obtain rfl : k = t.length := by omega
            have hb' := hb.out
            rw [List.take_length] at hb'
            have RF := hid (show cbL l = if b && decide (t.length ≤ 256) then some (hh, (nv : Int).toNat, t) else none by rw [R4.out, hb']; rfl)
            have HB := hid hb'
            clear hb hb' hlt hk
            cases b
            · have RG := hid (show cbL l = none by rw [RF.out]; rfl)
              go_wp2
              ((try simp only [Exit.inBlock, Exit.then]); refine bodyPost_ret (results_tmp4 rfl _ _ _) rfl ?_)
              exact ⟨by rw [RG.out]; rfl, G6.out⟩
            · by_cases h256 : (256 : Int) < (t.length : Int)
              · have RG := hid (show cbL l = none by rw [RF.out, decide_eq_false (by omega)]; rfl)
                have h256' := decide_eq_true h256
                have HTSo := HTS.out
                go_wp2
                ((try simp only [Exit.inBlock, Exit.then]); refine bodyPost_ret (results_tmp4 rfl _ _ _) rfl ?_)
                exact ⟨by rw [RG.out]; rfl, G6.out⟩
              · have RG := hid (show cbL l = some (hh, (nv : Int).toNat, t) by rw [RF.out, decide_eq_true (by omega)]; rfl)
                have hoo : false = true := (Bool.and_eq_true_iff.1 HB.out.symm).1
                have hn := HNN.out (by first | exact hoo | trivial)
                have HTSo := HTS.out
                obtain ⟨nk, hnk⟩ : ∃ nk : Nat, (nv : Int) = nk := ⟨(nv : Int).toNat, by omega⟩
                have h256' := decide_eq_false h256
                have RH := hid (show cbL l = some (hh, nk, t) by rw [RG.out, hnk]; rfl)
                clear hoo HB RF RG
                go_wp2
                ((try simp only [Exit.inBlock, Exit.then]); refine bodyPost_ret (results_tmp4 rfl _ _ _) rfl ?_)
                exact ⟨by rw [RH.out, HTE.out]; rfl, G6.out⟩
    · obtain rfl : ho = false := by simpa using h1
      have R4 := hid (show cbL l = cbE hh nv false t by rw [R3.out]; rfl)
      have HNN := hid (show false = true → (0 : Int) ≤ nv ∧ nv ≤ 65535 from fun h => by cases h)
      clear R3 HVB
      go_wp2_with (refine wpl_s2b rfl 9 37 5 _ rfl Tryz.underlying9 Tryz.underlying37 Tryz.underlying5 T rfl (by unfold maxLen; omega) ?_; intro g cap w6 hg hrow gw)
      rw [HTD.out] at hrow
      rw [HTS.out]
      have G6 := hid (gr_trans G5.out gw)
      clear gw hg
      go_loop [5, 76] (fun vb vk => ∃ (k : Nat) (b : Bool), k ≤ t.length ∧ vk = .int .i64 k ∧ vb = .bool b ∧ Hid (b = (false && (t.take k).all cbB))) (fun _ vk => t.length - (intOf vk).toNat)
      case atStart => exact ⟨0, false, Nat.zero_le _, rfl, rfl, by show _ = _; simp⟩
      case round =>
        obtain ⟨k, b, hk, rfl, rfl, hb⟩ := hrel
        by_cases hlt : k < t.length
        · have hc := hrow.cell (i := k) hlt
          have hnext := gall_snoc t cbB k hlt
          have hv : cbB (t.getD k 0) = (decide (32 < (t.getD k 0).toNat) && decide ((t.getD k 0).toNat ≤ 126) && (t.getD k 0) != 60) := rfl
          generalize t.getD k 0 = c at hc hnext hv
          have HN := hid (show (false && (t.take (k + 1)).all cbB) = (b && cbB c) by rw [hnext, hb.out, Bool.and_assoc])
          have HV := hid hv
          clear hnext hv hb
          cases b
          · go_wp2
            go_round
            case rel => exact ⟨k + 1, false, by omega, by go_num, rfl, hid (by rw [HN.out]; rfl)⟩
            case measure => simp [intOf]; omega
          · by_cases x1 : (32 : Int) < (c.toNat : Int)
            · by_cases x2 : (c.toNat : Int) ≤ 126
              · have hq : ((c.toNat : Int) != 60) = (c != 60) := by
                  rw [Bool.eq_iff_iff, bne_iff_ne, bne_iff_ne]
                  constructor
                  · intro h e; exact h (by rw [e]; rfl)
                  · intro h e; exact h (UInt8.toNat_inj.1 (by rw [show ((60 : UInt8).toNat) = 60 from rfl]; omega))
                have HW := hid (show cbB c = (c != 60) by rw [HV.out, decide_eq_true (by omega), decide_eq_true (by omega)]; rfl)
                generalize (c != 60) = q at hq HW
                go_wp2
                go_round
                case rel => exact ⟨k + 1, q, by omega, by go_num, by first | rfl | rw [hq], hid (by rw [HN.out, HW.out]; rfl)⟩
                case measure => simp [intOf]; omega
              · have HW := hid (show cbB c = false by rw [HV.out, decide_eq_false (p := c.toNat ≤ 126) (by omega), Bool.and_false, Bool.false_and])
                go_wp2
                go_round
                case rel => exact ⟨k + 1, false, by omega, by go_num, by first | rfl | skip, hid (by rw [HN.out, HW.out]; rfl)⟩
                case measure => simp [intOf]; omega
            · have HW := hid (show cbB c = false by rw [HV.out, decide_eq_false (by omega)]; rfl)
              go_wp2
              go_round
              case rel => exact ⟨k + 1, false, by omega, by go_num, by first | rfl | skip, hid (by rw [HN.out, HW.out]; rfl)⟩
              case measure => simp [intOf]; omega
        · obtain rfl : k = t.length := by omega
          have hb' := hb.out
          rw [List.take_length] at hb'
          have RF := hid (show cbL l = if b && decide (t.length ≤ 256) then some (hh, (nv : Int).toNat, t) else none by rw [R4.out, hb']; rfl)
          have HB := hid hb'
          clear hb hb' hlt hk
          cases b
          · have RG := hid (show cbL l = none by rw [RF.out]; rfl)
            go_wp2
            ((try simp only [Exit.inBlock, Exit.then]); refine bodyPost_ret (results_tmp4 rfl _ _ _) rfl ?_)
            exact ⟨by rw [RG.out]; rfl, G6.out⟩
          · by_cases h256 : (256 : Int) < (t.length : Int)
            · have RG := hid (show cbL l = none by rw [RF.out, decide_eq_false (by omega)]; rfl)
              have h256' := decide_eq_true h256
              have HTSo := HTS.out
              go_wp2
              ((try simp only [Exit.inBlock, Exit.then]); refine bodyPost_ret (results_tmp4 rfl _ _ _) rfl ?_)
              exact ⟨by rw [RG.out]; rfl, G6.out⟩
            · have RG := hid (show cbL l = some (hh, (nv : Int).toNat, t) by rw [RF.out, decide_eq_true (by omega)]; rfl)
              have hoo : false = true := (Bool.and_eq_true_iff.1 HB.out.symm).1
              have hn := HNN.out (by first | exact hoo | trivial)
              have HTSo := HTS.out
              obtain ⟨nk, hnk⟩ : ∃ nk : Nat, (nv : Int) = nk := ⟨(nv : Int).toNat, by omega⟩
              have h256' := decide_eq_false h256
              have RH := hid (show cbL l = some (hh, nk, t) by rw [RG.out, hnk]; rfl)
              clear hoo HB RF RG
              go_wp2
              ((try simp only [Exit.inBlock, Exit.then]); refine bodyPost_ret (results_tmp4 rfl _ _ _) rfl ?_)
              exact ⟨by rw [RH.out, HTE.out]; rfl, G6.out⟩
end Go.Proofs.YtfceodbpkghkaaaGreatDoor
/- hearthref22.Callback. -/
namespace Go.Proofs.YtfceodbpkghkaaaGreatDoor
open Go.RowKit
set_option linter.unusedVariables false
set_option linter.unusedSimpArgs false

theorem tw_ne (q : UInt8) : ∀ (p : Gs) (i : Nat), i < (tw q p).length → p.getD i 0 ≠ q
  | [], i, h => by simp [tw] at h
  | c :: p, i, h => by
    by_cases hc : c = q
    · subst hc; rw [tw_cons_eq] at h; simp at h
    · rw [tw_cons_ne p hc] at h
      cases i with
      | zero => simpa using hc
      | succ i => simpa using tw_ne q p i (by simpa using h)
theorem tw_at (q : UInt8) : ∀ (p : Gs), (tw q p).length < p.length → p.getD (tw q p).length 0 = q
  | [], h => by simp at h
  | c :: p, h => by
    by_cases hc : c = q
    · subst hc; rw [tw_cons_eq]; rfl
    · rw [tw_cons_ne p hc] at h ⊢
      simpa using tw_at q p (by simpa using h)
theorem tw_has (q : UInt8) (p : Gs) : p.contains q = decide ((tw q p).length < p.length) := by
  have h := congrArg List.length (tw_dw q p)
  rw [List.length_append] at h
  have h2 := dw_nil_iff q p
  cases hc : p.contains q
  · rw [h2.2 hc] at h; simp at h; simp; omega
  · have : dw q p ≠ [] := fun e => by rw [h2.1 e] at hc; cases hc
    have := List.length_pos_iff.2 this
    simp; omega
theorem tw_pre (q : UInt8) (p : Gs) (i : Nat) (h : i < (tw q p).length) : p.getD i 0 = (tw q p).getD i 0 := by
  conv => lhs; rw [← tw_dw q p]
  rw [List.getD_eq_getElem?_getD, List.getD_eq_getElem?_getD, List.getElem?_append_left h]
/-- What a search for a byte, from o up to n, meets. -/
structure Seek (l : Gs) (q : UInt8) (o e n : Nat) : Prop where
  ge : o ≤ e
  le : e ≤ n
  ne : ∀ i, o ≤ i → i < e → l.getD i 0 ≠ q
  hit : e < n → l.getD e 0 = q
theorem seek_tw (l p : Gs) (q : UInt8) (o : Nat) (h : ∀ i, i < p.length → l.getD (o + i) 0 = p.getD i 0) : Seek l q o (o + (tw q p).length) (o + p.length) where
  ge := by omega
  le := by have := tw_len q p; omega
  ne := fun i h1 h2 => by
    have := tw_len q p
    have := h (i - o) (by omega)
    rw [show o + (i - o) = i by omega] at this
    rw [this]
    exact tw_ne q p _ (by omega)
  hit := fun h1 => by
    rw [h _ (by omega)]
    exact tw_at q p (by omega)
theorem gext (l : Gs) (i j : Nat) : (⟨l.toArray⟩ : ByteArray).extract i j = ⟨((l.drop i).take (j - i)).toArray⟩ := by
  ext1
  simp [ByteArray.data_extract, List.extract_eq_take_drop]
theorem hpre_take (l p : Gs) : Lib.hasPrefix l p = decide (l.take p.length = p) := by
  unfold Lib.hasPrefix
  rw [Bool.eq_iff_iff, List.isPrefixOf_iff_prefix, decide_eq_true_iff, List.prefix_iff_eq_take]
  exact ⟨fun h => h.symm, fun h => h.symm⟩
structure CbP (l a x t nm d : Gs) (e f g : Nat) : Prop where
  s1 : Seek l 62 8 e l.length
  s2 : Seek l 47 8 f e
  s3 : Seek l 58 8 g f
  et : (l.drop f).take (e - f) = t
  en : (l.drop 8).take (g - 8) = nm
  ed : g < f → (l.drop (g + 1)).take (f - (g + 1)) = d
  lt : t.length = e - f
  cb : cbL l = if e < l.length ∧ f < e then (if g < f then cbE (prsR nm).1 (vnum 65535 d).1 ((prsR nm).2 && (vnum 65535 d).2 && decide (0 < (vnum 65535 d).1)) t else cbE (prsR nm).1 80 (prsR nm).2 t) else none
theorem cbP_ex (l : Gs) (hp : Lib.hasPrefix l hdH = true) : ∃ a x t nm d e f g, CbP l a x t nm d e f g := by
  obtain ⟨r, hr⟩ : ∃ r, r = l.drop 8 := ⟨_, rfl⟩
  have h8 : 8 ≤ l.length := by
    unfold Lib.hasPrefix at hp
    have := (List.isPrefixOf_iff_prefix.1 hp).length_le
    simpa [hdH] using this
  have hrl : l.length = 8 + r.length := by rw [hr, List.length_drop]; omega
  have hrg : ∀ i, i < r.length → l.getD (8 + i) 0 = r.getD i 0 := fun i _ => by
    rw [hr, List.getD_eq_getElem?_getD, List.getD_eq_getElem?_getD, List.getElem?_drop]
  obtain ⟨a, ha⟩ : ∃ a, a = tw 62 r := ⟨_, rfl⟩
  obtain ⟨x, hx⟩ : ∃ x, x = tw 47 a := ⟨_, rfl⟩
  have q1 := seek_tw l r 62 8 hrg
  rw [← ha, ← hrl] at q1
  have hag : ∀ i, i < a.length → l.getD (8 + i) 0 = a.getD i 0 := fun i h => by
    rw [ha] at h ⊢
    rw [hrg i (by have := tw_len 62 r; omega)]
    exact tw_pre 62 r i h
  have q2 := seek_tw l a 47 8 hag
  rw [← hx] at q2
  have hxg : ∀ i, i < x.length → l.getD (8 + i) 0 = x.getD i 0 := fun i h => by
    rw [hx] at h ⊢
    rw [hag i (by have := tw_len 47 a; omega)]
    exact tw_pre 47 a i h
  have q3 := seek_tw l x 58 8 hxg
  have l1 : (tw 62 r).length + (dw 62 r).length = r.length := by rw [← List.length_append, tw_dw]
  have l2 : (tw 47 a).length + (dw 47 a).length = a.length := by rw [← List.length_append, tw_dw]
  have l3 : (tw 58 x).length + (dw 58 x).length = x.length := by rw [← List.length_append, tw_dw]
  have da : r.take a.length = a := by conv => lhs; arg 2; rw [← tw_dw 62 r, ← ha]
                                      exact List.take_left
  have dt : a.drop x.length = dw 47 a := by conv => lhs; arg 2; rw [← tw_dw 47 a, ← hx]
                                            exact List.drop_left
  have dx : a.take x.length = x := by conv => lhs; arg 2; rw [← tw_dw 47 a, ← hx]
                                      exact List.take_left
  have dn : x.take (tw 58 x).length = tw 58 x := by conv => lhs; arg 2; rw [← tw_dw 58 x]
                                                    exact List.take_left
  have dd : x.drop (tw 58 x).length = dw 58 x := by conv => lhs; arg 2; rw [← tw_dw 58 x]
                                                    exact List.drop_left
  have hal := tw_len 62 r
  have hxl := tw_len 47 a
  have hnl := tw_len 58 x
  rw [← ha] at hal l1
  rw [← hx] at hxl l2
  refine ⟨a, x, dw 47 a, tw 58 x, (dw 58 x).tail, 8 + a.length, 8 + x.length, 8 + (tw 58 x).length, q1, q2, q3, ?_, ?_, ?_, ?_, ?_⟩
  · rw [← List.drop_drop, ← hr, show 8 + a.length - (8 + x.length) = a.length - x.length by omega, ← dt]
    conv => rhs; rw [← da]
    rw [List.drop_take]
  · rw [← hr, show 8 + (tw 58 x).length - 8 = (tw 58 x).length by omega]
    conv => rhs; rw [← dn]
    conv => rhs; arg 2; rw [← dx]
    conv => rhs; arg 2; arg 2; rw [← da]
    rw [List.take_take, List.take_take]
    congr 1; omega
  · intro _
    rw [show 8 + (tw 58 x).length + 1 = 8 + ((tw 58 x).length + 1) by omega, ← List.drop_drop, ← hr, ← List.drop_one, ← dd, List.drop_drop]
    conv => rhs; arg 2; rw [← dx]
    conv => rhs; arg 2; arg 2; rw [← da]
    rw [List.take_take, List.drop_take]
    congr 1; omega
  · omega
  · unfold cbL
    rw [hp, Bool.true_and, ← hr, tw_has 62 r, ← ha]
    by_cases h1 : a.length < r.length
    · rw [decide_eq_true h1, if_pos rfl]
      unfold cbW
      rw [tw_has 47 a, ← hx]
      by_cases h2 : x.length < a.length
      · rw [decide_eq_true h2, if_pos rfl, if_pos (show 8 + a.length < l.length ∧ 8 + x.length < 8 + a.length from ⟨by omega, by omega⟩), tw_has 58 x]
        by_cases h3 : (tw 58 x).length < x.length
        · rw [decide_eq_true h3, if_pos rfl, if_pos (by omega), cbA_some]
        · rw [decide_eq_false h3, if_neg (by decide), if_neg (by omega), cbA_none]
      · rw [decide_eq_false h2, if_neg (by decide), if_neg (by omega)]
    · rw [decide_eq_false h1, if_neg (by decide), if_neg (by omega)]
end Go.Proofs.YtfceodbpkghkaaaGreatDoor
