/- Texts of one proof, put together: Gn4, Gn5. -/
import Derived.Test.YtfceodbpkghkaaaGreatDoorMC
/- hearthref22.Callback, walked. -/
namespace Go.Proofs.YtfceodbpkghkaaaGreatDoor
open Go.RowKit
set_option linter.unusedVariables false
set_option linter.unusedSimpArgs false

theorem all_no (l : Gs) (p : UInt8 → Bool) (k : Nat) (hk : k < l.length) (h : p (l.getD k 0) = false) : l.all p = false := by
  have := gall_snoc l p k hk
  rw [h, Bool.and_false] at this
  rw [← List.take_append_drop (k + 1) l, List.all_append, this, Bool.false_and]
set_option maxHeartbeats 4000000 in
set_option maxRecDepth 20000 in
theorem rcallback_x (s : ByteArray) (w : World) (hs : s.size ≤ 2000) :
    Calls Tryz.prog 9 #[.string s] w fun e w' => e = .returned (cbV (cbL s.data.toList)) ∧ w.grownBy w' none := by
  obtain ⟨l, hl⟩ : ∃ l, l = s.data.toList := ⟨_, rfl⟩
  have hlen : s.size = l.length := by rw [hl, ← Lib.size_eq]
  have hstr : ∀ k (h : k < s.size), s[k]'h = l.getD k 0 := by rw [hl]; exact strAt s
  have hsl : s = ⟨l.toArray⟩ := by rw [hl]
  rw [← hl]
  have Hstr := hid hstr
  have HSL := hid hsl
  have HLN := hid hlen
  clear hstr hl hsl
  by_cases h8 : l.length < 8
  · have R := hid (show cbL l = none by
      unfold cbL
      rw [hpre_take, decide_eq_false, Bool.false_and]
      · rfl
      · intro h
        have := congrArg List.length h
        simp [hdH] at this
        omega)
    have h8' : s.size < 8 := by omega
    clear hlen HLN Hstr
    go_enter Tryz.func9, Tryz.ntmps9
    go_wp2
    ((try simp only [Exit.inBlock, Exit.then]); refine bodyPost_ret (results_tmp4 rfl _ _ _) rfl ?_)
    exact ⟨by rw [R.out]; rfl, by first | exact gr_refl _ _ | exact gr_drewN _ (gr_refl _ _)⟩
  have h8' : ¬ s.size < 8 := by omega
  by_cases hp : Lib.hasPrefix l hdH = false
  · have R := hid (show cbL l = none by unfold cbL; rw [hp]; rfl)
    have hn : ((s.extract 0 8).toList == [60, 104, 116, 116, 112, 58, 47, 47]) = false := by
      rw [hpre_take, decide_eq_false_iff_not] at hp
      rw [HSL.out, gext, Lib.toList_data, beq_eq_false_iff_ne]
      simpa [hdH] using hp
    clear hlen HLN Hstr hp
    go_enter Tryz.func9, Tryz.ntmps9
    go_wp2
    ((try simp only [Exit.inBlock, Exit.then]); refine bodyPost_ret (results_tmp4 rfl _ _ _) rfl ?_)
    exact ⟨by rw [R.out]; rfl, by first | exact gr_refl _ _ | exact gr_drewN _ (gr_refl _ _)⟩
  have hp : Lib.hasPrefix l hdH = true := by simpa using hp
  have hn : ((s.extract 0 8).toList == [60, 104, 116, 116, 112, 58, 47, 47]) = true := by
    rw [hpre_take, decide_eq_true_iff] at hp
    rw [HSL.out, gext, Lib.toList_data, beq_iff_eq]
    simpa [hdH] using hp
  obtain ⟨a, x, t, nm, d, e, f, g, C⟩ := cbP_ex l hp
  have HC := hid C
  have e1 := C.s1.le
  have f1 := C.s2.le
  have g1 := C.s3.le
  have e0 := C.s1.ge
  have f0 := C.s2.ge
  have g0 := C.s3.ge
  have hlA : s.size ≤ l.length := by omega
  have hlB : l.length ≤ s.size := by omega
  clear C hp hlen
  go_enter Tryz.func9, Tryz.ntmps9
  go_wp2_with fail
  clear hn
  go_loop [7] (fun vk => ∃ k : Nat, 8 ≤ k ∧ k ≤ e ∧ vk = .int .i64 k) (fun vk => l.length - (intOf vk).toNat)
  case atStart => exact ⟨8, Nat.le_refl _, e0, rfl⟩
  case round =>
  obtain ⟨k, hk0, hk, rfl⟩ := hrel
  by_cases hlt : k < e
  · have hc : s[k]'(by omega) = l.getD k 0 := Hstr.out k (by omega)
    have hx := HC.out.s1.ne k hk0 hlt
    generalize l.getD k 0 = c at hc hx
    have hq : ((c.toNat : Int) != 62) = true := by
      rw [bne_iff_ne]
      intro h
      exact hx (UInt8.toNat_inj.1 (by rw [show ((62 : UInt8).toNat) = 62 from rfl]; omega))
    have hls : k < s.size := by omega
    clear hx
    go_wp2
    go_round
    case rel => exact ⟨k + 1, by omega, by omega, by go_num⟩
    case measure => simp [intOf]; omega
  obtain rfl : e = k := by omega
  clear hlt hk hk0
  by_cases he : e = l.length
  · have R := hid (show cbL l = none by rw [HC.out.cb, if_neg (by omega)])
    have hls : ¬ e < s.size := by omega
    have hee : ((e : Int) == (s.size : Int)) = true := by rw [beq_iff_eq]; omega
    go_wp2_with fail
    go_loop [8] (fun vk => ∃ j : Nat, 8 ≤ j ∧ j ≤ f ∧ vk = .int .i64 j) (fun vk => l.length - (intOf vk).toNat)
    case atStart => exact ⟨8, Nat.le_refl _, f0, rfl⟩
    case round =>
    obtain ⟨j, hj0, hj, rfl⟩ := hrel
    by_cases hlt : j < f
    · have hc : s[j]'(by omega) = l.getD j 0 := Hstr.out j (by omega)
      have hx := HC.out.s2.ne j hj0 hlt
      generalize l.getD j 0 = c at hc hx
      have hq : ((c.toNat : Int) != 47) = true := by
        rw [bne_iff_ne]
        intro h
        exact hx (UInt8.toNat_inj.1 (by rw [show ((47 : UInt8).toNat) = 47 from rfl]; omega))
      have hls : j < s.size := by omega
      clear hx
      go_wp2
      go_round
      case rel => exact ⟨j + 1, by omega, by omega, by go_num⟩
      case measure => simp [intOf]; omega
    obtain rfl : f = j := by omega
    clear hlt hj hj0
    by_cases hf : f = e
    · have hfe : ¬ f < e := by omega
      go_wp2
      ((try simp only [Exit.inBlock, Exit.then]); refine bodyPost_ret (results_tmp4 rfl _ _ _) rfl ?_)
      exact ⟨by rw [R.out]; rfl, by first | exact gr_refl _ _ | exact gr_drewN _ (gr_refl _ _)⟩
    · have hfe : f < e := by omega
      have hc : s[f]'(by omega) = 47 := by rw [Hstr.out f (by omega)]; exact HC.out.s2.hit (by omega)
      go_wp2
      ((try simp only [Exit.inBlock, Exit.then]); refine bodyPost_ret (results_tmp4 rfl _ _ _) rfl ?_)
      exact ⟨by rw [R.out]; rfl, by first | exact gr_refl _ _ | exact gr_drewN _ (gr_refl _ _)⟩
  have hel : e < l.length := by omega
  have hels : e < s.size := by omega
  have hc : s[e]'(by omega) = 62 := by rw [Hstr.out e (by omega)]; exact HC.out.s1.hit (by omega)
  have hee : ((e : Int) == (s.size : Int)) = false := by rw [beq_eq_false_iff_ne]; omega
  go_wp2_with fail
  clear hc
  go_loop [8] (fun vk => ∃ j : Nat, 8 ≤ j ∧ j ≤ f ∧ vk = .int .i64 j) (fun vk => l.length - (intOf vk).toNat)
  case atStart => exact ⟨8, Nat.le_refl _, f0, rfl⟩
  case round =>
  obtain ⟨j, hj0, hj, rfl⟩ := hrel
  by_cases hlt : j < f
  · have hc : s[j]'(by omega) = l.getD j 0 := Hstr.out j (by omega)
    have hx := HC.out.s2.ne j hj0 hlt
    generalize l.getD j 0 = c at hc hx
    have hq : ((c.toNat : Int) != 47) = true := by
      rw [bne_iff_ne]
      intro h
      exact hx (UInt8.toNat_inj.1 (by rw [show ((47 : UInt8).toNat) = 47 from rfl]; omega))
    have hls : j < s.size := by omega
    clear hx
    go_wp2
    go_round
    case rel => exact ⟨j + 1, by omega, by omega, by go_num⟩
    case measure => simp [intOf]; omega
  obtain rfl : f = j := by omega
  clear hlt hj hj0
  by_cases hf : f = e
  · have R := hid (show cbL l = none by rw [HC.out.cb, if_neg (by omega)])
    have hfe : ¬ f < e := by omega
    have hfq : ((f : Int) == (e : Int)) = true := by rw [beq_iff_eq]; omega
    go_wp2
    ((try simp only [Exit.inBlock, Exit.then]); refine bodyPost_ret (results_tmp4 rfl _ _ _) rfl ?_)
    exact ⟨by rw [R.out]; rfl, by first | exact gr_refl _ _ | exact gr_drewN _ (gr_refl _ _)⟩
  have hfe : f < e := by omega
  have hfq : ((f : Int) == (e : Int)) = false := by rw [beq_eq_false_iff_ne]; omega
  have hc : s[f]'(by omega) = 47 := by rw [Hstr.out f (by omega)]; exact HC.out.s2.hit (by omega)
  have R2 := hid (show cbL l = if g < f then cbE (prsR nm).1 (vnum 65535 d).1 ((prsR nm).2 && (vnum 65535 d).2 && decide (0 < (vnum 65535 d).1)) t else cbE (prsR nm).1 80 (prsR nm).2 t by rw [HC.out.cb, if_pos ⟨hel, hfe⟩])
  have tl := HC.out.lt
  by_cases h256 : 256 < e - f
  · have hi256 : (256 : Int) < (e : Int) - (f : Int) := by omega
    have R := hid (show cbL l = none by
      rw [R2.out]
      unfold cbE
      rw [decide_eq_false (p := t.length ≤ 256) (by omega), Bool.and_false, Bool.and_false]
      split <;> rfl)
    clear tl
    go_wp2
    ((try simp only [Exit.inBlock, Exit.then]); refine bodyPost_ret (results_tmp4 rfl _ _ _) rfl ?_)
    exact ⟨by rw [R.out]; rfl, by first | exact gr_refl _ _ | exact gr_drewN _ (gr_refl _ _)⟩
  have hi256 : (e : Int) - (f : Int) ≤ 256 := by omega
  have HT := hid tl
  clear tl
  go_wp2_with fail
  clear hc
  have htg : ∀ j, j < e - f → t.getD j 0 = l.getD (f + j) 0 := fun j hj => by
    rw [← HC.out.et, List.getD_eq_getElem?_getD, List.getD_eq_getElem?_getD, List.getElem?_take_of_lt hj, List.getElem?_drop]
  have Htg := hid htg
  clear htg
  go_loop [9] (fun vk => ∃ j : Nat, j ≤ e - f ∧ vk = .int .i64 ((f + j : Nat) : Int) ∧ Hid ((t.take j).all cbB = true)) (fun vk => l.length - (intOf vk).toNat)
  case atStart => exact ⟨0, Nat.zero_le _, rfl, by show _ = _; simp⟩
  case round =>
  obtain ⟨j, hj, rfl, hb⟩ := hrel
  by_cases hlt : j < e - f
  · have hc : s[f + j]'(by omega) = t.getD j 0 := by rw [Htg.out j hlt]; exact Hstr.out (f + j) (by omega)
    have hnext := gall_snoc t cbB j (by rw [HT.out]; exact hlt)
    have hno := fun h => all_no t cbB j (by rw [HT.out]; exact hlt) h
    have hv : cbB (t.getD j 0) = (decide (32 < (t.getD j 0).toNat) && decide ((t.getD j 0).toNat ≤ 126) && (t.getD j 0) != 60) := rfl
    generalize t.getD j 0 = c at hc hnext hv hno
    have HN := hid hnext
    have HV := hid hv
    have HNO := hid hno
    have hls : f + j < s.size := by omega
    have hle : f + j < e := by omega
    obtain ⟨i, hi⟩ : ∃ i, i = f + j := ⟨_, rfl⟩
    have Hi := hid hi
    rw [← hi] at hls hle
    have hc' : s[i]'hls = c := by subst hi; exact hc
    rw [← hi]
    clear hnext hv hc hno hi
    by_cases hbad : cbB c = false
    · have R := hid (show cbL l = none by
        have hh := HNO.out hbad
        rw [R2.out]
        unfold cbE
        rw [hh, Bool.and_false, Bool.and_false, Bool.false_and]
        split <;> rfl)
      by_cases x1 : (c.toNat : Int) < 33
      · go_wp2
        ((try simp only [Exit.inBlock, Exit.then]); refine bodyPost_ret (results_tmp4 rfl _ _ _) rfl ?_)
        exact ⟨by rw [R.out]; rfl, by first | exact gr_refl _ _ | exact gr_drewN _ (gr_refl _ _)⟩
      by_cases x2 : (126 : Int) < (c.toNat : Int)
      · go_wp2
        ((try simp only [Exit.inBlock, Exit.then]); refine bodyPost_ret (results_tmp4 rfl _ _ _) rfl ?_)
        exact ⟨by rw [R.out]; rfl, by first | exact gr_refl _ _ | exact gr_drewN _ (gr_refl _ _)⟩
      have hq : ((c.toNat : Int) == 60) = true := by
        rw [HV.out, decide_eq_true (by omega), decide_eq_true (by omega)] at hbad
        rw [beq_iff_eq]
        have : c = 60 := by simpa using hbad
        rw [this]; rfl
      go_wp2
      ((try simp only [Exit.inBlock, Exit.then]); refine bodyPost_ret (results_tmp4 rfl _ _ _) rfl ?_)
      exact ⟨by rw [R.out]; rfl, by first | exact gr_refl _ _ | exact gr_drewN _ (gr_refl _ _)⟩
    · have hgood : cbB c = true := by simpa using hbad
      have HK := hid (show (t.take (j + 1)).all cbB = true by rw [HN.out, hb.out, hgood]; rfl)
      rw [HV.out] at hgood
      simp only [Bool.and_eq_true, decide_eq_true_eq] at hgood
      obtain ⟨⟨x1, x2⟩, x3⟩ := hgood
      have y1 : ¬ (c.toNat : Int) < 33 := by omega
      have y2 : ¬ (126 : Int) < (c.toNat : Int) := by omega
      have hq : ((c.toNat : Int) == 60) = false := by
        rw [beq_eq_false_iff_ne]
        intro h
        rw [bne_iff_ne] at x3
        exact x3 (UInt8.toNat_inj.1 (by rw [show ((60 : UInt8).toNat) = 60 from rfl]; omega))
      clear hbad x3 x1 x2
      go_wp2
      go_round
      case rel => exact ⟨j + 1, by omega, by rw [Hi.out]; go_num, HK⟩
      case measure => simp [intOf]; omega
  obtain rfl : j = e - f := by omega
  have hall : t.all cbB = true := by have := hb.out; rw [show e - f = t.length from HT.out.symm, List.take_length] at this; exact this
  have R3 := hid (show cbL l = if g < f then (if ((prsR nm).2 && (vnum 65535 d).2 && decide (0 < (vnum 65535 d).1)) then some ((prsR nm).1, (vnum 65535 d).1.toNat, t) else none) else (if (prsR nm).2 then some ((prsR nm).1, 80, t) else none) by
    rw [R2.out]
    unfold cbE
    rw [hall, decide_eq_true (p := t.length ≤ 256) (by have := HT.out; omega), Bool.and_true, Bool.and_true, Bool.and_true, Bool.and_true]
    rfl)
  rw [show f + (e - f) = e by omega]
  clear R2 hb hall hlt hj Htg
  have E1 := hid (show s.extract 8 g = ⟨nm.toArray⟩ by rw [HSL.out, gext, HC.out.en])
  have E2 := hid (show s.extract f e = ⟨t.toArray⟩ by rw [HSL.out, gext, HC.out.et])
  have PA := hid (fun w => rparse_in ⟨nm.toArray⟩ w (by rw [← HC.out.en, Lib.size_eq]; simp; omega))
  have hvb := hid (vnum_bd 65535 d)
  obtain ⟨hh, hhh⟩ : ∃ h, h = (prsR nm).1 := ⟨_, rfl⟩
  obtain ⟨ho, hho⟩ : ∃ h, h = (prsR nm).2 := ⟨_, rfl⟩
  rw [show (⟨nm.toArray⟩ : ByteArray).data.toList = nm from rfl, ← hhh, ← hho] at PA
  rw [← hhh, ← hho] at R3
  clear hhh hho
  go_wp2_with fail
  go_loop [10] (fun vk => ∃ i : Nat, 8 ≤ i ∧ i ≤ g ∧ vk = .int .i64 i) (fun vk => l.length - (intOf vk).toNat)
  case atStart => exact ⟨8, Nat.le_refl _, g0, rfl⟩
  case round =>
  obtain ⟨i, hi0, hi, rfl⟩ := hrel
  by_cases hlt : i < g
  · have hc : s[i]'(by omega) = l.getD i 0 := Hstr.out i (by omega)
    have hx := HC.out.s3.ne i hi0 hlt
    generalize l.getD i 0 = c at hc hx
    have hq : ((c.toNat : Int) != 58) = true := by
      rw [bne_iff_ne]
      intro h
      exact hx (UInt8.toNat_inj.1 (by rw [show ((58 : UInt8).toNat) = 58 from rfl]; omega))
    have hls : i < s.size := by omega
    clear hx
    go_wp2
    go_round
    case rel => exact ⟨i + 1, by omega, by omega, by go_num⟩
    case measure => simp [intOf]; omega
  obtain rfl : g = i := by omega
  clear hlt hi hi0
  by_cases hg : g = f
  · have hgf : ¬ g < f := by omega
    have R4 := hid (show cbL l = if ho then some (hh, 80, t) else none by rw [R3.out, if_neg hgf])
    have E1' := E1.out
    have E2' := E2.out
    clear R3
    subst hg
    go_wp2_with fail
    try rw [E1']
    refine (PA.out _).mono ?_
    rintro e1 w1 ⟨rfl, rfl⟩
    cases ho
    · go_wp2
      ((try simp only [Exit.inBlock, Exit.then]); refine bodyPost_ret (results_tmp4 rfl _ _ _) rfl ?_)
      exact ⟨by rw [R4.out]; rfl, by first | exact gr_refl _ _ | exact gr_drewN _ (gr_refl _ _)⟩
    · go_wp2_with fail
      go_quiet (fail)
      try rw [E2']
      go_wp2
      ((try simp only [Exit.inBlock, Exit.then]); refine bodyPost_ret (results_tmp4 rfl _ _ _) rfl ?_)
      exact ⟨by rw [R4.out]; rfl, by first | exact gr_refl _ _ | exact gr_drewN _ (gr_refl _ _)⟩
  have hgf : g < f := by omega
  have hc : s[g]'(by omega) = 58 := by rw [Hstr.out g (by omega)]; exact HC.out.s3.hit hgf
  have E3 := hid (show s.extract (g + 1) f = ⟨d.toArray⟩ by rw [HSL.out, gext, HC.out.ed hgf])
  have NU := hid (fun w => rnum_any ⟨d.toArray⟩ 65535 w (by rw [← HC.out.ed hgf, Lib.size_eq]; simp; omega))
  rw [show (⟨d.toArray⟩ : ByteArray).data.toList = d from rfl] at NU
  have R4 := hid (show cbL l = if (ho && (vnum 65535 d).2 && decide (0 < (vnum 65535 d).1)) then some (hh, (vnum 65535 d).1.toNat, t) else none by rw [R3.out, if_pos hgf])
  obtain ⟨nv, hnv⟩ : ∃ h, h = (vnum 65535 d).1 := ⟨_, rfl⟩
  obtain ⟨no, hno⟩ : ∃ h, h = (vnum 65535 d).2 := ⟨_, rfl⟩
  rw [← hnv, ← hno] at R4 NU hvb
  have E1' := E1.out
  have E2' := E2.out
  have E3' := E3.out
  have hls : g < s.size := by omega
  clear hnv hno R3
  go_wp2_with fail
  try rw [E1']
  refine (PA.out _).mono ?_
  rintro e1 w1 ⟨rfl, rfl⟩
  go_wp2_with fail
  try rw [E3']
  refine (NU.out _).mono ?_
  rintro e1 w1 ⟨rfl, rfl⟩
  by_cases h1 : ho = true
  · subst h1
    by_cases h2 : no = true
    · subst h2
      by_cases h3 : (0 : Int) < nv
      · have h3' := decide_eq_true h3
        have hb3 := hvb.out rfl
        obtain ⟨nk, rfl⟩ : ∃ nk : Nat, nv = nk := ⟨nv.toNat, by omega⟩
        have R5 := hid (show cbL l = some (hh, nk, t) by rw [R4.out, h3']; rfl)
        have h3n : 0 < nk := by omega
        have h3m : decide (0 < nk) = true := decide_eq_true h3n
        clear R4 hvb
        go_wp2_with fail
        go_quiet (fail)
        try rw [E2']
        go_wp2
        ((try simp only [Exit.inBlock, Exit.then]); refine bodyPost_ret (results_tmp4 rfl _ _ _) rfl ?_)
        exact ⟨by rw [R5.out]; rfl, by first | exact gr_refl _ _ | exact gr_drewN _ (gr_refl _ _)⟩
      · have h3' := decide_eq_false h3
        have R5 := hid (show cbL l = none by rw [R4.out, h3']; rfl)
        clear R4 hvb
        go_wp2
        ((try simp only [Exit.inBlock, Exit.then]); refine bodyPost_ret (results_tmp4 rfl _ _ _) rfl ?_)
        exact ⟨by rw [R5.out]; rfl, by first | exact gr_refl _ _ | exact gr_drewN _ (gr_refl _ _)⟩
    · obtain rfl : no = false := by simpa using h2
      have R5 := hid (show cbL l = none by rw [R4.out]; rfl)
      clear R4 hvb
      go_wp2
      ((try simp only [Exit.inBlock, Exit.then]); refine bodyPost_ret (results_tmp4 rfl _ _ _) rfl ?_)
      exact ⟨by rw [R5.out]; rfl, by first | exact gr_refl _ _ | exact gr_drewN _ (gr_refl _ _)⟩
  · obtain rfl : ho = false := by simpa using h1
    have R5 := hid (show cbL l = none by rw [R4.out]; rfl)
    clear R4 hvb
    go_wp2
    ((try simp only [Exit.inBlock, Exit.then]); refine bodyPost_ret (results_tmp4 rfl _ _ _) rfl ?_)
    exact ⟨by rw [R5.out]; rfl, by first | exact gr_refl _ _ | exact gr_drewN _ (gr_refl _ _)⟩
end Go.Proofs.YtfceodbpkghkaaaGreatDoor
/- gena.Seconds and hearthref22.Seconds. -/
namespace Go.Proofs.YtfceodbpkghkaaaGreatDoor
open Go.RowKit
set_option linter.unusedVariables false
set_option linter.unusedSimpArgs false

theorem secL_is (l : Gs) (p : Gs) (hp : p = Lib.trimPrefix l secP) : secL l = if Lib.hasPrefix l secP && (numR 10 9999999 p).2 then min (max (numR 10 9999999 p).1.toNat 60) 1800 else 1800 := by
  unfold secL
  cases h : Lib.hasPrefix l secP
  · rfl
  · have : p = l.drop 7 := by rw [hp]; unfold Lib.trimPrefix; rw [if_pos h]; rfl
    rw [this]
set_option maxHeartbeats 4000000 in
set_option maxRecDepth 20000 in
theorem seconds_x (s : ByteArray) (w : World) (hs : s.size ≤ 100000) :
    Calls Tryz.prog 10 #[.string s] w fun e w' => e = .returned (.int .u64 (secL s.data.toList)) ∧ w.grownBy w' none := by
  obtain ⟨l, hl⟩ : ∃ l, l = s.data.toList := ⟨_, rfl⟩
  have hlen : s.size = l.length := by rw [hl, ← Lib.size_eq]
  have HP := Tryz.strings_CutPrefix s ⟨#[83, 101, 99, 111, 110, 100, 45]⟩ w
  rw [← hl] at HP ⊢
  rw [show (⟨#[83, 101, 99, 111, 110, 100, 45]⟩ : ByteArray).data.toList = secP from rfl] at HP
  obtain ⟨p, hp⟩ : ∃ p, p = Lib.trimPrefix l secP := ⟨_, rfl⟩
  have R := secL_is l p hp
  obtain ⟨S1, hS1⟩ : ∃ S : ByteArray, S = ⟨p.toArray⟩ := ⟨_, rfl⟩
  obtain ⟨b, hb⟩ : ∃ b, b = Lib.hasPrefix l secP := ⟨_, rfl⟩
  have hpl : p.length ≤ l.length := by rw [hp]; unfold Lib.trimPrefix; split <;> simp
  have HN := fun w => number_any S1 10 9999999 w (by rw [hS1, Lib.size_eq]; simp; omega)
  rw [show S1.data.toList = p by rw [hS1]] at HN
  rw [← hp, ← hb, ← hS1] at HP
  rw [← hb] at R
  obtain ⟨n, hn⟩ : ∃ n, n = (numR 10 9999999 p).1 := ⟨_, rfl⟩
  obtain ⟨o, ho⟩ : ∃ n, n = (numR 10 9999999 p).2 := ⟨_, rfl⟩
  rw [← hn, ← ho] at HN R
  have HP := hid HP
  have HN := hid HN
  have R := hid R
  clear hl hp hS1 hb hn ho hpl hlen
  go_enter Tryz.func10, Tryz.ntmps10
  go_wp2_with fail
  refine HP.out.mono ?_
  rintro e w ⟨rfl, rfl⟩
  go_wp2_with fail
  refine (HN.out w).mono ?_
  rintro e w1 ⟨rfl, g⟩
  have G := hid g
  clear g HP HN
  cases b
  · have R2 := hid (show secL l = 1800 by rw [R.out]; rfl)
    go_wp2
    go_ret
    exact ⟨by rw [R2.out]; rfl, G.out⟩
  · cases o
    · have R2 := hid (show secL l = 1800 by rw [R.out]; rfl)
      go_wp2
      go_ret
      exact ⟨by rw [R2.out]; rfl, G.out⟩
    · have R2 := hid (show secL l = min (max n.toNat 60) 1800 by rw [R.out]; rfl)
      clear R
      have HI := hid (show ((min (max n.toNat 60) 1800 : Nat) : Int) = min (max n 60) 1800 by omega)
      go_wp2
      go_ret
      exact ⟨by rw [R2.out, HI.out]; rfl, G.out⟩
set_option maxHeartbeats 4000000 in
set_option maxRecDepth 20000 in
theorem rseconds_x (s : ByteArray) (w : World) (hs : s.size ≤ 100000) :
    Calls Tryz.prog 11 #[.string s] w fun e w' => e = .returned (.int .u64 (secL s.data.toList)) ∧ w.grownBy w' none := by
  obtain ⟨l, hl⟩ : ∃ l, l = s.data.toList := ⟨_, rfl⟩
  have hlen : s.size = l.length := by rw [hl, ← Lib.size_eq]
  have hsl : s = ⟨l.toArray⟩ := by rw [hl]
  rw [← hl]
  have HSL := hid hsl
  clear hl hsl
  by_cases h8 : l.length < 8
  · have R := hid (show secL l = 1800 by
      unfold secL
      by_cases hh : Lib.hasPrefix l secP = true
      · rw [List.drop_of_length_le (by omega)]
        rw [show (numR 10 9999999 []).2 = false from rfl, Bool.and_false]; rfl
      · rw [show Lib.hasPrefix l secP = false by simpa using hh]; rfl)
    have h8' : s.size < 8 := by omega
    clear hlen HSL
    go_enter Tryz.func11, Tryz.ntmps11
    go_wp2
    go_ret
    exact ⟨by rw [R.out]; rfl, gr_refl _ _⟩
  have h8' : ¬ s.size < 8 := by omega
  have h7 : 7 ≤ s.size := by omega
  have h7' : (7 : Int) ≤ (s.size : Int) := by omega
  by_cases hp : Lib.hasPrefix l secP = false
  · have R := hid (show secL l = 1800 by unfold secL; rw [hp]; rfl)
    have hn : ((s.extract 0 7).toList == [83, 101, 99, 111, 110, 100, 45]) = false := by
      rw [hpre_take, decide_eq_false_iff_not] at hp
      rw [HSL.out, gext, Lib.toList_data, beq_eq_false_iff_ne]
      simpa [secP] using hp
    clear hlen hp
    go_enter Tryz.func11, Tryz.ntmps11
    go_wp2
    go_ret
    exact ⟨by rw [R.out]; rfl, gr_refl _ _⟩
  have hp : Lib.hasPrefix l secP = true := by simpa using hp
  have hn : ((s.extract 0 7).toList == [83, 101, 99, 111, 110, 100, 45]) = true := by
    rw [hpre_take, decide_eq_true_iff] at hp
    rw [HSL.out, gext, Lib.toList_data, beq_iff_eq]
    simpa [secP] using hp
  have R := hid (show secL l = if (numR 10 9999999 (l.drop 7)).2 then min (max (numR 10 9999999 (l.drop 7)).1.toNat 60) 1800 else 1800 by unfold secL; rw [hp, Bool.true_and])
  obtain ⟨D, hD⟩ : ∃ D : ByteArray, D = ⟨(l.drop 7).toArray⟩ := ⟨_, rfl⟩
  have E1 : s.extract 7 s.size = D := by rw [hD, HSL.out, gext, Lib.size_eq, List.take_of_length_le (by simp)]
  have HN := fun w => rnumber_any D 10 9999999 w (by rw [hD, Lib.size_eq]; simp; omega)
  rw [show D.data.toList = l.drop 7 by rw [hD]] at HN
  obtain ⟨n, hn'⟩ : ∃ n, n = (numR 10 9999999 (l.drop 7)).1 := ⟨_, rfl⟩
  obtain ⟨o, ho⟩ : ∃ n, n = (numR 10 9999999 (l.drop 7)).2 := ⟨_, rfl⟩
  rw [← hn', ← ho] at HN R
  have HN := hid HN
  have hlA : s.size ≤ l.length := by omega
  clear hp hD hn' ho hlen HSL
  go_enter Tryz.func11, Tryz.ntmps11
  go_wp2_with fail
  try rw [E1]
  refine (HN.out w).mono ?_
  rintro e w1 ⟨rfl, g⟩
  have G := hid g
  clear g HN
  cases o
  · have R2 := hid (show secL l = 1800 by rw [R.out]; rfl)
    go_wp2
    go_ret
    exact ⟨by rw [R2.out]; rfl, G.out⟩
  · by_cases h1 : 1800 < n
    · have R2 := hid (show secL l = 1800 by rw [R.out, if_pos rfl]; omega)
      have h1' := decide_eq_true h1
      go_wp2
      go_ret
      exact ⟨by rw [R2.out]; rfl, G.out⟩
    · have h1' := decide_eq_false h1
      by_cases h2 : n < 60
      · have R2 := hid (show secL l = 60 by rw [R.out, if_pos rfl]; omega)
        have h2' := decide_eq_true h2
        go_wp2
        go_ret
        exact ⟨by rw [R2.out]; rfl, G.out⟩
      · have h2' := decide_eq_false h2
        obtain ⟨k, rfl⟩ : ∃ k : Nat, n = k := ⟨n.toNat, by omega⟩
        have R2 := hid (show secL l = k by rw [R.out, if_pos rfl]; omega)
        go_wp2
        go_ret
        exact ⟨by rw [R2.out]; rfl, G.out⟩
end Go.Proofs.YtfceodbpkghkaaaGreatDoor
