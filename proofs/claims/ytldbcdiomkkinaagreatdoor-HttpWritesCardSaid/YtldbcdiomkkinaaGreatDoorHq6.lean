/- hearthref16.line, Status: the walks. -/
import Derived.Test.YtldbcdiomkkinaaGreatDoorHq5
import Derived.Test.YtldbcdiomkkinaaGreatDoorHq4
namespace Go.Proofs.YtldbcdiomkkinaaGreatDoor
open Go.RowKit

def lineV (b : List UInt8) : Value := match lineL b with
  | none => .tuple #[.string ⟨#[]⟩, .bool false, .int .i64 0, .bool false]
  | some (t, x, r) => .tuple #[.string ⟨t.toArray⟩, .bool x, .int .i64 ((b.length - r.length : Nat) : Int), .bool true]
theorem str_facts (b : List UInt8) (s : ByteArray) (hs : s = ⟨b.toArray⟩) : s.size = b.length ∧ (∀ (i : Nat) (h : i < s.size), s[i] = b.getD i 0) ∧ ∀ j, s.extract 0 j = ⟨(b.take j).toArray⟩ := by
  have hsz : s.size = b.length := by rw [hs, Lib.size_eq]
  refine ⟨hsz, fun i h => ?_, fun j => ?_⟩
  · subst hs
    rw [List.getD_eq_getElem?_getD, List.getElem?_eq_getElem (by rw [← hsz]; exact h)]
    rfl
  · rw [hs]
    apply ByteArray.ext
    rw [ByteArray.data_extract]
    simp
set_option maxRecDepth 20000 in
set_option maxHeartbeats 4000000 in
theorem rline (b : List UInt8) (w : World) (hb : b.length ≤ 1000000) : Calls Tryz.prog 24 #[.string ⟨b.toArray⟩, .int .i64 0] w fun e w' => e = .returned (lineV b) ∧ w' = w := by
  obtain ⟨s, hs⟩ : ∃ s : ByteArray, s = ⟨b.toArray⟩ := ⟨_, rfl⟩
  obtain ⟨hsz, hstr, hext⟩ := str_facts b s hs
  rw [← hs]
  have Hsz := hid hsz
  have Hstr := hid hstr
  have Hext := hid hext
  have hn : s.size ≤ 1000000 := by omega
  clear hs hsz hstr hext hb
  go_enter Tryz.func24, Tryz.ntmps24
  go_wp2_with fail
  go_loop [8] (fun v8 => ∃ j : Nat, j ≤ s.size ∧ v8 = .int .i64 (j : Int) ∧ Hid (∀ i, i < j → b.getD i 0 ≠ 10)) (fun v8 => s.size - (intOf v8).toNat)
  case atStart => exact ⟨0, Nat.zero_le _, rfl, fun i hi => by omega⟩
  case round =>
    obtain ⟨j, hj, rfl, hne⟩ := hrel
    by_cases hjn : j < s.size
    · have hjn' : (j : Int) < (s.size : Int) := by omega
      have e0 : s[j]'hjn = b.getD j 0 := Hstr.out j hjn
      by_cases hx : b.getD j 0 = 10
      · have HL := hid (lineL_at b j (by rw [← Hsz.out]; exact hjn) hne.out hx)
        rw [hx] at e0
        have HE := hid (Hext.out j)
        by_cases hj0 : j = 0
        · subst hj0
          have HV := hid (show lineV b = .tuple #[.string ⟨#[]⟩, .bool true, .int .i64 1, .bool true] by
            unfold lineV
            rw [HL.out, if_neg (by omega)]
            have h1 := Hsz.out
            simp
            omega)
          clear hx hne HL HE
          go_wp2_with fail
          ((try simp only [Exit.inBlock, Exit.then]); refine bodyPost_ret (results_tmp4 rfl _ _ _) rfl ?_)
          exact ⟨by rw [HV.out]; rfl, rfl⟩
        · obtain ⟨k, rfl⟩ : ∃ k, j = k + 1 := ⟨j - 1, by omega⟩
          have hk : k < s.size := by omega
          have e1 : s[k]'hk = b.getD k 0 := Hstr.out k hk
          have HE1 := hid (Hext.out k)
          by_cases h13 : b.getD k 0 = 13
          · have HV := hid (show lineV b = .tuple #[.string (s.extract 0 k), .bool false, .int .i64 ((k : Int) + 1 + 1), .bool true] by
              unfold lineV
              rw [HL.out, if_pos ⟨by omega, by rw [show k + 1 - 1 = k by omega]; exact h13⟩, HE1.out]
              have h1 := Hsz.out
              simp
              omega)
            rw [h13] at e1
            clear hx hne HL HE HE1 h13
            go_wp2_with fail
            ((try simp only [Exit.inBlock, Exit.then]); refine bodyPost_ret (results_tmp4 rfl _ _ _) rfl ?_)
            exact ⟨by rw [HV.out]; rfl, rfl⟩
          · have HV := hid (show lineV b = .tuple #[.string (s.extract 0 (k + 1)), .bool true, .int .i64 ((k : Int) + 1 + 1), .bool true] by
              unfold lineV
              rw [HL.out, if_neg (by rw [show k + 1 - 1 = k by omega]; exact fun h => h13 h.2), HE.out]
              have h1 := Hsz.out
              simp
              omega)
            obtain ⟨y, hy⟩ : ∃ y, y = b.getD k 0 := ⟨_, rfl⟩
            rw [← hy] at e1 h13
            have z13 : ((y.toNat : Int) == 13) = false := by
              have := ne_of_byte (n := 13) (by omega) h13
              simpa using this
            clear hx hne HL HE HE1 h13 hy
            go_wp2_with fail
            ((try simp only [Exit.inBlock, Exit.then]); refine bodyPost_ret (results_tmp4 rfl _ _ _) rfl ?_)
            exact ⟨by rw [HV.out]; rfl, rfl⟩
      · have HN := hid (show ∀ i, i < j + 1 → b.getD i 0 ≠ 10 from fun i hi => by
          by_cases hij : i < j
          · exact hne.out i hij
          · obtain rfl : i = j := by omega
            exact hx)
        obtain ⟨y, hy⟩ : ∃ y, y = b.getD j 0 := ⟨_, rfl⟩
        rw [← hy] at e0 hx
        have z10 : ((y.toNat : Int) == 10) = false := by
          have := ne_of_byte (n := 10) (by omega) hx
          simpa using this
        clear hx hne hy
        go_wp2_with fail
        go_round
        case rel => exact ⟨j + 1, by omega, by first | go_num | (congr 1; omega), HN⟩
        case measure => simp [intOf]; omega
    · obtain rfl : j = s.size := by omega
      have HV := hid (show lineV b = .tuple #[.string ⟨#[]⟩, .bool false, .int .i64 0, .bool false] by
        unfold lineV
        rw [lineL_never b (by rw [← Hsz.out]; exact hne.out)])
      clear hne
      go_wp2_with fail
      ((try simp only [Exit.inBlock, Exit.then]); refine bodyPost_ret (results_tmp4 rfl _ _ _) rfl ?_)
      exact ⟨by rw [HV.out]; rfl, rfl⟩
set_option maxRecDepth 20000 in
set_option maxHeartbeats 4000000 in
theorem rstatus (b : List UInt8) (w : World) (hb : b.length ≤ 1000000) :
    Calls Tryz.prog 10 #[.string ⟨b.toArray⟩] w fun e w' => e = .returned (.tuple #[.int .i64 (statL b).1, .bool (statL b).2]) ∧ w.grownBy w' none := by
  have HLN := hid (rline b w hb)
  have hbs : (⟨b.toArray⟩ : ByteArray).size = b.length := by rw [Lib.size_eq]
  rcases hl : lineL b with _ | ⟨t, bare, r⟩
  · have HLV := hid (show lineV b = .tuple #[.string ⟨#[]⟩, .bool false, .int .i64 0, .bool false] by unfold lineV; rw [hl])
    have HS := hid (show statL b = (0, decide (b.length ≤ 256)) by unfold statL; rw [hl])
    clear hl hbs
    go_enter Tryz.func10, Tryz.ntmps10
    go_wp2_with fail
    refine HLN.out.mono ?_
    rintro e w2 ⟨rfl, rfl⟩
    rw [HLV.out]
    go_wp2_with fail
    go_ret2
    refine ⟨?_, gr_refl _ _⟩
    rw [HS.out]
    by_cases h : b.length ≤ 256
    · have h' : (b.length : Int) ≤ 256 := by omega
      simp [h, h', go_sem]
    · have h' : ¬ (b.length : Int) ≤ 256 := by omega
      simp [h, h', go_sem]
  · have hlen := lineL_len hl
    have HTL := hid (show t.length ≤ 1000000 from Nat.le_trans (lineL_tlen hl) hb)
    obtain ⟨d, hd⟩ : ∃ d, d = b.length - r.length := ⟨_, rfl⟩
    have HLV := hid (show lineV b = .tuple #[.string ⟨t.toArray⟩, .bool bare, .int .i64 (d : Int), .bool true] by unfold lineV; rw [hl, hd])
    have HSL := hid (show statL b = if bare = true ∨ 256 < d then (0, false) else stat12 t by unfold statL; rw [hl, hd, stat12_eq])
    clear hl hd hlen hbs
    obtain ⟨s, hs⟩ : ∃ s : ByteArray, s = ⟨t.toArray⟩ := ⟨_, rfl⟩
    obtain ⟨hsz, hstr, hext⟩ := str_facts t s hs
    have Hx9 := hid (show s.extract 9 12 = ⟨((t.drop 9).take 3).toArray⟩ by
      rw [hs]
      apply ByteArray.ext
      rw [ByteArray.data_extract]
      simp)
    have Hx7 := hid (hext 7)
    rw [← hs] at HLV
    have Hsz := hid hsz
    have Hstr := hid hstr
    clear hs hsz hstr hext
    cases bare
    · by_cases hbig : 256 < d
      · have HS := hid (show statL b = (0, false) by rw [HSL.out]; exact if_pos (.inr hbig))
        have hbig' : decide ((256 : Int) < (d : Int)) = true := by simp; omega
        clear HSL hbig
        go_enter Tryz.func10, Tryz.ntmps10
        go_wp2_with fail
        refine HLN.out.mono ?_
        rintro e w2 ⟨rfl, rfl⟩
        rw [HLV.out]
        go_wp2_with fail
        go_ret2
        exact ⟨by rw [HS.out]; rfl, gr_refl _ _⟩
      · have HSL2 := hid (HSL.out.trans (if_neg (by simpa using hbig)))
        have hbig' : decide ((256 : Int) < (d : Int)) = false := by simp; omega
        clear HSL hbig
        by_cases h12 : t.length < 12
        · have HS := hid (show statL b = (0, false) by rw [HSL2.out]; unfold stat12; exact if_pos (.inl h12))
          have h12' : (s.size : Int) < 12 := by rw [Hsz.out]; omega
          clear HSL2 h12
          go_enter Tryz.func10, Tryz.ntmps10
          go_wp2_with fail
          refine HLN.out.mono ?_
          rintro e w2 ⟨rfl, rfl⟩
          rw [HLV.out]
          go_wp2_with fail
          go_ret2
          exact ⟨by rw [HS.out]; rfl, gr_refl _ _⟩
        · have h12' : decide ((s.size : Int) < 12) = false := by rw [Hsz.out]; simp; omega
          have h12b : (12 : Int) ≤ (s.size : Int) := by rw [Hsz.out]; omega
          have h7b : (7 : Int) ≤ (s.size : Int) := by omega
          by_cases hp : t.take 7 = h1L
          · have hq7 : ((s.extract 0 7).toList == [72, 84, 84, 80, 47, 49, 46]) = true := by rw [Hx7.out, hp, Lib.toList_data]; rfl
            have l7 : 7 < s.size := by omega
            have l8 : 8 < s.size := by omega
            have l9 : 9 < s.size := by omega
            have e7 : s[7]'l7 = t.getD 7 0 := Hstr.out 7 l7
            have e8 : s[8]'l8 = t.getD 8 0 := Hstr.out 8 l8
            have e9 : s[9]'l9 = t.getD 9 0 := Hstr.out 9 l9
            have HD := hid (show stat12 t = if t.length < 12 ∨ t.take 7 ≠ h1L ∨ (t.getD 7 0 ≠ 48 ∧ t.getD 7 0 ≠ 49) ∨ t.getD 8 0 ≠ 32 ∨ (12 < t.length ∧ t.getD 12 0 ≠ 32) then (0, false)
              else if (numR 10 999 ((t.drop 9).take 3)).2 = false ∨ t.getD 9 0 = 48 then (0, false) else ((numR 10 999 ((t.drop 9).take 3)).1, false) from rfl)
            obtain ⟨x7, hx7⟩ : ∃ x, x = t.getD 7 0 := ⟨_, rfl⟩
            obtain ⟨x8, hx8⟩ : ∃ x, x = t.getD 8 0 := ⟨_, rfl⟩
            obtain ⟨x9, hx9⟩ : ∃ x, x = t.getD 9 0 := ⟨_, rfl⟩
            obtain ⟨xc, hxc⟩ : ∃ x, x = t.getD 12 0 := ⟨_, rfl⟩
            rw [← hx7] at e7
            rw [← hx8] at e8
            rw [← hx9] at e9
            rw [← hx7, ← hx8, ← hx9, ← hxc] at HD
            have HXC := hid hxc
            have HY := hid (show ¬ (x7 ≠ 48 ∧ x7 ≠ 49) → ¬ x8 ≠ 32 → ¬ (12 < t.length ∧ xc ≠ 32) → statL b = if (numR 10 999 ((t.drop 9).take 3)).2 = false ∨ x9 = 48 then (0, false) else ((numR 10 999 ((t.drop 9).take 3)).1, false) from fun a1 a2 a3 => by
              rw [HSL2.out, HD.out]
              exact if_neg (by rintro (h | h | h | h | h); exact h12 h; exact h hp; exact a1 h; exact a2 h; exact a3 h))
            have HN := hid (show ((x7 ≠ 48 ∧ x7 ≠ 49) ∨ x8 ≠ 32 ∨ (12 < t.length ∧ xc ≠ 32)) → statL b = (0, false) from fun a1 => by
              rw [HSL2.out, HD.out]
              exact if_pos (.inr (.inr a1)))
            clear hx7 hx8 hx9 hxc HD HSL2 hp h12
            by_cases y48 : x7 = 48
            · have z0 : ((x7.toNat : Int) != 48) = false := by rw [y48]; rfl
              by_cases y32 : x8 = 32
              · have z1 : ((x8.toNat : Int) != 32) = false := by rw [y32]; rfl
                by_cases h13 : 12 < t.length
                · have h13' : (12 : Int) < (s.size : Int) := by rw [Hsz.out]; omega
                  have hs12 : 12 < s.size := by omega
                  have ec : s[12]'hs12 = xc := by rw [HXC.out]; exact Hstr.out 12 hs12
                  by_cases yc : xc = 32
                  · have zc : ((xc.toNat : Int) != 32) = false := by rw [yc]; rfl
                    have HZ := hid (HY.out (fun h => by first | exact h.1 y48 | exact h.2 y49) (fun h => h y32) (fun h => h.2 yc))
                    clear HN HY HXC
                    have HNU := hid (fun W => rnumber_any ⟨((t.drop 9).take 3).toArray⟩ 10 999 W (by rw [Lib.size_eq]; simp; omega))
                    rw [show (ByteArray.mk ((t.drop 9).take 3).toArray).data.toList = (t.drop 9).take 3 from rfl] at HNU
                    rcases hx : numR 10 999 ((t.drop 9).take 3) with ⟨q1, q2⟩
                    rw [hx] at HZ HNU
                    clear hx
                    have HX9 := hid Hx9.out
                    clear Hx9
                    cases q2
                    · have HS := hid (show statL b = (0, false) by rw [HZ.out]; exact if_pos (.inl rfl))
                      clear HZ
                      go_enter Tryz.func10, Tryz.ntmps10
                      go_wp2_with fail
                      refine HLN.out.mono ?_
                      rintro e w2 ⟨rfl, rfl⟩
                      rw [HLV.out]
                      go_wp2_with fail
                      rw [HX9.out]
                      refine (HNU.out w2).mono ?_
                      rintro e w4 ⟨rfl, g4⟩
                      have G4 := hid g4
                      clear g4
                      go_wp2_with fail
                      go_ret2
                      exact ⟨by rw [HS.out]; rfl, G4.out⟩
                    · by_cases q48 : x9 = 48
                      · have HS := hid (show statL b = (0, false) by rw [HZ.out]; exact if_pos (.inr q48))
                        have zq : ((x9.toNat : Int) == 48) = true := by rw [q48]; rfl
                        clear HZ
                        go_enter Tryz.func10, Tryz.ntmps10
                        go_wp2_with fail
                        refine HLN.out.mono ?_
                        rintro e w2 ⟨rfl, rfl⟩
                        rw [HLV.out]
                        go_wp2_with fail
                        rw [HX9.out]
                        refine (HNU.out w2).mono ?_
                        rintro e w4 ⟨rfl, g4⟩
                        have G4 := hid g4
                        clear g4
                        go_wp2_with fail
                        go_ret2
                        exact ⟨by rw [HS.out]; rfl, G4.out⟩
                      · have HS := hid (show statL b = (q1, false) by rw [HZ.out]; exact if_neg (fun h => h.elim (fun e => by cases e) q48))
                        have zq : ((x9.toNat : Int) == 48) = false := by
                          have := ne_of_byte (n := 48) (by omega) q48
                          simpa using this
                        clear HZ
                        go_enter Tryz.func10, Tryz.ntmps10
                        go_wp2_with fail
                        refine HLN.out.mono ?_
                        rintro e w2 ⟨rfl, rfl⟩
                        rw [HLV.out]
                        go_wp2_with fail
                        rw [HX9.out]
                        refine (HNU.out w2).mono ?_
                        rintro e w4 ⟨rfl, g4⟩
                        have G4 := hid g4
                        clear g4
                        go_wp2_with fail
                        go_ret2
                        exact ⟨by rw [HS.out]; rfl, G4.out⟩
                  · have zc : ((xc.toNat : Int) != 32) = true := ne_of_byte (n := 32) (by omega) yc
                    have HS := hid (HN.out (.inr (.inr ⟨h13, yc⟩)))
                    clear HN HY HXC
                    go_enter Tryz.func10, Tryz.ntmps10
                    go_wp2_with fail
                    refine HLN.out.mono ?_
                    rintro e w2 ⟨rfl, rfl⟩
                    rw [HLV.out]
                    go_wp2_with fail
                    go_ret2
                    exact ⟨by rw [HS.out]; rfl, gr_refl _ _⟩
                · have h13' : decide ((12 : Int) < (s.size : Int)) = false := by rw [Hsz.out]; simp; omega
                  have HZ := hid (HY.out (fun h => by first | exact h.1 y48 | exact h.2 y49) (fun h => h y32) (fun h => h13 h.1))
                  clear HN HY HXC
                  have HNU := hid (fun W => rnumber_any ⟨((t.drop 9).take 3).toArray⟩ 10 999 W (by rw [Lib.size_eq]; simp; omega))
                  rw [show (ByteArray.mk ((t.drop 9).take 3).toArray).data.toList = (t.drop 9).take 3 from rfl] at HNU
                  rcases hx : numR 10 999 ((t.drop 9).take 3) with ⟨q1, q2⟩
                  rw [hx] at HZ HNU
                  clear hx
                  have HX9 := hid Hx9.out
                  clear Hx9
                  cases q2
                  · have HS := hid (show statL b = (0, false) by rw [HZ.out]; exact if_pos (.inl rfl))
                    clear HZ
                    go_enter Tryz.func10, Tryz.ntmps10
                    go_wp2_with fail
                    refine HLN.out.mono ?_
                    rintro e w2 ⟨rfl, rfl⟩
                    rw [HLV.out]
                    go_wp2_with fail
                    rw [HX9.out]
                    refine (HNU.out w2).mono ?_
                    rintro e w4 ⟨rfl, g4⟩
                    have G4 := hid g4
                    clear g4
                    go_wp2_with fail
                    go_ret2
                    exact ⟨by rw [HS.out]; rfl, G4.out⟩
                  · by_cases q48 : x9 = 48
                    · have HS := hid (show statL b = (0, false) by rw [HZ.out]; exact if_pos (.inr q48))
                      have zq : ((x9.toNat : Int) == 48) = true := by rw [q48]; rfl
                      clear HZ
                      go_enter Tryz.func10, Tryz.ntmps10
                      go_wp2_with fail
                      refine HLN.out.mono ?_
                      rintro e w2 ⟨rfl, rfl⟩
                      rw [HLV.out]
                      go_wp2_with fail
                      rw [HX9.out]
                      refine (HNU.out w2).mono ?_
                      rintro e w4 ⟨rfl, g4⟩
                      have G4 := hid g4
                      clear g4
                      go_wp2_with fail
                      go_ret2
                      exact ⟨by rw [HS.out]; rfl, G4.out⟩
                    · have HS := hid (show statL b = (q1, false) by rw [HZ.out]; exact if_neg (fun h => h.elim (fun e => by cases e) q48))
                      have zq : ((x9.toNat : Int) == 48) = false := by
                        have := ne_of_byte (n := 48) (by omega) q48
                        simpa using this
                      clear HZ
                      go_enter Tryz.func10, Tryz.ntmps10
                      go_wp2_with fail
                      refine HLN.out.mono ?_
                      rintro e w2 ⟨rfl, rfl⟩
                      rw [HLV.out]
                      go_wp2_with fail
                      rw [HX9.out]
                      refine (HNU.out w2).mono ?_
                      rintro e w4 ⟨rfl, g4⟩
                      have G4 := hid g4
                      clear g4
                      go_wp2_with fail
                      go_ret2
                      exact ⟨by rw [HS.out]; rfl, G4.out⟩
              · have z1 : ((x8.toNat : Int) != 32) = true := ne_of_byte (n := 32) (by omega) y32
                have HS := hid (HN.out (.inr (.inl y32)))
                clear HN HY HXC
                go_enter Tryz.func10, Tryz.ntmps10
                go_wp2_with fail
                refine HLN.out.mono ?_
                rintro e w2 ⟨rfl, rfl⟩
                rw [HLV.out]
                go_wp2_with fail
                go_ret2
                exact ⟨by rw [HS.out]; rfl, gr_refl _ _⟩
            · have z0 : ((x7.toNat : Int) != 48) = true := ne_of_byte (n := 48) (by omega) y48
              by_cases y49 : x7 = 49
              · have z9 : ((x7.toNat : Int) != 49) = false := by rw [y49]; rfl
                by_cases y32 : x8 = 32
                · have z1 : ((x8.toNat : Int) != 32) = false := by rw [y32]; rfl
                  by_cases h13 : 12 < t.length
                  · have h13' : (12 : Int) < (s.size : Int) := by rw [Hsz.out]; omega
                    have hs12 : 12 < s.size := by omega
                    have ec : s[12]'hs12 = xc := by rw [HXC.out]; exact Hstr.out 12 hs12
                    by_cases yc : xc = 32
                    · have zc : ((xc.toNat : Int) != 32) = false := by rw [yc]; rfl
                      have HZ := hid (HY.out (fun h => by first | exact h.1 y48 | exact h.2 y49) (fun h => h y32) (fun h => h.2 yc))
                      clear HN HY HXC
                      have HNU := hid (fun W => rnumber_any ⟨((t.drop 9).take 3).toArray⟩ 10 999 W (by rw [Lib.size_eq]; simp; omega))
                      rw [show (ByteArray.mk ((t.drop 9).take 3).toArray).data.toList = (t.drop 9).take 3 from rfl] at HNU
                      rcases hx : numR 10 999 ((t.drop 9).take 3) with ⟨q1, q2⟩
                      rw [hx] at HZ HNU
                      clear hx
                      have HX9 := hid Hx9.out
                      clear Hx9
                      cases q2
                      · have HS := hid (show statL b = (0, false) by rw [HZ.out]; exact if_pos (.inl rfl))
                        clear HZ
                        go_enter Tryz.func10, Tryz.ntmps10
                        go_wp2_with fail
                        refine HLN.out.mono ?_
                        rintro e w2 ⟨rfl, rfl⟩
                        rw [HLV.out]
                        go_wp2_with fail
                        rw [HX9.out]
                        refine (HNU.out w2).mono ?_
                        rintro e w4 ⟨rfl, g4⟩
                        have G4 := hid g4
                        clear g4
                        go_wp2_with fail
                        go_ret2
                        exact ⟨by rw [HS.out]; rfl, G4.out⟩
                      · by_cases q48 : x9 = 48
                        · have HS := hid (show statL b = (0, false) by rw [HZ.out]; exact if_pos (.inr q48))
                          have zq : ((x9.toNat : Int) == 48) = true := by rw [q48]; rfl
                          clear HZ
                          go_enter Tryz.func10, Tryz.ntmps10
                          go_wp2_with fail
                          refine HLN.out.mono ?_
                          rintro e w2 ⟨rfl, rfl⟩
                          rw [HLV.out]
                          go_wp2_with fail
                          rw [HX9.out]
                          refine (HNU.out w2).mono ?_
                          rintro e w4 ⟨rfl, g4⟩
                          have G4 := hid g4
                          clear g4
                          go_wp2_with fail
                          go_ret2
                          exact ⟨by rw [HS.out]; rfl, G4.out⟩
                        · have HS := hid (show statL b = (q1, false) by rw [HZ.out]; exact if_neg (fun h => h.elim (fun e => by cases e) q48))
                          have zq : ((x9.toNat : Int) == 48) = false := by
                            have := ne_of_byte (n := 48) (by omega) q48
                            simpa using this
                          clear HZ
                          go_enter Tryz.func10, Tryz.ntmps10
                          go_wp2_with fail
                          refine HLN.out.mono ?_
                          rintro e w2 ⟨rfl, rfl⟩
                          rw [HLV.out]
                          go_wp2_with fail
                          rw [HX9.out]
                          refine (HNU.out w2).mono ?_
                          rintro e w4 ⟨rfl, g4⟩
                          have G4 := hid g4
                          clear g4
                          go_wp2_with fail
                          go_ret2
                          exact ⟨by rw [HS.out]; rfl, G4.out⟩
                    · have zc : ((xc.toNat : Int) != 32) = true := ne_of_byte (n := 32) (by omega) yc
                      have HS := hid (HN.out (.inr (.inr ⟨h13, yc⟩)))
                      clear HN HY HXC
                      go_enter Tryz.func10, Tryz.ntmps10
                      go_wp2_with fail
                      refine HLN.out.mono ?_
                      rintro e w2 ⟨rfl, rfl⟩
                      rw [HLV.out]
                      go_wp2_with fail
                      go_ret2
                      exact ⟨by rw [HS.out]; rfl, gr_refl _ _⟩
                  · have h13' : decide ((12 : Int) < (s.size : Int)) = false := by rw [Hsz.out]; simp; omega
                    have HZ := hid (HY.out (fun h => by first | exact h.1 y48 | exact h.2 y49) (fun h => h y32) (fun h => h13 h.1))
                    clear HN HY HXC
                    have HNU := hid (fun W => rnumber_any ⟨((t.drop 9).take 3).toArray⟩ 10 999 W (by rw [Lib.size_eq]; simp; omega))
                    rw [show (ByteArray.mk ((t.drop 9).take 3).toArray).data.toList = (t.drop 9).take 3 from rfl] at HNU
                    rcases hx : numR 10 999 ((t.drop 9).take 3) with ⟨q1, q2⟩
                    rw [hx] at HZ HNU
                    clear hx
                    have HX9 := hid Hx9.out
                    clear Hx9
                    cases q2
                    · have HS := hid (show statL b = (0, false) by rw [HZ.out]; exact if_pos (.inl rfl))
                      clear HZ
                      go_enter Tryz.func10, Tryz.ntmps10
                      go_wp2_with fail
                      refine HLN.out.mono ?_
                      rintro e w2 ⟨rfl, rfl⟩
                      rw [HLV.out]
                      go_wp2_with fail
                      rw [HX9.out]
                      refine (HNU.out w2).mono ?_
                      rintro e w4 ⟨rfl, g4⟩
                      have G4 := hid g4
                      clear g4
                      go_wp2_with fail
                      go_ret2
                      exact ⟨by rw [HS.out]; rfl, G4.out⟩
                    · by_cases q48 : x9 = 48
                      · have HS := hid (show statL b = (0, false) by rw [HZ.out]; exact if_pos (.inr q48))
                        have zq : ((x9.toNat : Int) == 48) = true := by rw [q48]; rfl
                        clear HZ
                        go_enter Tryz.func10, Tryz.ntmps10
                        go_wp2_with fail
                        refine HLN.out.mono ?_
                        rintro e w2 ⟨rfl, rfl⟩
                        rw [HLV.out]
                        go_wp2_with fail
                        rw [HX9.out]
                        refine (HNU.out w2).mono ?_
                        rintro e w4 ⟨rfl, g4⟩
                        have G4 := hid g4
                        clear g4
                        go_wp2_with fail
                        go_ret2
                        exact ⟨by rw [HS.out]; rfl, G4.out⟩
                      · have HS := hid (show statL b = (q1, false) by rw [HZ.out]; exact if_neg (fun h => h.elim (fun e => by cases e) q48))
                        have zq : ((x9.toNat : Int) == 48) = false := by
                          have := ne_of_byte (n := 48) (by omega) q48
                          simpa using this
                        clear HZ
                        go_enter Tryz.func10, Tryz.ntmps10
                        go_wp2_with fail
                        refine HLN.out.mono ?_
                        rintro e w2 ⟨rfl, rfl⟩
                        rw [HLV.out]
                        go_wp2_with fail
                        rw [HX9.out]
                        refine (HNU.out w2).mono ?_
                        rintro e w4 ⟨rfl, g4⟩
                        have G4 := hid g4
                        clear g4
                        go_wp2_with fail
                        go_ret2
                        exact ⟨by rw [HS.out]; rfl, G4.out⟩
                · have z1 : ((x8.toNat : Int) != 32) = true := ne_of_byte (n := 32) (by omega) y32
                  have HS := hid (HN.out (.inr (.inl y32)))
                  clear HN HY HXC
                  go_enter Tryz.func10, Tryz.ntmps10
                  go_wp2_with fail
                  refine HLN.out.mono ?_
                  rintro e w2 ⟨rfl, rfl⟩
                  rw [HLV.out]
                  go_wp2_with fail
                  go_ret2
                  exact ⟨by rw [HS.out]; rfl, gr_refl _ _⟩
              · have z9 : ((x7.toNat : Int) != 49) = true := ne_of_byte (n := 49) (by omega) y49
                have HS := hid (HN.out (.inl ⟨y48, y49⟩))
                clear HN HY
                go_enter Tryz.func10, Tryz.ntmps10
                go_wp2_with fail
                refine HLN.out.mono ?_
                rintro e w2 ⟨rfl, rfl⟩
                rw [HLV.out]
                go_wp2_with fail
                go_ret2
                exact ⟨by rw [HS.out]; rfl, gr_refl _ _⟩
          · have hq7 : ((s.extract 0 7).toList == [72, 84, 84, 80, 47, 49, 46]) = false := by
              rw [Hx7.out, Lib.toList_data]
              simpa [h1L] using hp
            have HS := hid (show statL b = (0, false) by rw [HSL2.out]; unfold stat12; exact if_pos (.inr (.inl hp)))
            clear HSL2 hp h12
            go_enter Tryz.func10, Tryz.ntmps10
            go_wp2_with fail
            refine HLN.out.mono ?_
            rintro e w2 ⟨rfl, rfl⟩
            rw [HLV.out]
            go_wp2_with fail
            go_ret2
            exact ⟨by rw [HS.out]; rfl, gr_refl _ _⟩
    · have HS := hid (show statL b = (0, false) by rw [HSL.out]; exact if_pos (.inl rfl))
      clear HSL
      go_enter Tryz.func10, Tryz.ntmps10
      go_wp2_with fail
      refine HLN.out.mono ?_
      rintro e w2 ⟨rfl, rfl⟩
      rw [HLV.out]
      go_wp2_with fail
      go_ret2
      exact ⟨by rw [HS.out]; rfl, gr_refl _ _⟩
end Go.Proofs.YtldbcdiomkkinaaGreatDoor
