/- http.Status. -/
import Derived.Test.YtldbcdiomkkinaaGreatDoorHs1
namespace Go.Proofs.YtldbcdiomkkinaaGreatDoor
open Go.RowKit

def h1L : List UInt8 := [72, 84, 84, 80, 47, 49, 46]
/-- What stands behind the protocol's name. -/
def stat5 (t : List UInt8) : Int × Bool :=
  if t.length < 5 ∨ (t.getD 0 0 ≠ 48 ∧ t.getD 0 0 ≠ 49) ∨ t.getD 1 0 ≠ 32 ∨ (5 < t.length ∧ t.getD 5 0 ≠ 32) then (0, false)
  else if (numR 10 999 ((t.drop 2).take 3)).2 = false ∨ (numR 10 999 ((t.drop 2).take 3)).1 < 100 then (0, false) else ((numR 10 999 ((t.drop 2).take 3)).1, false)
def statL (b : List UInt8) : Int × Bool :=
  match lineL b with
  | none => (0, decide (b.length ≤ 256))
  | some (t, bare, r) => if bare = true ∨ 256 < b.length - r.length then (0, false) else if Lib.hasPrefix t h1L = false then (0, false) else stat5 (Lib.trimPrefix t h1L)
theorem ne_of_byte {x : UInt8} {n : Nat} (_hn : n < 256) (h : x ≠ UInt8.ofNat n) : ((x.toNat : Int) != (n : Int)) = true := by
  rw [bne_iff_ne]
  intro e
  apply h
  have : x.toNat = n := by omega
  rw [← this]
  simp
set_option maxRecDepth 20000 in
set_option maxHeartbeats 4000000 in
theorem status_http (b : List UInt8) (v : Value) (w : World) (h : Bytes w v b) (hnv : NilOr v) (hb : b.length ≤ 1000000) :
    Calls Tryz.prog 8 #[v] w fun e w' => e = .returned (.tuple #[.int .i64 (statL b).1, .bool (statL b).2]) ∧ w.grownBy w' none := by
  have HLB := hid (line_by b v w h hnv hb)
  obtain ⟨a, c, rfl, h1, h2, h3⟩ := id h
  clear h hnv h3
  go_enter Tryz.func8, Tryz.ntmps8
  go_wp2_with fail
  refine HLB.out.mono ?_
  rintro e w2 ⟨g2, ⟨hl, rfl⟩ | ⟨t, bare, r, ra, rc, hl, rfl⟩⟩
  · have G2 := hid g2
    by_cases h256 : b.length ≤ 256
    · have HS := hid (show statL b = (0, true) by unfold statL; rw [hl]; simp [h256])
      have h256' : (b.length : Int) ≤ 256 := by omega
      clear hl g2 HLB
      go_wp2_with fail
      go_ret2
      exact ⟨by rw [HS.out]; rfl, G2.out⟩
    · have HS := hid (show statL b = (0, false) by unfold statL; rw [hl]; simp [h256])
      have h256' : ¬ (b.length : Int) ≤ 256 := by omega
      clear hl g2 HLB
      go_wp2_with fail
      go_ret2
      exact ⟨by rw [HS.out]; rfl, G2.out⟩
  · have G2 := hid g2
    have hlen := lineL_len hl
    have HTL := hid (show t.length ≤ 1000000 from Nat.le_trans (lineL_tlen hl) hb)
    have HSL := hid (show statL b = if bare = true ∨ 256 < b.length - r.length then (0, false) else if Lib.hasPrefix t h1L = false then (0, false) else stat5 (Lib.trimPrefix t h1L) by unfold statL; rw [hl])
    clear HLB g2 hl
    obtain ⟨d, hd⟩ : ∃ d, d = b.length - r.length := ⟨_, rfl⟩
    rw [← hd] at HSL
    have hdi : (b.length : Int) - (r.length : Int) = (d : Int) := by omega
    have hdw : IntKind.i64.wrap ((b.length : Int) - (r.length : Int)) = (d : Int) := by rw [hdi]; exact IntWalk.i64_in _ (by omega)
    obtain ⟨n, hn⟩ : ∃ n, n = b.length := ⟨_, rfl⟩
    obtain ⟨rn, hrn⟩ : ∃ n, n = r.length := ⟨_, rfl⟩
    rw [← hn] at hdw h1 ⊢
    rw [← hrn] at hdw ⊢
    clear hd hdi hn hrn hlen
    cases bare
    · by_cases hbig : 256 < d
      · have HS := hid (show statL b = (0, false) by rw [HSL.out]; exact if_pos (.inr hbig))
        have hbig' : decide ((256 : Int) < (d : Int)) = true := by simp; omega
        clear HSL hbig
        go_wp2_with fail
        go_ret2
        exact ⟨by rw [HS.out]; rfl, G2.out⟩
      · have HSL2 := hid (HSL.out.trans (if_neg (by simpa using hbig)))
        have hbig' : decide ((256 : Int) < (d : Int)) = false := by simp; omega
        clear HSL hbig
        go_wp2_with fail
        refine (Tryz.strings_CutPrefix ⟨t.toArray⟩ ⟨#[72, 84, 84, 80, 47, 49, 46]⟩ w2).mono ?_
        rintro e w3 ⟨rfl, rfl⟩
        rw [show (ByteArray.mk t.toArray).data.toList = t from rfl, show (ByteArray.mk #[72, 84, 84, 80, 47, 49, 46]).data.toList = h1L from rfl]
        have htl : (Lib.trimPrefix t h1L).length ≤ 1000000 := by
          have h := HTL.out
          unfold Lib.trimPrefix
          split
          · rw [List.length_drop]; omega
          · exact h
        obtain ⟨u, hu⟩ : ∃ u, u = Lib.trimPrefix t h1L := ⟨_, rfl⟩
        obtain ⟨hp, hhp⟩ : ∃ u, u = Lib.hasPrefix t h1L := ⟨_, rfl⟩
        rw [← hu] at HSL2 htl ⊢
        rw [← hhp] at HSL2 ⊢
        clear hu hhp HTL
        cases hp
        · have HS := hid (show statL b = (0, false) by rw [HSL2.out]; exact if_pos rfl)
          clear HSL2
          go_wp2_with fail
          go_ret2
          exact ⟨by rw [HS.out]; rfl, G2.out⟩
        · have HSL := hid (HSL2.out.trans (if_neg (by decide)))
          clear HSL2
          obtain ⟨s, hs⟩ : ∃ s : ByteArray, s = ⟨u.toArray⟩ := ⟨_, rfl⟩
          have hsz : s.size = u.length := by rw [hs, Lib.size_eq]
          have Hstr := hid (show ∀ (i : Nat) (h : i < s.size), s[i] = u.getD i 0 by
            intro i h
            subst hs
            rw [List.getD_eq_getElem?_getD, List.getElem?_eq_getElem (by rw [← hsz]; exact h)]
            rfl)
          have Hext := hid (show s.extract 2 5 = ⟨((u.drop 2).take 3).toArray⟩ by
            rw [hs]
            apply ByteArray.ext
            rw [ByteArray.data_extract]
            simp)
          rw [← hs]
          have Hsz := hid hsz
          clear hs hsz
          by_cases h5 : u.length < 5
          · have HS := hid (show statL b = (0, false) by rw [HSL.out]; unfold stat5; exact if_pos (.inl h5))
            have h5' : (s.size : Int) < 5 := by rw [Hsz.out]; omega
            clear HSL h5
            go_wp2_with fail
            go_ret2
            exact ⟨by rw [HS.out]; rfl, G2.out⟩
          · have h5' : (5 : Int) ≤ (s.size : Int) := by rw [Hsz.out]; omega
            have h5n : ¬ (s.size : Int) < 5 := by omega
            have hs0 : 0 < s.size := by omega
            have hs1 : 1 < s.size := by omega
            have e0 : s[0]'hs0 = u.getD 0 0 := Hstr.out 0 hs0
            have e1 : s[1]'hs1 = u.getD 1 0 := Hstr.out 1 hs1
            obtain ⟨x0, hx0⟩ : ∃ x, x = u.getD 0 0 := ⟨_, rfl⟩
            obtain ⟨x1, hx1⟩ : ∃ x, x = u.getD 1 0 := ⟨_, rfl⟩
            obtain ⟨x5, hx5⟩ : ∃ x, x = u.getD 5 0 := ⟨_, rfl⟩
            rw [← hx0] at e0
            rw [← hx1] at e1
            have HD := hid (show stat5 u = if u.length < 5 ∨ (x0 ≠ 48 ∧ x0 ≠ 49) ∨ x1 ≠ 32 ∨ (5 < u.length ∧ x5 ≠ 32) then (0, false)
              else if (numR 10 999 ((u.drop 2).take 3)).2 = false ∨ (numR 10 999 ((u.drop 2).take 3)).1 < 100 then (0, false) else ((numR 10 999 ((u.drop 2).take 3)).1, false) by rw [hx0, hx1, hx5]; rfl)
            have HX5 := hid hx5
            clear hx0 hx1 hx5
            have hY : ¬ (x0 ≠ 48 ∧ x0 ≠ 49) → ¬ x1 ≠ 32 → ¬ (5 < u.length ∧ x5 ≠ 32) → statL b = if (numR 10 999 ((u.drop 2).take 3)).2 = false ∨ (numR 10 999 ((u.drop 2).take 3)).1 < 100 then (0, false) else ((numR 10 999 ((u.drop 2).take 3)).1, false) := fun a1 a2 a3 => by
              rw [HSL.out, HD.out]
              exact if_neg (by rintro (h | h | h | h); exact h5 h; exact a1 h; exact a2 h; exact a3 h)
            have HY := hid hY
            have hN : ((x0 ≠ 48 ∧ x0 ≠ 49) ∨ x1 ≠ 32 ∨ (5 < u.length ∧ x5 ≠ 32)) → statL b = (0, false) := fun a1 => by
              rw [HSL.out, HD.out]
              exact if_pos (.inr a1)
            have HN := hid hN
            clear hY hN HD HSL
            by_cases y48 : x0 = 48
            · have z0 : ((x0.toNat : Int) != 48) = false := by rw [y48]; rfl
              by_cases y32 : x1 = 32
              · have z1 : ((x1.toNat : Int) != 32) = false := by rw [y32]; rfl
                by_cases h6 : 5 < u.length
                · have h6' : (5 : Int) < (s.size : Int) := by rw [Hsz.out]; omega
                  have hs5 : 5 < s.size := by omega
                  have e5 : s[5]'hs5 = x5 := by rw [HX5.out]; exact Hstr.out 5 hs5
                  by_cases y5 : x5 = 32
                  · have z5 : ((x5.toNat : Int) != 32) = false := by rw [y5]; rfl
                    have HZ := hid (HY.out (fun h => by first | exact h.1 y48 | exact h.2 y49) (fun h => h y32) (fun h => h.2 y5))
                    clear HN HY HX5
                    go_wp2_with fail
                    rw [Hext.out]
                    refine (number_any ⟨((u.drop 2).take 3).toArray⟩ 10 999 w3 (by rw [Lib.size_eq]; simp; omega)).mono ?_
                    rintro e w4 ⟨rfl, g4⟩
                    rw [show (ByteArray.mk ((u.drop 2).take 3).toArray).data.toList = (u.drop 2).take 3 from rfl]
                    have G4 := hid (gr_trans G2.out g4)
                    rcases hx : numR 10 999 ((u.drop 2).take 3) with ⟨q1, q2⟩
                    rw [hx] at HZ
                    clear hx g4
                    cases q2
                    · have HS := hid (show statL b = (0, false) by rw [HZ.out]; exact if_pos (.inl rfl))
                      clear HZ
                      go_wp2_with fail
                      go_ret2
                      exact ⟨by rw [HS.out]; rfl, G4.out⟩
                    · by_cases q100 : q1 < 100
                      · have HS := hid (show statL b = (0, false) by rw [HZ.out]; exact if_pos (.inr q100))
                        clear HZ
                        go_wp2_with fail
                        go_ret2
                        exact ⟨by rw [HS.out]; rfl, G4.out⟩
                      · have HS := hid (show statL b = (q1, false) by rw [HZ.out]; exact if_neg (by rintro (h | h); cases h; exact q100 h))
                        have q100' : decide (q1 < 100) = false := by simpa using q100
                        clear HZ
                        go_wp2_with fail
                        go_ret2
                        exact ⟨by rw [HS.out]; rfl, G4.out⟩
                  · have z5 : ((x5.toNat : Int) != 32) = true := ne_of_byte (n := 32) (by omega) y5
                    have HS := hid (HN.out (.inr (.inr ⟨h6, y5⟩)))
                    clear HN HY HX5
                    go_wp2_with fail
                    go_ret2
                    exact ⟨by rw [HS.out]; rfl, G2.out⟩
                · have h6' : decide ((5 : Int) < (s.size : Int)) = false := by rw [Hsz.out]; simp; omega
                  have HZ := hid (HY.out (fun h => by first | exact h.1 y48 | exact h.2 y49) (fun h => h y32) (fun h => h6 h.1))
                  clear HN HY HX5
                  go_wp2_with fail
                  rw [Hext.out]
                  refine (number_any ⟨((u.drop 2).take 3).toArray⟩ 10 999 w3 (by rw [Lib.size_eq]; simp; omega)).mono ?_
                  rintro e w4 ⟨rfl, g4⟩
                  rw [show (ByteArray.mk ((u.drop 2).take 3).toArray).data.toList = (u.drop 2).take 3 from rfl]
                  have G4 := hid (gr_trans G2.out g4)
                  rcases hx : numR 10 999 ((u.drop 2).take 3) with ⟨q1, q2⟩
                  rw [hx] at HZ
                  clear hx g4
                  cases q2
                  · have HS := hid (show statL b = (0, false) by rw [HZ.out]; exact if_pos (.inl rfl))
                    clear HZ
                    go_wp2_with fail
                    go_ret2
                    exact ⟨by rw [HS.out]; rfl, G4.out⟩
                  · by_cases q100 : q1 < 100
                    · have HS := hid (show statL b = (0, false) by rw [HZ.out]; exact if_pos (.inr q100))
                      clear HZ
                      go_wp2_with fail
                      go_ret2
                      exact ⟨by rw [HS.out]; rfl, G4.out⟩
                    · have HS := hid (show statL b = (q1, false) by rw [HZ.out]; exact if_neg (by rintro (h | h); cases h; exact q100 h))
                      have q100' : decide (q1 < 100) = false := by simpa using q100
                      clear HZ
                      go_wp2_with fail
                      go_ret2
                      exact ⟨by rw [HS.out]; rfl, G4.out⟩
              · have z1 : ((x1.toNat : Int) != 32) = true := ne_of_byte (n := 32) (by omega) y32
                have HS := hid (HN.out (.inr (.inl y32)))
                clear HN HY HX5
                go_wp2_with fail
                go_ret2
                exact ⟨by rw [HS.out]; rfl, G2.out⟩
            · have z0 : ((x0.toNat : Int) != 48) = true := ne_of_byte (n := 48) (by omega) y48
              by_cases y49 : x0 = 49
              · have z9 : ((x0.toNat : Int) != 49) = false := by rw [y49]; rfl
                by_cases y32 : x1 = 32
                · have z1 : ((x1.toNat : Int) != 32) = false := by rw [y32]; rfl
                  by_cases h6 : 5 < u.length
                  · have h6' : (5 : Int) < (s.size : Int) := by rw [Hsz.out]; omega
                    have hs5 : 5 < s.size := by omega
                    have e5 : s[5]'hs5 = x5 := by rw [HX5.out]; exact Hstr.out 5 hs5
                    by_cases y5 : x5 = 32
                    · have z5 : ((x5.toNat : Int) != 32) = false := by rw [y5]; rfl
                      have HZ := hid (HY.out (fun h => by first | exact h.1 y48 | exact h.2 y49) (fun h => h y32) (fun h => h.2 y5))
                      clear HN HY HX5
                      go_wp2_with fail
                      rw [Hext.out]
                      refine (number_any ⟨((u.drop 2).take 3).toArray⟩ 10 999 w3 (by rw [Lib.size_eq]; simp; omega)).mono ?_
                      rintro e w4 ⟨rfl, g4⟩
                      rw [show (ByteArray.mk ((u.drop 2).take 3).toArray).data.toList = (u.drop 2).take 3 from rfl]
                      have G4 := hid (gr_trans G2.out g4)
                      rcases hx : numR 10 999 ((u.drop 2).take 3) with ⟨q1, q2⟩
                      rw [hx] at HZ
                      clear hx g4
                      cases q2
                      · have HS := hid (show statL b = (0, false) by rw [HZ.out]; exact if_pos (.inl rfl))
                        clear HZ
                        go_wp2_with fail
                        go_ret2
                        exact ⟨by rw [HS.out]; rfl, G4.out⟩
                      · by_cases q100 : q1 < 100
                        · have HS := hid (show statL b = (0, false) by rw [HZ.out]; exact if_pos (.inr q100))
                          clear HZ
                          go_wp2_with fail
                          go_ret2
                          exact ⟨by rw [HS.out]; rfl, G4.out⟩
                        · have HS := hid (show statL b = (q1, false) by rw [HZ.out]; exact if_neg (by rintro (h | h); cases h; exact q100 h))
                          have q100' : decide (q1 < 100) = false := by simpa using q100
                          clear HZ
                          go_wp2_with fail
                          go_ret2
                          exact ⟨by rw [HS.out]; rfl, G4.out⟩
                    · have z5 : ((x5.toNat : Int) != 32) = true := ne_of_byte (n := 32) (by omega) y5
                      have HS := hid (HN.out (.inr (.inr ⟨h6, y5⟩)))
                      clear HN HY HX5
                      go_wp2_with fail
                      go_ret2
                      exact ⟨by rw [HS.out]; rfl, G2.out⟩
                  · have h6' : decide ((5 : Int) < (s.size : Int)) = false := by rw [Hsz.out]; simp; omega
                    have HZ := hid (HY.out (fun h => by first | exact h.1 y48 | exact h.2 y49) (fun h => h y32) (fun h => h6 h.1))
                    clear HN HY HX5
                    go_wp2_with fail
                    rw [Hext.out]
                    refine (number_any ⟨((u.drop 2).take 3).toArray⟩ 10 999 w3 (by rw [Lib.size_eq]; simp; omega)).mono ?_
                    rintro e w4 ⟨rfl, g4⟩
                    rw [show (ByteArray.mk ((u.drop 2).take 3).toArray).data.toList = (u.drop 2).take 3 from rfl]
                    have G4 := hid (gr_trans G2.out g4)
                    rcases hx : numR 10 999 ((u.drop 2).take 3) with ⟨q1, q2⟩
                    rw [hx] at HZ
                    clear hx g4
                    cases q2
                    · have HS := hid (show statL b = (0, false) by rw [HZ.out]; exact if_pos (.inl rfl))
                      clear HZ
                      go_wp2_with fail
                      go_ret2
                      exact ⟨by rw [HS.out]; rfl, G4.out⟩
                    · by_cases q100 : q1 < 100
                      · have HS := hid (show statL b = (0, false) by rw [HZ.out]; exact if_pos (.inr q100))
                        clear HZ
                        go_wp2_with fail
                        go_ret2
                        exact ⟨by rw [HS.out]; rfl, G4.out⟩
                      · have HS := hid (show statL b = (q1, false) by rw [HZ.out]; exact if_neg (by rintro (h | h); cases h; exact q100 h))
                        have q100' : decide (q1 < 100) = false := by simpa using q100
                        clear HZ
                        go_wp2_with fail
                        go_ret2
                        exact ⟨by rw [HS.out]; rfl, G4.out⟩
                · have z1 : ((x1.toNat : Int) != 32) = true := ne_of_byte (n := 32) (by omega) y32
                  have HS := hid (HN.out (.inr (.inl y32)))
                  clear HN HY HX5
                  go_wp2_with fail
                  go_ret2
                  exact ⟨by rw [HS.out]; rfl, G2.out⟩
              · have z9 : ((x0.toNat : Int) != 49) = true := ne_of_byte (n := 49) (by omega) y49
                have HS := hid (HN.out (.inl ⟨y48, y49⟩))
                clear HN HY
                go_wp2_with fail
                go_ret2
                exact ⟨by rw [HS.out]; rfl, G2.out⟩
    · have HS := hid (show statL b = (0, false) by rw [HSL.out]; exact if_pos (.inl rfl))
      clear HSL
      go_wp2_with fail
      go_ret2
      exact ⟨by rw [HS.out]; rfl, G2.out⟩
end Go.Proofs.YtldbcdiomkkinaaGreatDoor
