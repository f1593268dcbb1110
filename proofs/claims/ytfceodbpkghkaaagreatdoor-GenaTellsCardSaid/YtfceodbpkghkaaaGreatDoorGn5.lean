/- gena.Seconds and hearthref22.Seconds. -/
import Derived.Test.YtfceodbpkghkaaaGreatDoorGn4
namespace Go.Proofs.YtfceodbpkghkaaaGreatDoor
open Go.RowKit
set_option linter.unusedVariables false
set_option linter.unusedSimpArgs false

theorem secL_is (l : Gs) (p : Gs) (hp : p = Lib.trimPrefix l secP) : secL l = if Lib.hasPrefix l secP && (numR 10 9999999 p).2 then min (max (numR 10 9999999 p).1.toNat 60) 1800 else 1800 := by
  unfold secL
  cases h : Lib.hasPrefix l secP
  · rfl
  · have : p = l.drop 7 := by rw [hp]; unfold Lib.trimPrefix; rw [if_pos h]; rfl
    rw [this]
set_option maxHeartbeats 4000000 in
set_option maxRecDepth 20000 in
theorem seconds_x (s : ByteArray) (w : World) (hs : s.size ≤ 100000) :
    Calls Tryz.prog 10 #[.string s] w fun e w' => e = .returned (.int .u64 (secL s.data.toList)) ∧ w.grownBy w' none := by
  obtain ⟨l, hl⟩ : ∃ l, l = s.data.toList := ⟨_, rfl⟩
  have hlen : s.size = l.length := by rw [hl, ← Lib.size_eq]
  have HP := Tryz.strings_CutPrefix s ⟨#[83, 101, 99, 111, 110, 100, 45]⟩ w
  rw [← hl] at HP ⊢
  rw [show (⟨#[83, 101, 99, 111, 110, 100, 45]⟩ : ByteArray).data.toList = secP from rfl] at HP
  obtain ⟨p, hp⟩ : ∃ p, p = Lib.trimPrefix l secP := ⟨_, rfl⟩
  have R := secL_is l p hp
  obtain ⟨S1, hS1⟩ : ∃ S : ByteArray, S = ⟨p.toArray⟩ := ⟨_, rfl⟩
  obtain ⟨b, hb⟩ : ∃ b, b = Lib.hasPrefix l secP := ⟨_, rfl⟩
  have hpl : p.length ≤ l.length := by rw [hp]; unfold Lib.trimPrefix; split <;> simp
  have HN := fun w => number_any S1 10 9999999 w (by rw [hS1, Lib.size_eq]; simp; omega)
  rw [show S1.data.toList = p by rw [hS1]] at HN
  rw [← hp, ← hb, ← hS1] at HP
  rw [← hb] at R
  obtain ⟨n, hn⟩ : ∃ n, n = (numR 10 9999999 p).1 := ⟨_, rfl⟩
  obtain ⟨o, ho⟩ : ∃ n, n = (numR 10 9999999 p).2 := ⟨_, rfl⟩
  rw [← hn, ← ho] at HN R
  have HP := hid HP
  have HN := hid HN
  have R := hid R
  clear hl hp hS1 hb hn ho hpl hlen
  go_enter Tryz.func10, Tryz.ntmps10
  go_wp2_with fail
  refine HP.out.mono ?_
  rintro e w ⟨rfl, rfl⟩
  go_wp2_with fail
  refine (HN.out w).mono ?_
  rintro e w1 ⟨rfl, g⟩
  have G := hid g
  clear g HP HN
  cases b
  · have R2 := hid (show secL l = 1800 by rw [R.out]; rfl)
    go_wp2
    go_ret
    exact ⟨by rw [R2.out]; rfl, G.out⟩
  · cases o
    · have R2 := hid (show secL l = 1800 by rw [R.out]; rfl)
      go_wp2
      go_ret
      exact ⟨by rw [R2.out]; rfl, G.out⟩
    · have R2 := hid (show secL l = min (max n.toNat 60) 1800 by rw [R.out]; rfl)
      clear R
      have HI := hid (show ((min (max n.toNat 60) 1800 : Nat) : Int) = min (max n 60) 1800 by omega)
      go_wp2
      go_ret
      exact ⟨by rw [R2.out, HI.out]; rfl, G.out⟩
set_option maxHeartbeats 4000000 in
set_option maxRecDepth 20000 in
theorem rseconds_x (s : ByteArray) (w : World) (hs : s.size ≤ 100000) :
    Calls Tryz.prog 11 #[.string s] w fun e w' => e = .returned (.int .u64 (secL s.data.toList)) ∧ w.grownBy w' none := by
  obtain ⟨l, hl⟩ : ∃ l, l = s.data.toList := ⟨_, rfl⟩
  have hlen : s.size = l.length := by rw [hl, ← Lib.size_eq]
  have hsl : s = ⟨l.toArray⟩ := by rw [hl]
  rw [← hl]
  have HSL := hid hsl
  clear hl hsl
  by_cases h8 : l.length < 8
  · have R := hid (show secL l = 1800 by
      unfold secL
      by_cases hh : Lib.hasPrefix l secP = true
      · rw [List.drop_of_length_le (by omega)]
        rw [show (numR 10 9999999 []).2 = false from rfl, Bool.and_false]; rfl
      · rw [show Lib.hasPrefix l secP = false by simpa using hh]; rfl)
    have h8' : s.size < 8 := by omega
    clear hlen HSL
    go_enter Tryz.func11, Tryz.ntmps11
    go_wp2
    go_ret
    exact ⟨by rw [R.out]; rfl, gr_refl _ _⟩
  have h8' : ¬ s.size < 8 := by omega
  have h7 : 7 ≤ s.size := by omega
  have h7' : (7 : Int) ≤ (s.size : Int) := by omega
  by_cases hp : Lib.hasPrefix l secP = false
  · have R := hid (show secL l = 1800 by unfold secL; rw [hp]; rfl)
    have hn : ((s.extract 0 7).toList == [83, 101, 99, 111, 110, 100, 45]) = false := by
      rw [hpre_take, decide_eq_false_iff_not] at hp
      rw [HSL.out, gext, Lib.toList_data, beq_eq_false_iff_ne]
      simpa [secP] using hp
    clear hlen hp
    go_enter Tryz.func11, Tryz.ntmps11
    go_wp2
    go_ret
    exact ⟨by rw [R.out]; rfl, gr_refl _ _⟩
  have hp : Lib.hasPrefix l secP = true := by simpa using hp
  have hn : ((s.extract 0 7).toList == [83, 101, 99, 111, 110, 100, 45]) = true := by
    rw [hpre_take, decide_eq_true_iff] at hp
    rw [HSL.out, gext, Lib.toList_data, beq_iff_eq]
    simpa [secP] using hp
  have R := hid (show secL l = if (numR 10 9999999 (l.drop 7)).2 then min (max (numR 10 9999999 (l.drop 7)).1.toNat 60) 1800 else 1800 by unfold secL; rw [hp, Bool.true_and])
  obtain ⟨D, hD⟩ : ∃ D : ByteArray, D = ⟨(l.drop 7).toArray⟩ := ⟨_, rfl⟩
  have E1 : s.extract 7 s.size = D := by rw [hD, HSL.out, gext, Lib.size_eq, List.take_of_length_le (by simp)]
  have HN := fun w => rnumber_any D 10 9999999 w (by rw [hD, Lib.size_eq]; simp; omega)
  rw [show D.data.toList = l.drop 7 by rw [hD]] at HN
  obtain ⟨n, hn'⟩ : ∃ n, n = (numR 10 9999999 (l.drop 7)).1 := ⟨_, rfl⟩
  obtain ⟨o, ho⟩ : ∃ n, n = (numR 10 9999999 (l.drop 7)).2 := ⟨_, rfl⟩
  rw [← hn', ← ho] at HN R
  have HN := hid HN
  have hlA : s.size ≤ l.length := by omega
  clear hp hD hn' ho hlen HSL
  go_enter Tryz.func11, Tryz.ntmps11
  go_wp2_with fail
  try rw [E1]
  refine (HN.out w).mono ?_
  rintro e w1 ⟨rfl, g⟩
  have G := hid g
  clear g HN
  cases o
  · have R2 := hid (show secL l = 1800 by rw [R.out]; rfl)
    go_wp2
    go_ret
    exact ⟨by rw [R2.out]; rfl, G.out⟩
  · by_cases h1 : 1800 < n
    · have R2 := hid (show secL l = 1800 by rw [R.out, if_pos rfl]; omega)
      have h1' := decide_eq_true h1
      go_wp2
      go_ret
      exact ⟨by rw [R2.out]; rfl, G.out⟩
    · have h1' := decide_eq_false h1
      by_cases h2 : n < 60
      · have R2 := hid (show secL l = 60 by rw [R.out, if_pos rfl]; omega)
        have h2' := decide_eq_true h2
        go_wp2
        go_ret
        exact ⟨by rw [R2.out]; rfl, G.out⟩
      · have h2' := decide_eq_false h2
        obtain ⟨k, rfl⟩ : ∃ k : Nat, n = k := ⟨n.toNat, by omega⟩
        have R2 := hid (show secL l = k by rw [R.out, if_pos rfl]; omega)
        go_wp2
        go_ret
        exact ⟨by rw [R2.out]; rfl, G.out⟩
end Go.Proofs.YtfceodbpkghkaaaGreatDoor
