/- gena.Seconds and hearthref22.Seconds. -/
import Derived.Test.YtfceodbpkghkaaaDoorGn4
namespace Go.Proofs.YtfceodbpkghkaaaDoor
open Go.RowKit
set_option linter.unusedVariables false
set_option linter.unusedSimpArgs false

theorem secL_is (l : Gs) (p : Gs) (hp : p = Lib.trimPrefix l secP) : secL l = if Lib.hasPrefix l secP && (numR 10 9999999 p).2 then min (max (numR 10 9999999 p).1.toNat 60) 1800 else 1800 := by
  unfold secL
  cases h : Lib.hasPrefix l secP
  · rfl
  · have : p = l.drop 7 := by rw [hp]; unfold Lib.trimPrefix; rw [if_pos h]; rfl
    rw [this]
set_option maxHeartbeats 4000000 in
set_option maxRecDepth 20000 in
theorem seconds_x (s : ByteArray) (w : World) (hs : s.size ≤ 100000) :
    Calls Tryd.prog 12 #[.string s] w fun e w' => e = .returned (.int .u64 (secL s.data.toList)) ∧ w.grownBy w' none := by
  obtain ⟨l, hl⟩ : ∃ l, l = s.data.toList := ⟨_, rfl⟩
  have hlen : s.size = l.length := by rw [hl, ← Lib.size_eq]
  have HP := Tryd.strings_CutPrefix s ⟨#[83, 101, 99, 111, 110, 100, 45]⟩ w
  rw [← hl] at HP ⊢
  rw [show (⟨#[83, 101, 99, 111, 110, 100, 45]⟩ : ByteArray).data.toList = secP from rfl] at HP
  obtain ⟨p, hp⟩ : ∃ p, p = Lib.trimPrefix l secP := ⟨_, rfl⟩
  have R := secL_is l p hp
  obtain ⟨S1, hS1⟩ : ∃ S : ByteArray, S = ⟨p.toArray⟩ := ⟨_, rfl⟩
  obtain ⟨b, hb⟩ : ∃ b, b = Lib.hasPrefix l secP := ⟨_, rfl⟩
  have hpl : p.length ≤ l.length := by rw [hp]; unfold Lib.trimPrefix; split <;> simp
  have HN := fun w => number_any S1 10 9999999 w (by rw [hS1, Lib.size_eq]; simp; omega)
  rw [show S1.data.toList = p by rw [hS1]] at HN
  rw [← hp, ← hb, ← hS1] at HP
  rw [← hb] at R
  obtain ⟨n, hn⟩ : ∃ n, n = (numR 10 9999999 p).1 := ⟨_, rfl⟩
  obtain ⟨o, ho⟩ : ∃ n, n = (numR 10 9999999 p).2 := ⟨_, rfl⟩
  rw [← hn, ← ho] at HN R
  have HP := hid HP
  have HN := hid HN
  have R := hid R
  clear hl hp hS1 hb hn ho hpl hlen
  go_enter Tryd.func12, Tryd.ntmps12
  go_wp2_with fail
  refine HP.out.mono ?_
  rintro e w ⟨rfl, rfl⟩
  go_wp2_with fail
  refine (HN.out w).mono ?_
  rintro e w1 ⟨rfl, g⟩
  have G := hid g
  clear g HP HN
  cases b
  · have R2 := hid (show secL l = 1800 by rw [R.out]; rfl)
    go_wp2
    go_ret
    exact ⟨by rw [R2.out]; rfl, G.out⟩
  · cases o
    · have R2 := hid (show secL l = 1800 by rw [R.out]; rfl)
      go_wp2
      go_ret
      exact ⟨by rw [R2.out]; rfl, G.out⟩
    · have R2 := hid (show secL l = min (max n.toNat 60) 1800 by rw [R.out]; rfl)
      clear R
      have HI := hid (show ((min (max n.toNat 60) 1800 : Nat) : Int) = min (max n 60) 1800 by omega)
      go_wp2
      go_ret
      exact ⟨by rw [R2.out, HI.out]; rfl, G.out⟩
end Go.Proofs.YtfceodbpkghkaaaDoor
