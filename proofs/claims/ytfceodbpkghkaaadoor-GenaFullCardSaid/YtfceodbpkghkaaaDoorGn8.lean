/- hearthlaw22.speaks; great of one call that holds variables alone. -/
import Derived.Test.YtfceodbpkghkaaaDoorGn7
namespace Go.Proofs.YtfceodbpkghkaaaDoor
open Go.RowKit
set_option linter.unusedVariables false
set_option linter.unusedSimpArgs false

def exG : Gs := [60, 104, 116, 116, 112, 58, 47, 47, 49, 57, 50, 46, 49, 54, 56, 46, 49, 46, 55, 58, 52, 57, 49, 53, 50, 47, 101, 63, 49, 62]
def exS : Gs := [83, 101, 99, 111, 110, 100, 45, 51, 48, 48]
theorem exG_is : cbL exG = some (3232235783, 49152, [47, 101, 63, 49]) := by decide +kernel
theorem exS_is : secL exS = 300 := by decide +kernel
set_option maxHeartbeats 1000000 in
theorem gspeaks_true (m : Int) (w : World) (hm : Hid (MaxCell m w)) (h10 : Hid (P10 w)) :
    Calls Tryd.prog 4 #[] w fun e w' => e = .returned (.bool true) ∧ w.grownBy w' none := by
  have HC := callback_x ⟨exG.toArray⟩ m w hm h10 (by decide)
  rw [show (ByteArray.mk exG.toArray).data.toList = exG from rfl, exG_is] at HC
  have HS := fun W => seconds_x ⟨exS.toArray⟩ W (by decide)
  rw [show (ByteArray.mk exS.toArray).data.toList = exS from rfl, exS_is] at HS
  have HC := hid HC
  have HS := hid HS
  go_enter Tryd.func4, Tryd.ntmps4
  go_wp2_with fail
  refine HC.out.mono ?_
  rintro e w1 ⟨rfl, g1⟩
  unfold cbV
  go_wp2_with fail
  refine (HS.out _).mono ?_
  rintro e w2 ⟨rfl, g2⟩
  go_wp2
  go_ret
  exact ⟨rfl, gr_trans g1 g2⟩
def SmJ (xs : Gp) (j : Nat) : Prop := ∀ i, i < j → (xs.getD i ([], [])).1.length ≤ 100 ∧ (xs.getD i ([], [])).2.length ≤ 500
def GrP (w : World) (xs : Gp) (e : Ending) (w' : World) : Prop := ∃ b, e = .returned (.bool b) ∧ w.grownBy w' none ∧ (b = false → SmP xs)
end Go.Proofs.YtfceodbpkghkaaaDoor
