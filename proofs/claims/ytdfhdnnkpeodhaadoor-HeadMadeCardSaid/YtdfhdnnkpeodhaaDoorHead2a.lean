/- For the walk of HeadMade. -/
import Derived.Test.YtdfhdnnkpeodhaaDoorHead21
import Derived.Test.YtdfhdnnkpeodhaaDoorReg
import Derived.Deep.RegionHeld3
import Derived.Deep.DeepCutAuto
import Derived.Deep.RegionWith
namespace Go.Proofs.YtdfhdnnkpeodhaaDoor
open Go.RowKit

theorem line_of (X : ByteArray) (l a b : List UInt8) (o : Bool) (w : World) (hX : X.data.toList = l) (hr : lnR l = (a, b, o)) (hs : l.length < 100000) :
    Calls Tryd.prog 15 #[.string X] w fun e w' => e = .returned (.tuple #[.agg #[.string ⟨a.toArray⟩, .string ⟨b.toArray⟩], .bool o]) ∧ w.grownBy w' none := by
  have h := line_any X w (by rw [Lib.size_eq, hX]; omega)
  rw [hX, hr] at h
  exact h
def pad8 : List UInt8 := [9, 32, 9, 32, 9, 32, 9, 32]
theorem pad_blk : ∀ i : Nat, (pad8.take i).all blk = true := fun i => by
  have h : pad8.all blk = true := by decide
  rw [List.all_eq_true] at h ⊢
  exact fun c hc => h c (List.mem_of_mem_take hc)
theorem and7 (x : UInt8) : ∃ i : Nat, bits .and .u8 (x.toNat : Int) 7 = (i : Int) ∧ i ≤ 7 := by
  have h := UInt8.toNat_lt x
  refine ⟨x.toNat % 8, ?_, by omega⟩
  have h2 := u8_and7 (x := ((x.toNat : Nat) : Int)) (by omega) (by omega)
  rw [h2]; omega
theorem bsz (l : List UInt8) : (ByteArray.mk l.toArray).size = l.length := by simp [ByteArray.size]
end Go.Proofs.YtdfhdnnkpeodhaaDoor
