/- head.letter, digit, value, Number: what they compute. -/
import Derived.Test.YtfceodbpkghkaaaGreatDoorRows
import Derived.Test.YtfceodbpkghkaaaGreatDoorBytes
import Derived.Laws.BitsAllLaws
import Derived.BigQuiet
import Derived.Deep.QuietTactic
namespace Go.Proofs.YtfceodbpkghkaaaGreatDoor
open Go.RowKit

theorem or32 (c : UInt8) : bits BinOp.or IntKind.u8 (c.toNat : Int) 32 = ((c ||| 32).toNat : Int) := by
  have := u8_or_nat c.toNat 32 (UInt8.toNat_lt c) (by omega)
  rw [show ((32 : Int)) = ((32 : Nat) : Int) from rfl, this, UInt8.toNat_or]
  rfl
theorem all_bytes {p : UInt8 → Prop} (h : ∀ n : Fin 256, p (UInt8.ofNat n.val)) : ∀ c, p c := fun c => by
  have := h ⟨c.toNat, UInt8.toNat_lt c⟩
  simpa using this
theorem strAt (s : ByteArray) (k : Nat) (h : k < s.size) : s[k]'h = s.data.toList.getD k 0 := by
  rw [List.getD_eq_getElem?_getD, List.getElem?_eq_getElem (by simpa using h)]
  rfl
def letterB (c : UInt8) : Bool := decide ((97 : Int) ≤ ((c ||| 32).toNat : Int)) && decide (((c ||| 32).toNat : Int) ≤ 122)
def digitB (c : UInt8) : Bool := decide ((48 : Int) ≤ (c.toNat : Int)) && decide ((c.toNat : Int) ≤ 57)
theorem digit_any (c : UInt8) (w : World) :
    Calls Tryz.prog 102 #[.int .u8 (c.toNat : Int)] w fun e w' => e = .returned (.bool (digitB c)) ∧ w = w' := by
  unfold digitB
  go_enter Tryz.func102, Tryz.ntmps102
  go_wp2
  all_goals
    go_ret
    refine ⟨?_, rfl⟩
    simp_all <;> omega
/-- A digit's number; 64: it is none. -/
def valN (c : UInt8) : Int := if digitB c then (c.toNat : Int) - 48 else if (97 : Int) ≤ ((c ||| 32).toNat : Int) ∧ ((c ||| 32).toNat : Int) ≤ 102 then ((c ||| 32).toNat : Int) - 87 else 64
theorem valN_bd : ∀ c, 0 ≤ valN c ∧ valN c ≤ 64 := all_bytes (by decide +kernel)
theorem value_any (c : UInt8) (w : World) :
    Calls Tryz.prog 69 #[.int .u8 (c.toNat : Int)] w fun e w' => e = .returned (.int .i64 (valN c)) ∧ w = w' := by
  have h32 := or32 c
  have hb := UInt8.toNat_lt c
  have hd : digitB c = true → (48 : Int) ≤ (c.toNat : Int) ∧ (c.toNat : Int) ≤ 57 := by simp [digitB]
  unfold valN
  have hb2 := UInt8.toNat_lt (c ||| 32)
  generalize c ||| 32 = d at *
  generalize hx : digitB c = x at *
  have X := hid hx
  clear hx
  cases x
  · clear hd
    by_cases h1 : (97 : Int) ≤ (d.toNat : Int)
    · by_cases h2 : (d.toNat : Int) ≤ 102
      · go_enter Tryz.func69, Tryz.ntmps69
        go_wp2_with fail
        refine (digit_any c w).mono ?_
        rintro e w' ⟨rfl, rfl⟩
        rw [X.out]
        go_wp2
        go_ret
        refine ⟨?_, rfl⟩
        simp_all <;> go_arith
      · go_enter Tryz.func69, Tryz.ntmps69
        go_wp2_with fail
        refine (digit_any c w).mono ?_
        rintro e w' ⟨rfl, rfl⟩
        rw [X.out]
        go_wp2
        go_ret
        refine ⟨?_, rfl⟩
        simp_all <;> omega
    · go_enter Tryz.func69, Tryz.ntmps69
      go_wp2_with fail
      refine (digit_any c w).mono ?_
      rintro e w' ⟨rfl, rfl⟩
      rw [X.out]
      go_wp2
      go_ret
      refine ⟨?_, rfl⟩
      simp_all <;> omega
  · have hd' := hd rfl
    clear hd
    go_enter Tryz.func69, Tryz.ntmps69
    go_wp2_with fail
    refine (digit_any c w).mono ?_
    rintro e w' ⟨rfl, rfl⟩
    rw [X.out]
    go_wp2
    go_ret
    refine ⟨?_, rfl⟩
    simp
/-- The number of digits, from n on. -/
def numGo (base : Int) : Int → List UInt8 → Option Int
  | n, [] => some n
  | n, c :: l => if base ≤ valN c then none else numGo base (n * base + valN c) l
def numFin (most : Int) : Option Int → Int × Bool
  | none => (0, false)
  | some n => if most < n then (0, false) else (n, true)
def numR (base most : Int) (l : List UInt8) : Int × Bool :=
  if l = [] ∨ 7 < l.length ∨ (base ≠ 10 ∧ base ≠ 16) then (0, false) else numFin most (numGo base 0 l)
end Go.Proofs.YtfceodbpkghkaaaGreatDoor
