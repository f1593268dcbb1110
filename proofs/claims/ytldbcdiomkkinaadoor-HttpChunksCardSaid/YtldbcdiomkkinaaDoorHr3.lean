/- http.Response, http.Ask: their bytes. -/
import Derived.Test.YtldbcdiomkkinaaDoorHr2
namespace Go.Proofs.YtldbcdiomkkinaaDoor
open Go.RowKit

/-- The status that is written. -/
def stN (n : Int) : Nat := if 100 ≤ n ∧ n ≤ 999 then n.toNat else 500
def httpL : List UInt8 := [72, 84, 84, 80, 47, 49, 46, 49, 32]
def firstR (m : Nat) : List UInt8 := httpL ++ Lib.itoa (m : Int) ++ [32] ++ reasonL (m : Int)
def respL (n : Int) (fs : List (List UInt8 × List UInt8)) (body : List UInt8) (keep : Bool) : List UInt8 := writeL (firstR (stN n)) fs body (!keep)
def askFirst (m t : List UInt8) : List UInt8 := m ++ [32] ++ t ++ [32, 72, 84, 84, 80, 47, 49, 46, 49]
def askL (m t : List UInt8) (fs : List (List UInt8 × List UInt8)) (body : List UInt8) : List UInt8 := writeL (askFirst m t) fs body false
theorem reason_len (n : Int) : (reasonL n).length ≤ 40 := by
  unfold reasonL
  cases h : reasonT.find? (fun p => n == p.1) with
  | none => decide
  | some p => exact (show ∀ p ∈ reasonT, p.2.length ≤ 40 by decide) p (List.mem_of_find?_eq_some h)
theorem stN_le (n : Int) : 100 ≤ stN n ∧ stN n ≤ 999 := by
  unfold stN
  split <;> omega
set_option maxRecDepth 20000 in
set_option maxHeartbeats 4000000 in
theorem ask_http (m t : List UInt8) (fs : List (List UInt8 × List UInt8)) (body : List UInt8) (fa : Option Addr) (fc : Nat) (vb : Value) (w : World) (hp : PairsAt w fa fs.length (fsN fs) (fsV fs)) (hb : Bytes w vb body)
    (h1 : m.length + t.length ≤ 3000) (h2 : fs.length ≤ 200) (h3 : ∀ f ∈ fs, f.1.length ≤ 1000 ∧ f.2.length ≤ 1000) (h4 : body.length ≤ 100000) (htab : P10 w) :
    Calls Tryd.prog 12 #[.string ⟨m.toArray⟩, .string ⟨t.toArray⟩, .slice fa fs.length fc, vb] w fun e w' => ∃ v, e = .returned v ∧ BoAt w' v (askL m t fs body) ∧ w.grownBy w' none := by
  have HW := hid (write_http (askFirst m t) fs body false fa fc vb w hp hb (by unfold askFirst; simp; omega) h2 h3 h4 htab)
  have HFR := hid (show ((⟨m.toArray⟩ : ByteArray) ++ (⟨#[32]⟩ : ByteArray) ++ (⟨t.toArray⟩ : ByteArray) ++ (⟨#[32, 72, 84, 84, 80, 47, 49, 46, 49]⟩ : ByteArray)) = ⟨(askFirst m t).toArray⟩ by unfold askFirst; rw [← app_arr2, ← app_arr2, ← app_arr2])
  have hng1 : ¬ 9223372036854775807 < m.length + 1 := by omega
  have hng2 : ¬ 9223372036854775807 < m.length + 1 + t.length := by omega
  have hng3 : ¬ 9223372036854775807 < m.length + 1 + t.length + 9 := by omega
  clear hp hb h1 h2 h3 h4 htab
  go_enter Tryd.func12, Tryd.ntmps12
  go_wp2_with fail
  rw [HFR.out]
  refine HW.out.mono ?_
  rintro e w4 ⟨v, rfl, hbo, g4⟩
  have HBO := hid hbo
  have HG4 := hid g4
  clear hbo g4
  go_wp2_with fail
  go_ret
  exact ⟨_, rfl, HBO.out, HG4.out⟩
end Go.Proofs.YtldbcdiomkkinaaDoor
