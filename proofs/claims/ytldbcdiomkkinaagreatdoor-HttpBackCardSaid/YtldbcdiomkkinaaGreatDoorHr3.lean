/- http.Response, http.Ask: their bytes. -/
import Derived.Test.YtldbcdiomkkinaaGreatDoorHr2
namespace Go.Proofs.YtldbcdiomkkinaaGreatDoor
open Go.RowKit

/-- The status that is written. -/
def stN (n : Int) : Nat := if 100 ≤ n ∧ n ≤ 999 then n.toNat else 500
def httpL : List UInt8 := [72, 84, 84, 80, 47, 49, 46, 49, 32]
def firstR (m : Nat) : List UInt8 := httpL ++ Lib.itoa (m : Int) ++ [32] ++ reasonL (m : Int)
def respL (n : Int) (fs : List (List UInt8 × List UInt8)) (body : List UInt8) (keep : Bool) : List UInt8 := writeL (firstR (stN n)) fs body (!keep)
def askFirst (m t : List UInt8) : List UInt8 := m ++ [32] ++ t ++ [32, 72, 84, 84, 80, 47, 49, 46, 49]
def askL (m t : List UInt8) (fs : List (List UInt8 × List UInt8)) (body : List UInt8) : List UInt8 := writeL (askFirst m t) fs body false
theorem reason_len (n : Int) : (reasonL n).length ≤ 40 := by
  unfold reasonL
  cases h : reasonT.find? (fun p => n == p.1) with
  | none => decide
  | some p => exact (show ∀ p ∈ reasonT, p.2.length ≤ 40 by decide) p (List.mem_of_find?_eq_some h)
theorem stN_le (n : Int) : 100 ≤ stN n ∧ stN n ≤ 999 := by
  unfold stN
  split <;> omega
set_option maxRecDepth 20000 in
set_option maxHeartbeats 4000000 in
theorem response_http (n : Int) (fs : List (List UInt8 × List UInt8)) (body : List UInt8) (keep : Bool) (fa : Option Addr) (fc : Nat) (vb : Value) (w : World) (hp : PairsAt w fa fs.length (fsN fs) (fsV fs)) (hb : Bytes w vb body)
    (h2 : fs.length ≤ 200) (h3 : ∀ f ∈ fs, f.1.length ≤ 1000 ∧ f.2.length ≤ 1000) (h4 : body.length ≤ 100000) (htab : P10 w) :
    Calls Tryz.prog 7 #[.int .i64 n, .slice fa fs.length fc, vb, .bool keep] w fun e w' => ∃ v, e = .returned v ∧ BoAt w' v (respL n fs body keep) ∧ w.grownBy w' none := by
  have HP := hid hp
  have HB := hid hb
  have H3 := hid h3
  have HT := hid htab
  have hst := stN_le n
  obtain ⟨m, hm⟩ : ∃ m, m = stN n := ⟨_, rfl⟩
  have HEQ := hid (show respL n fs body keep = writeL (firstR m) fs body (!keep) by unfold respL; rw [hm])
  rw [← hm] at hst
  have HST := hid hst
  clear hp hb h3 htab hst
  by_cases hr : 100 ≤ n ∧ n ≤ 999
  · have hmn : n = (m : Int) := by rw [hm]; unfold stN; rw [if_pos hr]; omega
    subst hmn
    obtain ⟨hr1, hr2⟩ := hr
    have hr1' : ¬ (m : Int) < 100 := by omega
    have hr2' : ¬ (999 : Int) < (m : Int) := by omega
    clear hr1 hr2 hm
    go_enter Tryz.func7, Tryz.ntmps7
    go_wp2_with fail
    refine (itoa_http m w (by have := HST.out; omega) HT.out).mono ?_
    rintro e w2 ⟨rfl, g2⟩
    have hil := itoa_len m (by have := HST.out; omega)
    have hrl := reason_len (m : Int)
    obtain ⟨it, hit⟩ : ∃ it, it = Lib.itoa (m : Int) := ⟨_, rfl⟩
    obtain ⟨rl, hrlq⟩ : ∃ rl, rl = reasonL (m : Int) := ⟨_, rfl⟩
    have HRS := hid (fun W => hrlq ▸ reason_http (m : Int) W)
    have HFR := hid (show ((⟨#[72, 84, 84, 80, 47, 49, 46, 49, 32]⟩ : ByteArray) ++ (⟨it.toArray⟩ : ByteArray) ++ (⟨#[32]⟩ : ByteArray) ++ (⟨rl.toArray⟩ : ByteArray)) = ⟨(firstR m).toArray⟩ by unfold firstR httpL; rw [← hit, ← hrlq, ← app_arr2, ← app_arr2, ← app_arr2])
    have HFL := hid (show (firstR m).length ≤ 4000 by unfold firstR httpL; rw [← hit, ← hrlq]; rw [← hit] at hil; rw [← hrlq] at hrl; simp; omega)
    rw [← hit] at hil ⊢
    rw [← hrlq] at hrl
    have hng1 : ¬ 9223372036854775807 < 9 + it.length := by omega
    have hng2 : ¬ 9223372036854775807 < 9 + it.length + 1 := by omega
    have hng3 : ¬ 9223372036854775807 < 9 + it.length + 1 + rl.length := by omega
    clear hit hrlq hil hrl
    go_wp2_with fail
    refine (HRS.out w2).mono ?_
    rintro e w3 ⟨rfl, g3⟩
    have HG3 := hid (gr_trans g2 g3)
    clear g2 g3
    go_wp2_with fail
    rw [HFR.out]
    refine (write_http (firstR m) fs body (!keep) fa fc vb w3 (HP.out.grown HG3.out) (HB.out.grown HG3.out) HFL.out h2 H3.out h4 (HT.out.grown HG3.out)).mono ?_
    rintro e w4 ⟨v, rfl, hbo, g4⟩
    have HBO := hid hbo
    have HG4 := hid (gr_trans HG3.out g4)
    clear hbo g4
    go_wp2_with fail
    go_ret
    exact ⟨_, rfl, by rw [HEQ.out]; exact HBO.out, HG4.out⟩
  · have HM := hid (show m = 500 by rw [hm]; unfold stN; rw [if_neg hr])
    clear hm
    by_cases h1 : n < 100
    · clear hr
      go_enter Tryz.func7, Tryz.ntmps7
      go_wp2_with fail
      rw [show (500 : Int) = (m : Int) by rw [HM.out]; rfl]
      refine (itoa_http m w (by have := HST.out; omega) HT.out).mono ?_
      rintro e w2 ⟨rfl, g2⟩
      have hil := itoa_len m (by have := HST.out; omega)
      have hrl := reason_len (m : Int)
      obtain ⟨it, hit⟩ : ∃ it, it = Lib.itoa (m : Int) := ⟨_, rfl⟩
      obtain ⟨rl, hrlq⟩ : ∃ rl, rl = reasonL (m : Int) := ⟨_, rfl⟩
      have HRS := hid (fun W => hrlq ▸ reason_http (m : Int) W)
      have HFR := hid (show ((⟨#[72, 84, 84, 80, 47, 49, 46, 49, 32]⟩ : ByteArray) ++ (⟨it.toArray⟩ : ByteArray) ++ (⟨#[32]⟩ : ByteArray) ++ (⟨rl.toArray⟩ : ByteArray)) = ⟨(firstR m).toArray⟩ by unfold firstR httpL; rw [← hit, ← hrlq, ← app_arr2, ← app_arr2, ← app_arr2])
      have HFL := hid (show (firstR m).length ≤ 4000 by unfold firstR httpL; rw [← hit, ← hrlq]; rw [← hit] at hil; rw [← hrlq] at hrl; simp; omega)
      rw [← hit] at hil ⊢
      rw [← hrlq] at hrl
      have hng1 : ¬ 9223372036854775807 < 9 + it.length := by omega
      have hng2 : ¬ 9223372036854775807 < 9 + it.length + 1 := by omega
      have hng3 : ¬ 9223372036854775807 < 9 + it.length + 1 + rl.length := by omega
      clear hit hrlq hil hrl
      go_wp2_with fail
      refine (HRS.out w2).mono ?_
      rintro e w3 ⟨rfl, g3⟩
      have HG3 := hid (gr_trans g2 g3)
      clear g2 g3
      go_wp2_with fail
      rw [HFR.out]
      refine (write_http (firstR m) fs body (!keep) fa fc vb w3 (HP.out.grown HG3.out) (HB.out.grown HG3.out) HFL.out h2 H3.out h4 (HT.out.grown HG3.out)).mono ?_
      rintro e w4 ⟨v, rfl, hbo, g4⟩
      have HBO := hid hbo
      have HG4 := hid (gr_trans HG3.out g4)
      clear hbo g4
      go_wp2_with fail
      go_ret
      exact ⟨_, rfl, by rw [HEQ.out]; exact HBO.out, HG4.out⟩
    · have h5 : (999 : Int) < n := by omega
      clear hr
      go_enter Tryz.func7, Tryz.ntmps7
      go_wp2_with fail
      rw [show (500 : Int) = (m : Int) by rw [HM.out]; rfl]
      refine (itoa_http m w (by have := HST.out; omega) HT.out).mono ?_
      rintro e w2 ⟨rfl, g2⟩
      have hil := itoa_len m (by have := HST.out; omega)
      have hrl := reason_len (m : Int)
      obtain ⟨it, hit⟩ : ∃ it, it = Lib.itoa (m : Int) := ⟨_, rfl⟩
      obtain ⟨rl, hrlq⟩ : ∃ rl, rl = reasonL (m : Int) := ⟨_, rfl⟩
      have HRS := hid (fun W => hrlq ▸ reason_http (m : Int) W)
      have HFR := hid (show ((⟨#[72, 84, 84, 80, 47, 49, 46, 49, 32]⟩ : ByteArray) ++ (⟨it.toArray⟩ : ByteArray) ++ (⟨#[32]⟩ : ByteArray) ++ (⟨rl.toArray⟩ : ByteArray)) = ⟨(firstR m).toArray⟩ by unfold firstR httpL; rw [← hit, ← hrlq, ← app_arr2, ← app_arr2, ← app_arr2])
      have HFL := hid (show (firstR m).length ≤ 4000 by unfold firstR httpL; rw [← hit, ← hrlq]; rw [← hit] at hil; rw [← hrlq] at hrl; simp; omega)
      rw [← hit] at hil ⊢
      rw [← hrlq] at hrl
      have hng1 : ¬ 9223372036854775807 < 9 + it.length := by omega
      have hng2 : ¬ 9223372036854775807 < 9 + it.length + 1 := by omega
      have hng3 : ¬ 9223372036854775807 < 9 + it.length + 1 + rl.length := by omega
      clear hit hrlq hil hrl
      go_wp2_with fail
      refine (HRS.out w2).mono ?_
      rintro e w3 ⟨rfl, g3⟩
      have HG3 := hid (gr_trans g2 g3)
      clear g2 g3
      go_wp2_with fail
      rw [HFR.out]
      refine (write_http (firstR m) fs body (!keep) fa fc vb w3 (HP.out.grown HG3.out) (HB.out.grown HG3.out) HFL.out h2 H3.out h4 (HT.out.grown HG3.out)).mono ?_
      rintro e w4 ⟨v, rfl, hbo, g4⟩
      have HBO := hid hbo
      have HG4 := hid (gr_trans HG3.out g4)
      clear hbo g4
      go_wp2_with fail
      go_ret
      exact ⟨_, rfl, by rw [HEQ.out]; exact HBO.out, HG4.out⟩
set_option maxRecDepth 20000 in
set_option maxHeartbeats 4000000 in
theorem ask_http (m t : List UInt8) (fs : List (List UInt8 × List UInt8)) (body : List UInt8) (fa : Option Addr) (fc : Nat) (vb : Value) (w : World) (hp : PairsAt w fa fs.length (fsN fs) (fsV fs)) (hb : Bytes w vb body)
    (h1 : m.length + t.length ≤ 3000) (h2 : fs.length ≤ 200) (h3 : ∀ f ∈ fs, f.1.length ≤ 1000 ∧ f.2.length ≤ 1000) (h4 : body.length ≤ 100000) (htab : P10 w) :
    Calls Tryz.prog 9 #[.string ⟨m.toArray⟩, .string ⟨t.toArray⟩, .slice fa fs.length fc, vb] w fun e w' => ∃ v, e = .returned v ∧ BoAt w' v (askL m t fs body) ∧ w.grownBy w' none := by
  have HW := hid (write_http (askFirst m t) fs body false fa fc vb w hp hb (by unfold askFirst; simp; omega) h2 h3 h4 htab)
  have HFR := hid (show ((⟨m.toArray⟩ : ByteArray) ++ (⟨#[32]⟩ : ByteArray) ++ (⟨t.toArray⟩ : ByteArray) ++ (⟨#[32, 72, 84, 84, 80, 47, 49, 46, 49]⟩ : ByteArray)) = ⟨(askFirst m t).toArray⟩ by unfold askFirst; rw [← app_arr2, ← app_arr2, ← app_arr2])
  have hng1 : ¬ 9223372036854775807 < m.length + 1 := by omega
  have hng2 : ¬ 9223372036854775807 < m.length + 1 + t.length := by omega
  have hng3 : ¬ 9223372036854775807 < m.length + 1 + t.length + 9 := by omega
  clear hp hb h1 h2 h3 h4 htab
  go_enter Tryz.func9, Tryz.ntmps9
  go_wp2_with fail
  rw [HFR.out]
  refine HW.out.mono ?_
  rintro e w4 ⟨v, rfl, hbo, g4⟩
  have HBO := hid hbo
  have HG4 := hid g4
  clear hbo g4
  go_wp2_with fail
  go_ret
  exact ⟨_, rfl, HBO.out, HG4.out⟩
end Go.Proofs.YtldbcdiomkkinaaGreatDoor
