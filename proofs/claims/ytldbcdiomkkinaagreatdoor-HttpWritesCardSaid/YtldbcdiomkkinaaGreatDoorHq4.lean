/- hearthref16.Response, Ask: the same bytes. -/
import Derived.Test.YtldbcdiomkkinaaGreatDoorHq3
namespace Go.Proofs.YtldbcdiomkkinaaGreatDoor
open Go.RowKit

theorem rest_len (fs : List (List UInt8 × List UInt8)) (body : List UInt8) (close : Bool) (h2 : fs.length ≤ 200) (h3 : ∀ f ∈ fs, f.1.length ≤ 1000 ∧ f.2.length ≤ 1000) (h4 : body.length ≤ 100000) : (restL fs body close).length ≤ 600000 := by
  have h := flatW_len fs h3
  have hi := itoa_len body.length (by omega)
  have h5 : fs.length * 2004 ≤ 200 * 2004 := Nat.mul_le_mul_right _ h2
  unfold restL clenL
  cases close <;> simp [connL] <;> omega
set_option maxRecDepth 20000 in
set_option maxHeartbeats 4000000 in
theorem rresponse (n : Int) (fs : List (List UInt8 × List UInt8)) (body : List UInt8) (keep : Bool) (fa : Option Addr) (fc : Nat) (vb : Value) (w : World) (hp : PairsAt w fa fs.length (fsN fs) (fsV fs)) (hb : Bytes w vb body)
    (h2 : fs.length ≤ 200) (h3 : ∀ f ∈ fs, f.1.length ≤ 1000 ∧ f.2.length ≤ 1000) (h4 : body.length ≤ 100000) :
    Calls Tryz.prog 11 #[.int .i64 n, .slice fa fs.length fc, vb, .bool keep] w fun e w' => e = .returned (.string ⟨(respL n fs body keep).toArray⟩) ∧ w.grownBy w' none := by
  have HP := hid hp
  have HB := hid hb
  have H3 := hid h3
  have hst := stN_le n
  have hrs := rest_len fs body (!keep) h2 h3 h4
  obtain ⟨m, hm⟩ : ∃ m, m = stN n := ⟨_, rfl⟩
  have HEQ := hid (show respL n fs body keep = firstR m ++ [13, 10] ++ restL fs body (!keep) by unfold respL; rw [hm, write_rest])
  rw [← hm] at hst
  have HST := hid hst
  have HRL := hid hrs
  clear hp hb h3 hst hrs
  by_cases hr : 100 ≤ n ∧ n ≤ 999
  · have hmn : n = (m : Int) := by rw [hm]; unfold stN; rw [if_pos hr]; omega
    subst hmn
    obtain ⟨hr1, hr2⟩ := hr
    have hr1' : ¬ (m : Int) < 100 := by omega
    have hr2' : ¬ (999 : Int) < (m : Int) := by omega
    clear hr1 hr2 hm
    go_enter Tryz.func11, Tryz.ntmps11
    go_wp2_with fail
    refine (rdigits_all m (by have := HST.out; omega) w).mono ?_
    rintro e w2 ⟨rfl, g2⟩
    have hil := dd_len m (by have := HST.out; omega)
    have hrl := reason_len (m : Int)
    obtain ⟨it, hit⟩ : ∃ it, it = Lib.decDigits m := ⟨_, rfl⟩
    obtain ⟨rl, hrlq⟩ : ∃ rl, rl = reasonL (m : Int) := ⟨_, rfl⟩
    obtain ⟨rs, hrsq⟩ : ∃ rs, rs = restL fs body (!keep) := ⟨_, rfl⟩
    have HRS := hid (fun W => hrlq ▸ rreason (m : Int) W)
    have HRR := hid (fun W (g : w.grownBy W none) => hrsq ▸ rrest fs body (!keep) fa fc vb W (HP.out.grown g) (HB.out.grown g) h2 H3.out h4)
    have HFR := hid (show ((⟨#[72, 84, 84, 80, 47, 49, 46, 49, 32]⟩ : ByteArray) ++ (⟨it.toArray⟩ : ByteArray) ++ (⟨#[32]⟩ : ByteArray) ++ (⟨rl.toArray⟩ : ByteArray) ++ (⟨#[13, 10]⟩ : ByteArray) ++ (⟨rs.toArray⟩ : ByteArray)) = ⟨(respL _ fs body keep).toArray⟩ by
      rw [HEQ.out]
      unfold firstR httpL
      rw [Lib.itoa_nonneg, ← hit, ← hrlq, ← hrsq, app_arr, app_arr, app_arr, app_arr, app_arr])
    have hrsl : rs.length ≤ 600000 := by rw [hrsq]; exact HRL.out
    unfold str
    rw [← hit] at hil ⊢
    rw [← hrlq] at hrl
    have hng1 : ¬ 9223372036854775807 < 9 + it.length := by omega
    have hng2 : ¬ 9223372036854775807 < 9 + it.length + 1 := by omega
    have hng3 : ¬ 9223372036854775807 < 9 + it.length + 1 + rl.length := by omega
    have hng4 : ¬ 9223372036854775807 < 9 + it.length + 1 + rl.length + 2 := by omega
    have hng5 : ¬ 9223372036854775807 < 9 + it.length + 1 + rl.length + 2 + rs.length := by omega
    clear hit hrlq hil hrl hrsq hrsl
    go_wp2_with fail
    refine (HRS.out w2).mono ?_
    rintro e w3 ⟨rfl, g3⟩
    have HG3 := hid (gr_trans g2 g3)
    clear g2 g3
    go_wp2_with fail
    refine (HRR.out w3 HG3.out).mono ?_
    rintro e w4 ⟨rfl, g4⟩
    have HG4 := hid (gr_trans HG3.out g4)
    clear g4
    go_wp2_with fail
    rw [HFR.out]
    go_ret
    exact ⟨rfl, HG4.out⟩
  · have HM := hid (show m = 500 by rw [hm]; unfold stN; rw [if_neg hr])
    clear hm
    by_cases h1 : n < 100
    · clear hr
      go_enter Tryz.func11, Tryz.ntmps11
      go_wp2_with fail
      rw [show (500 : Int) = (m : Int) by rw [HM.out]; rfl]
      refine (rdigits_all m (by have := HST.out; omega) w).mono ?_
      rintro e w2 ⟨rfl, g2⟩
      have hil := dd_len m (by have := HST.out; omega)
      have hrl := reason_len (m : Int)
      obtain ⟨it, hit⟩ : ∃ it, it = Lib.decDigits m := ⟨_, rfl⟩
      obtain ⟨rl, hrlq⟩ : ∃ rl, rl = reasonL (m : Int) := ⟨_, rfl⟩
      obtain ⟨rs, hrsq⟩ : ∃ rs, rs = restL fs body (!keep) := ⟨_, rfl⟩
      have HRS := hid (fun W => hrlq ▸ rreason (m : Int) W)
      have HRR := hid (fun W (g : w.grownBy W none) => hrsq ▸ rrest fs body (!keep) fa fc vb W (HP.out.grown g) (HB.out.grown g) h2 H3.out h4)
      have HFR := hid (show ((⟨#[72, 84, 84, 80, 47, 49, 46, 49, 32]⟩ : ByteArray) ++ (⟨it.toArray⟩ : ByteArray) ++ (⟨#[32]⟩ : ByteArray) ++ (⟨rl.toArray⟩ : ByteArray) ++ (⟨#[13, 10]⟩ : ByteArray) ++ (⟨rs.toArray⟩ : ByteArray)) = ⟨(respL _ fs body keep).toArray⟩ by
        rw [HEQ.out]
        unfold firstR httpL
        rw [Lib.itoa_nonneg, ← hit, ← hrlq, ← hrsq, app_arr, app_arr, app_arr, app_arr, app_arr])
      have hrsl : rs.length ≤ 600000 := by rw [hrsq]; exact HRL.out
      unfold str
      rw [← hit] at hil ⊢
      rw [← hrlq] at hrl
      have hng1 : ¬ 9223372036854775807 < 9 + it.length := by omega
      have hng2 : ¬ 9223372036854775807 < 9 + it.length + 1 := by omega
      have hng3 : ¬ 9223372036854775807 < 9 + it.length + 1 + rl.length := by omega
      have hng4 : ¬ 9223372036854775807 < 9 + it.length + 1 + rl.length + 2 := by omega
      have hng5 : ¬ 9223372036854775807 < 9 + it.length + 1 + rl.length + 2 + rs.length := by omega
      clear hit hrlq hil hrl hrsq hrsl
      go_wp2_with fail
      refine (HRS.out w2).mono ?_
      rintro e w3 ⟨rfl, g3⟩
      have HG3 := hid (gr_trans g2 g3)
      clear g2 g3
      go_wp2_with fail
      refine (HRR.out w3 HG3.out).mono ?_
      rintro e w4 ⟨rfl, g4⟩
      have HG4 := hid (gr_trans HG3.out g4)
      clear g4
      go_wp2_with fail
      rw [HFR.out]
      go_ret
      exact ⟨rfl, HG4.out⟩
    · have h5 : (999 : Int) < n := by omega
      clear hr
      go_enter Tryz.func11, Tryz.ntmps11
      go_wp2_with fail
      rw [show (500 : Int) = (m : Int) by rw [HM.out]; rfl]
      refine (rdigits_all m (by have := HST.out; omega) w).mono ?_
      rintro e w2 ⟨rfl, g2⟩
      have hil := dd_len m (by have := HST.out; omega)
      have hrl := reason_len (m : Int)
      obtain ⟨it, hit⟩ : ∃ it, it = Lib.decDigits m := ⟨_, rfl⟩
      obtain ⟨rl, hrlq⟩ : ∃ rl, rl = reasonL (m : Int) := ⟨_, rfl⟩
      obtain ⟨rs, hrsq⟩ : ∃ rs, rs = restL fs body (!keep) := ⟨_, rfl⟩
      have HRS := hid (fun W => hrlq ▸ rreason (m : Int) W)
      have HRR := hid (fun W (g : w.grownBy W none) => hrsq ▸ rrest fs body (!keep) fa fc vb W (HP.out.grown g) (HB.out.grown g) h2 H3.out h4)
      have HFR := hid (show ((⟨#[72, 84, 84, 80, 47, 49, 46, 49, 32]⟩ : ByteArray) ++ (⟨it.toArray⟩ : ByteArray) ++ (⟨#[32]⟩ : ByteArray) ++ (⟨rl.toArray⟩ : ByteArray) ++ (⟨#[13, 10]⟩ : ByteArray) ++ (⟨rs.toArray⟩ : ByteArray)) = ⟨(respL _ fs body keep).toArray⟩ by
        rw [HEQ.out]
        unfold firstR httpL
        rw [Lib.itoa_nonneg, ← hit, ← hrlq, ← hrsq, app_arr, app_arr, app_arr, app_arr, app_arr])
      have hrsl : rs.length ≤ 600000 := by rw [hrsq]; exact HRL.out
      unfold str
      rw [← hit] at hil ⊢
      rw [← hrlq] at hrl
      have hng1 : ¬ 9223372036854775807 < 9 + it.length := by omega
      have hng2 : ¬ 9223372036854775807 < 9 + it.length + 1 := by omega
      have hng3 : ¬ 9223372036854775807 < 9 + it.length + 1 + rl.length := by omega
      have hng4 : ¬ 9223372036854775807 < 9 + it.length + 1 + rl.length + 2 := by omega
      have hng5 : ¬ 9223372036854775807 < 9 + it.length + 1 + rl.length + 2 + rs.length := by omega
      clear hit hrlq hil hrl hrsq hrsl
      go_wp2_with fail
      refine (HRS.out w2).mono ?_
      rintro e w3 ⟨rfl, g3⟩
      have HG3 := hid (gr_trans g2 g3)
      clear g2 g3
      go_wp2_with fail
      refine (HRR.out w3 HG3.out).mono ?_
      rintro e w4 ⟨rfl, g4⟩
      have HG4 := hid (gr_trans HG3.out g4)
      clear g4
      go_wp2_with fail
      rw [HFR.out]
      go_ret
      exact ⟨rfl, HG4.out⟩
set_option maxRecDepth 20000 in
set_option maxHeartbeats 4000000 in
theorem rask (m t : List UInt8) (fs : List (List UInt8 × List UInt8)) (body : List UInt8) (fa : Option Addr) (fc : Nat) (vb : Value) (w : World) (hp : PairsAt w fa fs.length (fsN fs) (fsV fs)) (hb : Bytes w vb body)
    (h1 : m.length + t.length ≤ 3000) (h2 : fs.length ≤ 200) (h3 : ∀ f ∈ fs, f.1.length ≤ 1000 ∧ f.2.length ≤ 1000) (h4 : body.length ≤ 100000) :
    Calls Tryz.prog 12 #[.string ⟨m.toArray⟩, .string ⟨t.toArray⟩, .slice fa fs.length fc, vb] w fun e w' => e = .returned (.string ⟨(askL m t fs body).toArray⟩) ∧ w.grownBy w' none := by
  have HW := hid (rrest fs body false fa fc vb w hp hb h2 h3 h4)
  have hrs := rest_len fs body false h2 h3 h4
  obtain ⟨r, hr⟩ : ∃ r, r = restL fs body false := ⟨_, rfl⟩
  have HFR := hid (show ((⟨m.toArray⟩ : ByteArray) ++ (⟨#[32]⟩ : ByteArray) ++ (⟨t.toArray⟩ : ByteArray) ++ (⟨#[32, 72, 84, 84, 80, 47, 49, 46, 49, 13, 10]⟩ : ByteArray) ++ (⟨r.toArray⟩ : ByteArray)) = ⟨(askL m t fs body).toArray⟩ by
    unfold askL askFirst
    rw [write_rest, ← hr, app_arr, app_arr, app_arr, app_arr]
    simp)
  rw [← hr] at hrs HW
  have hng1 : ¬ 9223372036854775807 < m.length + 1 := by omega
  have hng2 : ¬ 9223372036854775807 < m.length + 1 + t.length := by omega
  have hng3 : ¬ 9223372036854775807 < m.length + 1 + t.length + 11 := by omega
  have hng4 : ¬ 9223372036854775807 < m.length + 1 + t.length + 11 + r.length := by omega
  clear hp hb h1 h2 h3 h4 hr hrs
  go_enter Tryz.func12, Tryz.ntmps12
  go_wp2_with fail
  refine HW.out.mono ?_
  rintro e w4 ⟨rfl, g4⟩
  have HG4 := hid g4
  clear g4
  go_wp2_with fail
  rw [HFR.out]
  go_ret
  exact ⟨rfl, HG4.out⟩
end Go.Proofs.YtldbcdiomkkinaaGreatDoor
