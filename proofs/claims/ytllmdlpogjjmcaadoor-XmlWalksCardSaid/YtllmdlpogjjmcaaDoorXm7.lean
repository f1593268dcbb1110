/- hearthref17.Doc: blanks. -/
import Derived.Test.YtllmdlpogjjmcaaDoorXm6
namespace Go.Proofs.YtllmdlpogjjmcaaDoor
open Go.RowKit
set_option linter.unusedVariables false

theorem blk_has (c : UInt8) : blkL.contains c = (decide ((c.toNat : Int) = 32) || decide ((c.toNat : Int) = 9) || decide ((c.toNat : Int) = 10) || decide ((c.toNat : Int) = 13)) := by
  revert c; exact all_bytes (by decide +kernel)
theorem blk_cases (c : UInt8) : (c = 32 ∨ c = 9 ∨ c = 10 ∨ c = 13) ∨ (blkL.contains c = false ∧ ((c.toNat : Int) == 32) = false ∧ ((c.toNat : Int) == 9) = false ∧ ((c.toNat : Int) == 10) = false ∧ ((c.toNat : Int) == 13) = false) := by
  revert c; exact all_bytes (by decide +kernel)
theorem trimS_tw (l : List UInt8) (k : Nat) (hk : k ≤ l.length) (h1 : (l.take k).all (blkL.contains ·) = true) (h2 : k < l.length → blkL.contains (l.getD k 0) = false) : Lib.trimLeftS l blkL = l.drop k :=
  (tw_take (blkL.contains ·) l k hk h1 h2).2
set_option maxRecDepth 20000 in
set_option maxHeartbeats 4000000 in
theorem blanks_r (b : Nat) (S r : List UInt8) (cnt : Int) (bad full : Bool) (w : World) (h : DcR w b S r cnt bad full) (hS : S.length ≤ 100000) :
    Calls Tryd.prog 30 #[.pointer (some ⟨b, 0, none⟩)] w fun e w' => ∃ n : Nat, e = .returned (.int .i64 (n : Int)) ∧ r.length = n + (Lib.trimLeftS r blkL).length ∧ DcR w' b S (Lib.trimLeftS r blkL) cnt bad full ∧ w.grownBy w' (some b) := by
  obtain ⟨i, hi, hr, h⟩ := h
  have hrl : r.length = S.length - i := by rw [← hr, List.length_drop]
  have H := hid h
  have HR := hid hr
  have HRL := hid hrl
  clear h hr hrl
  go_enter Tryd.func30, Tryd.ntmps30
  go_wp2_with fail
  go_loopw [3] (fun v3 wr => ∃ k : Nat, v3 = .int .i64 (k : Int) ∧ i + k ≤ S.length ∧ DcAt wr b S (i + k) cnt bad full ∧ w.grownBy wr (some b) ∧ Hid ((r.take k).all (blkL.contains ·) = true)) (fun v3 _ => S.length + 1 - (intOf v3).toNat)
  case atStart => exact ⟨0, rfl, by omega, H.out, gr_refl _ _, rfl⟩
  case round =>
    obtain ⟨k, rfl, hk, hd, gw, hall⟩ := hrel
    have HD := hid hd
    obtain ⟨c0, c1, -, -, -, f1, -⟩ := hd.cells
    have hsz : (ByteArray.mk S.toArray).size = S.length := by rw [Lib.size_eq]
    clear hd
    by_cases hlt : i + k < S.length
    · have hlt' : decide ((i : Int) + (k : Int) < (S.length : Int)) = true := by simp; omega
      have hkr : k < r.length := by rw [HRL.out]; omega
      have hc : (ByteArray.mk S.toArray)[i + k]'(by rw [hsz]; exact hlt) = r.getD k 0 := by
        rw [strAt, ← HR.out]
        simp only [List.getD_eq_getElem?_getD, List.getElem?_drop]
      have hyes := fun h : blkL.contains (r.getD k 0) = true => hid (show (r.take (k + 1)).all (blkL.contains ·) = true by rw [xall_snoc r _ k hkr, hall.out, h]; rfl)
      have hno := fun h : blkL.contains (r.getD k 0) = false => hid (trimS_tw r k (by omega) hall.out (fun _ => h))
      have hcs := blk_cases (r.getD k 0)
      generalize r.getD k 0 = c at hc hyes hno hcs
      have hY := hid hyes
      have hN := hid hno
      clear hyes hno hkr
      have hb1 : (i : Int) + (k : Int) < (S.length : Int) := by omega
      have hb2 : ((i : Int) + (k : Int)).toNat = i + k := by omega
      rcases hcs with hcs | ⟨hb, e1, e2, e3, e4⟩
      · have R := hY.out (by rcases hcs with rfl | rfl | rfl | rfl <;> decide)
        clear hY hN
        have hkk : (i : Int) + (k : Int) + 1 = ((i + (k + 1) : Nat) : Int) := by omega
        have HKK := hid hkk
        clear hkk
        rcases hcs with rfl | rfl | rfl | rfl
        all_goals
          go_wp2_with fail
          go_quiet (fail)
          have H2 := hid (HD.out.grow (gr_drewN nq (gr_refl _ _)))
          have G2 := hid (gr_drewN nq gw)
          clear gw c0 c1 f1 hc
          revert H2 G2
          generalize wr.drewN nq = w2
          intro H2 G2
          obtain ⟨c0, c1, -, -, -, f1, -⟩ := H2.out.cells
          have H4 := hid (H2.out.setI (i + (k + 1)))
          go_wp2
          go_roundw
          case rel => exact ⟨k + 1, by go_num, by omega, by rw [HKK.out]; exact H4.out, gr_set G2.out, R⟩
          case measure => simp [intOf]; omega
      · have R := hN.out hb
        go_wp2_with fail
        go_quiet (fail)
        go_wp2
        go_ret
        refine ⟨k, rfl, ?_, ⟨i + k, hk, ?_, HD.out.grow (gr_drewN nq (gr_refl _ _))⟩, gr_drewN nq gw⟩
        · rw [R.out, List.length_drop, HRL.out]; omega
        · rw [R.out, ← HR.out, List.drop_drop]
    · have hlt' : decide ((i : Int) + (k : Int) < (S.length : Int)) = false := by simp; omega
      have R := hid (trimS_tw r k (by rw [HRL.out]; omega) hall.out (fun h => by rw [HRL.out] at h; omega))
      go_wp2_with fail
      go_quiet (fail)
      go_wp2
      go_ret
      refine ⟨k, rfl, ?_, ⟨i + k, hk, ?_, HD.out.grow (gr_drewN nq (gr_refl _ _))⟩, gr_drewN nq gw⟩
      · rw [R.out, List.length_drop, HRL.out]; omega
      · rw [R.out, ← HR.out, List.drop_drop]
end Go.Proofs.YtllmdlpogjjmcaaDoor
