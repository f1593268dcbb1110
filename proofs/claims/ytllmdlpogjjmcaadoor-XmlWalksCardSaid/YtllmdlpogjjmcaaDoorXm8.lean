/- hearthref17.Doc: one, full, around. -/
import Derived.Test.YtllmdlpogjjmcaaDoorXm7
namespace Go.Proofs.YtllmdlpogjjmcaaDoor
open Go.RowKit
set_option linter.unusedVariables false

set_option maxRecDepth 20000 in
set_option maxHeartbeats 4000000 in
theorem one_r (b : Nat) (S r : List UInt8) (cnt : Int) (bad full : Bool) (w : World) (h : DcR w b S r cnt bad full) (hS : S.length ≤ 100000) :
    Calls Tryd.prog 46 #[.pointer (some ⟨b, 0, none⟩)] w fun e w' => e = .returned (str (wdA r)) ∧ DcR w' b S (wdR r) cnt (bad || !nameB (wdA r)) full ∧ w.grownBy w' (some b) := by
  obtain ⟨i, hi, hr, h⟩ := h
  have hrl : r.length = S.length - i := by rw [← hr, List.length_drop]
  obtain ⟨c0, c1, -⟩ := h.cells
  have H := hid h
  have HR := hid hr
  have HRL := hid hrl
  clear h hr hrl
  go_enter Tryd.func46, Tryd.ntmps46
  go_wp2_with fail
  go_loopw [8] (fun _ wr => ∃ k, i + k ≤ S.length ∧ DcAt wr b S (i + k) cnt bad full ∧ w.grownBy wr (some b) ∧ Hid ((r.take k).all innB = true)) (fun _ wr => S.length + 1 - upJ wr b)
  case atStart => exact ⟨0, by omega, H.out, gr_refl _ _, rfl⟩
  case round =>
    obtain ⟨k, hk, hd, gw, hall⟩ := hrel
    have HD := hid hd
    obtain ⟨d0, d1, -, d3, -, f1, -, f3, -⟩ := hd.cells
    have hsz : (ByteArray.mk S.toArray).size = S.length := by rw [Lib.size_eq]
    clear hd c0 c1
    by_cases hlt : i + k < S.length
    · have hlt' : decide ((i : Int) + (k : Int) < (S.length : Int)) = true := by simp; omega
      have hb1 : (i : Int) + (k : Int) < (S.length : Int) := by omega
      have hb2 : ((i : Int) + (k : Int)).toNat = i + k := by omega
      have hkr : k < r.length := by rw [HRL.out]; omega
      have hc : (ByteArray.mk S.toArray)[i + k]'(by rw [hsz]; exact hlt) = r.getD k 0 := by
        rw [strAt, ← HR.out]
        simp only [List.getD_eq_getElem?_getD, List.getElem?_drop]
      have hyes := fun h : innB (r.getD k 0) = true => hid (show (r.take (k + 1)).all innB = true by rw [xall_snoc r _ k hkr, hall.out, h]; rfl)
      have hno := fun h : innB (r.getD k 0) = false => hid (tw_take innB r k (by omega) hall.out (fun _ => h))
      have HIN := hid (fun W => (rwithin_any (r.getD k 0) W).mono fun _ _ ⟨ha, hb⟩ => (⟨ha, hb.symm⟩ : _ ∧ _ = W))
      generalize innB (r.getD k 0) = p at hyes hno HIN
      generalize r.getD k 0 = c at hc HIN
      have hY := hid hyes
      have hN := hid hno
      clear hyes hno hkr
      go_wp2_with fail
      go_quiet ((go_at_call 59; exact Calls.quiet_of_same (HIN.out _)))
      cases p
      · have R := hN.out rfl
        have H2 := hid (HD.out.grow (gr_drewN nq (gr_refl _ _)))
        have G2 := hid (gr_drewN nq gw)
        clear gw d0 d1 d3 f1 f3
        revert H2 G2
        generalize wr.drewN nq = w2
        intro H2 G2
        obtain ⟨d0, d1, -, d3, -, f1, -, f3, -⟩ := H2.out.cells
        have hxe : (ByteArray.mk S.toArray).extract i (i + k) = ⟨(wdA r).toArray⟩ := by rw [ext_at, HR.out]; unfold wdA; rw [R.out.1]
        have hyr := hid (show S.drop (i + k) = wdR r by rw [← List.drop_drop, HR.out]; unfold wdR; rw [R.out.2])
        have hxl : (wdA r).length ≤ 100000 := by have := (wd_len r).1; have := HRL.out; omega
        have HNM := hid (fun W => show Calls Tryd.prog 60 #[.string ((ByteArray.mk S.toArray).extract i (i + k))] W (fun e w' => e = .returned (.bool (nameB (wdA r))) ∧ w' = W) by
          rw [hxe]; exact (rname_any ⟨(wdA r).toArray⟩ W (by rw [Lib.size_eq]; simpa using hxl)).mono fun _ _ ⟨ha, hb⟩ => ⟨ha, hb.symm⟩)
        have hle : (i : Int) ≤ (i : Int) + (k : Int) := by omega
        have hle2 : (i : Int) + (k : Int) ≤ (S.length : Int) := by omega
        have hb9 : ((i : Int) + (k : Int)).toNat = i + k := by omega
        obtain ⟨x, hx⟩ : ∃ x, x = wdA r := ⟨_, rfl⟩
        obtain ⟨y, hy⟩ : ∃ y, y = wdR r := ⟨_, rfl⟩
        rw [← hx] at hxe HNM
        rw [← hy] at hyr
        have HX := hid hx
        have HY := hid hy
        have HXE := hid hxe
        obtain ⟨nb, hnb⟩ : ∃ nb, nb = nameB x := ⟨_, rfl⟩
        rw [← hnb] at HNM
        have HNB := hid hnb
        clear hx hy hxe hnb hxl R hall
        cases nb
        · go_wp2_with fail
          go_quiet ((go_at_call 60; exact Calls.quiet_of_same (HNM.out _)))
          have H3 := hid (H2.out.grow (gr_drewN nq (gr_refl _ _)))
          have G3 := hid (gr_drewN nq G2.out)
          clear H2 G2 d0 d1 d3 f1 f3
          revert H3 G3
          generalize w2.drewN nq = w3
          intro H3 G3
          obtain ⟨d0, d1, -, d3, -, f1, -, f3, -⟩ := H3.out.cells
          go_wp2_with fail
          have H4 := hid (H3.out.setBad true)
          have G4 := hid (gr_set (o := 3) (v := .bool true) G3.out)
          clear H3 G3 d0 d1 d3 f1 f3
          revert H4 G4
          generalize w3.setCell _ _ = w4
          intro H4 G4
          obtain ⟨d0, d1, -, d3, -, f1, -, f3, -⟩ := H4.out.cells
          go_quiet (fail)
          go_wp2
          go_ret
          rw [← HX.out, ← HY.out, ← HNB.out, show (bad || !false) = true by simp]
          refine ⟨?_, ⟨i + k, hk, hyr.out, H4.out.grow (gr_drewN _ (gr_refl _ _))⟩, gr_drewN _ G4.out⟩
          exact congrArg (fun z => Ending.returned (Value.string z)) HXE.out
        · go_wp2_with fail
          go_quiet ((go_at_call 60; exact Calls.quiet_of_same (HNM.out _)))
          have H3 := hid (H2.out.grow (gr_drewN nq (gr_refl _ _)))
          have G3 := hid (gr_drewN nq G2.out)
          clear H2 G2 d0 d1 d3 f1 f3
          revert H3 G3
          generalize w2.drewN nq = w3
          intro H3 G3
          obtain ⟨d0, d1, -, d3, -, f1, -, f3, -⟩ := H3.out.cells
          go_wp2_with fail
          go_quiet (fail)
          go_wp2
          go_ret
          rw [← HX.out, ← HY.out, ← HNB.out, show (bad || !true) = bad by simp]
          refine ⟨?_, ⟨i + k, hk, hyr.out, H3.out.grow (gr_drewN _ (gr_refl _ _))⟩, gr_drewN _ G3.out⟩
          exact congrArg (fun z => Ending.returned (Value.string z)) HXE.out
      · have R := hY.out rfl
        have H2 := hid (HD.out.grow (gr_drewN nq (gr_refl _ _)))
        have G2 := hid (gr_drewN nq gw)
        clear gw d0 d1 d3 f1 f3 hc
        revert H2 G2
        generalize wr.drewN nq = w2
        intro H2 G2
        obtain ⟨d0, d1, -, d3, -, f1, -, f3, -⟩ := H2.out.cells
        have hkk : (i : Int) + (k : Int) + 1 = ((i + (k + 1) : Nat) : Int) := by omega
        have HKK := hid hkk
        have H4 := hid (H2.out.setI (i + (k + 1)))
        clear hkk
        go_wp2
        go_roundw
        case rel => exact ⟨k + 1, by omega, by rw [HKK.out]; exact H4.out, gr_set G2.out, R⟩
        case measure => rw [HKK.out, upJ_of H4.out, upJ_of HD.out]; omega
    · have hlt' : decide ((i : Int) + (k : Int) < (S.length : Int)) = false := by simp; omega
      have R := hid (tw_take innB r k (by rw [HRL.out]; omega) hall.out (fun h => by rw [HRL.out] at h; omega))
      go_wp2_with fail
      go_quiet (fail)
      have H2 := hid (HD.out.grow (gr_drewN nq (gr_refl _ _)))
      have G2 := hid (gr_drewN nq gw)
      clear gw d0 d1 d3 f1 f3
      revert H2 G2
      generalize wr.drewN nq = w2
      intro H2 G2
      obtain ⟨d0, d1, -, d3, -, f1, -, f3, -⟩ := H2.out.cells
      have hxe : (ByteArray.mk S.toArray).extract i (i + k) = ⟨(wdA r).toArray⟩ := by rw [ext_at, HR.out]; unfold wdA; rw [R.out.1]
      have hyr := hid (show S.drop (i + k) = wdR r by rw [← List.drop_drop, HR.out]; unfold wdR; rw [R.out.2])
      have hxl : (wdA r).length ≤ 100000 := by have := (wd_len r).1; have := HRL.out; omega
      have HNM := hid (fun W => show Calls Tryd.prog 60 #[.string ((ByteArray.mk S.toArray).extract i (i + k))] W (fun e w' => e = .returned (.bool (nameB (wdA r))) ∧ w' = W) by
        rw [hxe]; exact (rname_any ⟨(wdA r).toArray⟩ W (by rw [Lib.size_eq]; simpa using hxl)).mono fun _ _ ⟨ha, hb⟩ => ⟨ha, hb.symm⟩)
      have hle : (i : Int) ≤ (i : Int) + (k : Int) := by omega
      have hle2 : (i : Int) + (k : Int) ≤ (S.length : Int) := by omega
      have hb9 : ((i : Int) + (k : Int)).toNat = i + k := by omega
      obtain ⟨x, hx⟩ : ∃ x, x = wdA r := ⟨_, rfl⟩
      obtain ⟨y, hy⟩ : ∃ y, y = wdR r := ⟨_, rfl⟩
      rw [← hx] at hxe HNM
      rw [← hy] at hyr
      have HX := hid hx
      have HY := hid hy
      have HXE := hid hxe
      obtain ⟨nb, hnb⟩ : ∃ nb, nb = nameB x := ⟨_, rfl⟩
      rw [← hnb] at HNM
      have HNB := hid hnb
      clear hx hy hxe hnb hxl R hall
      cases nb
      · go_wp2_with fail
        go_quiet ((go_at_call 60; exact Calls.quiet_of_same (HNM.out _)))
        have H3 := hid (H2.out.grow (gr_drewN nq (gr_refl _ _)))
        have G3 := hid (gr_drewN nq G2.out)
        clear H2 G2 d0 d1 d3 f1 f3
        revert H3 G3
        generalize w2.drewN nq = w3
        intro H3 G3
        obtain ⟨d0, d1, -, d3, -, f1, -, f3, -⟩ := H3.out.cells
        go_wp2_with fail
        have H4 := hid (H3.out.setBad true)
        have G4 := hid (gr_set (o := 3) (v := .bool true) G3.out)
        clear H3 G3 d0 d1 d3 f1 f3
        revert H4 G4
        generalize w3.setCell _ _ = w4
        intro H4 G4
        obtain ⟨d0, d1, -, d3, -, f1, -, f3, -⟩ := H4.out.cells
        go_quiet (fail)
        go_wp2
        go_ret
        rw [← HX.out, ← HY.out, ← HNB.out, show (bad || !false) = true by simp]
        refine ⟨?_, ⟨i + k, hk, hyr.out, H4.out.grow (gr_drewN _ (gr_refl _ _))⟩, gr_drewN _ G4.out⟩
        exact congrArg (fun z => Ending.returned (Value.string z)) HXE.out
      · go_wp2_with fail
        go_quiet ((go_at_call 60; exact Calls.quiet_of_same (HNM.out _)))
        have H3 := hid (H2.out.grow (gr_drewN nq (gr_refl _ _)))
        have G3 := hid (gr_drewN nq G2.out)
        clear H2 G2 d0 d1 d3 f1 f3
        revert H3 G3
        generalize w2.drewN nq = w3
        intro H3 G3
        obtain ⟨d0, d1, -, d3, -, f1, -, f3, -⟩ := H3.out.cells
        go_wp2_with fail
        go_quiet (fail)
        go_wp2
        go_ret
        rw [← HX.out, ← HY.out, ← HNB.out, show (bad || !true) = bad by simp]
        refine ⟨?_, ⟨i + k, hk, hyr.out, H3.out.grow (gr_drewN _ (gr_refl _ _))⟩, gr_drewN _ G3.out⟩
        exact congrArg (fun z => Ending.returned (Value.string z)) HXE.out
end Go.Proofs.YtllmdlpogjjmcaaDoor
