/- HttpEnds: the plain law, and the walk. -/
import Derived.Test.YtldbcdiomkkinaaDoorHty
namespace Go.Proofs.YtldbcdiomkkinaaDoor
open Go.RowKit

def endP (p : Pd) : Bool := p.status != 0 || !p.req.keep
def endB (l : List Pd) : Bool := match l.getLast? with | none => false | some p => endP p
/-- A step's end: just what ends the reading leaves a dead reader. -/
def SE (r : Ps × Option Pd) : Prop := match r.2 with | none => r.1.stage ≠ 5 | some p => decide (r.1.stage = 5) = endP p
theorem SE.fail {st : Int} (h : st ≠ 0) : SE (failS st) := by
  show decide ((5 : Nat) = 5) = (st != 0 || !false)
  simp [h]
theorem SE.done (s : Ps) : SE (doneS s) := by
  unfold doneS SE endP
  cases h : s.req.keep <;> simp [h, Ps.dead]
theorem SE.judge (s : Ps) (texts : List (List UInt8)) (bare : Bool) : SE (judgeS s texts bare) := by
  unfold judgeS
  dsimp only
  split
  · exact SE.fail (by decide)
  split
  · exact SE.fail (by decide)
  split
  · exact SE.fail (by decide)
  split
  · exact SE.fail (by decide)
  split
  · exact SE.fail (by decide)
  split
  · rename_i h; exact SE.fail h
  split
  · exact SE.done _
  · exact framing_stage _
theorem SE.step {s : Ps} (h : PsInv s) (h5 : s.stage ≠ 5) : SE (stepS s) := by
  have i4 := h.2.2.2.1
  unfold stepS
  rcases s with ⟨rest, stage, skip, req, left⟩
  dsimp only at i4 h5 ⊢
  match stage, i4, h5, h with
  | 0, _, h5, h =>
    show SE (headS _)
    unfold headS
    split
    · split
      · exact SE.fail (by decide)
      · exact h5
    · split
      · exact h5
      · split
        · split
          · exact SE.fail (by decide)
          · exact h5
        · split
          · exact SE.judge _ _ _
          · exact SE.fail (by decide)
  | 1, _, h5, h =>
    show SE (bodyS _)
    unfold bodyS
    split
    · exact h5
    · exact SE.done _
  | 2, _, h5, h =>
    show SE (sizeS _)
    unfold sizeS
    split
    · split
      · exact SE.fail (by decide)
      · exact h5
    · split
      · exact SE.fail (by decide)
      · dsimp only
        split
        · exact SE.fail (by decide)
        · split
          · exact SE.fail (by decide)
          · show (if _ = 0 then 4 else 3) ≠ 5
            split <;> decide
  | 3, _, h5, h =>
    show SE (chunkS _)
    unfold chunkS
    split
    · exact SE.fail (by decide)
    · split
      · exact h5
      · show (2 : Nat) ≠ 5
        decide
  | 4, _, h5, h =>
    show SE (trailerS _)
    unfold trailerS
    split
    · split
      · exact SE.fail (by decide)
      · exact h5
    · split
      · exact SE.fail (by decide)
      · split
        · exact SE.fail (by decide)
        · exact SE.done _
  | 5, _, h5, _ => exact absurd rfl h5
  | n + 6, i4, _, _ => omega
theorem feedGo_ended : ∀ (f : Nat) (s : Ps) (out : List Pd), PsInv s → s.stage ≠ 5 → endB out = false → muS s < f → decide ((feedGo f s out).2.stage = 5) = endB (feedGo f s out).1
  | 0, s, out, _, _, _, hf => by omega
  | f + 1, s, out, hi, h5, ho, hf => by
    have hSF := SF.step hi h5
    have hSE := SE.step hi h5
    unfold feedGo
    dsimp only
    unfold SE at hSE
    obtain ⟨r, hr⟩ : ∃ r, r = stepS s := ⟨_, rfl⟩
    rw [← hr] at hSF hSE ⊢
    clear hr
    rcases r with ⟨s1, _ | p⟩
    · dsimp only at hSE ⊢
      split
      · show decide (s1.stage = 5) = endB (out ++ (none : Option Pd).toList)
        rw [decide_eq_false hSE, show out ++ (none : Option Pd).toList = out by simp, ho]
      · rename_i hc
        exact feedGo_ended f _ _ hSF.1 hSE (by simpa using ho) (fd_mu hSF hc rfl hf)
    · dsimp only at hSE ⊢
      have hl : endB (out ++ (some p).toList) = endP p := by
        unfold endB
        simp
      split
      · rw [hl]
        exact hSE
      · rename_i hc
        have h5' : s1.stage ≠ 5 := fun h => hc (.inl h)
        exact feedGo_ended f _ _ hSF.1 h5' (by rw [hl, ← hSE]; exact decide_eq_false h5') (fd_mu hSF hc rfl hf)
theorem feed_ended (l : List UInt8) (hl : l.length ≤ 100000) : decide ((feedL Ps.new l).2.stage = 5) = endB (feedL Ps.new l).1 := by
  unfold feedL
  rw [if_neg (by decide)]
  refine feedGo_ended _ _ _ ⟨by show ([] ++ l).length ≤ 100000; simpa using hl, new_inv.2⟩ (show (0 : Nat) ≠ 5 by decide) rfl ?_
  unfold muS
  show 2 * ([] ++ l).length + (if (0 : Nat) = 1 then 1 else 0) < _
  simp
  show 2 * l.length < 2 * (Ps.new.rest.length + l.length) + 2
  omega
theorem dead2 (b : Nat) (s : Ps) (w : World) (h : PAt w b s) : Calls Tryd.prog 9 #[.pointer (some ⟨b, 0, none⟩)] w fun e w' => e = .returned (.bool (decide (s.stage = 5))) ∧ w = w' := (dead_http b s w h).mono fun _ _ h => ⟨h.1, h.2.symm⟩
theorem idle2 (b : Nat) (s : Ps) (w : World) (h : PAt w b s) : Calls Tryd.prog 10 #[.pointer (some ⟨b, 0, none⟩)] w fun e w' => e = .returned (.bool (idleB s)) ∧ w = w' := (idle_http b s w h).mono fun _ _ h => ⟨h.1, h.2.symm⟩
theorem gt_true {a b : Nat} (h : b < a) : decide ((b : Int) < (a : Int)) = true := by simp; omega
theorem gt_false {a b : Nat} (h : ¬ b < a) : decide ((b : Int) < (a : Int)) = false := by simp; omega
set_option maxRecDepth 20000 in
set_option maxHeartbeats 4000000 in
theorem ends_walk (l1 l2 : List UInt8) (v1 v2 : Value) (mx : Int) (w : World) (hv1 : Bytes w v1 l1) (hv2 : Bytes w v2 l2) (hm : w.cell? ⟨0, 0, none⟩ = some (.int .i64 mx)) :
    Calls Tryd.prog 4 #[v1, v2] w fun e w' => e = .returned (.bool true) ∧ w.grownBy w' none := by
  obtain ⟨a1, c1, rfl, hc1, hm1, -⟩ := id hv1
  obtain ⟨a2, c2, rfl, hc2, hm2, -⟩ := id hv2
  have HV1 := hid hv1
  have HV2 := hid hv2
  have HM := hid hm
  have hsz : 0 < w.heap.size := World.block_lt_of_cell? _ _ hm
  clear hv1 hv2 hm
  by_cases hl1 : 6000 < l1.length
  · have hb1 : decide ((6000 : Int) < (l1.length : Int)) = true := by simp; omega
    go_enter Tryd.func4, Tryd.ntmps4
    go_wp2_with fail
    refine (speaks_http w mx HM.out).mono ?_
    rintro e w1 ⟨rfl, g1⟩
    go_wp2_with fail
    go_ret
    exact ⟨rfl, g1⟩
  · have hb1 : decide ((6000 : Int) < (l1.length : Int)) = false := by simp; omega
    by_cases hl2 : 6000 < l2.length
    · have hb2 : decide ((6000 : Int) < (l2.length : Int)) = true := by simp; omega
      go_enter Tryd.func4, Tryd.ntmps4
      go_wp2_with fail
      refine (speaks_http w mx HM.out).mono ?_
      rintro e w1 ⟨rfl, g1⟩
      go_wp2_with fail
      go_ret
      exact ⟨rfl, g1⟩
    · have hb2 : decide ((6000 : Int) < (l2.length : Int)) = false := by simp; omega
      go_enter Tryd.func4, Tryd.ntmps4
      go_wp2_with fail
      refine (speaks_http w mx HM.out).mono ?_
      rintro e w1 ⟨rfl, g1⟩
      go_wp2_with fail
      refine (new_http w1).mono ?_
      rintro e w2 ⟨rfl, hbl, g2⟩
      have hz1 := g1.size
      obtain ⟨p, hp⟩ : ∃ x, x = w1.heap.size := ⟨_, rfl⟩
      rw [← hp] at hbl ⊢
      have hp0 : p ≠ 0 := by omega
      have HP := hid (new_at hbl)
      have G2 := hid (gr_trans g1 g2)
      have HM2 := hid (G2.out.cell HM.out (by simp))
      have HPP := hid (show w.heap.size ≤ p by omega)
      clear g1 g2 hbl hz1 hp hsz
      go_wp2_with fail
      refine (feed_http p Ps.new w2 mx l1 _ HP.out new_inv HM2.out hp0 (HV1.out.grown G2.out) (by show 0 + l1.length ≤ 100000; omega)).mono ?_
      rintro e w3 ⟨v3, rfl, hpa, hst, g3⟩
      have hend := feed_ended l1 (by omega)
      obtain ⟨out, s3, hfd⟩ : ∃ out s3, feedL Ps.new l1 = (out, s3) := ⟨_, _, rfl⟩
      rw [hfd] at hpa hst hend
      dsimp only at hpa hst hend
      have HST := hid hst
      have HEND := hid hend
      have HPA := hid hpa
      have HM3 := hid (g3.cell HM2.out (by simpa using Ne.symm hp0))
      have G3 := hid (gr_new G2.out g3 HPP.out)
      obtain ⟨a3, c3, rfl⟩ := hpa.shape
      clear hfd hend hst hpa g3 HP HM2
      by_cases ho : out = []
      · subst ho
        have he : decide (s3.stage = 5) = false := HEND.out
        have HE := hid he
        clear he HEND
        rw [show ([] : List Pd).length = 0 from rfl]
        go_wp2_with fail
        refine (dead2 p s3 w3 HST.out).mono ?_
        rintro e w4 ⟨rfl, rfl⟩
        rw [HE.out]
        go_wp2_with fail
        refine (dead2 p s3 w3 HST.out).mono ?_
        rintro e w4 ⟨rfl, rfl⟩
        rw [HE.out]
        go_wp2_with fail
        go_ret
        exact ⟨rfl, G3.out⟩
      · obtain ⟨m, hml⟩ : ∃ m, out.length = m + 1 := ⟨out.length - 1, by have := List.length_pos_iff.2 ho; omega⟩
        obtain ⟨q, hq⟩ : ∃ q, out[m]? = some q := ⟨_, List.getElem?_eq_getElem (by omega)⟩
        have hlast : out.getLast? = some q := by rw [List.getLast?_eq_getElem?, hml]; exact hq
        have he : decide (s3.stage = 5) = endP q := by rw [HEND.out]; unfold endB; rw [hlast]
        have HE := hid he
        obtain ⟨ga, ca, fva, bva, e3, -, ⟨hca, hcm⟩, hcella, -, -⟩ := HPA.out.get hq
        have k0 : w3.cell? ⟨ga, m * 7, none⟩ = some (.int .i64 q.status) := hcella 0 _ rfl
        have k6 := hcella 6 _ rfl
        rw [hml] at e3 hca hcm ⊢
        simp only [Value.slice.injEq] at e3
        obtain ⟨rfl, -, rfl⟩ := e3
        obtain ⟨z, hz⟩ : ∃ z, z = q.status := ⟨_, rfl⟩
        obtain ⟨kp, hkp⟩ : ∃ z, z = q.req.keep := ⟨_, rfl⟩
        rw [← hz] at k0
        rw [← hkp] at k6
        have HE2 := hid (show decide (s3.stage = 5) = (z != 0 || !kp) by rw [hz, hkp]; exact HE.out)
        have hmb : m + 1 ≤ maxLen := hcm
        unfold maxLen at hmb
        have hw1 : IntKind.i64.wrap (((m + 1 : Nat) : Int) - 1) = (m : Int) := by rw [show ((m + 1 : Nat) : Int) - 1 = (m : Int) by omega]; exact IntWalk.i64_in _ (by omega)
        clear he hq hlast hcella HE HEND ho hml hz hkp
        cases hzb : (z != 0)
        · have hz0 : z = 0 := by simpa using hzb
          cases kp
          · have HE3 := hid (show decide (s3.stage = 5) = true by rw [HE2.out, hzb]; rfl)
            clear HE2
            go_wp2_with fail
            refine (dead2 p s3 w3 HST.out).mono ?_
            rintro e w4 ⟨rfl, rfl⟩
            rw [HE3.out]
            go_wp2_with fail
            refine (dead2 p s3 w3 HST.out).mono ?_
            rintro e w4 ⟨rfl, rfl⟩
            rw [HE3.out]
            have h5 : s3.stage = 5 := of_decide_eq_true HE3.out
            have H5 := hid h5
            clear h5
            go_wp2_with fail
            refine (feed_dead p s3 w3 l2 _ HST.out H5.out).mono ?_
            rintro e w4 ⟨v4, rfl, hpa, hst, g4⟩
            rw [show feedL s3 l2 = ([], s3) by unfold feedL; exact if_pos H5.out] at hpa hst
            obtain ⟨vs4, -, -, -, hz4⟩ := hpa
            obtain rfl := hz4 rfl
            have HST4 := hid hst
            have G4 := hid (gr_new G3.out g4 HPP.out)
            clear hst g4 hz4
            go_wp2_with fail
            refine (dead2 p s3 w4 HST4.out).mono ?_
            rintro e w5 ⟨rfl, rfl⟩
            rw [HE3.out]
            go_wp2_with fail
            refine (idle2 p s3 w4 HST4.out).mono ?_
            rintro e w5 ⟨rfl, rfl⟩
            rw [show idleB s3 = true by unfold idleB; rw [HE3.out]; rfl]
            go_wp2_with fail
            go_ret
            exact ⟨rfl, G4.out⟩
          · have HE3 := hid (show decide (s3.stage = 5) = false by rw [HE2.out, hzb]; rfl)
            clear HE2
            go_wp2_with fail
            refine (dead2 p s3 w3 HST.out).mono ?_
            rintro e w4 ⟨rfl, rfl⟩
            rw [HE3.out]
            go_wp2_with fail
            refine (dead2 p s3 w3 HST.out).mono ?_
            rintro e w4 ⟨rfl, rfl⟩
            rw [HE3.out]
            go_wp2_with fail
            go_ret
            exact ⟨rfl, G3.out⟩
        · have HE3 := hid (show decide (s3.stage = 5) = true by rw [HE2.out, hzb]; rfl)
          clear HE2
          go_wp2_with fail
          refine (dead2 p s3 w3 HST.out).mono ?_
          rintro e w4 ⟨rfl, rfl⟩
          rw [HE3.out]
          go_wp2_with fail
          refine (dead2 p s3 w3 HST.out).mono ?_
          rintro e w4 ⟨rfl, rfl⟩
          rw [HE3.out]
          have h5 : s3.stage = 5 := of_decide_eq_true HE3.out
          have H5 := hid h5
          clear h5
          go_wp2_with fail
          refine (feed_dead p s3 w3 l2 _ HST.out H5.out).mono ?_
          rintro e w4 ⟨v4, rfl, hpa, hst, g4⟩
          rw [show feedL s3 l2 = ([], s3) by unfold feedL; exact if_pos H5.out] at hpa hst
          obtain ⟨vs4, -, -, -, hz4⟩ := hpa
          obtain rfl := hz4 rfl
          have HST4 := hid hst
          have G4 := hid (gr_new G3.out g4 HPP.out)
          clear hst g4 hz4
          go_wp2_with fail
          refine (dead2 p s3 w4 HST4.out).mono ?_
          rintro e w5 ⟨rfl, rfl⟩
          rw [HE3.out]
          go_wp2_with fail
          refine (idle2 p s3 w4 HST4.out).mono ?_
          rintro e w5 ⟨rfl, rfl⟩
          rw [show idleB s3 = true by unfold idleB; rw [HE3.out]; rfl]
          go_wp2_with fail
          go_ret
          exact ⟨rfl, G4.out⟩
end Go.Proofs.YtldbcdiomkkinaaDoor
