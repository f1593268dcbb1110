/- HttpWhole: the walk. -/
import Derived.Test.YtldbcdiomkkinaaDoorHw4
import Derived.Test.YtldbcdiomkkinaaDoorHtz
import Derived.StillTailTactics
namespace Go.Proofs.YtldbcdiomkkinaaDoor
open Go.RowKit

theorem feedGo_cnt : ∀ (f : Nat) (s : Ps) (out : List Pd), (feedGo f s out).1.length ≤ out.length + f
  | 0, s, out => by show out.length ≤ _; omega
  | f + 1, s, out => by
    have h1 : (out ++ (stepS s).2.toList).length ≤ out.length + 1 := by
      rw [List.length_append]
      cases (stepS s).2 <;> simp
    unfold feedGo
    dsimp only
    split
    · show (out ++ (stepS s).2.toList).length ≤ _
      omega
    · have := feedGo_cnt f (stepS s).1 (out ++ (stepS s).2.toList)
      omega
theorem feedL_cnt (s : Ps) (l : List UInt8) : (feedL s l).1.length ≤ 2 * (s.rest.length + l.length) + 2 := by
  unfold feedL
  split
  · exact Nat.zero_le _
  · have := feedGo_cnt (2 * (s.rest ++ l).length + 2) { s with rest := s.rest ++ l } []
    simp only [List.length_append, List.length_nil] at this ⊢
    omega
theorem Bytes.one {w : World} {a : Option Addr} {n c : Nat} {l : List UInt8} (h : Bytes w (.slice a n c) l) {k : Nat} (hk : k < l.length) : ∃ b off, a = some ⟨b, off, none⟩ ∧ ∀ m, 1 ≤ m → m ≤ maxLen → Bytes w (.slice (some ⟨b, off + k, none⟩) 1 m) [l.getD k 0] := by
  obtain ⟨a', c', e, h1, h2, h3⟩ := h
  cases e
  obtain ⟨b, off, rfl, hc⟩ := h3 (by intro e; rw [e] at hk; simp at hk)
  refine ⟨b, off, rfl, fun m hm1 hm2 => ⟨_, m, rfl, hm1, hm2, fun _ => ⟨b, off + k, rfl, fun i hi => ?_⟩⟩⟩
  obtain rfl : i = 0 := by simpa using hi
  rw [Nat.add_zero, hc k hk]
  rfl
theorem take_snoc (l : List UInt8) {k : Nat} (hk : k < l.length) : l.take (k + 1) = l.take k ++ [l.getD k 0] := by
  rw [List.take_add_one, List.getElem?_eq_getElem hk, List.getD_eq_getElem?_getD, List.getElem?_eq_getElem hk]
  rfl
theorem got_start {w w4 : World} (h : w4.heap[w.heap.size]? = some (.cells #[] 33 (0, 0))) : GotAt w4 w.heap.size (.slice (some ⟨w.heap.size, 0, none⟩) 0 0) [] :=
  ⟨[], rfl, ⟨rfl, .inr ⟨_, 0, _, rfl, Nat.le_refl _, h, Nat.le_refl _, Nat.zero_le _, rfl, rfl⟩⟩, fun i p x h => by simp at h, fun _ => ⟨_, rfl⟩⟩
theorem GotAt.gr {w w1 w2 : World} {base : Nat} {v : Value} {pds : List Pd} {row : Option Nat} (h : GotAt w1 base v pds) (hg : w.grownBy w1 row) (hb : w.heap.size ≤ base) (g : w1.grownBy w2 v.ownBlock) : w.grownBy w2 row := by
  obtain ⟨vs, hl, ho, ha, hz⟩ := h
  exact gr_row hg ho hb g
theorem GotAt.base_le {w : World} {base : Nat} {v : Value} {pds : List Pd} (h : GotAt w base v pds) : base ≤ w.heap.size := by
  obtain ⟨vs, hl, ho, ha, hz⟩ := h
  rcases ho.2 with ⟨rfl, h0⟩ | ⟨g, cap, cur, rfl, hg, hh, _⟩
  · obtain ⟨g, e⟩ := hz (List.eq_nil_of_length_eq_zero h0)
    cases e
  · have := lt_of_block hh
    omega
theorem GotAt.cell0 {w w' : World} {base : Nat} {v u : Value} {pds : List Pd} (h : w.cell? ⟨0, 0, none⟩ = some u) (hp : GotAt w base v pds) (g : w.grownBy w' v.ownBlock) (h0 : 0 < base) : w'.cell? ⟨0, 0, none⟩ = some u := by
  refine g.cell h ?_
  rcases hp.block with e | ⟨k, cs, e, hk, -, -⟩
  · rw [e]; simp
  · rw [e]
    intro e
    have := Option.some.inj e
    dsimp only at this
    omega
/-- The loop's relation. -/
def WhR (w : World) (mx : Int) (l : List UInt8) (v3 : Value) (out : List Pd) (s3 : Ps) (p q base base3 : Nat) (v28 v5 : Value) (wr : World) : Prop :=
  ∃ (k : Nat) (pds : List Pd) (s' : Ps), k ≤ l.length ∧ v28 = .int .i64 (k : Int) ∧ feedL Ps.new (l.take k) = (pds, s') ∧ PAt wr q s' ∧ GotAt wr base v5 pds ∧ PAt wr p s3 ∧ PdsAt wr base3 v3 out ∧ (∀ k, v3.ownBlock = some k → v5.ownBlock ≠ some k) ∧ w.grownBy wr none ∧ wr.cell? ⟨0, 0, none⟩ = some (.int .i64 mx)
set_option maxRecDepth 20000 in
set_option maxHeartbeats 4000000 in
theorem whole_walk (l : List UInt8) (v : Value) (mx : Int) (w : World) (hv : Bytes w v l) (hm : w.cell? ⟨0, 0, none⟩ = some (.int .i64 mx)) :
    Calls Tryd.prog 3 #[v] w fun e w' => e = .returned (.bool true) ∧ w.grownBy w' none := by
  obtain ⟨a1, c1, rfl, hc1, hm1, -⟩ := id hv
  have HV := hid hv
  have HM := hid hm
  have HSZ := hid (World.block_lt_of_cell? _ _ hm : 0 < w.heap.size)
  have hsz : 0 < w.heap.size := World.block_lt_of_cell? _ _ hm
  clear hv hm
  by_cases hl1 : 3000 < l.length
  · have hb1 : decide ((3000 : Int) < (l.length : Int)) = true := by simp; omega
    go_enter Tryd.func3, Tryd.ntmps3
    go_wp2_with fail
    refine (speaks_http w mx HM.out).mono ?_
    rintro e w1 ⟨rfl, g1⟩
    go_wp2_with fail
    go_ret
    exact ⟨rfl, g1⟩
  · have hb1 : decide ((3000 : Int) < (l.length : Int)) = false := by simp; omega
    go_enter Tryd.func3, Tryd.ntmps3
    go_wp2_with fail
    refine (speaks_http w mx HM.out).mono ?_
    rintro e w1 ⟨rfl, g1⟩
    go_wp2_with fail
    refine (new_http w1).mono ?_
    rintro e w2 ⟨rfl, hb1', g2⟩
    go_wp2_with fail
    refine (new_http w2).mono ?_
    rintro e w3 ⟨rfl, hb2', g3⟩
    have hz1 := g1.size
    have hz2 := g2.size
    have hlt1 := lt_of_block hb1'
    have hlt2 := lt_of_block hb2'
    obtain ⟨p, hp⟩ : ∃ x, x = w1.heap.size := ⟨_, rfl⟩
    obtain ⟨q, hq⟩ : ∃ x, x = w2.heap.size := ⟨_, rfl⟩
    rw [← hp] at hb1' hlt1 ⊢
    rw [← hq] at hb2' hlt2 ⊢
    have hp0 : p ≠ 0 := by omega
    have hq0 : q ≠ 0 := by omega
    have HP := hid (new_at (gr_keep g3 hb1' (by simp)))
    have HQ := hid (new_at hb2')
    have G3 := hid (gr_trans g1 (gr_trans g2 g3))
    have HM3 := hid (G3.out.cell HM.out (by simp))
    have HPQ := hid (show p < q by omega)
    have HPP := hid (show w.heap.size ≤ p by omega)
    have HQQ := hid (show w.heap.size ≤ q by omega)
    clear g1 g2 g3 hb1' hb2' hz1 hz2 hlt1 hlt2 hp hq hsz
    have hC := heap_alloc_new w3 (.cells #[] 33)
    have g4 := World.grownBy_alloc w3 (.cells #[] 33) none
    go_wp2_with fail
    have hg4 := g4.size
    revert hC g4
    generalize w3.alloc _ = w4
    intro hC g4
    have HGOT := hid (got_start hC)
    have HP4 := hid (HP.out.grow g4)
    have HQ4 := hid (HQ.out.grow g4)
    have HM4 := hid (g4.cell HM3.out (by simp))
    have G4 := hid (gr_trans G3.out g4)
    have hbase := lt_of_block hC
    obtain ⟨base, hbs⟩ : ∃ x, x = w3.heap.size := ⟨_, rfl⟩
    rw [← hbs] at hbase HGOT ⊢
    have HBL := hid hbase
    have HBW := hid (show w.heap.size ≤ base by have := G3.out.size; omega)
    clear hC g4 hg4 hbase hbs HP HQ HM3 G3
    refine (feed_http p Ps.new w4 mx l _ HP4.out new_inv HM4.out hp0 (HV.out.grown G4.out) (by show 0 + l.length ≤ 100000; omega)).mono ?_
    rintro e w5 ⟨v3, rfl, hpa, hst, g5⟩
    obtain ⟨out, s3, hfd⟩ : ∃ out s3, feedL Ps.new l = (out, s3) := ⟨_, _, rfl⟩
    rw [hfd] at hpa hst
    dsimp only at hpa hst
    have HFD := hid hfd
    have HCNT := hid (show out.length ≤ 2 * (0 + l.length) + 2 by have := feedL_cnt Ps.new l; rw [hfd] at this; exact this)
    obtain ⟨a3, c3, rfl⟩ := hpa.shape
    have HWH := hid (show WhR w mx l (.slice a3 out.length c3) out s3 p q base w4.heap.size (.int .i64 0) (.slice (some ⟨base, 0, none⟩) 0 0) w5 from
      ⟨0, [], Ps.new, Nat.zero_le _, rfl, feedL_nil, HQ4.out.kept_ne g5 HP4.out (by have := HPQ.out; omega), HGOT.out.kept_ps g5 HP4.out, hst, hpa, fun k hk e => by have := (hpa.old k hk).1; have := HBL.out; simp [Value.ownBlock] at e; omega, gr_new G4.out g5 HPP.out, g5.cell HM4.out (by simpa using Ne.symm hp0)⟩)
    have HB3 := hid (show ∀ k, (Value.slice a3 out.length c3).ownBlock = some k → k < w5.heap.size from fun k hk => (hpa.old k hk).2)
    obtain ⟨base3, hb3⟩ : ∃ x, x = w4.heap.size := ⟨_, rfl⟩
    rw [← hb3] at HWH
    clear hfd hst hpa g5 HP4 HQ4 HM4 G4 HGOT hb3
    go_wp2_with fail
    go_loopw [28, 5] (fun v28 v5 wr => WhR w mx l (.slice a3 out.length c3) out s3 p q base base3 v28 v5 wr) (fun v28 _ _ => l.length - (intOf v28).toNat)
    case atStart => exact HWH.out
    case round =>
      clear HWH
      obtain ⟨k, pds, s', hk, rfl, hfk, hq, hgot, hp, hall, hne, gw, hmr⟩ := hrel
      have HFK := hid hfk
      have HQR := hid hq
      have HGR := hid hgot
      have HPR := hid hp
      have HAR := hid hall
      have HNE := hid hne
      have GW := hid gw
      have HMR := hid hmr
      obtain ⟨a5, c5, rfl⟩ := hgot.shape
      clear hfk hq hgot hp hall hne gw hmr
      by_cases hkl : k < l.length
      · obtain ⟨vb, vo, rfl, hone⟩ := (HV.out.grown GW.out).one hkl
        have HBY := hid (hone (c1 - k) (by omega) (by omega))
        have hfi := feedL_inv (s := Ps.new) (l := l.take k) new_inv (by show 0 + (l.take k).length ≤ 100000; rw [List.length_take]; omega)
        have hcn := feedL_cnt Ps.new (l.take k)
        rw [HFK.out] at hfi hcn
        dsimp only at hfi hcn
        have hcn2 : pds.length ≤ 2 * (0 + 3000) + 2 := Nat.le_trans hcn (by show 2 * (0 + (l.take k).length) + 2 ≤ _; rw [List.length_take]; omega)
        have hrl : s'.rest.length ≤ 3000 := Nat.le_trans hfi.2 (by show 0 + (l.take k).length ≤ _; rw [List.length_take]; omega)
        have HPI := hid hfi.1
        have HCP := hid hcn2
        have HRL := hid hrl
        clear hone hfi hcn hcn2 hrl
        go_wp2_with fail
        obtain ⟨x, hx⟩ : ∃ x, x = l.getD k 0 := ⟨_, rfl⟩
        have HX := hid hx
        rw [← hx] at HBY
        obtain ⟨o6, s6, hf6⟩ : ∃ o6 s6, feedL s' [x] = (o6, s6) := ⟨_, _, rfl⟩
        have HF6 := hid hf6
        clear hx hf6
        refine (feed_http q s' wr mx [x] _ HQR.out HPI.out HMR.out hq0 HBY.out (by have := HRL.out; simp; omega)).mono ?_
        rintro e w6 ⟨v6, rfl, hpa6, hst6, g6⟩
        rw [HF6.out] at hpa6 hst6
        dsimp only at hpa6 hst6
        have HG6 := hid (HGR.out.kept_ps g6 HQR.out)
        have HP6 := hid (HPR.out.kept_ne g6 HQR.out (by have := HPQ.out; omega))
        have HA6 := hid (HAR.out.kept_ps g6 HQR.out)
        have HPA6 := hid hpa6
        have HST6 := hid hst6
        have GW6 := hid (gr_new GW.out g6 HQQ.out)
        have HM6 := hid (g6.cell HMR.out (by simpa using Ne.symm hq0))
        have HFN := hid (show feedL Ps.new (l.take (k + 1)) = (pds ++ o6, s6) by
          have h := feedL_app (s := Ps.new) (a := l.take k) (b := [x]) new_inv (by show 0 + ((l.take k).length + 1) ≤ 100000; rw [List.length_take]; omega)
          rw [HFK.out] at h
          dsimp only at h
          rw [HF6.out] at h
          rw [take_snoc l hkl, ← HX.out]
          exact h)
        have hc6 := feedL_cnt s' [x]
        rw [HF6.out] at hc6
        dsimp only at hc6
        have HC6 := hid (show o6.length ≤ 100000 by have := HRL.out; simp only [List.length_singleton] at hc6; omega)
        obtain ⟨a6, c6, rfl⟩ := hpa6.shape
        clear hpa6 hst6 g6 hc6 HQR HGR HPR HAR GW HMR HPI HBY HRL
        go_wp2_with (at_builtin; refine wpl_appPd rfl _ _ rfl rfl rfl HG6.out HPA6.out ?c3 ?c4 ?_)
        case c3 => have h1 := HC6.out; have h2 := HCP.out; omega
        case c4 => exact HG6.out.base_le
        · intro v7 w7 hgot7 g7 hkey7
          have HN7 := hid (show ∀ k, (Value.slice a3 out.length c3).ownBlock = some k → v7.ownBlock ≠ some k from fun k hk e => by
            rcases hkey7 k e with h | h
            · exact HNE.out k hk h
            · have := (HA6.out.old k hk).2
              omega)
          have HW7 := hid (show WhR w mx l (.slice a3 out.length c3) out s3 p q base base3 (.int .i64 ((k : Int) + 1)) v7 w7 from
            ⟨k + 1, _, _, by omega, by simp, HFN.out, HST6.out.got HG6.out g7, hgot7, HP6.out.got HG6.out g7, HA6.out.got HG6.out g7 HNE.out, HN7.out, HG6.out.gr GW6.out HBW.out g7, GotAt.cell0 HM6.out HG6.out g7 (by have := HBW.out; have := HSZ.out; omega)⟩)
          obtain ⟨a7, c7, rfl⟩ := hgot7.shape
          clear hgot7 g7 hkey7 HN7 HFN HST6 HG6 HP6 HA6 HPA6 GW6 HM6
          go_wp2_with fail
          go_roundw
          case rel => exact HW7.out
          case measure => simp [intOf]; omega
      · obtain rfl : k = l.length := by omega
        have hE := HFK.out
        rw [List.take_length, HFD.out] at hE
        obtain ⟨rfl, rfl⟩ := Prod.mk.inj hE
        clear hE HFK
        obtain ⟨n, hn⟩ : ∃ n, n = out.length := ⟨_, rfl⟩
        rw [← hn] at HAR HGR ⊢
        have HNN := hid hn
        clear hn
        obtain ⟨z, hz⟩ : ∃ z, z = decide (s3.stage = 5) := ⟨_, rfl⟩
        obtain ⟨y, hy⟩ : ∃ y, y = idleB s3 := ⟨_, rfl⟩
        have hD1 := hid (hz ▸ dead2 p s3 wr HPR.out)
        have hD2 := hid (hz ▸ dead2 q s3 wr HQR.out)
        have hI1 := hid (hy ▸ idle2 p s3 wr HPR.out)
        have hI2 := hid (hy ▸ idle2 q s3 wr HQR.out)
        clear hz hy
        go_wp2_with fail
        refine hD1.out.mono ?_
        rintro e w6 ⟨rfl, rfl⟩
        go_wp2_with fail
        refine hD2.out.mono ?_
        rintro e w6 ⟨rfl, rfl⟩
        go_wp2_with fail
        refine hI1.out.mono ?_
        rintro e w6 ⟨rfl, rfl⟩
        go_wp2_with fail
        refine hI2.out.mono ?_
        rintro e w6 ⟨rfl, rfl⟩
        go_wp2_with fail
        go_loopw [62] (fun v62 w7 => ∃ i : Nat, i ≤ n ∧ v62 = .int .i64 (i : Int) ∧ wr.grownBy w7 none) (fun v62 _ => n - (intOf v62).toNat)
        case atStart => exact ⟨0, Nat.zero_le _, rfl, gr_refl _ _⟩
        case round =>
          obtain ⟨i, hi, rfl, g7⟩ := hrel
          have G7 := hid g7
          by_cases hin : i < n
          · obtain ⟨pd, hpd⟩ : ∃ pd, out[i]? = some pd := ⟨_, List.getElem?_eq_getElem (by rw [← HNN.out]; exact hin)⟩
            obtain ⟨ga, ca, fva, bva, ea, -, ⟨hca, hna⟩, hcella, hfa, hba⟩ := (HAR.out.grow g7).get hpd
            obtain ⟨gb, cb, fvb, bvb, eb, -, ⟨hcb, hnb⟩, hcellb, hfb, hbb⟩ := (HGR.out.grow g7).get hpd
            simp only [Value.slice.injEq] at ea eb
            obtain ⟨rfl, -, rfl⟩ := ea
            obtain ⟨rfl, -, rfl⟩ := eb
            obtain ⟨fa, fc, rfl⟩ := hfa.shape
            obtain ⟨ba, bc, rfl, -, -⟩ := hba.shape
            obtain ⟨fa2, fc2, rfl⟩ := hfb.shape
            obtain ⟨ba2, bc2, rfl, -, -⟩ := hbb.shape
            have a0 := hcella 0 _ rfl
            have a1' := hcella 1 _ rfl
            have a2 := hcella 2 _ rfl
            have a3 := hcella 3 _ rfl
            have a4 := hcella 4 _ rfl
            have a5 := hcella 5 _ rfl
            have a6 := hcella 6 _ rfl
            have b0 := hcellb 0 _ rfl
            have b1 := hcellb 1 _ rfl
            have b2 := hcellb 2 _ rfl
            have b3 := hcellb 3 _ rfl
            have b4 := hcellb 4 _ rfl
            have b5 := hcellb 5 _ rfl
            have b6 := hcellb 6 _ rfl
            rw [Nat.add_zero] at a0 b0
            have HSM := hid (fun W (g : (wr.grownBy W none)) => same_same pd fa ba fa2 ba2 fc bc fc2 bc2 W (hfa.grow g) (hba.grow g) (hfb.grow g) (hbb.grow g))
            have hnm : n ≤ 9223372036854775807 := by rw [HNN.out]; unfold maxLen at hna; omega
            have hin' : (i : Int) < (n : Int) := by omega
            clear g7 hcella hcellb hfa hba hfb hbb hpd hna hnb
            go_wp2_with fail
            go_still_tail 8, (by kernel_rfl)
            change wpList _ _ _ _ _ wr.drew
            have hs8 := HSM.out wr.drew (gr_drew (gr_refl wr none))
            have g8 := gr_drew (gr_refl wr none)
            revert hs8 g8
            generalize wr.drew = w8
            intro hs8 g8
            have HS8 := hid hs8
            have G8 := hid (gr_trans G7.out g8)
            clear hs8 g8 a0 a1' a2 a3 a4 a5 a6 b0 b1 b2 b3 b4 b5 b6
            go_wp2_with fail
            refine HS8.out.mono ?_
            rintro e w9 ⟨rfl, g9⟩
            go_wp2_with fail
            go_roundw
            case rel => exact ⟨i + 1, by omega, by first | go_num | (congr 1; omega), gr_trans G8.out g9⟩
            case measure => simp [intOf]; omega
          · clear g7
            go_wp2_with fail
            go_ret
            exact ⟨rfl, gr_trans GW.out G7.out⟩
end Go.Proofs.YtldbcdiomkkinaaDoor
