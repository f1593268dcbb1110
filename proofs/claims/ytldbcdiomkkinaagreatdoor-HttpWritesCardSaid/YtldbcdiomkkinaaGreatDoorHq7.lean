/- HttpWrites: the walk up to its last statement. -/
import Derived.Test.YtldbcdiomkkinaaGreatDoorHq6
import Derived.Test.YtldbcdiomkkinaaGreatDoorHty
import Derived.Test.YtldbcdiomkkinaaGreatDoorReg5
namespace Go.Proofs.YtldbcdiomkkinaaGreatDoor
open Go.RowKit

theorem i64_and1 (n : Int) : bits .and .i64 n 1 = n % 2 := by
  have h1 : (BitVec.ofInt 64 1).toNat = 2 ^ 1 - 1 := by decide
  have key : (BitVec.ofInt 64 n &&& BitVec.ofInt 64 1).toNat = (n % ((2 ^ 64 : Nat) : Int)).toNat % 2 ^ 1 := by
    rw [BitVec.toNat_and, BitVec.toNat_ofInt, h1, Nat.and_two_pow_sub_one_eq_mod]
  show IntKind.i64.wrap ((BitVec.ofInt 64 n &&& BitVec.ofInt 64 1).toNat : Nat) = _
  rw [key, IntKind.wrap_i64]
  omega
set_option maxRecDepth 20000 in
set_option maxHeartbeats 8000000 in
theorem writes_walk (n : Int) (fs : List (List UInt8 × List UInt8)) (fa : Option Addr) (fc : Nat) (l0 l1 l2 l3 : List UInt8) (v0 v1 v2 v3 : Value) (mx : Int) (w : World) (hp : PairsAt w fa fs.length (fsN fs) (fsV fs)) (hfc : fs.length ≤ fc)
    (hb0 : Bytes w v0 l0) (hb1 : Bytes w v1 l1) (hb2 : Bytes w v2 l2) (hb3 : Bytes w v3 l3) (hn3 : NilOr v3) (h01 : l0.length + l1.length ≤ 9223372036854775807) (hm : w.cell? ⟨0, 0, none⟩ = some (.int .i64 mx)) (h10 : P10 w) :
    Calls Tryz.prog 4 #[.int .i64 n, .slice fa fs.length fc, .agg #[v0, v1, v2, v3]] w fun e w' => e = .returned (.bool true) ∧ w.grownBy w' none := by
  obtain ⟨a0, c0, rfl, -, -, -⟩ := id hb0
  obtain ⟨a1, c1, rfl, -, -, -⟩ := id hb1
  obtain ⟨a2, c2, rfl, -, -, -⟩ := id hb2
  obtain ⟨a3, c3, rfl, hc3, hm3, -⟩ := id hb3
  have HP := hid hp
  have HB0 := hid hb0
  have HB1 := hid hb1
  have HB2 := hid hb2
  have HB3 := hid hb3
  have HN3 := hid hn3
  have HM := hid hm
  have HT := hid h10
  clear hp hb0 hb1 hb2 hb3 hn3 hm h10
  have HRS := hid (fun (h2 : fs.length ≤ 200) (h3 : ∀ f ∈ fs, f.1.length ≤ 1000 ∧ f.2.length ≤ 1000) (h4 : l2.length ≤ 100000) (kp : Bool) (W : World) (g : w.grownBy W none) => response_http n fs l2 kp fa fc (.slice a2 l2.length c2) W (HP.out.grown g) (HB2.out.grown g) h2 h3 h4 (HT.out.grown g))
  have HAS := hid (fun (h1 : l0.length + l1.length ≤ 3000) (h2 : fs.length ≤ 200) (h3 : ∀ f ∈ fs, f.1.length ≤ 1000 ∧ f.2.length ≤ 1000) (h4 : l2.length ≤ 100000) (W : World) (g : w.grownBy W none) => ask_http l0 l1 fs l2 fa fc (.slice a2 l2.length c2) W (HP.out.grown g) (HB2.out.grown g) h1 h2 h3 h4 (HT.out.grown g))
  have HSS := hid (fun (h4 : l3.length ≤ 1000000) (W : World) (g : w.grownBy W none) => status_http l3 (.slice a3 l3.length c3) W (HB3.out.grown g) HN3.out h4)
  have HRR := hid (fun (h2 : fs.length ≤ 200) (h3 : ∀ f ∈ fs, f.1.length ≤ 1000 ∧ f.2.length ≤ 1000) (h4 : l2.length ≤ 100000) (kp : Bool) (W : World) (g : w.grownBy W none) => rresponse n fs l2 kp fa fc (.slice a2 l2.length c2) W (HP.out.grown g) (HB2.out.grown g) h2 h3 h4)
  have HRA := hid (fun (h1 : l0.length + l1.length ≤ 3000) (h2 : fs.length ≤ 200) (h3 : ∀ f ∈ fs, f.1.length ≤ 1000 ∧ f.2.length ≤ 1000) (h4 : l2.length ≤ 100000) (W : World) (g : w.grownBy W none) => rask l0 l1 fs l2 fa fc (.slice a2 l2.length c2) W (HP.out.grown g) (HB2.out.grown g) h1 h2 h3 h4)
  have HC0 := hid (fun (W : World) (g : w.grownBy W none) => run_b2s (w := W) Tryz.underlying22 Tryz.underlying5 Tryz.underlying9 (HB0.out.grown g))
  have HC1 := hid (fun (W : World) (g : w.grownBy W none) => run_b2s (w := W) Tryz.underlying22 Tryz.underlying5 Tryz.underlying9 (HB1.out.grown g))
  have HC3 := hid (fun (W : World) (g : w.grownBy W none) => run_b2s (w := W) Tryz.underlying22 Tryz.underlying5 Tryz.underlying9 (HB3.out.grown g))
  unfold str at HC0 HC1 HC3
  have hN := heap_alloc_new w (.cells #[.slice a0 l0.length c0, .slice a1 l1.length c1, .slice a2 l2.length c2, .slice a3 l3.length c3] 31)
  have g1 := World.grownBy_alloc w (.cells #[.slice a0 l0.length c0, .slice a1 l1.length c1, .slice a2 l2.length c2, .slice a3 l3.length c3] 31) none
  obtain ⟨q, hq⟩ : ∃ q, q = w.heap.size := ⟨_, rfl⟩
  obtain ⟨n0, hn0⟩ : ∃ x, x = l0.length := ⟨_, rfl⟩
  obtain ⟨n1, hn1⟩ : ∃ x, x = l1.length := ⟨_, rfl⟩
  obtain ⟨n2, hn2⟩ : ∃ x, x = l2.length := ⟨_, rfl⟩
  obtain ⟨n3, hn3⟩ : ∃ x, x = l3.length := ⟨_, rfl⟩
  obtain ⟨nf, hnf⟩ : ∃ x, x = fs.length := ⟨_, rfl⟩
  have HL0 := hid hn0
  have HL1 := hid hn1
  have HL2 := hid hn2
  have HL3 := hid hn3
  have HLF := hid hnf
  rw [← hn0, ← hn1, ← hnf, ← hn2] at HAS HRA
  rw [← hnf, ← hn2] at HRS HRR
  rw [← hn3] at HSS HC3
  rw [← hn0] at HC0
  rw [← hn1] at HC1
  rw [← hn0] at HB0
  rw [← hn1] at HB1
  rw [← hn2] at HB2
  rw [← hn3] at HB3 HN3
  rw [← hnf] at HP hfc
  rw [← hn0, ← hn1, ← hn2, ← hn3] at hN g1
  rw [← hn0, ← hn1] at h01
  rw [← hn0, ← hn1, ← hn2, ← hn3, ← hnf]
  clear hn0 hn1 hn2 hn3 hnf hc3 hm3
  by_cases k1 : 100 < nf
  · have k1' : decide ((100 : Int) < (nf : Int)) = true := by simp; omega
    go_enter Tryz.func4, Tryz.ntmps4
    go_wp2_with fail
    rw [← hq]
    rw [← hq] at hN
    revert hN g1
    generalize w.alloc _ = w1
    intro g1 hN
    refine (speaks_http w1 mx (g1.cell HM.out (by simp))).mono ?_
    rintro e w2 ⟨rfl, g2⟩
    have hN2 := gr_keep g2 hN (by simp)
    have HG2 := hid (gr_trans g1 g2)
    have d0 := (cell_of_block hN2 0).trans (show _ = some (Value.slice a0 n0 c0) from rfl)
    have d1 := (cell_of_block hN2 1).trans (show _ = some (Value.slice a1 n1 c1) from rfl)
    have d2 := (cell_of_block hN2 2).trans (show _ = some (Value.slice a2 n2 c2) from rfl)
    have d3 := (cell_of_block hN2 3).trans (show _ = some (Value.slice a3 n3 c3) from rfl)
    clear hN hN2 g1 g2 hq
    go_wp2_with fail
    go_ret
    exact ⟨rfl, HG2.out⟩
  · have k1' : decide ((100 : Int) < (nf : Int)) = false := by simp; omega
    by_cases k2 : 3000 < n0 + n1
    · have k2' : decide ((3000 : Int) < (n0 : Int) + (n1 : Int)) = true := by simp; omega
      go_enter Tryz.func4, Tryz.ntmps4
      go_wp2_with fail
      rw [← hq]
      rw [← hq] at hN
      revert hN g1
      generalize w.alloc _ = w1
      intro g1 hN
      refine (speaks_http w1 mx (g1.cell HM.out (by simp))).mono ?_
      rintro e w2 ⟨rfl, g2⟩
      have hN2 := gr_keep g2 hN (by simp)
      have HG2 := hid (gr_trans g1 g2)
      have d0 := (cell_of_block hN2 0).trans (show _ = some (Value.slice a0 n0 c0) from rfl)
      have d1 := (cell_of_block hN2 1).trans (show _ = some (Value.slice a1 n1 c1) from rfl)
      have d2 := (cell_of_block hN2 2).trans (show _ = some (Value.slice a2 n2 c2) from rfl)
      have d3 := (cell_of_block hN2 3).trans (show _ = some (Value.slice a3 n3 c3) from rfl)
      clear hN hN2 g1 g2 hq
      go_wp2_with fail
      go_ret
      exact ⟨rfl, HG2.out⟩
    · have k2' : decide ((3000 : Int) < (n0 : Int) + (n1 : Int)) = false := by simp; omega
      by_cases k3 : 60000 < n2
      · have k3' : decide ((60000 : Int) < (n2 : Int)) = true := by simp; omega
        go_enter Tryz.func4, Tryz.ntmps4
        go_wp2_with fail
        rw [← hq]
        rw [← hq] at hN
        revert hN g1
        generalize w.alloc _ = w1
        intro g1 hN
        refine (speaks_http w1 mx (g1.cell HM.out (by simp))).mono ?_
        rintro e w2 ⟨rfl, g2⟩
        have hN2 := gr_keep g2 hN (by simp)
        have HG2 := hid (gr_trans g1 g2)
        have d0 := (cell_of_block hN2 0).trans (show _ = some (Value.slice a0 n0 c0) from rfl)
        have d1 := (cell_of_block hN2 1).trans (show _ = some (Value.slice a1 n1 c1) from rfl)
        have d2 := (cell_of_block hN2 2).trans (show _ = some (Value.slice a2 n2 c2) from rfl)
        have d3 := (cell_of_block hN2 3).trans (show _ = some (Value.slice a3 n3 c3) from rfl)
        clear hN hN2 g1 g2 hq
        go_wp2_with fail
        go_ret
        exact ⟨rfl, HG2.out⟩
      · have k3' : decide ((60000 : Int) < (n2 : Int)) = false := by simp; omega
        by_cases k4 : 3000 < n3
        · have k4' : decide ((3000 : Int) < (n3 : Int)) = true := by simp; omega
          go_enter Tryz.func4, Tryz.ntmps4
          go_wp2_with fail
          rw [← hq]
          rw [← hq] at hN
          revert hN g1
          generalize w.alloc _ = w1
          intro g1 hN
          refine (speaks_http w1 mx (g1.cell HM.out (by simp))).mono ?_
          rintro e w2 ⟨rfl, g2⟩
          have hN2 := gr_keep g2 hN (by simp)
          have HG2 := hid (gr_trans g1 g2)
          have d0 := (cell_of_block hN2 0).trans (show _ = some (Value.slice a0 n0 c0) from rfl)
          have d1 := (cell_of_block hN2 1).trans (show _ = some (Value.slice a1 n1 c1) from rfl)
          have d2 := (cell_of_block hN2 2).trans (show _ = some (Value.slice a2 n2 c2) from rfl)
          have d3 := (cell_of_block hN2 3).trans (show _ = some (Value.slice a3 n3 c3) from rfl)
          clear hN hN2 g1 g2 hq
          go_wp2_with fail
          go_ret
          exact ⟨rfl, HG2.out⟩
        · have k4' : decide ((3000 : Int) < (n3 : Int)) = false := by simp; omega
          go_enter Tryz.func4, Tryz.ntmps4
          go_wp2_with fail
          rw [← hq]
          rw [← hq] at hN
          revert hN g1
          generalize w.alloc _ = w1
          intro g1 hN
          have HNN := hid hN
          have HG1 := hid g1
          clear hN g1 hq
          refine (speaks_http w1 mx (HG1.out.cell HM.out (by simp))).mono ?_
          rintro e w2 ⟨rfl, g2⟩
          have hN2 := gr_keep g2 HNN.out (by simp)
          have HG2 := hid (gr_trans HG1.out g2)
          have HNN2 := hid hN2
          have d0 := (cell_of_block hN2 0).trans (show _ = some (Value.slice a0 n0 c0) from rfl)
          have d1 := (cell_of_block hN2 1).trans (show _ = some (Value.slice a1 n1 c1) from rfl)
          have d2 := (cell_of_block hN2 2).trans (show _ = some (Value.slice a2 n2 c2) from rfl)
          have d3 := (cell_of_block hN2 3).trans (show _ = some (Value.slice a3 n3 c3) from rfl)
          clear hN2 g2 HNN
          go_wp2_with fail
          go_loopw [44] (fun v44 wr => ∃ j : Nat, j ≤ nf ∧ v44 = .int .i64 (j : Int) ∧ w2.grownBy wr none ∧ Hid (∀ i, i < j → (fsN fs i).size ≤ 300 ∧ (fsV fs i).size ≤ 300)) (fun v44 _ => nf - (intOf v44).toNat)
          case atStart => exact ⟨0, Nat.zero_le _, rfl, gr_refl _ _, fun i hi => by omega⟩
          case round =>
            obtain ⟨j, hj, rfl, gr, hsm⟩ := hrel
            have GR := hid gr
            by_cases hjn : j < nf
            · obtain ⟨b, o, rfl, hpc⟩ : ∃ b o, fa = some ⟨b, o, none⟩ ∧ ∀ i, i < nf → PairAt w b (o + i * 2) (fsN fs i) (fsV fs i) := by
                rcases HP.out with h | h
                · omega
                · exact h
              obtain ⟨e0, e1⟩ := (hpc j hjn).grown (gr_trans HG2.out gr)
              clear hpc
              obtain ⟨s1, hs1⟩ : ∃ s, s = fsN fs j := ⟨_, rfl⟩
              obtain ⟨s2, hs2⟩ : ∃ s, s = fsV fs j := ⟨_, rfl⟩
              rw [← hs1] at e0
              rw [← hs2] at e1
              by_cases z1 : 300 < s1.size
              · have z1' : decide ((300 : Int) < (s1.size : Int)) = true := by simp; omega
                clear hs1 hs2 hsm gr
                go_wp2_with fail
                go_ret
                exact ⟨rfl, gr_alloc (gr_trans HG2.out GR.out) _⟩
              · have z1' : decide ((300 : Int) < (s1.size : Int)) = false := by simp; omega
                by_cases z2 : 300 < s2.size
                · have z2' : decide ((300 : Int) < (s2.size : Int)) = true := by simp; omega
                  clear hs1 hs2 hsm gr
                  go_wp2_with fail
                  go_ret
                  exact ⟨rfl, gr_alloc (gr_trans HG2.out GR.out) _⟩
                · have z2' : decide ((300 : Int) < (s2.size : Int)) = false := by simp; omega
                  have HSM := hid (show ∀ i, i < j + 1 → (fsN fs i).size ≤ 300 ∧ (fsV fs i).size ≤ 300 from fun i hi => by
                    by_cases hij : i < j
                    · exact hsm.out i hij
                    · obtain rfl : i = j := by omega
                      rw [← hs1, ← hs2]; omega)
                  clear hs1 hs2 hsm gr
                  go_wp2_with fail
                  go_roundw
                  case rel => exact ⟨j + 1, by omega, by first | go_num | (congr 1; omega), gr_alloc GR.out _, HSM⟩
                  case measure => first | (simp [intOf]; done) | (simp [intOf]; omega)
            · obtain rfl : j = nf := by omega
              have H3 := hid (show ∀ f ∈ fs, f.1.length ≤ 1000 ∧ f.2.length ≤ 1000 from fun f hf => by
                obtain ⟨i, hi, rfl⟩ := List.mem_iff_getElem.1 hf
                have h := hsm.out i (by rw [HLF.out]; exact hi)
                unfold fsN fsV at h
                rw [Lib.size_eq, Lib.size_eq, List.getD_eq_getElem?_getD, List.getElem?_eq_getElem hi] at h
                simp at h
                omega)
              have HNR := hid (gr_keep gr HNN2.out (by simp))
              have HGR := hid (gr_trans HG2.out gr)
              replace d0 := gr.cell d0 (by simp)
              replace d1 := gr.cell d1 (by simp)
              replace d2 := gr.cell d2 (by simp)
              replace d3 := gr.cell d3 (by simp)
              have hand := i64_and1 n
              obtain ⟨ev, hev⟩ : ∃ e, e = n % 2 := ⟨_, rfl⟩
              rw [← hev] at hand
              clear hev hsm gr GR HNN2 HG2
              go_wp2_with fail
              refine (HRS.out (by omega) H3.out (by omega) (ev == 0) wr HGR.out).mono ?_
              rintro e w4 ⟨v9, rfl, hbo9, g4⟩
              have HBO9 := hid hbo9
              have HG4 := hid (gr_trans HGR.out g4)
              have HN4 := hid (gr_keep g4 HNR.out (by simp))
              replace d0 := g4.cell d0 (by simp)
              replace d1 := g4.cell d1 (by simp)
              replace d2 := g4.cell d2 (by simp)
              replace d3 := g4.cell d3 (by simp)
              clear hbo9 g4 HNR HGR
              go_wp2_with fail
              rw [HC0.out w4 HG4.out]
              go_simp
              go_wp2_with fail
              rw [HC1.out w4 HG4.out]
              go_simp
              go_wp2_with fail
              refine (HAS.out (by omega) (by omega) H3.out (by omega) w4 HG4.out).mono ?_
              rintro e w5 ⟨v10, rfl, hbo10, g5⟩
              have HBO10 := hid hbo10
              have HBO9b := hid (HBO9.out.grow g5)
              have HG5 := hid (gr_trans HG4.out g5)
              have HN5 := hid (gr_keep g5 HN4.out (by simp))
              replace d0 := g5.cell d0 (by simp)
              replace d1 := g5.cell d1 (by simp)
              replace d2 := g5.cell d2 (by simp)
              replace d3 := g5.cell d3 (by simp)
              clear hbo10 g5 HN4 HG4 HBO9
              go_wp2_with fail
              refine (HSS.out (by omega) w5 HG5.out).mono ?_
              rintro e w6 ⟨rfl, g6⟩
              have HBO10b := hid (HBO10.out.grow g6)
              have HBO9c := hid (HBO9b.out.grow g6)
              have HG6 := hid (gr_trans HG5.out g6)
              have HN6 := hid (gr_keep g6 HN5.out (by simp))
              replace d0 := g6.cell d0 (by simp)
              replace d1 := g6.cell d1 (by simp)
              replace d2 := g6.cell d2 (by simp)
              replace d3 := g6.cell d3 (by simp)
              clear g6 HN5 HG5 HBO9b HBO10
              obtain ⟨st1, hs1⟩ : ∃ s, s = (statL l3).1 := ⟨_, rfl⟩
              obtain ⟨st2, hs2⟩ : ∃ s, s = (statL l3).2 := ⟨_, rfl⟩
              have HRT := hid (fun (W : World) => rstatus l3 W (by rw [← HL3.out]; omega))
              rw [← hs1, ← hs2] at HRT ⊢
              clear hs1 hs2
              go_wp2_with fail
              rw [HC3.out w6 HG6.out]
              go_simp
              go_wp2_with fail
              refine (HRT.out w6).mono ?_
              rintro e w7 ⟨rfl, g7⟩
              have HBO10 := hid (HBO10b.out.grow g7)
              have HBO9 := hid (HBO9c.out.grow g7)
              have HG7 := hid (gr_trans HG6.out g7)
              have HN7 := hid (gr_keep g7 HN6.out (by simp))
              have hN7 := HN7.out
              have d0 := (cell_of_block hN7 0).trans (show _ = some (Value.slice a0 n0 c0) from rfl)
              have d1 := (cell_of_block hN7 1).trans (show _ = some (Value.slice a1 n1 c1) from rfl)
              have d2 := (cell_of_block hN7 2).trans (show _ = some (Value.slice a2 n2 c2) from rfl)
              obtain ⟨A9, hA9⟩ : ∃ A, A = (respL n fs l2 (ev == 0)).toArray := ⟨_, rfl⟩
              obtain ⟨A10, hA10⟩ : ∃ A, A = (askL l0 l1 fs l2).toArray := ⟨_, rfl⟩
              obtain ⟨AR, hAR⟩ : ∃ A, A = (reasonL n).toArray := ⟨_, rfl⟩
              have H91 : Hid (∀ W, w7.grownBy W none → (convert 22 9 v9).run Tryz.prog W = .ok (.string ⟨A9⟩) W) := hid (fun W g => hA9 ▸ run_b2s (w := W) Tryz.underlying22 Tryz.underlying5 Tryz.underlying9 (HBO9.out.grow g).bytes)
              have H103 : Hid (∀ W, w7.grownBy W none → (convert 22 9 v10).run Tryz.prog W = .ok (.string ⟨A10⟩) W) := hid (fun W g => hA10 ▸ run_b2s (w := W) Tryz.underlying22 Tryz.underlying5 Tryz.underlying9 (HBO10.out.grow g).bytes)
              have HC0b := hid (fun W (g : w7.grownBy W none) => HC0.out W (gr_trans HG7.out g))
              have HC1b := hid (fun W (g : w7.grownBy W none) => HC1.out W (gr_trans HG7.out g))
              have HRRb := hid (fun W (g : w7.grownBy W none) => hA9 ▸ HRR.out (by omega) H3.out (by omega) (ev == 0) W (gr_trans HG7.out g))
              have HRAb := hid (fun W (g : w7.grownBy W none) => hA10 ▸ HRA.out (by omega) (by omega) H3.out (by omega) W (gr_trans HG7.out g))
              have HREb := hid (fun W (_ : w7.grownBy W none) => hAR ▸ reason_http n W)
              have HRFb := hid (fun W (_ : w7.grownBy W none) => hAR ▸ rreason n W)
              clear g7 HN6 HG6 HBO9c HBO10b hN7 hA9 hA10 hAR HRS HAS HSS HRR HRA HC0 HC1 HC3 HRT HBO9 HBO10
              go_upto_region 15 with fail
              refine wp_region_spec5 (by kernel_rfl) (by kernel_rfl) (n := 44) (by kernel_rfl) [some 90, some 91, some 92, some 93, some 94, some 95, some 96, some 97, some 98, some 99, some 100, some 101, some 102, some 103, some 104, some 105, some 106, some 107, some 108, some 109, some 110, some 111, some 112, some 113, some 114, some 115, some 116, some 117, some 118, some 119, some 120, some 121, some 122, some 123, some 124, some 125, some 126, some 127, some 128, some 129, some 130, some 131, some 132, some 6] (by kernel_rfl) _ (fun u => (by simp only [fill, List.zipIdx_cons, List.zipIdx_nil, List.foldl_cons, List.foldl_nil, Act.put, List.setIfInBounds_toArray, List.set_cons_zero, List.set_cons_succ, Nat.zero_add, Nat.reduceAdd]; exact rfl)) (by kernel_rfl) (by kernel_rfl) (by kernel_rfl)
                (fun ri v w => match ri with | 0 => v = v9 | 1 => v = .string ⟨A9⟩ | 2 => v = .int .i64 n | 3 => v = .slice fa j fc | 4 => v = .pointer (some ⟨q, 2, none⟩) | 5 => v = .slice a2 n2 c2 | 6 => v = .int .i64 n | 7 => v = .int .i64 ev | 8 => v = .bool (ev == 0) | 9 => v = .string ⟨A9⟩ | 10 => v = .bool true | 11 => v = .bool true | 12 => v = v10 | 13 => v = .string ⟨A10⟩ | 14 => v = .pointer (some ⟨q, 0, none⟩) | 15 => v = .slice a0 n0 c0 | 16 => v = .string ⟨l0.toArray⟩ | 17 => v = .pointer (some ⟨q, 1, none⟩) | 18 => v = .slice a1 n1 c1 | 19 => v = .string ⟨l1.toArray⟩ | 20 => v = .slice fa j fc | 21 => v = .pointer (some ⟨q, 2, none⟩) | 22 => v = .slice a2 n2 c2 | 23 => v = .string ⟨A10⟩ | 24 => v = .bool true | 25 => v = .bool true | 26 => v = .bool true | 27 => v = .int .i64 st1 | 28 => v = .int .i64 st1 | 29 => v = .bool true | 30 => v = .bool true | 31 => v = .bool true | 32 => v = .bool st2 | 33 => v = .bool st2 | 34 => v = .bool true | 35 => v = .bool true | 36 => v = .bool true | 37 => v = .int .i64 n | 38 => v = .string ⟨AR⟩ | 39 => v = .int .i64 n | 40 => v = .string ⟨AR⟩ | 41 => v = .bool true | 42 => v = .bool true | 43 => v = .bool true | _ => True)
                (all_succ (all_succ (all_succ (all_succ (all_succ (all_succ (all_succ (all_succ (all_succ (all_succ (all_succ (all_succ (all_succ (all_succ (all_succ (all_succ (all_succ (all_succ (all_succ (all_succ (all_succ (all_succ (all_succ (all_succ (all_succ (all_succ (all_succ (all_succ (all_succ (all_succ (all_succ (all_succ (all_succ (all_succ (all_succ (all_succ (all_succ (all_succ (all_succ (all_succ (all_succ (all_succ (all_succ (all_succ (all_zero _) ?m0) ?m1) ?m2) ?m3) ?m4) ?m5) ?m6) ?m7) ?m8) ?m9) ?m10) ?m11) ?m12) ?m13) ?m14) ?m15) ?m16) ?m17) ?m18) ?m19) ?m20) ?m21) ?m22) ?m23) ?m24) ?m25) ?m26) ?m27) ?m28) ?m29) ?m30) ?m31) ?m32) ?m33) ?m34) ?m35) ?m36) ?m37) ?m38) ?m39) ?m40) ?m41) ?m42) ?m43)
                [[], [0], [], [], [], [4], [], [6], [7], [2, 3, 5, 8], [1, 9], [10], [11], [12, 11], [11], [14, 11], [15, 11], [11], [17, 11], [18, 11], [11], [11], [21, 11], [16, 19, 20, 22, 11], [13, 23, 11], [11, 24], [25], [26], [26], [27, 28, 26], [26, 29], [30], [31], [31], [32, 33, 31], [31, 34], [35], [36], [37, 36], [36], [39, 36], [38, 40, 36], [36, 41], [42]] (by kernel_rfl)
                ⟨?o0, ?o1, ?o2, ?o3, ?o4, ?o5, ?o6, ?o7, ?o8, ?o9, ?o10, ?o11, ?o12, ?o13, ?o14, ?o15, ?o16, ?o17, ?o18, ?o19, ?o20, ?o21, ?o22, ?o23, ?o24, ?o25, ?o26, ?o27, ?o28, ?o29, ?o30, ?o31, ?o32, ?o33, ?o34, ?o35, ?o36, ?o37, ?o38, ?o39, ?o40, ?o41, ?o42, ?o43, trivial⟩ ?done
              case m0 => intro v w w' h g; exact h
              case m1 => intro v w w' h g; exact h
              case m2 => intro v w w' h g; exact h
              case m3 => intro v w w' h g; exact h
              case m4 => intro v w w' h g; exact h
              case m5 => intro v w w' h g; exact h
              case m6 => intro v w w' h g; exact h
              case m7 => intro v w w' h g; exact h
              case m8 => intro v w w' h g; exact h
              case m9 => intro v w w' h g; exact h
              case m10 => intro v w w' h g; exact h
              case m11 => intro v w w' h g; exact h
              case m12 => intro v w w' h g; exact h
              case m13 => intro v w w' h g; exact h
              case m14 => intro v w w' h g; exact h
              case m15 => intro v w w' h g; exact h
              case m16 => intro v w w' h g; exact h
              case m17 => intro v w w' h g; exact h
              case m18 => intro v w w' h g; exact h
              case m19 => intro v w w' h g; exact h
              case m20 => intro v w w' h g; exact h
              case m21 => intro v w w' h g; exact h
              case m22 => intro v w w' h g; exact h
              case m23 => intro v w w' h g; exact h
              case m24 => intro v w w' h g; exact h
              case m25 => intro v w w' h g; exact h
              case m26 => intro v w w' h g; exact h
              case m27 => intro v w w' h g; exact h
              case m28 => intro v w w' h g; exact h
              case m29 => intro v w w' h g; exact h
              case m30 => intro v w w' h g; exact h
              case m31 => intro v w w' h g; exact h
              case m32 => intro v w w' h g; exact h
              case m33 => intro v w w' h g; exact h
              case m34 => intro v w w' h g; exact h
              case m35 => intro v w w' h g; exact h
              case m36 => intro v w w' h g; exact h
              case m37 => intro v w w' h g; exact h
              case m38 => intro v w w' h g; exact h
              case m39 => intro v w w' h g; exact h
              case m40 => intro v w w' h g; exact h
              case m41 => intro v w w' h g; exact h
              case m42 => intro v w w' h g; exact h
              case m43 => intro v w w' h g; exact h
              case o0 =>
                intro u w g hd K hK
                clear hd
                simp only [Act.put, List.setIfInBounds_toArray, List.set_cons_zero, List.set_cons_succ] at hK
                go_simp
                exact hK _ _ rfl (gr_refl _ _)
              case o1 =>
                intro u w g hd K hK
                have h0 : (u 0) = v9 := hd 0 (by simp)
                clear hd
                simp only [Act.put, List.setIfInBounds_toArray, List.set_cons_zero, List.set_cons_succ] at hK
                simp only [h0] at hK ⊢
                go_simp
                rw [H91.out w g]
                go_simp
                exact hK _ _ rfl (gr_refl _ _)
              case o2 =>
                intro u w g hd K hK
                clear hd
                simp only [Act.put, List.setIfInBounds_toArray, List.set_cons_zero, List.set_cons_succ] at hK
                go_simp
                exact hK _ _ rfl (gr_refl _ _)
              case o3 =>
                intro u w g hd K hK
                clear hd
                simp only [Act.put, List.setIfInBounds_toArray, List.set_cons_zero, List.set_cons_succ] at hK
                go_simp
                exact hK _ _ rfl (gr_refl _ _)
              case o4 =>
                intro u w g hd K hK
                clear hd
                simp only [Act.put, List.setIfInBounds_toArray, List.set_cons_zero, List.set_cons_succ] at hK
                go_simp
                exact hK _ _ rfl (gr_refl _ _)
              case o5 =>
                intro u w g hd K hK
                have h4 : (u 4) = .pointer (some ⟨q, 2, none⟩) := hd 4 (by simp)
                clear hd
                simp only [Act.put, List.setIfInBounds_toArray, List.set_cons_zero, List.set_cons_succ] at hK
                have c' := g.cell d2 (by simp)
                simp only [h4] at hK ⊢
                go_simp
                exact hK _ _ rfl (gr_refl _ _)
              case o6 =>
                intro u w g hd K hK
                clear hd
                simp only [Act.put, List.setIfInBounds_toArray, List.set_cons_zero, List.set_cons_succ] at hK
                go_simp
                exact hK _ _ rfl (gr_refl _ _)
              case o7 =>
                intro u w g hd K hK
                have h6 : (u 6) = .int .i64 n := hd 6 (by simp)
                clear hd
                simp only [Act.put, List.setIfInBounds_toArray, List.set_cons_zero, List.set_cons_succ] at hK
                simp only [h6] at hK ⊢
                go_simp
                exact hK _ _ rfl (gr_refl _ _)
              case o8 =>
                intro u w g hd K hK
                have h7 : (u 7) = .int .i64 ev := hd 7 (by simp)
                clear hd
                simp only [Act.put, List.setIfInBounds_toArray, List.set_cons_zero, List.set_cons_succ] at hK
                simp only [h7] at hK ⊢
                go_simp
                exact hK _ _ rfl (gr_refl _ _)
              case o9 =>
                intro u w g hd K hK
                have h2 : (u 2) = .int .i64 n := hd 2 (by simp)
                have h3 : (u 3) = .slice fa j fc := hd 3 (by simp)
                have h5 : (u 5) = .slice a2 n2 c2 := hd 5 (by simp)
                have h8 : (u 8) = .bool (ev == 0) := hd 8 (by simp)
                clear hd
                simp only [Act.put, List.setIfInBounds_toArray, List.set_cons_zero, List.set_cons_succ] at hK
                simp only [h2, h3, h5, h8] at hK ⊢
                go_simp
                refine (HRRb.out w g).mono ?_
                rintro e w' ⟨rfl, g'⟩
                exact hK _ w' rfl g'
              case o10 =>
                intro u w g hd K hK
                have h1 : (u 1) = .string ⟨A9⟩ := hd 1 (by simp)
                have h9 : (u 9) = .string ⟨A9⟩ := hd 9 (by simp)
                clear hd
                simp only [Act.put, List.setIfInBounds_toArray, List.set_cons_zero, List.set_cons_succ] at hK
                simp only [h1, h9] at hK ⊢
                go_simp
                exact hK _ _ rfl (gr_refl _ _)
              case o11 =>
                intro u w g hd K hK
                have h10 : (u 10) = .bool true := hd 10 (by simp)
                clear hd
                simp only [Act.put, List.setIfInBounds_toArray, List.set_cons_zero, List.set_cons_succ] at hK
                simp only [h10] at hK ⊢
                go_simp
                exact hK _ _ rfl (gr_refl _ _)
              case o12 =>
                intro u w g hd K hK
                have h11 : (u 11) = .bool true := hd 11 (by simp)
                clear hd
                simp only [Act.put, List.setIfInBounds_toArray, List.set_cons_zero, List.set_cons_succ] at hK
                simp only [h11] at hK ⊢
                go_simp
                exact hK _ _ rfl (gr_refl _ _)
              case o13 =>
                intro u w g hd K hK
                have h12 : (u 12) = v10 := hd 12 (by simp)
                have h11 : (u 11) = .bool true := hd 11 (by simp)
                clear hd
                simp only [Act.put, List.setIfInBounds_toArray, List.set_cons_zero, List.set_cons_succ] at hK
                simp only [h12, h11] at hK ⊢
                go_simp
                rw [H103.out w g]
                go_simp
                exact hK _ _ rfl (gr_refl _ _)
              case o14 =>
                intro u w g hd K hK
                have h11 : (u 11) = .bool true := hd 11 (by simp)
                clear hd
                simp only [Act.put, List.setIfInBounds_toArray, List.set_cons_zero, List.set_cons_succ] at hK
                simp only [h11] at hK ⊢
                go_simp
                exact hK _ _ rfl (gr_refl _ _)
              case o15 =>
                intro u w g hd K hK
                have h14 : (u 14) = .pointer (some ⟨q, 0, none⟩) := hd 14 (by simp)
                have h11 : (u 11) = .bool true := hd 11 (by simp)
                clear hd
                simp only [Act.put, List.setIfInBounds_toArray, List.set_cons_zero, List.set_cons_succ] at hK
                have c' := g.cell d0 (by simp)
                simp only [h14, h11] at hK ⊢
                go_simp
                exact hK _ _ rfl (gr_refl _ _)
              case o16 =>
                intro u w g hd K hK
                have h15 : (u 15) = .slice a0 n0 c0 := hd 15 (by simp)
                have h11 : (u 11) = .bool true := hd 11 (by simp)
                clear hd
                simp only [Act.put, List.setIfInBounds_toArray, List.set_cons_zero, List.set_cons_succ] at hK
                simp only [h15, h11] at hK ⊢
                go_simp
                rw [HC0b.out w g]
                go_simp
                exact hK _ _ rfl (gr_refl _ _)
              case o17 =>
                intro u w g hd K hK
                have h11 : (u 11) = .bool true := hd 11 (by simp)
                clear hd
                simp only [Act.put, List.setIfInBounds_toArray, List.set_cons_zero, List.set_cons_succ] at hK
                simp only [h11] at hK ⊢
                go_simp
                exact hK _ _ rfl (gr_refl _ _)
              case o18 =>
                intro u w g hd K hK
                have h17 : (u 17) = .pointer (some ⟨q, 1, none⟩) := hd 17 (by simp)
                have h11 : (u 11) = .bool true := hd 11 (by simp)
                clear hd
                simp only [Act.put, List.setIfInBounds_toArray, List.set_cons_zero, List.set_cons_succ] at hK
                have c' := g.cell d1 (by simp)
                simp only [h17, h11] at hK ⊢
                go_simp
                exact hK _ _ rfl (gr_refl _ _)
              case o19 =>
                intro u w g hd K hK
                have h18 : (u 18) = .slice a1 n1 c1 := hd 18 (by simp)
                have h11 : (u 11) = .bool true := hd 11 (by simp)
                clear hd
                simp only [Act.put, List.setIfInBounds_toArray, List.set_cons_zero, List.set_cons_succ] at hK
                simp only [h18, h11] at hK ⊢
                go_simp
                rw [HC1b.out w g]
                go_simp
                exact hK _ _ rfl (gr_refl _ _)
              case o20 =>
                intro u w g hd K hK
                have h11 : (u 11) = .bool true := hd 11 (by simp)
                clear hd
                simp only [Act.put, List.setIfInBounds_toArray, List.set_cons_zero, List.set_cons_succ] at hK
                simp only [h11] at hK ⊢
                go_simp
                exact hK _ _ rfl (gr_refl _ _)
              case o21 =>
                intro u w g hd K hK
                have h11 : (u 11) = .bool true := hd 11 (by simp)
                clear hd
                simp only [Act.put, List.setIfInBounds_toArray, List.set_cons_zero, List.set_cons_succ] at hK
                simp only [h11] at hK ⊢
                go_simp
                exact hK _ _ rfl (gr_refl _ _)
              case o22 =>
                intro u w g hd K hK
                have h21 : (u 21) = .pointer (some ⟨q, 2, none⟩) := hd 21 (by simp)
                have h11 : (u 11) = .bool true := hd 11 (by simp)
                clear hd
                simp only [Act.put, List.setIfInBounds_toArray, List.set_cons_zero, List.set_cons_succ] at hK
                have c' := g.cell d2 (by simp)
                simp only [h21, h11] at hK ⊢
                go_simp
                exact hK _ _ rfl (gr_refl _ _)
              case o23 =>
                intro u w g hd K hK
                have h16 : (u 16) = .string ⟨l0.toArray⟩ := hd 16 (by simp)
                have h19 : (u 19) = .string ⟨l1.toArray⟩ := hd 19 (by simp)
                have h20 : (u 20) = .slice fa j fc := hd 20 (by simp)
                have h22 : (u 22) = .slice a2 n2 c2 := hd 22 (by simp)
                have h11 : (u 11) = .bool true := hd 11 (by simp)
                clear hd
                simp only [Act.put, List.setIfInBounds_toArray, List.set_cons_zero, List.set_cons_succ] at hK
                simp only [h16, h19, h20, h22, h11] at hK ⊢
                go_simp
                refine (HRAb.out w g).mono ?_
                rintro e w' ⟨rfl, g'⟩
                exact hK _ w' rfl g'
              case o24 =>
                intro u w g hd K hK
                have h13 : (u 13) = .string ⟨A10⟩ := hd 13 (by simp)
                have h23 : (u 23) = .string ⟨A10⟩ := hd 23 (by simp)
                have h11 : (u 11) = .bool true := hd 11 (by simp)
                clear hd
                simp only [Act.put, List.setIfInBounds_toArray, List.set_cons_zero, List.set_cons_succ] at hK
                simp only [h13, h23, h11] at hK ⊢
                go_simp
                exact hK _ _ rfl (gr_refl _ _)
              case o25 =>
                intro u w g hd K hK
                have h11 : (u 11) = .bool true := hd 11 (by simp)
                have h24 : (u 24) = .bool true := hd 24 (by simp)
                clear hd
                simp only [Act.put, List.setIfInBounds_toArray, List.set_cons_zero, List.set_cons_succ] at hK
                simp only [h11, h24] at hK ⊢
                go_simp
                exact hK _ _ rfl (gr_refl _ _)
              case o26 =>
                intro u w g hd K hK
                have h25 : (u 25) = .bool true := hd 25 (by simp)
                clear hd
                simp only [Act.put, List.setIfInBounds_toArray, List.set_cons_zero, List.set_cons_succ] at hK
                simp only [h25] at hK ⊢
                go_simp
                exact hK _ _ rfl (gr_refl _ _)
              case o27 =>
                intro u w g hd K hK
                have h26 : (u 26) = .bool true := hd 26 (by simp)
                clear hd
                simp only [Act.put, List.setIfInBounds_toArray, List.set_cons_zero, List.set_cons_succ] at hK
                simp only [h26] at hK ⊢
                go_simp
                exact hK _ _ rfl (gr_refl _ _)
              case o28 =>
                intro u w g hd K hK
                have h26 : (u 26) = .bool true := hd 26 (by simp)
                clear hd
                simp only [Act.put, List.setIfInBounds_toArray, List.set_cons_zero, List.set_cons_succ] at hK
                simp only [h26] at hK ⊢
                go_simp
                exact hK _ _ rfl (gr_refl _ _)
              case o29 =>
                intro u w g hd K hK
                have h27 : (u 27) = .int .i64 st1 := hd 27 (by simp)
                have h28 : (u 28) = .int .i64 st1 := hd 28 (by simp)
                have h26 : (u 26) = .bool true := hd 26 (by simp)
                clear hd
                simp only [Act.put, List.setIfInBounds_toArray, List.set_cons_zero, List.set_cons_succ] at hK
                simp only [h27, h28, h26] at hK ⊢
                go_simp
                exact hK _ _ rfl (gr_refl _ _)
              case o30 =>
                intro u w g hd K hK
                have h26 : (u 26) = .bool true := hd 26 (by simp)
                have h29 : (u 29) = .bool true := hd 29 (by simp)
                clear hd
                simp only [Act.put, List.setIfInBounds_toArray, List.set_cons_zero, List.set_cons_succ] at hK
                simp only [h26, h29] at hK ⊢
                go_simp
                exact hK _ _ rfl (gr_refl _ _)
              case o31 =>
                intro u w g hd K hK
                have h30 : (u 30) = .bool true := hd 30 (by simp)
                clear hd
                simp only [Act.put, List.setIfInBounds_toArray, List.set_cons_zero, List.set_cons_succ] at hK
                simp only [h30] at hK ⊢
                go_simp
                exact hK _ _ rfl (gr_refl _ _)
              case o32 =>
                intro u w g hd K hK
                have h31 : (u 31) = .bool true := hd 31 (by simp)
                clear hd
                simp only [Act.put, List.setIfInBounds_toArray, List.set_cons_zero, List.set_cons_succ] at hK
                simp only [h31] at hK ⊢
                go_simp
                exact hK _ _ rfl (gr_refl _ _)
              case o33 =>
                intro u w g hd K hK
                have h31 : (u 31) = .bool true := hd 31 (by simp)
                clear hd
                simp only [Act.put, List.setIfInBounds_toArray, List.set_cons_zero, List.set_cons_succ] at hK
                simp only [h31] at hK ⊢
                go_simp
                exact hK _ _ rfl (gr_refl _ _)
              case o34 =>
                intro u w g hd K hK
                have h32 : (u 32) = .bool st2 := hd 32 (by simp)
                have h33 : (u 33) = .bool st2 := hd 33 (by simp)
                have h31 : (u 31) = .bool true := hd 31 (by simp)
                clear hd
                simp only [Act.put, List.setIfInBounds_toArray, List.set_cons_zero, List.set_cons_succ] at hK
                simp only [h32, h33, h31] at hK ⊢
                go_simp
                exact hK _ _ rfl (gr_refl _ _)
              case o35 =>
                intro u w g hd K hK
                have h31 : (u 31) = .bool true := hd 31 (by simp)
                have h34 : (u 34) = .bool true := hd 34 (by simp)
                clear hd
                simp only [Act.put, List.setIfInBounds_toArray, List.set_cons_zero, List.set_cons_succ] at hK
                simp only [h31, h34] at hK ⊢
                go_simp
                exact hK _ _ rfl (gr_refl _ _)
              case o36 =>
                intro u w g hd K hK
                have h35 : (u 35) = .bool true := hd 35 (by simp)
                clear hd
                simp only [Act.put, List.setIfInBounds_toArray, List.set_cons_zero, List.set_cons_succ] at hK
                simp only [h35] at hK ⊢
                go_simp
                exact hK _ _ rfl (gr_refl _ _)
              case o37 =>
                intro u w g hd K hK
                have h36 : (u 36) = .bool true := hd 36 (by simp)
                clear hd
                simp only [Act.put, List.setIfInBounds_toArray, List.set_cons_zero, List.set_cons_succ] at hK
                simp only [h36] at hK ⊢
                go_simp
                exact hK _ _ rfl (gr_refl _ _)
              case o38 =>
                intro u w g hd K hK
                have h37 : (u 37) = .int .i64 n := hd 37 (by simp)
                have h36 : (u 36) = .bool true := hd 36 (by simp)
                clear hd
                simp only [Act.put, List.setIfInBounds_toArray, List.set_cons_zero, List.set_cons_succ] at hK
                simp only [h37, h36] at hK ⊢
                go_simp
                refine (HREb.out w g).mono ?_
                rintro e w' ⟨rfl, g'⟩
                exact hK _ w' rfl g'
              case o39 =>
                intro u w g hd K hK
                have h36 : (u 36) = .bool true := hd 36 (by simp)
                clear hd
                simp only [Act.put, List.setIfInBounds_toArray, List.set_cons_zero, List.set_cons_succ] at hK
                simp only [h36] at hK ⊢
                go_simp
                exact hK _ _ rfl (gr_refl _ _)
              case o40 =>
                intro u w g hd K hK
                have h39 : (u 39) = .int .i64 n := hd 39 (by simp)
                have h36 : (u 36) = .bool true := hd 36 (by simp)
                clear hd
                simp only [Act.put, List.setIfInBounds_toArray, List.set_cons_zero, List.set_cons_succ] at hK
                simp only [h39, h36] at hK ⊢
                go_simp
                refine (HRFb.out w g).mono ?_
                rintro e w' ⟨rfl, g'⟩
                exact hK _ w' rfl g'
              case o41 =>
                intro u w g hd K hK
                have h38 : (u 38) = .string ⟨AR⟩ := hd 38 (by simp)
                have h40 : (u 40) = .string ⟨AR⟩ := hd 40 (by simp)
                have h36 : (u 36) = .bool true := hd 36 (by simp)
                clear hd
                simp only [Act.put, List.setIfInBounds_toArray, List.set_cons_zero, List.set_cons_succ] at hK
                simp only [h38, h40, h36] at hK ⊢
                go_simp
                exact hK _ _ rfl (gr_refl _ _)
              case o42 =>
                intro u w g hd K hK
                have h36 : (u 36) = .bool true := hd 36 (by simp)
                have h41 : (u 41) = .bool true := hd 41 (by simp)
                clear hd
                simp only [Act.put, List.setIfInBounds_toArray, List.set_cons_zero, List.set_cons_succ] at hK
                simp only [h36, h41] at hK ⊢
                go_simp
                exact hK _ _ rfl (gr_refl _ _)
              case o43 =>
                intro u w g hd K hK
                have h42 : (u 42) = .bool true := hd 42 (by simp)
                clear hd
                simp only [Act.put, List.setIfInBounds_toArray, List.set_cons_zero, List.set_cons_succ] at hK
                simp only [h42] at hK ⊢
                go_simp
                exact hK _ _ rfl (gr_refl _ _)
              case done =>
                intro u w hS g
                have s0 : (u 0) = v9 := hS 0 (by decide)
                have s1 : (u 1) = .string ⟨A9⟩ := hS 1 (by decide)
                have s2 : (u 2) = .int .i64 n := hS 2 (by decide)
                have s3 : (u 3) = .slice fa j fc := hS 3 (by decide)
                have s4 : (u 4) = .pointer (some ⟨q, 2, none⟩) := hS 4 (by decide)
                have s5 : (u 5) = .slice a2 n2 c2 := hS 5 (by decide)
                have s6 : (u 6) = .int .i64 n := hS 6 (by decide)
                have s7 : (u 7) = .int .i64 ev := hS 7 (by decide)
                have s8 : (u 8) = .bool (ev == 0) := hS 8 (by decide)
                have s9 : (u 9) = .string ⟨A9⟩ := hS 9 (by decide)
                have s10 : (u 10) = .bool true := hS 10 (by decide)
                have s11 : (u 11) = .bool true := hS 11 (by decide)
                have s12 : (u 12) = v10 := hS 12 (by decide)
                have s13 : (u 13) = .string ⟨A10⟩ := hS 13 (by decide)
                have s14 : (u 14) = .pointer (some ⟨q, 0, none⟩) := hS 14 (by decide)
                have s15 : (u 15) = .slice a0 n0 c0 := hS 15 (by decide)
                have s16 : (u 16) = .string ⟨l0.toArray⟩ := hS 16 (by decide)
                have s17 : (u 17) = .pointer (some ⟨q, 1, none⟩) := hS 17 (by decide)
                have s18 : (u 18) = .slice a1 n1 c1 := hS 18 (by decide)
                have s19 : (u 19) = .string ⟨l1.toArray⟩ := hS 19 (by decide)
                have s20 : (u 20) = .slice fa j fc := hS 20 (by decide)
                have s21 : (u 21) = .pointer (some ⟨q, 2, none⟩) := hS 21 (by decide)
                have s22 : (u 22) = .slice a2 n2 c2 := hS 22 (by decide)
                have s23 : (u 23) = .string ⟨A10⟩ := hS 23 (by decide)
                have s24 : (u 24) = .bool true := hS 24 (by decide)
                have s25 : (u 25) = .bool true := hS 25 (by decide)
                have s26 : (u 26) = .bool true := hS 26 (by decide)
                have s27 : (u 27) = .int .i64 st1 := hS 27 (by decide)
                have s28 : (u 28) = .int .i64 st1 := hS 28 (by decide)
                have s29 : (u 29) = .bool true := hS 29 (by decide)
                have s30 : (u 30) = .bool true := hS 30 (by decide)
                have s31 : (u 31) = .bool true := hS 31 (by decide)
                have s32 : (u 32) = .bool st2 := hS 32 (by decide)
                have s33 : (u 33) = .bool st2 := hS 33 (by decide)
                have s34 : (u 34) = .bool true := hS 34 (by decide)
                have s35 : (u 35) = .bool true := hS 35 (by decide)
                have s36 : (u 36) = .bool true := hS 36 (by decide)
                have s37 : (u 37) = .int .i64 n := hS 37 (by decide)
                have s38 : (u 38) = .string ⟨AR⟩ := hS 38 (by decide)
                have s39 : (u 39) = .int .i64 n := hS 39 (by decide)
                have s40 : (u 40) = .string ⟨AR⟩ := hS 40 (by decide)
                have s41 : (u 41) = .bool true := hS 41 (by decide)
                have s42 : (u 42) = .bool true := hS 42 (by decide)
                have s43 : (u 43) = .bool true := hS 43 (by decide)
                clear hS
                have HS43 := hid s43
                have HGW := hid (gr_trans HG7.out g)
                clear s0 s1 s2 s3 s4 s5 s6 s7 s8 s9 s10 s11 s12 s13 s14 s15 s16 s17 s18 s19 s20 s21 s22 s23 s24 s25 s26 s27 s28 s29 s30 s31 s32 s33 s34 s35 s36 s37 s38 s39 s40 s41 s42 s43 g
                generalize u 0 = x0 at *
                generalize u 1 = x1 at *
                generalize u 2 = x2 at *
                generalize u 3 = x3 at *
                generalize u 4 = x4 at *
                generalize u 5 = x5 at *
                generalize u 6 = x6 at *
                generalize u 7 = x7 at *
                generalize u 8 = x8 at *
                generalize u 9 = x9 at *
                generalize u 10 = x10 at *
                generalize u 11 = x11 at *
                generalize u 12 = x12 at *
                generalize u 13 = x13 at *
                generalize u 14 = x14 at *
                generalize u 15 = x15 at *
                generalize u 16 = x16 at *
                generalize u 17 = x17 at *
                generalize u 18 = x18 at *
                generalize u 19 = x19 at *
                generalize u 20 = x20 at *
                generalize u 21 = x21 at *
                generalize u 22 = x22 at *
                generalize u 23 = x23 at *
                generalize u 24 = x24 at *
                generalize u 25 = x25 at *
                generalize u 26 = x26 at *
                generalize u 27 = x27 at *
                generalize u 28 = x28 at *
                generalize u 29 = x29 at *
                generalize u 30 = x30 at *
                generalize u 31 = x31 at *
                generalize u 32 = x32 at *
                generalize u 33 = x33 at *
                generalize u 34 = x34 at *
                generalize u 35 = x35 at *
                generalize u 36 = x36 at *
                generalize u 37 = x37 at *
                generalize u 38 = x38 at *
                generalize u 39 = x39 at *
                generalize u 40 = x40 at *
                generalize u 41 = x41 at *
                generalize u 42 = x42 at *
                generalize u 43 = x43 at *
                obtain rfl := HS43.out
                go_wp2_with fail
                go_ret
                exact ⟨rfl, HGW.out⟩
end Go.Proofs.YtldbcdiomkkinaaGreatDoor
