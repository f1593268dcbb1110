/- hearthlaw17.XmlTurned: the walk. -/
import Derived.Test.YtmofnoconhgjmaaGreatDoorXv5
import Derived.Test.YtmofnoconhgjmaaGreatDoorXv6
import Derived.Test.YtmofnoconhgjmaaGreatDoorXn9
import Derived.Test.YtmofnoconhgjmaaGreatDoorMZ
import Derived.Deep.DeepCutAuto
import Derived.BigQuiet
namespace Go.Proofs.YtmofnoconhgjmaaGreatDoor
open Go.RowKit
set_option linter.unusedVariables false
set_option linter.unusedSimpArgs false

theorem ElAt.gro {w w' : World} {X : Nat → Prop} {v : Value} {e : El} (h : ElAt w X v e) (g : w.grownBy w' none) : ElAt w' X v e := by
  obtain ⟨p1, p2, p3, p4, p5⟩ := h
  exact ⟨p1, p2, p3, p4.grow g, p5.grow g⟩
theorem u8_and7 : ∀ x : UInt8, bits .and .u8 (x.toNat : Int) 7 = ((x.toNat % 8 : Nat) : Int) := all_bytes (by decide +kernel)
set_option maxRecDepth 200000 in
set_option maxHeartbeats 20000000 in
theorem xml_turned_walk (v : Value) (e : El) (a b c : UInt8) (note : ByteArray) (m : Int) (w : World) (he : ElAt w noX v e) (hm : w.cell? ⟨0, 0, none⟩ = some (.int .i64 m)) :
    Calls Tryz.prog 3 #[v, .agg #[.int .u8 (a.toNat : Int), .int .u8 (b.toNat : Int), .int .u8 (c.toNat : Int)], .string note] w fun e' w' => e' = .returned (.bool true) ∧ w.grownBy w' none := by
  obtain ⟨l, rfl⟩ : ∃ l : Bs, note = ⟨l.toArray⟩ := ⟨note.data.toList, by cases note; simp⟩
  have HE := hid he
  obtain ⟨s, n, ats, tx, kids⟩ := e
  obtain ⟨av, kv, rfl, ha, hk⟩ := he
  obtain ⟨aa, ac, rfl, -⟩ := ha
  obtain ⟨ka, kc, rfl, -⟩ := hk
  unfold elV str at HE ⊢
  dsimp only at HE ⊢
  have hlz : (⟨l.toArray⟩ : ByteArray).size = l.length := by rw [Lib.size_eq]
  have n1 := heap_alloc_new w (.cells #[.string ⟨s.toArray⟩, .string ⟨n.toArray⟩, .slice aa ats.length ac, .string ⟨tx.toArray⟩, .slice ka kids.len kc] 25)
  have g1 := gr_alloc (gr_refl w none) (.cells #[.string ⟨s.toArray⟩, .string ⟨n.toArray⟩, .slice aa ats.length ac, .string ⟨tx.toArray⟩, .slice ka kids.len kc] 25)
  have n2 := heap_alloc_new (w.alloc (.cells #[.string ⟨s.toArray⟩, .string ⟨n.toArray⟩, .slice aa ats.length ac, .string ⟨tx.toArray⟩, .slice ka kids.len kc] 25)) (.cells #[.int .u8 (a.toNat : Int), .int .u8 (b.toNat : Int), .int .u8 (c.toNat : Int)] 26)
  have g2 := World.grownBy_alloc (w.alloc (.cells #[.string ⟨s.toArray⟩, .string ⟨n.toArray⟩, .slice aa ats.length ac, .string ⟨tx.toArray⟩, .slice ka kids.len kc] 25)) (.cells #[.int .u8 (a.toNat : Int), .int .u8 (b.toNat : Int), .int .u8 (c.toNat : Int)] 26) none
  rw [World.size_alloc] at n2
  obtain ⟨w2, hw2⟩ : ∃ w2, w2 = (w.alloc (.cells #[.string ⟨s.toArray⟩, .string ⟨n.toArray⟩, .slice aa ats.length ac, .string ⟨tx.toArray⟩, .slice ka kids.len kc] 25)).alloc (.cells #[.int .u8 (a.toNat : Int), .int .u8 (b.toNat : Int), .int .u8 (c.toNat : Int)] 26) := ⟨_, rfl⟩
  rw [← hw2] at n2 g2
  obtain ⟨bx, hbx⟩ : ∃ bx, bx = w.heap.size := ⟨_, rfl⟩
  obtain ⟨ba, hba⟩ : ∃ ba, ba = w.heap.size + 1 := ⟨_, rfl⟩
  have E2 := hid (show ElB w2 bx s n (.slice aa ats.length ac) tx (.slice ka kids.len kc) by rw [hbx]; exact gr_keep g2 n1 (by simp))
  rw [← hba] at n2
  have A2 := hid n2
  have G2 := hid (gr_trans g1 g2)
  have HS := hid (speaks_true w2 m (G2.out.cell hm (by simp)))
  have HM := hid hm
  have HLZ := hid hlz
  have HW2 := hid hw2
  have HBX := hid hbx
  have HBA := hid hba
  clear hm n1 n2 hw2 g1 g2 hbx hba hlz
  go_enter Tryz.func3, Tryz.ntmps3
  go_upto_region 1 with fail
  rw [← HW2.out, ← HBA.out, ← HBX.out]
  clear HW2 HBX HBA
  go_wp2_with fail
  refine HS.out.mono ?_
  rintro e3 w3 ⟨rfl, g3⟩
  have E3 := hid (E2.out.grow g3)
  have A3 := hid (gr_keep g3 A2.out (by simp))
  have G3 := hid (gr_trans G2.out g3)
  clear g3 HS E2 A2 G2
  obtain ⟨s0, s1, s2, s3, s4⟩ := ElB.cells E3.out
  have HE3 := hid (show ElAt w3 noX (.agg #[.string ⟨s.toArray⟩, .string ⟨n.toArray⟩, .slice aa ats.length ac, .string ⟨tx.toArray⟩, .slice ka kids.len kc]) ⟨s, n, ats, tx, kids⟩ from ElAt.gro HE.out G3.out)
  go_wp2_with fail
  refine (great_any w3 _ _ HE3.out).mono ?_
  rintro e4 w4 ⟨gb, rfl, g4, hgb⟩
  have E4 := hid (E3.out.grow g4)
  have A4 := hid (gr_keep g4 A3.out (by simp))
  have G4 := hid (gr_trans G3.out g4)
  have HE4 := hid (ElAt.gro HE3.out g4)
  have HGB := hid hgb
  clear g4 E3 A3 G3 HE3 hgb s0 s1 s2 s3 s4
  cases gb with
  | true =>
    go_wp2_with fail
    go_ret
    exact ⟨rfl, G4.out⟩
  | false =>
  by_cases hl : (200 : Int) < (l.length : Int)
  · go_wp2_with fail
    go_ret
    exact ⟨rfl, G4.out⟩
  have HL := hid (show l.length ≤ 200 by omega)
  go_wp2_with fail
  refine (rplain_any ⟨l.toArray⟩ w4 (by rw [HLZ.out]; omega)).mono ?_
  rintro e5 w5 ⟨rfl, rfl⟩
  rw [dl_eq]
  have HPL := hid (show ∃ k, k = plainB l from ⟨_, rfl⟩)
  obtain ⟨pb, hpb⟩ := HPL.out
  rw [← hpb]
  have HPB := hid hpb
  clear hpb HPL
  cases pb with
  | false =>
    go_wp2_with fail
    go_ret
    exact ⟨rfl, G4.out⟩
  | true =>
  go_wp2_with fail
  go_loop [7] (fun vk => ∃ k : Nat, k ≤ l.length ∧ vk = .int .i64 (k : Int) ∧ Hid (∀ d ∈ l.take k, d ≠ 62)) (fun vk => l.length - (intOf vk).toNat)
  case atStart => exact ⟨0, Nat.zero_le _, rfl, hid (fun d hd => by simp at hd)⟩
  case round =>
    obtain ⟨k, hk, rfl, hall⟩ := hrel
    by_cases hlt : k < l.length
    · have hcc : (⟨l.toArray⟩ : ByteArray)[k]'(by rw [HLZ.out]; exact hlt) = l.getD k 0 := by rw [strAt]
      have HSN := hid (show l.take (k + 1) = l.take k ++ [l.getD k 0] by rw [List.take_add_one, List.getD_eq_getElem?_getD, List.getElem?_eq_getElem hlt]; rfl)
      have hk200 : (k : Int) + 1 ≤ 201 := by have := HL.out; omega
      have hk0 : (0 : Int) ≤ (k : Int) := by omega
      have hk1 : (k : Int) < (l.length : Int) := by omega
      generalize l.getD k 0 = x at *
      by_cases h62 : x = 62
      · subst h62
        go_wp2_with fail
        go_ret
        exact ⟨rfl, G4.out⟩
      · have hx62 : ¬ (x.toNat : Int) = 62 := fun h => h62 (UInt8.toNat_inj.1 (by show x.toNat = 62; omega))
        have HALL := hid (show ∀ d ∈ l.take (k + 1), d ≠ 62 by
          rw [HSN.out]
          intro d hd
          rcases List.mem_append.1 hd with h | h
          · exact hall.out d h
          · obtain rfl := List.mem_singleton.1 h
            exact h62)
        go_wp2_with fail
        exact ⟨⟨k + 1, by omega, by go_num, HALL⟩, by simp [intOf]; omega⟩
    · obtain rfl : k = l.length := by omega
      have HN62 := hid (show ∀ d ∈ l, d ≠ 62 by have := hall.out; rwa [List.take_length] at this)
      have HSM := hid (HGB.out (by simp))
      have HSZ := hid (show kids.sz ≤ 20000 by
        have h1 := sm_sz2 kids HSM.out.1.2
        have h2 := HSM.out.2
        unfold El.cnt at h2
        simp only at h1 h2
        omega)
      have HCN := hid (flatE_cnt ⟨s, n, ats, tx, kids⟩)
      have WR := hid (write_any w4 _ ⟨s, n, ats, tx, kids⟩ m HE4.out (G4.out.cell HM.out (by simp)) HSM.out.1 (by have := HSZ.out; show kids.sz ≤ 1000000; omega) (by have := HCN.out; have := HSM.out.2; omega) (textE_len HSM.out.1 HSM.out.2))
      clear hall hk hlt
      obtain ⟨s0, s1, s2, s3, s4⟩ := ElB.cells E4.out
      go_wp2_with fail
      refine WR.out.mono ?_
      rintro e6 w6 ⟨g6, vb, k, rfl, hr⟩
      have E6 := hid (E4.out.grow g6)
      have A6 := hid (gr_keep g6 A4.out (by simp))
      have G6 := hid (gr_trans G4.out g6)
      have HE6 := hid (ElAt.gro HE4.out g6)
      clear g6 E4 A4 G4 HE4 WR s0 s1 s2 s3 s4
      rcases hr with ⟨hk0, rfl⟩ | ⟨rfl, hby, hT8, hok, hcn⟩
      · have hk1 : (k == 0) = false := beq_eq_false_iff_ne.2 hk0
        go_wp2_with fail
        go_ret
        exact ⟨rfl, G6.out⟩
      · obtain ⟨P, hP, hP2⟩ := text_cut ⟨s, n, ats, tx, kids⟩
        have HP2 := hid hP2
        have HOK := hid hok
        have HCN2 := hid hcn
        have HTP := hid (show (textE ⟨s, n, ats, tx, kids⟩).length = P.length + 1 by rw [hP]; simp)
        rw [hP] at hby
        have HBY := hid hby
        obtain ⟨ab, cb, rfl, -⟩ := hby
        obtain ⟨T, hT⟩ : ∃ T, T = P.length + 1 := ⟨_, rfl⟩
        have hpl : (P ++ [62]).length = T := by rw [hT]; simp
        rw [hpl] at HBY ⊢
        have HT := hid hT
        clear hP hP2 hT8 hok hcn hpl hT
        by_cases h7 : (7000 : Int) < (T : Int)
        · go_wp2_with fail
          go_ret
          exact ⟨rfl, G6.out⟩
        · have HPL7 := hid (show T ≤ 7000 by omega)
          go_upto_region 14 with fail
          have ca0 := (cell_of_block A6.out 0).trans (show _ = some (Value.int .u8 (a.toNat : Int)) from rfl)
          have ca1 := (cell_of_block A6.out 1).trans (show _ = some (Value.int .u8 (b.toNat : Int)) from rfl)
          have ca2 := (cell_of_block A6.out 2).trans (show _ = some (Value.int .u8 (c.toNat : Int)) from rfl)
          obtain ⟨ka', hka⟩ : ∃ k, k = a.toNat % 8 := ⟨_, rfl⟩
          obtain ⟨kb', hkb⟩ : ∃ k, k = b.toNat % 8 := ⟨_, rfl⟩
          obtain ⟨kc', hkc⟩ : ∃ k, k = c.toNat % 8 := ⟨_, rfl⟩
          have HA7 := hid (show bits .and .u8 (a.toNat : Int) 7 = (ka' : Int) by rw [hka]; exact u8_and7 a)
          have HB7 := hid (show bits .and .u8 (b.toNat : Int) 7 = (kb' : Int) by rw [hkb]; exact u8_and7 b)
          have HC7 := hid (show bits .and .u8 (c.toNat : Int) 7 = (kc' : Int) by rw [hkc]; exact u8_and7 c)
          have hka7 : ka' ≤ 7 := by omega
          have hkb7 : kb' ≤ 7 := by omega
          have hkc7 : kc' ≤ 7 := by omega
          obtain ⟨t1, ht1⟩ : ∃ k, k = P.length := ⟨_, rfl⟩
          have hTt : T = t1 + 1 := by rw [ht1]; exact HT.out
          have hT7 := HPL7.out
          have hl200 := HL.out
          have HTU := hid (show turnT ka' kb' kc' l P = (((((padL.take ka' ++ [60, 33, 45, 45]) ++ l) ++ [45, 45, 62]) ++ P) ++ padL.take kb' ++ [62]) ++ padL.take kc' by unfold turnT; simp)
          obtain ⟨padA, hpa⟩ : ∃ x, x = padL.take ka' := ⟨_, rfl⟩
          obtain ⟨padB, hpb⟩ : ∃ x, x = padL.take kb' := ⟨_, rfl⟩
          obtain ⟨padC, hpc⟩ : ∃ x, x = padL.take kc' := ⟨_, rfl⟩
          have la : padA.length = ka' := by rw [hpa, List.length_take]; exact Nat.min_eq_left (by show ka' ≤ 8; omega)
          have lb : padB.length = kb' := by rw [hpb, List.length_take]; exact Nat.min_eq_left (by show kb' ≤ 8; omega)
          have lc : padC.length = kc' := by rw [hpc, List.length_take]; exact Nat.min_eq_left (by show kc' ≤ 8; omega)
          rw [← hpa, ← hpb, ← hpc] at HTU
          have HPA := hid hpa
          have HPB2 := hid hpb
          have HPC := hid hpc
          obtain ⟨x5, h5⟩ : ∃ x, x = padA ++ [60, 33, 45, 45] := ⟨_, rfl⟩
          rw [← h5] at HTU
          obtain ⟨x7, h7'⟩ : ∃ x, x = x5 ++ l := ⟨_, rfl⟩
          rw [← h7'] at HTU
          obtain ⟨x8, h8⟩ : ∃ x, x = x7 ++ [45, 45, 62] := ⟨_, rfl⟩
          rw [← h8] at HTU
          obtain ⟨x15, h15⟩ : ∃ x, x = x8 ++ P := ⟨_, rfl⟩
          rw [← h15] at HTU
          obtain ⟨x21, h21⟩ : ∃ x, x = x15 ++ padB := ⟨_, rfl⟩
          rw [← h21] at HTU
          obtain ⟨x22, h22⟩ : ∃ x, x = x21 ++ [62] := ⟨_, rfl⟩
          rw [← h22] at HTU
          obtain ⟨x28, h28⟩ : ∃ x, x = x22 ++ padC := ⟨_, rfl⟩
          rw [← h28] at HTU
          have l5 : x5.length = ka' + 4 := by rw [h5, List.length_append, la]; rfl
          have l7 : x7.length = ka' + 4 + l.length := by rw [h7', List.length_append, l5]
          have l8 : x8.length = ka' + 4 + l.length + 3 := by rw [h8, List.length_append, l7]; rfl
          have l15 : x15.length = ka' + 4 + l.length + 3 + P.length := by rw [h15, List.length_append, l8]
          have l21 : x21.length = ka' + 4 + l.length + 3 + P.length + kb' := by rw [h21, List.length_append, l15, lb]
          have l22 : x22.length = ka' + 4 + l.length + 3 + P.length + kb' + 1 := by rw [h22, List.length_append, l21]; rfl
          have HL28 := hid (show x28.length ≤ 7900 by rw [h28, List.length_append, l22, lc]; omega)
          have X5 := hid (show ((⟨padA.toArray⟩ : ByteArray) ++ (⟨#[60, 33, 45, 45]⟩ : ByteArray)) = ⟨x5.toArray⟩ by rw [h5]; exact ba_ap padA [60, 33, 45, 45])
          have X7 := hid (show ((⟨x5.toArray⟩ : ByteArray) ++ (⟨l.toArray⟩ : ByteArray)) = ⟨x7.toArray⟩ by rw [h7']; exact ba_ap x5 l)
          have X8 := hid (show ((⟨x7.toArray⟩ : ByteArray) ++ (⟨#[45, 45, 62]⟩ : ByteArray)) = ⟨x8.toArray⟩ by rw [h8]; exact ba_ap x7 [45, 45, 62])
          have X15 := hid (show ((⟨x8.toArray⟩ : ByteArray) ++ (⟨P.toArray⟩ : ByteArray)) = ⟨x15.toArray⟩ by rw [h15]; exact ba_ap x8 P)
          have X21 := hid (show ((⟨x15.toArray⟩ : ByteArray) ++ (⟨padB.toArray⟩ : ByteArray)) = ⟨x21.toArray⟩ by rw [h21]; exact ba_ap x15 padB)
          have X22 := hid (show ((⟨x21.toArray⟩ : ByteArray) ++ (⟨#[62]⟩ : ByteArray)) = ⟨x22.toArray⟩ by rw [h22]; exact ba_ap x21 [62])
          have X28 := hid (show ((⟨x22.toArray⟩ : ByteArray) ++ (⟨padC.toArray⟩ : ByteArray)) = ⟨x28.toArray⟩ by rw [h28]; exact ba_ap x22 padC)
          clear h5 h7' h8 h15 h21 h22 h28
          have hPl : P.length = t1 := ht1.symm
          clear hka hkb hkc hpa hpb hpc
          have z1 : ¬ 9223372036854775807 < padA.length + 4 := by omega
          have ha7 := HA7.out
          have hb7 := HB7.out
          have hc7 := HC7.out
          have hk0 : (0 : Int) ≤ (ka' : Int) := by omega
          have hk8 : (ka' : Int) ≤ 8 := by omega
          have hk0b : (0 : Int) ≤ (kb' : Int) := by omega
          have hk8b : (kb' : Int) ≤ 8 := by omega
          have hk0c : (0 : Int) ≤ (kc' : Int) := by omega
          have hk8c : (kc' : Int) ≤ 8 := by omega
          have EXA := hid (show (⟨#[32, 9, 10, 13, 32, 9, 10, 13]⟩ : ByteArray).extract 0 ka' = ⟨padA.toArray⟩ by rw [HPA.out]; exact ext_take padL ka')
          have EXB := hid (show (⟨#[32, 9, 10, 13, 32, 9, 10, 13]⟩ : ByteArray).extract 0 kb' = ⟨padB.toArray⟩ by rw [HPB2.out]; exact ext_take padL kb')
          have EXC := hid (show (⟨#[32, 9, 10, 13, 32, 9, 10, 13]⟩ : ByteArray).extract 0 kc' = ⟨padC.toArray⟩ by rw [HPC.out]; exact ext_take padL kc')
          have z5 : ¬ 9223372036854775807 < padA.length + 4 := by omega
          have z7 : ¬ 9223372036854775807 < x5.length + l.length := by omega
          have z8 : ¬ 9223372036854775807 < x7.length + 3 := by omega
          have z15 : ¬ 9223372036854775807 < x8.length + P.length := by omega
          have z21 : ¬ 9223372036854775807 < x15.length + padB.length := by omega
          have z22 : ¬ 9223372036854775807 < x21.length + 1 := by omega
          have z28 : ¬ 9223372036854775807 < x22.length + padC.length := by omega
          have HTI := hid (show (T : Int) - 1 = (t1 : Int) by omega)
          have ht0 : (0 : Int) ≤ (t1 : Int) := by omega
          have htc : (t1 : Int) ≤ (cb : Int) := by obtain ⟨_, _, e9, q9, _⟩ := HBY.out; cases e9; have := HT.out; simp at q9; omega
          have BYT := hid (fun q => (show Bytes w6 (.slice ab P.length cb) P by
            obtain ⟨a9, c9, e9, q1, q2, q3⟩ := HBY.out
            simp only [Value.slice.injEq] at e9
            obtain ⟨rfl, -, rfl⟩ := e9
            refine ⟨_, _, rfl, by rw [List.length_append] at q1; omega, q2, fun hne => ?_⟩
            obtain ⟨b9, o9, rfl, hc⟩ := q3 (by simp)
            refine ⟨b9, o9, rfl, fun i hi => ?_⟩
            have := hc i (by rw [List.length_append]; omega)
            rwa [List.getD_eq_getElem?_getD, List.getElem?_append_left hi, ← List.getD_eq_getElem?_getD] at this).grown (gr_drewN q (gr_refl w6 none)) : ∀ q, Bytes (w6.drewN q) (.slice ab P.length cb) P)
          clear la lb lc l5 l7 l8 l15 l21 l22 hTt hPl hT7 hl200 hka7 hkb7 hkc7
          refine wp_region_quiet_lit (by kernel_rfl) (by kernel_rfl) ?_
          go_big_quiet_want
          go_big_quiet_op
          go_big_quiet_on
          go_big_quiet_want
          go_big_quiet_op
          go_big_quiet_on
          go_big_quiet_want
          go_big_quiet_op
          go_big_quiet_on
          go_big_quiet_want
          go_big_quiet_op
          go_big_quiet_on
          go_big_quiet_want
          go_big_quiet_op
          rw [EXA.out]
          go_big_quiet_on
          go_big_quiet_want
          go_big_quiet_op
          rw [X5.out]
          go_big_quiet_on
          go_big_quiet_want
          go_big_quiet_op
          go_big_quiet_on
          go_big_quiet_want
          go_big_quiet_op
          rw [X7.out]
          go_big_quiet_on
          go_big_quiet_want
          go_big_quiet_op
          rw [X8.out]
          go_big_quiet_on
          go_big_quiet_want
          go_big_quiet_op
          go_big_quiet_on
          go_big_quiet_want
          go_big_quiet_op
          go_big_quiet_on
          go_big_quiet_want
          go_big_quiet_op
          go_big_quiet_on
          go_big_quiet_want
          go_big_quiet_op
          rw [HTI.out]
          go_big_quiet_on
          go_big_quiet_want
          go_big_quiet_op
          go_big_quiet_on
          go_big_quiet_want
          go_big_quiet_op
          refine ⟨.string ⟨P.toArray⟩, fun q => ?_, ?_⟩
          · rw [run_b2s Tryz.underlying30 Tryz.underlying5 Tryz.underlying9 (BYT.out q)]
            exact ⟨rfl, rfl⟩
          go_big_quiet_on
          go_big_quiet_want
          go_big_quiet_op
          rw [X15.out]
          go_big_quiet_on
          go_big_quiet_want
          go_big_quiet_op
          go_big_quiet_on
          go_big_quiet_want
          go_big_quiet_op
          go_big_quiet_on
          go_big_quiet_want
          go_big_quiet_op
          go_big_quiet_on
          go_big_quiet_want
          go_big_quiet_op
          go_big_quiet_on
          go_big_quiet_want
          go_big_quiet_op
          rw [EXB.out]
          go_big_quiet_on
          go_big_quiet_want
          go_big_quiet_op
          rw [X21.out]
          go_big_quiet_on
          go_big_quiet_want
          go_big_quiet_op
          rw [X22.out]
          go_big_quiet_on
          go_big_quiet_want
          go_big_quiet_op
          go_big_quiet_on
          go_big_quiet_want
          go_big_quiet_op
          go_big_quiet_on
          go_big_quiet_want
          go_big_quiet_op
          go_big_quiet_on
          go_big_quiet_want
          go_big_quiet_op
          go_big_quiet_on
          go_big_quiet_want
          go_big_quiet_op
          rw [EXC.out]
          go_big_quiet_on
          go_big_quiet_want
          go_big_quiet_op
          rw [X28.out]
          go_big_quiet_on
          go_big_quiet_want
          go_big_quiet_op
          go_big_quiet_on
          refine wpQuiet_nil ?_
          intro wq hwq
          obtain ⟨nq, rfl⟩ := hwq
          have GD := hid (gr_drewN nq (gr_refl w6 none))
          have TPL := hid (turn_parse HOK.out HCN2.out HP2.out HN62.out HPB.out.symm ka' kb' kc' (by rw [HTU.out]; have := HL28.out; omega))
          rw [HTU.out] at TPL
          have E7 := hid (E6.out.grow GD.out)
          have HE7 := hid (ElAt.gro HE6.out GD.out)
          have G7 := hid (gr_trans G6.out GD.out)
          revert E7 HE7 G7
          generalize w6.drewN nq = w7
          intro E7 HE7 G7
          clear BYT EXA EXB EXC X5 X7 X8 X15 X21 X22 X28 HTI HBY z5 z7 z8 z15 z21 z22 z28 E6 HE6 G6 GD A6 ca0 ca1 ca2
          have HZ28 := hid (show (⟨x28.toArray⟩ : ByteArray).size ≤ 7900 by rw [Lib.size_eq]; exact HL28.out)
          go_wp2_with (refine wpl_s2b rfl 9 30 5 _ rfl Tryz.underlying9 Tryz.underlying30 Tryz.underlying5 ⟨x28.toArray⟩ rfl (by unfold maxLen; have := HZ28.out; omega) ?_; intro g cap w8 hg hrow g8)
          have HP1 := hid (parse_q w8 _ x28 m hrow.bytes ((gr_trans G7.out g8).cell HM.out (by simp)) (by have := HL28.out; omega))
          rw [TPL.out.1] at HP1
          have E8 := hid (E7.out.grow g8)
          have HE8 := hid (ElAt.gro HE7.out g8)
          have G8 := hid (gr_trans G7.out g8)
          clear hg hrow g8 E7 HE7 G7
          refine HP1.out.mono ?_
          rintro e9 w9 ⟨g9, v9, rfl, av9, kv9, rfl, ha9, hk9⟩
          simp only at ha9 hk9
          have HA9 := hid (ha9.less (X' := noX) (fun _ _ h => h.elim))
          have HK9 := hid (hk9.less (X' := noX) (fun _ _ h => h.elim))
          obtain ⟨a1, c1, rfl, -⟩ := ha9
          obtain ⟨b1, d1, rfl, -⟩ := hk9
          unfold elV str
          dsimp only
          have gA := gr_alloc (gr_refl w9 none) (.cells #[.string ⟨s.toArray⟩, .string ⟨n.toArray⟩, .slice a1 ats.length c1, .string ⟨tx.toArray⟩, .slice b1 kids.len d1] 25)
          have F9 := hid (show ElB (w9.alloc (.cells #[.string ⟨s.toArray⟩, .string ⟨n.toArray⟩, .slice a1 ats.length c1, .string ⟨tx.toArray⟩, .slice b1 kids.len d1] 25)) w9.heap.size s n (.slice a1 ats.length c1) tx (.slice b1 kids.len d1) from heap_alloc_new w9 _)
          have HV9 := hid (show ElAt (w9.alloc (.cells #[.string ⟨s.toArray⟩, .string ⟨n.toArray⟩, .slice a1 ats.length c1, .string ⟨tx.toArray⟩, .slice b1 kids.len d1] 25)) noX (.agg #[.string ⟨s.toArray⟩, .string ⟨n.toArray⟩, .slice a1 ats.length c1, .string ⟨tx.toArray⟩, .slice b1 kids.len d1]) ⟨s, n, ats, tx, kids⟩ from ⟨_, _, rfl, HA9.out.grow gA, HK9.out.grow gA⟩)
          have E10 := hid (E8.out.grow (gr_trans g9 gA))
          have HE10 := hid (ElAt.gro HE8.out (gr_trans g9 gA))
          have G10 := hid (gr_trans G8.out (gr_trans g9 gA))
          have HDD := hid (show ((⟨#[60, 63, 120, 109, 108, 32, 118, 101, 114, 115, 105, 111, 110, 61, 34, 49, 46, 48, 34, 63, 62]⟩ : ByteArray) ++ (⟨x28.toArray⟩ : ByteArray)) = ⟨(declT ++ x28).toArray⟩ from ba_ap declT x28)
          have zd : ¬ 9223372036854775807 < 21 + x28.length := by have := HL28.out; omega
          have HDL := hid (show (declT ++ x28).length ≤ 7921 by rw [List.length_append]; have := HL28.out; show 21 + x28.length ≤ 7921; omega)
          have TP2 := hid TPL.out.2
          clear TPL
          revert HDD HDL TP2
          generalize declT ++ x28 = x29
          intro HDD HDL TP2
          clear gA g9 HP1 E8 HE8 G8 HA9 HK9
          go_wp2_with (refine wpl_s2b rfl 9 30 5 _ rfl Tryz.underlying9 Tryz.underlying30 Tryz.underlying5 ⟨x29.toArray⟩ (congrArg Value.string HDD.out) (by rw [Lib.size_eq]; unfold maxLen; have := HDL.out; show x29.length ≤ _; omega) ?_; intro g' cap' w11 hg hrow g11)
          have HP2' := hid (parse_q w11 _ x29 m hrow.bytes ((gr_trans G10.out g11).cell HM.out (by simp)) (by have := HDL.out; omega))
          rw [TP2.out] at HP2'
          have F11 := hid (F9.out.grow g11)
          have HV11 := hid (ElAt.gro HV9.out g11)
          have E11 := hid (E10.out.grow g11)
          have HE11 := hid (ElAt.gro HE10.out g11)
          have G11 := hid (gr_trans G10.out g11)
          clear hg hrow g11 E10 HE10 G10 F9 HV9
          refine HP2'.out.mono ?_
          rintro e12 w12 ⟨g12, v12, rfl, av12, kv12, rfl, ha12, hk12⟩
          simp only at ha12 hk12
          have HA12 := hid (ha12.less (X' := noX) (fun _ _ h => h.elim))
          have HK12 := hid (hk12.less (X' := noX) (fun _ _ h => h.elim))
          obtain ⟨a2, c2, rfl, -⟩ := ha12
          obtain ⟨b2, d2, rfl, -⟩ := hk12
          unfold elV str
          dsimp only
          have gB := gr_alloc (gr_refl w12 none) (.cells #[.string ⟨s.toArray⟩, .string ⟨n.toArray⟩, .slice a2 ats.length c2, .string ⟨tx.toArray⟩, .slice b2 kids.len d2] 25)
          have F13 := hid (show ElB (w12.alloc (.cells #[.string ⟨s.toArray⟩, .string ⟨n.toArray⟩, .slice a2 ats.length c2, .string ⟨tx.toArray⟩, .slice b2 kids.len d2] 25)) w12.heap.size s n (.slice a2 ats.length c2) tx (.slice b2 kids.len d2) from heap_alloc_new w12 _)
          have HV13 := hid (show ElAt (w12.alloc (.cells #[.string ⟨s.toArray⟩, .string ⟨n.toArray⟩, .slice a2 ats.length c2, .string ⟨tx.toArray⟩, .slice b2 kids.len d2] 25)) noX (.agg #[.string ⟨s.toArray⟩, .string ⟨n.toArray⟩, .slice a2 ats.length c2, .string ⟨tx.toArray⟩, .slice b2 kids.len d2]) ⟨s, n, ats, tx, kids⟩ from ⟨_, _, rfl, HA12.out.grow gB, HK12.out.grow gB⟩)
          have g13 := gr_trans g12 gB
          have F14 := hid (F11.out.grow g13)
          have HV14 := hid (ElAt.gro HV11.out g13)
          have E14 := hid (E11.out.grow g13)
          have HE14 := hid (ElAt.gro HE11.out g13)
          have G14 := hid (gr_trans G11.out g13)
          have SAME := hid (same_r ⟨s, n, ats, tx, kids⟩ (by show ats.length + kids.sz ≤ 100000; have := HSZ.out; have h2 : ats.length ≤ 40 := HSM.out.1.1.2.1; omega))
          clear g12 gB g13 HP2' E11 HE11 G11 F11 HV11 HA12 HK12
          obtain ⟨p0, p1, p2, p3, p4⟩ := ElB.cells F14.out
          obtain ⟨s0, s1, s2, s3, s4⟩ := ElB.cells E14.out
          go_wp2_with fail
          refine (SAME.out _ _ _ HV14.out HE14.out).mono ?_
          rintro e15 w15 ⟨rfl, g15⟩
          have G15 := hid (gr_trans G14.out g15)
          have HV15 := hid (ElAt.gro HV13.out g15)
          have HE15 := hid (ElAt.gro HE14.out g15)
          obtain ⟨q0, q1, q2, q3, q4⟩ := ElB.cells (F13.out.grow g15)
          obtain ⟨r0, r1, r2, r3, r4⟩ := ElB.cells (E14.out.grow g15)
          clear g15 p0 p1 p2 p3 p4 s0 s1 s2 s3 s4
          go_wp2_with fail
          refine (SAME.out _ _ _ HV15.out HE15.out).mono ?_
          rintro e16 w16 ⟨rfl, g16⟩
          have G16 := hid (gr_trans G15.out g16)
          clear g16 q0 q1 q2 q3 q4 r0 r1 r2 r3 r4
          go_wp2_with fail
          go_ret
          exact ⟨rfl, G16.out⟩
end Go.Proofs.YtmofnoconhgjmaaGreatDoor
