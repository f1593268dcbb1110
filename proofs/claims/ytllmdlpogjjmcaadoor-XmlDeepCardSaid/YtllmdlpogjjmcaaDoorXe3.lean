/- hearthlaw17.XmlDeep: the walk. -/
import Derived.Test.YtllmdlpogjjmcaaDoorXe2
import Derived.Test.YtllmdlpogjjmcaaDoorML
import Derived.Laws.Bits128
namespace Go.Proofs.YtllmdlpogjjmcaaDoor
open Go.RowKit
set_option linter.unusedVariables false
set_option linter.unusedSimpArgs false

theorem size_rep (t : Bs) (k : Nat) : (⟨(repT t k).toArray⟩ : ByteArray).size = t.length * k := by rw [Lib.size_eq]; simp [rep_len]
set_option maxRecDepth 20000 in
set_option maxHeartbeats 20000000 in
theorem xml_deep_walk (deep wide : Int) (m : Int) (w : World) (hm : w.cell? ⟨0, 0, none⟩ = some (.int .i64 m)) :
    Calls Tryd.prog 5 #[.int .i64 deep, .int .i64 wide] w fun e w' => e = .returned (.bool true) ∧ w.grownBy w' none := by
  have hmf : ∀ (fn : Fn) (first cap : Array Value) (w : World), (Instr.makeFunc fn first cap).run Tryd.prog w = .ok (.func fn first cap) w := fun _ _ _ _ => rfl
  obtain ⟨d, hd, hd15⟩ : ∃ d : Nat, bits .and .i64 deep 15 = (d : Int) ∧ d ≤ 15 := ⟨(deep % 16).toNat, by have := i64_andm deep 4 15 (by decide) (by decide); rw [show ((15 : Nat) : Int) = 15 from rfl] at this; rw [this]; omega, by omega⟩
  obtain ⟨n, hn, hn127⟩ : ∃ n : Nat, bits .and .i64 wide 127 = (n : Int) ∧ n ≤ 127 := ⟨(wide % 128).toNat, by rw [i64_and127]; omega, by omega⟩
  have HS := hid (speaks_true w m hm)
  have HM := hid hm
  clear hm
  go_enter Tryd.func5, Tryd.ntmps5
  go_wp2_with fail
  refine HS.out.mono ?_
  rintro e w1 ⟨rfl, g1⟩
  have G1 := hid g1
  clear g1 HS
  obtain ⟨D, hD⟩ : ∃ D, D = d + 1 := ⟨_, rfl⟩
  have hd1 : (1 : Int) + (d : Int) = (D : Int) := by omega
  have HDD := hid hD
  have HB := hid (show D ≤ 16 ∧ n ≤ 127 by omega)
  clear hD
  go_wp2_with fail
  clear hd hn hd1 hd15 hn127
  go_loop [7, 8] (fun v7 v8 => ∃ i : Nat, v8 = .int .i64 (i : Int) ∧ i ≤ D ∧ v7 = .string ⟨(repT [60, 97, 62] (i)).toArray⟩) (fun _ v8 => D - (intOf v8).toNat)
  case atStart => exact ⟨0, rfl, Nat.zero_le _, rfl⟩
  case round =>
    obtain ⟨i, rfl, hi, rfl⟩ := hrel
    by_cases hlt : i < D
    · have hsz : (⟨(repT [60, 97, 62] (i)).toArray⟩ : ByteArray).size ≤ 2000 := by rw [Lib.size_eq]; simp [rep_len]; have := HB.out; omega
      have HST := hid (show (⟨(repT [60, 97, 62] (i)).toArray⟩ : ByteArray) ++ ⟨#[60, 97, 62]⟩ = ⟨(repT [60, 97, 62] (i + 1)).toArray⟩ from (ba_app2 _ [60, 97, 62]).trans (by first | rfl | simp [repT, List.append_assoc]))
      generalize (⟨(repT [60, 97, 62] (i)).toArray⟩ : ByteArray) = S at *
      have hi2 : (i : Int) + 1 ≤ 200 := by have := HB.out; omega
      have hs2 : ¬ 9223372036854775807 < S.size + 3 := by omega
      clear hsz
      go_wp2
      go_round
      case rel => exact ⟨i + 1, by go_num, by omega, by rw [HST.out]⟩
      case measure => simp [intOf]; omega
    · obtain rfl : D = i := by omega
      clear hi hlt
      go_wp2_with fail
      go_loop [7, 9] (fun v7 v8 => ∃ i : Nat, v8 = .int .i64 (i : Int) ∧ i ≤ n ∧ v7 = .string ⟨(repT [60, 97, 62] D ++ repT [60, 98, 47, 62] (i)).toArray⟩) (fun _ v8 => n - (intOf v8).toNat)
      case atStart => exact ⟨0, rfl, Nat.zero_le _, by simp [repT]⟩
      case round =>
        obtain ⟨i, rfl, hi, rfl⟩ := hrel
        by_cases hlt : i < n
        · have hsz : (⟨(repT [60, 97, 62] D ++ repT [60, 98, 47, 62] (i)).toArray⟩ : ByteArray).size ≤ 2000 := by rw [Lib.size_eq]; simp [rep_len]; have := HB.out; omega
          have HST := hid (show (⟨(repT [60, 97, 62] D ++ repT [60, 98, 47, 62] (i)).toArray⟩ : ByteArray) ++ ⟨#[60, 98, 47, 62]⟩ = ⟨(repT [60, 97, 62] D ++ repT [60, 98, 47, 62] (i + 1)).toArray⟩ from (ba_app2 _ [60, 98, 47, 62]).trans (by first | rfl | simp [repT, List.append_assoc]))
          generalize (⟨(repT [60, 97, 62] D ++ repT [60, 98, 47, 62] (i)).toArray⟩ : ByteArray) = S at *
          have hi2 : (i : Int) + 1 ≤ 200 := by have := HB.out; omega
          have hs2 : ¬ 9223372036854775807 < S.size + 4 := by omega
          clear hsz
          go_wp2
          go_round
          case rel => exact ⟨i + 1, by go_num, by omega, by rw [HST.out]⟩
          case measure => simp [intOf]; omega
        · obtain rfl : n = i := by omega
          clear hi hlt
          go_wp2_with fail
          go_loop [7, 10] (fun v7 v8 => ∃ i : Nat, v8 = .int .i64 (i : Int) ∧ i ≤ D ∧ v7 = .string ⟨(repT [60, 97, 62] D ++ repT [60, 98, 47, 62] n ++ repT [60, 47, 97, 62] (i)).toArray⟩) (fun _ v8 => D - (intOf v8).toNat)
          case atStart => exact ⟨0, rfl, Nat.zero_le _, by simp [repT]⟩
          case round =>
            obtain ⟨i, rfl, hi, rfl⟩ := hrel
            by_cases hlt : i < D
            · have hsz : (⟨(repT [60, 97, 62] D ++ repT [60, 98, 47, 62] n ++ repT [60, 47, 97, 62] (i)).toArray⟩ : ByteArray).size ≤ 2000 := by rw [Lib.size_eq]; simp [rep_len]; have := HB.out; omega
              have HST := hid (show (⟨(repT [60, 97, 62] D ++ repT [60, 98, 47, 62] n ++ repT [60, 47, 97, 62] (i)).toArray⟩ : ByteArray) ++ ⟨#[60, 47, 97, 62]⟩ = ⟨(repT [60, 97, 62] D ++ repT [60, 98, 47, 62] n ++ repT [60, 47, 97, 62] (i + 1)).toArray⟩ from (ba_app2 _ [60, 47, 97, 62]).trans (by first | rfl | simp [repT, List.append_assoc]))
              generalize (⟨(repT [60, 97, 62] D ++ repT [60, 98, 47, 62] n ++ repT [60, 47, 97, 62] (i)).toArray⟩ : ByteArray) = S at *
              have hi2 : (i : Int) + 1 ≤ 200 := by have := HB.out; omega
              have hs2 : ¬ 9223372036854775807 < S.size + 4 := by omega
              clear hsz
              go_wp2
              go_round
              case rel => exact ⟨i + 1, by go_num, by omega, by rw [HST.out]⟩
              case measure => simp [intOf]; omega
            · obtain rfl : D = i := by omega
              clear hi hlt
              rw [dT_rep]
              have HT := hid (show dT D n = 60 :: 97 :: 62 :: (dT d n ++ endT) by rw [HDD.out]; rfl)
              have HLEN := hid (show (dT D n).length ≤ 2000 by rw [dT_len]; have := HB.out; omega)
              have HSZ := hid (show (⟨(dT D n).toArray⟩ : ByteArray).size = (dT D n).length by rw [Lib.size_eq])
              have HPL := hid (parse_d d n (by have := HB.out; have := HDD.out; omega) (by have := HB.out; omega))
              rw [← HT.out] at HPL
              clear HT
              generalize dT D n = l at *
              go_wp2_with (refine wpl_s2b rfl 9 22 5 _ rfl Tryd.underlying9 Tryd.underlying22 Tryd.underlying5 ⟨l.toArray⟩ rfl (by rw [HSZ.out]; unfold maxLen; have := HLEN.out; omega) ?_; intro g cap w2 hg hrow g2)
              have G2 := hid (gr_trans G1.out g2)
              have HP := hid (parse_q w2 _ l m hrow.bytes (G2.out.cell HM.out (by simp)) (by have := HLEN.out; omega))
              clear hrow hg g2
              have hb1 : (D : Int) ≤ 16 := by have := HB.out; omega
              have hb2 : (n : Int) ≤ 127 := by have := HB.out; omega
              by_cases hn : (0 : Int) < (n : Int)
              · by_cases h8 : (8 : Int) < (D : Int) + 1
                · have HR := hid (show parseL l = (El.zero, 20) by rw [HPL.out, if_pos (by have := HDD.out; omega)])
                  rw [HR.out] at HP
                  refine HP.out.mono ?_
                  rintro e w3 ⟨g3, v, rfl, av, kv, rfl, ⟨aa, ac, rfl, -⟩, ka, kc, rfl, -⟩
                  have G3 := hid (gr_trans G2.out g3)
                  unfold elV str El.zero
                  clear HP g3
                  go_wp2
                  go_ret
                  exact ⟨rfl, gr_alloc G3.out _⟩
                · by_cases h64 : (64 : Int) < (D : Int) + (n : Int)
                  · have HR := hid (show parseL l = (El.zero, 20) by rw [HPL.out, if_pos (by have := HDD.out; omega)])
                    rw [HR.out] at HP
                    refine HP.out.mono ?_
                    rintro e w3 ⟨g3, v, rfl, av, kv, rfl, ⟨aa, ac, rfl, -⟩, ka, kc, rfl, -⟩
                    have G3 := hid (gr_trans G2.out g3)
                    unfold elV str El.zero
                    clear HP g3
                    go_wp2
                    go_ret
                    exact ⟨rfl, gr_alloc G3.out _⟩
                  · have HR := hid (show parseL l = (elD d n (newA xmlB), 0) by rw [HPL.out, if_neg (by have := HDD.out; omega)])
                    rw [HR.out] at HP
                    have HCN := hid (show (flatE 0 (elD d n (newA xmlB))).length = D + n by
                      have := elD_flat n d 1 (newA xmlB)
                      have := HDD.out
                      simp only [flatE, List.length_cons, newA, flatF, List.length_nil, Nat.zero_add] at *
                      omega)
                    have HSZE := hid (elD_sz n d (newA xmlB))
                    refine HP.out.mono ?_
                    rintro e w3 ⟨g3, v, rfl, hel⟩
                    simp only at hel
                    generalize elD d n (newA xmlB) = E at *
                    obtain ⟨av, kv, rfl, ha, hk⟩ := hel
                    have HA := hid ha
                    have HK := hid hk
                    obtain ⟨aa, ac, rfl, -⟩ := ha
                    obtain ⟨ka, kc, rfl, -⟩ := hk
                    have G3 := hid (gr_trans G2.out g3)
                    unfold elV str
                    obtain ⟨g, hg⟩ : ∃ g, g = w3.heap.size + 1 := ⟨_, rfl⟩
                    have GA := hid (gr_alloc (gr_refl w3 none) (.cells #[.string ⟨E.s.toArray⟩, .string ⟨E.n.toArray⟩, .slice aa E.ats.length ac, .string ⟨E.tx.toArray⟩, .slice ka E.kids.len kc] 27))
                    have GB := hid (gr_alloc GA.out (.cells #[.int .i64 0] 3))
                    have NB := hid (heap_alloc_new (w3.alloc (.cells #[.string ⟨E.s.toArray⟩, .string ⟨E.n.toArray⟩, .slice aa E.ats.length ac, .string ⟨E.tx.toArray⟩, .slice ka E.kids.len kc] 27)) (.cells #[.int .i64 0] 3))
                    have HA3 := hid (HA.out.less (X' := fun b => b = g) (fun b h1 h2 => by subst h2; omega))
                    have HK3 := hid (HK.out.less (X' := fun b => b = g) (fun b h1 h2 => by subst h2; omega))
                    have HG := hid hg
                    clear HP g3 hg HA HK
                    go_wp2_with fail
                    generalize hw4 : ((w3.alloc (.cells #[.string ⟨E.s.toArray⟩, .string ⟨E.n.toArray⟩, .slice aa E.ats.length ac, .string ⟨E.tx.toArray⟩, .slice ka E.kids.len kc] 27)).alloc (.cells #[.int .i64 0] 3)) = w4 at *
                    have HGN := hid (show w4.heap[g]? = some (.cells #[.int .i64 0] 3 (0, 0)) by have := NB.out; simp only [World.size_alloc] at this; rw [HG.out]; exact this)
                    refine (all_any w4 _ _ _ _ _ _ _ _ _).mono ?_
                    rintro e' w5 ⟨rfl, h5⟩
                    have GC := hid (World.grownBy_alloc w4 (.cells #[.string ⟨E.s.toArray⟩, .string ⟨E.n.toArray⟩, .slice aa E.ats.length ac, .string ⟨E.tx.toArray⟩, .slice ka E.kids.len kc] 27) none)
                    have NC := hid (heap_alloc_new w4 (.cells #[.string ⟨E.s.toArray⟩, .string ⟨E.n.toArray⟩, .slice aa E.ats.length ac, .string ⟨E.tx.toArray⟩, .slice ka E.kids.len kc] 27))
                    rw [h5] at GC NC
                    clear h5 hw4
                    go_wp2_with fail
                    rw [← HG.out]
                    have GD := hid (gr_trans GB.out GC.out)
                    have HGL := hid (lt_of_block HGN.out)
                    have CALL := hid (all1_any 14 cf_deep #[.pointer (some ⟨g, 0, none⟩)] (fun b => b = g) E (CntJ g) (fun _ => False) (deep1_any g _ (by rw [HCN.out]; have := HB.out; omega)) (fun pre w w' h k => gr_keep k h (by simp)) w5 w4.heap.size _ _ (by have h1 := HSZE.out.1; have := HB.out; have := HDD.out; simp only [newA, Fo.sz] at h1; omega)
                      (fun b hb => by have := GC.out.size; have := HGL.out; omega) (gr_keep GC.out HGN.out (by simp)) NC.out (HA3.out.same (fun b h1 _ => GD.out.block b h1 (by simp))) (HK3.out.same (fun b h1 _ => GD.out.block b h1 (by simp))))
                    refine CALL.out.mono ?_
                    rintro e' w6 ⟨rfl, k6, hr⟩
                    have hj := hr.resolve_right (fun h => h)
                    unfold CntJ at hj
                    rw [HCN.out] at hj
                    have c6 := (cell_of_block hj 0).trans (show _ = some (Value.int .i64 ((D + n : Nat) : Int)) from rfl)
                    rw [show ((D + n : Nat) : Int) = (D : Int) + (n : Int) by omega] at c6
                    have GF := hid (((KX.of_none GD.out).trans k6).gr (fun i hi => by have := HG.out; omega))
                    clear hj hr k6 CALL
                    go_wp2
                    go_ret
                    exact ⟨rfl, gr_trans G3.out GF.out⟩
              · by_cases h8 : (8 : Int) < (D : Int)
                · have HR := hid (show parseL l = (El.zero, 20) by rw [HPL.out, if_pos (by have := HDD.out; omega)])
                  rw [HR.out] at HP
                  refine HP.out.mono ?_
                  rintro e w3 ⟨g3, v, rfl, av, kv, rfl, ⟨aa, ac, rfl, -⟩, ka, kc, rfl, -⟩
                  have G3 := hid (gr_trans G2.out g3)
                  unfold elV str El.zero
                  clear HP g3
                  go_wp2
                  go_ret
                  exact ⟨rfl, gr_alloc G3.out _⟩
                · have h64 : ¬ (64 : Int) < (D : Int) + (n : Int) := by omega
                  have HR := hid (show parseL l = (elD d n (newA xmlB), 0) by rw [HPL.out, if_neg (by have := HDD.out; omega)])
                  rw [HR.out] at HP
                  have HCN := hid (show (flatE 0 (elD d n (newA xmlB))).length = D + n by
                    have := elD_flat n d 1 (newA xmlB)
                    have := HDD.out
                    simp only [flatE, List.length_cons, newA, flatF, List.length_nil, Nat.zero_add] at *
                    omega)
                  have HSZE := hid (elD_sz n d (newA xmlB))
                  refine HP.out.mono ?_
                  rintro e w3 ⟨g3, v, rfl, hel⟩
                  simp only at hel
                  generalize elD d n (newA xmlB) = E at *
                  obtain ⟨av, kv, rfl, ha, hk⟩ := hel
                  have HA := hid ha
                  have HK := hid hk
                  obtain ⟨aa, ac, rfl, -⟩ := ha
                  obtain ⟨ka, kc, rfl, -⟩ := hk
                  have G3 := hid (gr_trans G2.out g3)
                  unfold elV str
                  obtain ⟨g, hg⟩ : ∃ g, g = w3.heap.size + 1 := ⟨_, rfl⟩
                  have GA := hid (gr_alloc (gr_refl w3 none) (.cells #[.string ⟨E.s.toArray⟩, .string ⟨E.n.toArray⟩, .slice aa E.ats.length ac, .string ⟨E.tx.toArray⟩, .slice ka E.kids.len kc] 27))
                  have GB := hid (gr_alloc GA.out (.cells #[.int .i64 0] 3))
                  have NB := hid (heap_alloc_new (w3.alloc (.cells #[.string ⟨E.s.toArray⟩, .string ⟨E.n.toArray⟩, .slice aa E.ats.length ac, .string ⟨E.tx.toArray⟩, .slice ka E.kids.len kc] 27)) (.cells #[.int .i64 0] 3))
                  have HA3 := hid (HA.out.less (X' := fun b => b = g) (fun b h1 h2 => by subst h2; omega))
                  have HK3 := hid (HK.out.less (X' := fun b => b = g) (fun b h1 h2 => by subst h2; omega))
                  have HG := hid hg
                  clear HP g3 hg HA HK
                  go_wp2_with fail
                  generalize hw4 : ((w3.alloc (.cells #[.string ⟨E.s.toArray⟩, .string ⟨E.n.toArray⟩, .slice aa E.ats.length ac, .string ⟨E.tx.toArray⟩, .slice ka E.kids.len kc] 27)).alloc (.cells #[.int .i64 0] 3)) = w4 at *
                  have HGN := hid (show w4.heap[g]? = some (.cells #[.int .i64 0] 3 (0, 0)) by have := NB.out; simp only [World.size_alloc] at this; rw [HG.out]; exact this)
                  refine (all_any w4 _ _ _ _ _ _ _ _ _).mono ?_
                  rintro e' w5 ⟨rfl, h5⟩
                  have GC := hid (World.grownBy_alloc w4 (.cells #[.string ⟨E.s.toArray⟩, .string ⟨E.n.toArray⟩, .slice aa E.ats.length ac, .string ⟨E.tx.toArray⟩, .slice ka E.kids.len kc] 27) none)
                  have NC := hid (heap_alloc_new w4 (.cells #[.string ⟨E.s.toArray⟩, .string ⟨E.n.toArray⟩, .slice aa E.ats.length ac, .string ⟨E.tx.toArray⟩, .slice ka E.kids.len kc] 27))
                  rw [h5] at GC NC
                  clear h5 hw4
                  go_wp2_with fail
                  rw [← HG.out]
                  have GD := hid (gr_trans GB.out GC.out)
                  have HGL := hid (lt_of_block HGN.out)
                  have CALL := hid (all1_any 14 cf_deep #[.pointer (some ⟨g, 0, none⟩)] (fun b => b = g) E (CntJ g) (fun _ => False) (deep1_any g _ (by rw [HCN.out]; have := HB.out; omega)) (fun pre w w' h k => gr_keep k h (by simp)) w5 w4.heap.size _ _ (by have h1 := HSZE.out.1; have := HB.out; have := HDD.out; simp only [newA, Fo.sz] at h1; omega)
                    (fun b hb => by have := GC.out.size; have := HGL.out; omega) (gr_keep GC.out HGN.out (by simp)) NC.out (HA3.out.same (fun b h1 _ => GD.out.block b h1 (by simp))) (HK3.out.same (fun b h1 _ => GD.out.block b h1 (by simp))))
                  refine CALL.out.mono ?_
                  rintro e' w6 ⟨rfl, k6, hr⟩
                  have hj := hr.resolve_right (fun h => h)
                  unfold CntJ at hj
                  rw [HCN.out] at hj
                  have c6 := (cell_of_block hj 0).trans (show _ = some (Value.int .i64 ((D + n : Nat) : Int)) from rfl)
                  rw [show ((D + n : Nat) : Int) = (D : Int) + (n : Int) by omega] at c6
                  have GF := hid (((KX.of_none GD.out).trans k6).gr (fun i hi => by have := HG.out; omega))
                  clear hj hr k6 CALL
                  go_wp2
                  go_ret
                  exact ⟨rfl, gr_trans G3.out GF.out⟩
end Go.Proofs.YtllmdlpogjjmcaaDoor
