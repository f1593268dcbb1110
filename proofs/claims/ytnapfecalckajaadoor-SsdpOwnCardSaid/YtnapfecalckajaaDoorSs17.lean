/- The walk of SsdpOwn. -/
import Derived.Test.YtnapfecalckajaaDoorSs13
import Derived.Test.YtnapfecalckajaaDoorCk2
set_option linter.unusedSimpArgs false
namespace Go.Proofs.YtnapfecalckajaaDoor
open Go.RowKit

theorem want_own (u : List UInt8) : ∀ (k : Nat) (x : List UInt8), (nmL u)[k]? = some x → wantN (nmL u) x = 1 := by
  have a0 : (rootT == ownU u) = false := by rw [beq_eq_false_iff_ne]; simp [rootT, ownU, uuT]
  have a1 : (dev1T == ownU u) = false := by rw [beq_eq_false_iff_ne]; simp [dev1T, ownU, uuT]
  have a2 : (dev2T == ownU u) = false := by rw [beq_eq_false_iff_ne]; simp [dev2T, ownU, uuT]
  have a3 : (ser1T == ownU u) = false := by rw [beq_eq_false_iff_ne]; simp [ser1T, ownU, uuT]
  have a4 : (ser2T == ownU u) = false := by rw [beq_eq_false_iff_ne]; simp [ser2T, ownU, uuT]
  have a5 : (ownU u == allT) = false := by rw [beq_eq_false_iff_ne]; simp [allT, ownU, uuT]
  have b0 : (ownU u == rootT) = false := by rw [beq_eq_false_iff_ne]; simp [rootT, ownU, uuT]
  have b1 : (ownU u == dev1T) = false := by rw [beq_eq_false_iff_ne]; simp [dev1T, ownU, uuT]
  have b2 : (ownU u == dev2T) = false := by rw [beq_eq_false_iff_ne]; simp [dev2T, ownU, uuT]
  have b3 : (ownU u == ser1T) = false := by rw [beq_eq_false_iff_ne]; simp [ser1T, ownU, uuT]
  have b4 : (ownU u == ser2T) = false := by rw [beq_eq_false_iff_ne]; simp [ser2T, ownU, uuT]
  intro k x hx
  unfold nmL at hx
  unfold wantN nmL
  match k, hx with
  | 0, hx => obtain rfl : rootT = x := by simpa using hx
             simp only [List.filter_cons, List.filter_nil, b0, show (rootT == allT) = false by decide, show (rootT == rootT) = true by decide, show (dev1T == rootT) = false by decide, show (dev2T == rootT) = false by decide, show (ser1T == rootT) = false by decide, show (ser2T == rootT) = false by decide]; rfl
  | 1, hx => obtain rfl : ownU u = x := by simpa using hx
             simp only [List.filter_cons, List.filter_nil, a0, a1, a2, a3, a4, a5, beq_self_eq_true]; rfl
  | 2, hx => obtain rfl : dev1T = x := by simpa using hx
             simp only [List.filter_cons, List.filter_nil, b1, show (dev1T == allT) = false by decide, show (rootT == dev1T) = false by decide, show (dev1T == dev1T) = true by decide, show (dev2T == dev1T) = false by decide, show (ser1T == dev1T) = false by decide, show (ser2T == dev1T) = false by decide]; rfl
  | 3, hx => obtain rfl : dev2T = x := by simpa using hx
             simp only [List.filter_cons, List.filter_nil, b2, show (dev2T == allT) = false by decide, show (rootT == dev2T) = false by decide, show (dev1T == dev2T) = false by decide, show (dev2T == dev2T) = true by decide, show (ser1T == dev2T) = false by decide, show (ser2T == dev2T) = false by decide]; rfl
  | 4, hx => obtain rfl : ser1T = x := by simpa using hx
             simp only [List.filter_cons, List.filter_nil, b3, show (ser1T == allT) = false by decide, show (rootT == ser1T) = false by decide, show (dev1T == ser1T) = false by decide, show (dev2T == ser1T) = false by decide, show (ser1T == ser1T) = true by decide, show (ser2T == ser1T) = false by decide]; rfl
  | 5, hx => obtain rfl : ser2T = x := by simpa using hx
             simp only [List.filter_cons, List.filter_nil, b4, show (ser2T == allT) = false by decide, show (rootT == ser2T) = false by decide, show (dev1T == ser2T) = false by decide, show (dev2T == ser2T) = false by decide, show (ser1T == ser2T) = false by decide, show (ser2T == ser2T) = true by decide]; rfl
  | k + 6, hx => simp at hx
theorem nm_vis (u : List UInt8) (hu : ∀ c ∈ u, 33 ≤ c.toNat ∧ c.toNat ≤ 126) : ∀ x ∈ nmL u, visL x := by
  intro x hx
  unfold nmL at hx
  simp only [List.mem_cons, List.not_mem_nil, or_false] at hx
  unfold visL
  rcases hx with rfl | rfl | rfl | rfl | rfl | rfl
  · decide
  · intro c hc
    unfold ownU at hc
    rcases List.mem_append.1 hc with h | h
    · have h9 : ∀ c ∈ uuT, 33 ≤ c.toNat ∧ c.toNat ≤ 126 := by unfold uuT; decide
      exact h9 c h
    · exact hu c h
  · decide
  · decide
  · decide
  · decide
theorem and255 (n : Int) : ∃ j : Nat, j < 6 ∧ (bits .and .i64 n 255).tmod 6 = (j : Int) := by
  have h1 : (0 : Int) ≤ (bits .and .i64 n 255).tmod 6 ∧ (bits .and .i64 n 255).tmod 6 < 6 := by
    rw [i64_and255, Int.tmod_eq_emod_of_nonneg (by omega)]; omega
  exact ⟨((bits .and .i64 n 255).tmod 6).toNat, by omega, by omega⟩
def SoI (t : List UInt8) (v9 : Value) : Prop := ∃ k : Nat, k ≤ t.length ∧ v9 = .int .i64 (k : Int) ∧ ∀ c ∈ t.take k, 33 ≤ c.toNat ∧ c.toNat ≤ 126
def SoJ (N : List (List UInt8)) (t : List UInt8) (v13 v63 : Value) : Prop := ∃ k : Nat, k ≤ 6 ∧ v63 = .int .i64 (k : Int) ∧ v13 = .int .i64 (((N.take k).filter fun x => x == t || t == allT).length : Int)
set_option maxRecDepth 100000 in
set_option maxHeartbeats 8000000 in
theorem ssdp_own_walk (cs : Array Value) (x : Cfv) (s : ByteArray) (which : Int) (m : Int) (w : World) (hc : CfAll cs x) (hf : FwAt w x.fa x.fl) (hu : x.u.length ≤ 9223372036854775807) (hs : s.size ≤ 9223372036854775807) (hm : w.cell? ⟨0, 0, none⟩ = some (.int .i64 m)) (h10 : P10 w) :
    Calls Tryd.prog 4 #[.agg cs, .string s, .int .i64 which] w fun e w' => e = .returned (.bool true) ∧ w.grownBy w' none := by
  obtain ⟨t, ht⟩ : ∃ t, s.data.toList = t := ⟨_, rfl⟩
  have hlen : s.size = t.length := by rw [← ht, ← Lib.size_eq]
  have HSTR := hid (show ∀ k (h : k < s.size), s[k]'h = t.getD k 0 by rw [← ht]; exact strAt s)
  have hse : s = ⟨t.toArray⟩ := by rw [← ht]
  have HSE0 := hid hse
  have HC := hid hc
  have HF := hid hf
  have HM := hid hm
  have H10 := hid h10
  have HU0 := hid hu
  have HLEN := hid hlen
  have HSZ28 := hid (show (Tryd.prog.info? 28).map (·.size) = some cs.size by rw [hc.sz]; kernel_rfl)
  obtain ⟨j, hj, hje⟩ := and255 which
  have HJ := hid hj
  have HJE := hid hje
  clear ht hc hf hm h10 hu hse hj hje hlen
  go_enter Tryd.func4, Tryd.ntmps4
  go_wp2_with fail
  have hc0 := heap_alloc_new w (.cells cs 28)
  have g1 := World.grownBy_alloc w (.cells cs 28) none
  obtain ⟨w1, hw1⟩ : ∃ x, w.alloc (.cells cs 28) = x := ⟨_, rfl⟩
  rw [hw1] at hc0 g1 ⊢
  obtain ⟨bc, hbc⟩ : ∃ x, x = w.heap.size := ⟨_, rfl⟩
  rw [← hbc] at hc0 ⊢
  clear hw1 hbc
  refine (sspeaks_true m w1 (hid (g1.cell HM.out (by simp))) (hid (H10.out.grown g1))).mono ?_
  rintro e w2 ⟨rfl, g2⟩
  have HH2 := hid (gr_keep g2 hc0 (by simp))
  have G2 := hid (gr_trans g1 g2)
  clear hc0 g1 g2
  go_wp2_with (refine wpList_load_row rfl 28 _ rfl bc rfl 28 cs (0, 0) _ HH2.out Tryd.underlying28 rfl HSZ28.out ?_)
  refine (check_any cs x w2 HC.out (HF.out.grow G2.out) HU0.out).mono ?_
  rintro e w3 ⟨r, rfl, hr, g3⟩
  have HR := hid hr
  have HH3 := hid (gr_keep g3 HH2.out (by simp))
  have G3 := hid (gr_trans G2.out g3)
  clear hr g3 HH2 G2
  by_cases hr0 : r = 0
  · subst hr0
    obtain ⟨hu36, huv⟩ := HR.out rfl
    have HUL := hid (show x.u.length ≤ 300 by omega)
    have HVIS := hid (nm_vis x.u huv)
    clear hu36 huv HR
    by_cases hbig : s.size ≤ 300
    · have hbi : (s.size : Int) ≤ 300 := by omega
      go_wp2_with (refine wpList_load_row rfl 28 _ rfl bc rfl 28 cs (0, 0) _ HH3.out Tryd.underlying28 rfl HSZ28.out ?_)
      refine (rnames_any cs x.lan x.u w3 HC.out.ok HUL.out).mono ?_
      rintro e w4 ⟨ga, vb, rfl, hga, hvb, g4, -⟩
      have HGA := hid hga
      have HH4 := hid (gr_keep g4 HH3.out (by simp))
      have G4 := hid (gr_trans G3.out g4)
      clear hga hvb g4 HH3 G3
      go_wp2_with fail
      go_loop [9] (fun v9 => SoI t v9) (fun v9 => t.length - (intOf v9).toNat)
      case atStart => exact ⟨0, Nat.zero_le _, rfl, fun c h => by simp at h⟩
      case round =>
        obtain ⟨k, hk, rfl, hv⟩ := hrel
        have HV := hid hv
        have hl1 : s.size ≤ t.length := by rw [HLEN.out]; exact Nat.le_refl _
        have hl2 : t.length ≤ s.size := by rw [HLEN.out]; exact Nat.le_refl _
        clear hv
        by_cases hlt : k < t.length
        · have hc : s[k]'(by omega) = t.getD k 0 := HSTR.out k (by omega)
          have HNX := hid (fun h => uu_next HV.out hlt h)
          obtain ⟨c, hcd⟩ : ∃ c, c = t.getD k 0 := ⟨_, rfl⟩
          rw [← hcd] at hc HNX
          clear hcd
          have hsk : (k : Int) < (s.size : Int) := by omega
          by_cases h1 : (c.toNat : Int) < 33
          · go_wp2
            go_ret
            exact ⟨rfl, G4.out⟩
          · by_cases h2 : (126 : Int) < (c.toNat : Int)
            · go_wp2
              go_ret
              exact ⟨rfl, G4.out⟩
            · go_wp2
              go_round
              case rel => exact ⟨k + 1, by omega, by go_num, HNX.out (by omega)⟩
              case measure => simp [intOf]; omega
        · obtain rfl : k = t.length := by omega
          have HVT := hid (show visL t from fun c hc => HV.out c (by rw [List.take_length]; exact hc))
          have hsk : ¬ (t.length : Int) < (s.size : Int) := by omega
          have HTL := hid (show t.length ≤ 300 by omega)
          clear HV
          have hje := HJE.out
          have hj6 : (j : Int) < 6 := by have := HJ.out; omega
          obtain ⟨n, hn⟩ : ∃ n, (nmL x.u)[j]? = some n := ⟨_, List.getElem?_eq_getElem (show j < (nmL x.u).length from HJ.out)⟩
          have hcell : w4.cell? ⟨ga, j, none⟩ = some (.string ⟨n.toArray⟩) := (cell_of_block HGA.out j).trans (by simp [hn]; rfl)
          have HNV := hid (HVIS.out n (List.mem_of_getElem? hn))
          have HNW := hid (want_own x.u j n hn)
          have HNL := hid (nmL_len HUL.out n (List.mem_of_getElem? hn))
          clear hn
          have HSEt := hid (fun (W : World) (v : Value) (hb : Bytes W v (askT t)) (g : w.grownBy W none) => search_cnt cs x.lan x.u t v m W hb HVT.out (by have := HTL.out; omega) HC.out.ok HUL.out (g.cell HM.out (by simp)) (H10.out.grown g))
          have HSEn := hid (fun (W : World) (v : Value) (hb : Bytes W v (askT n)) (g : w.grownBy W none) => search_cnt cs x.lan x.u n v m W hb HNV.out (by have := HNL.out; omega) HC.out.ok HUL.out (g.cell HM.out (by simp)) (H10.out.grown g))
          have HASa := hid (fun W => ask_any ⟨n.toArray⟩ W (by rw [Lib.size_eq]; show n.length ≤ 9000; have := HNL.out; omega))
          have HASb := hid (fun W => ask_any ⟨t.toArray⟩ W (by rw [Lib.size_eq]; show t.length ≤ 9000; have := HTL.out; omega))
          have HSEa := hid (fun (W : World) (v : Value) (hb : Bytes W v (askT n)) (g : w4.grownBy W none) => HSEn.out W v hb (gr_trans G4.out g))
          rw [HNW.out] at HSEa
          obtain ⟨cnt, hcnt⟩ : ∃ c, wantN (nmL x.u) t = c := ⟨_, rfl⟩
          rw [hcnt] at HSEt
          have HCNT := hid hcnt
          have HNN6 := hid (show (nmL x.u).length = 6 from rfl)
          obtain ⟨N, hN⟩ : ∃ N, nmL x.u = N := ⟨_, rfl⟩
          rw [hN] at HGA HCNT HNN6
          clear hcnt hN HSEn
          go_wp2_with fail
          clear hcell hje hj6 hsk hl1 hl2 hbi
          rw [HSE0.out]
          refine wp_region_spec2 (by kernel_rfl) (by kernel_rfl) (n := 5) (by kernel_rfl) [some 53, some 54, some 55, some 56, some 11] (by kernel_rfl) _ (fun u => (by simp only [fill, List.zipIdx_cons, List.zipIdx_nil, List.foldl_cons, List.foldl_nil, Act.put, List.setIfInBounds_toArray, List.set_cons_zero, List.set_cons_succ, Nat.zero_add, Nat.reduceAdd]; exact rfl)) (by kernel_rfl)
            (all_succ (all_succ (all_succ (all_succ (all_succ (all_zero _) (fun u v => by kernel_rfl)) (fun u v => by kernel_rfl)) (fun u v => by kernel_rfl)) (fun u v => by kernel_rfl)) (fun u v => by kernel_rfl))
            (fun ri v w => match ri with | 0 => v = .agg cs | 1 => v = .string ⟨n.toArray⟩ | 2 => TxV (askT n) v w | 3 => LnV (1) v | 4 => LnV (1) v | _ => True)
            (all_succ (all_succ (all_succ (all_succ (all_succ (all_zero _) ?am0) ?am1) ?am2) ?am3) ?am4)
            [[], [], [1], [0, 2], [3]] (by kernel_rfl)
            ⟨?ao0, ?ao1, ?ao2, ?ao3, ?ao4, trivial⟩ ?adone
          case am0 => intro v w w' h g; first | exact h | exact TxV.kept h g
          case am1 => intro v w w' h g; first | exact h | exact TxV.kept h g
          case am2 => intro v w w' h g; first | exact h | exact TxV.kept h g
          case am3 => intro v w w' h g; first | exact h | exact TxV.kept h g
          case am4 => intro v w w' h g; first | exact h | exact TxV.kept h g
          case ao0 =>
            intro u w g hd K hK
            clear hd
            simp only [Act.put, List.setIfInBounds_toArray, List.set_cons_zero, List.set_cons_succ] at hK
            split
            rotate_left
            · rename_i hno; exact absurd rfl hno
            refine wp_load_row 28 (.tmp 3) rfl bc (by rfl) 28 cs (0, 0) _ (gr_keep g HH4.out (by simp)) Tryd.underlying28 rfl HSZ28.out ?_
            exact hK _ _ rfl (gr_refl _ _)
          case ao1 =>
            intro u w g hd K hK
            clear hd
            simp only [Act.put, List.setIfInBounds_toArray, List.set_cons_zero, List.set_cons_succ] at hK
            go_simp
            exact hK _ _ rfl (gr_refl _ _)
          case ao2 =>
            intro u w g hd K hK
            have h1 : (u 1) = .string ⟨n.toArray⟩ := hd 1 (by simp)
            clear hd
            simp only [Act.put, List.setIfInBounds_toArray, List.set_cons_zero, List.set_cons_succ] at hK
            simp only [h1] at hK ⊢
            go_simp
            refine (HASa.out w).mono ?_
            rintro e w' ⟨g8, c8, rfl, r8, hg8, g'⟩
            exact hK _ w' ⟨g8, c8, rfl, r8⟩ g'
          case ao3 =>
            intro u w g hd K hK
            have h0 : (u 0) = .agg cs := hd 0 (by simp)
            have h2 : TxV (askT n) (u 2) w := hd 2 (by simp)
            clear hd
            simp only [Act.put, List.setIfInBounds_toArray, List.set_cons_zero, List.set_cons_succ] at hK
            obtain ⟨g8, c8, e2, r8⟩ := h2
            simp only [h0, e2] at hK ⊢
            go_simp
            refine (HSEa.out w _ r8.bytes g).mono ?_
            rintro e w' ⟨a, c, rfl, g'⟩
            exact hK _ w' ⟨a, c, rfl⟩ g'
          case ao4 =>
            intro u w g hd K hK
            have h3 : LnV (1) (u 3) := hd 3 (by simp)
            clear hd
            simp only [Act.put, List.setIfInBounds_toArray, List.set_cons_zero, List.set_cons_succ] at hK
            obtain ⟨a, c, e3⟩ := h3
            simp only [e3] at hK ⊢
            go_simp
            exact hK _ _ ⟨a, c, rfl⟩ (gr_refl _ _)
          case adone =>
            intro u w hS g
            have s0 : (u 0) = .agg cs := hS 0 (by decide)
            have s1 : (u 1) = .string ⟨n.toArray⟩ := hS 1 (by decide)
            have s2 : TxV (askT n) (u 2) w := hS 2 (by decide)
            have s3 : LnV (1) (u 3) := hS 3 (by decide)
            have s4 : LnV (1) (u 4) := hS 4 (by decide)
            clear hS
            have HS4a := hid s4
            have G12 := hid (gr_trans G4.out g)
            have HH12 := hid (gr_keep g HH4.out (by simp))
            have HGA12 := hid (gr_keep g HGA.out (by simp))
            clear s0 s1 s2 s3 s4 g
            generalize u 0 = z0, u 1 = z1, u 2 = z2, u 3 = z3
            obtain ⟨a1, a2, ea⟩ := HS4a.out
            rw [ea]
            clear ea
            have HSEb := hid (fun W v hb g => HSEt.out W v hb (gr_trans G12.out g))
            go_wp2_with fail
            refine wp_region_spec2 (by kernel_rfl) (by kernel_rfl) (n := 5) (by kernel_rfl) [some 57, some 58, some 59, some 60, some 12] (by kernel_rfl) _ (fun u => (by simp only [fill, List.zipIdx_cons, List.zipIdx_nil, List.foldl_cons, List.foldl_nil, Act.put, List.setIfInBounds_toArray, List.set_cons_zero, List.set_cons_succ, Nat.zero_add, Nat.reduceAdd]; exact rfl)) (by kernel_rfl)
              (all_succ (all_succ (all_succ (all_succ (all_succ (all_zero _) (fun u v => by kernel_rfl)) (fun u v => by kernel_rfl)) (fun u v => by kernel_rfl)) (fun u v => by kernel_rfl)) (fun u v => by kernel_rfl))
              (fun ri v w => match ri with | 0 => v = .agg cs | 1 => v = .string ⟨t.toArray⟩ | 2 => TxV (askT t) v w | 3 => LnV (cnt) v | 4 => LnV (cnt) v | _ => True)
              (all_succ (all_succ (all_succ (all_succ (all_succ (all_zero _) ?bm0) ?bm1) ?bm2) ?bm3) ?bm4)
              [[], [], [1], [0, 2], [3]] (by kernel_rfl)
              ⟨?bo0, ?bo1, ?bo2, ?bo3, ?bo4, trivial⟩ ?bdone
            case bm0 => intro v w w' h g; first | exact h | exact TxV.kept h g
            case bm1 => intro v w w' h g; first | exact h | exact TxV.kept h g
            case bm2 => intro v w w' h g; first | exact h | exact TxV.kept h g
            case bm3 => intro v w w' h g; first | exact h | exact TxV.kept h g
            case bm4 => intro v w w' h g; first | exact h | exact TxV.kept h g
            case bo0 =>
              intro u w g hd K hK
              clear hd
              simp only [Act.put, List.setIfInBounds_toArray, List.set_cons_zero, List.set_cons_succ] at hK
              split
              rotate_left
              · rename_i hno; exact absurd rfl hno
              refine wp_load_row 28 (.tmp 3) rfl bc (by rfl) 28 cs (0, 0) _ (gr_keep g HH12.out (by simp)) Tryd.underlying28 rfl HSZ28.out ?_
              exact hK _ _ rfl (gr_refl _ _)
            case bo1 =>
              intro u w g hd K hK
              clear hd
              simp only [Act.put, List.setIfInBounds_toArray, List.set_cons_zero, List.set_cons_succ] at hK
              go_simp
              exact hK _ _ rfl (gr_refl _ _)
            case bo2 =>
              intro u w g hd K hK
              have h1 : (u 1) = .string ⟨t.toArray⟩ := hd 1 (by simp)
              clear hd
              simp only [Act.put, List.setIfInBounds_toArray, List.set_cons_zero, List.set_cons_succ] at hK
              simp only [h1] at hK ⊢
              go_simp
              refine (HASb.out w).mono ?_
              rintro e w' ⟨g8, c8, rfl, r8, hg8, g'⟩
              exact hK _ w' ⟨g8, c8, rfl, r8⟩ g'
            case bo3 =>
              intro u w g hd K hK
              have h0 : (u 0) = .agg cs := hd 0 (by simp)
              have h2 : TxV (askT t) (u 2) w := hd 2 (by simp)
              clear hd
              simp only [Act.put, List.setIfInBounds_toArray, List.set_cons_zero, List.set_cons_succ] at hK
              obtain ⟨g8, c8, e2, r8⟩ := h2
              simp only [h0, e2] at hK ⊢
              go_simp
              refine (HSEb.out w _ r8.bytes g).mono ?_
              rintro e w' ⟨a, c, rfl, g'⟩
              exact hK _ w' ⟨a, c, rfl⟩ g'
            case bo4 =>
              intro u w g hd K hK
              have h3 : LnV (cnt) (u 3) := hd 3 (by simp)
              clear hd
              simp only [Act.put, List.setIfInBounds_toArray, List.set_cons_zero, List.set_cons_succ] at hK
              obtain ⟨a, c, e3⟩ := h3
              simp only [e3] at hK ⊢
              go_simp
              exact hK _ _ ⟨a, c, rfl⟩ (gr_refl _ _)
            case bdone =>
              intro u w hS g
              have s0 : (u 0) = .agg cs := hS 0 (by decide)
              have s1 : (u 1) = .string ⟨t.toArray⟩ := hS 1 (by decide)
              have s2 : TxV (askT t) (u 2) w := hS 2 (by decide)
              have s3 : LnV (cnt) (u 3) := hS 3 (by decide)
              have s4 : LnV (cnt) (u 4) := hS 4 (by decide)
              clear hS
              have HS4 := hid s4
              have G13 := hid (gr_trans G12.out g)
              have HGA13 := hid (gr_keep g HGA12.out (by simp))
              clear s0 s1 s2 s3 s4 g
              generalize u 0 = y0, u 1 = y1, u 2 = y2, u 3 = y3
              obtain ⟨b1, b2, eb⟩ := HS4.out
              rw [eb]
              clear eb
              go_wp2_with fail
              go_loop [13, 63] (fun v13 v63 => SoJ N t v13 v63) (fun _ v63 => 6 - (intOf v63).toNat)
              case atStart => exact ⟨0, by omega, rfl, rfl⟩
              case round =>
                obtain ⟨k, hk, rfl, rfl⟩ := hrel
                by_cases hlt : k < 6
                · obtain ⟨y, hy⟩ : ∃ y, N[k]? = some y := ⟨_, List.getElem?_eq_getElem (by rw [HNN6.out]; exact hlt)⟩
                  have hcy : w.cell? ⟨ga, k, none⟩ = some (.string ⟨y.toArray⟩) := (cell_of_block HGA13.out k).trans (by simp [hy]; rfl)
                  have HTK := hid (show N.take (k + 1) = N.take k ++ [y] by rw [List.take_add_one, hy]; rfl)
                  have hcl : ((N.take k).filter fun x => x == t || t == allT).length ≤ 6 := Nat.le_trans (List.length_filter_le _ _) (by rw [List.length_take]; omega)
                  obtain ⟨c0, hc0⟩ : ∃ c0, c0 = ((N.take k).filter fun x => x == t || t == allT).length := ⟨_, rfl⟩
                  rw [← hc0] at hcl ⊢
                  have HC0 := hid hc0
                  clear hc0 hy
                  by_cases h1 : (y == t) = true
                  · have HF := hid (show ((N.take (k + 1)).filter fun x => x == t || t == allT).length = c0 + 1 by rw [HTK.out, List.filter_append, List.filter_cons_of_pos (by simp [h1]), List.length_append, ← HC0.out]; rfl)
                    go_wp2
                    go_round
                    case rel => exact ⟨k + 1, by omega, by go_num, by rw [HF.out]; go_num⟩
                    case measure => simp [intOf]; omega
                  · have h1' : (y == t) = false := by simpa using h1
                    by_cases h2 : (t == [115, 115, 100, 112, 58, 97, 108, 108]) = true
                    · have HF := hid (show ((N.take (k + 1)).filter fun x => x == t || t == allT).length = c0 + 1 by rw [HTK.out, List.filter_append, List.filter_cons_of_pos (by rw [h1']; exact h2), List.length_append, ← HC0.out]; rfl)
                      clear h1
                      go_wp2
                      go_round
                      case rel => exact ⟨k + 1, by omega, by go_num, by rw [HF.out]; go_num⟩
                      case measure => simp [intOf]; omega
                    · have h2' : (t == [115, 115, 100, 112, 58, 97, 108, 108]) = false := by simpa using h2
                      have HF := hid (show ((N.take (k + 1)).filter fun x => x == t || t == allT).length = c0 by rw [HTK.out, List.filter_append, List.filter_cons_of_neg (by rw [h1']; exact h2), List.length_append, ← HC0.out]; rfl)
                      clear h1 h2
                      go_wp2
                      go_round
                      case rel => exact ⟨k + 1, by omega, by go_num, by rw [HF.out]⟩
                      case measure => simp [intOf]; omega
                · obtain rfl : k = 6 := by omega
                  have HT6 := hid (show ((N.take 6).filter fun x => x == t || t == allT).length = cnt by rw [List.take_of_length_le (by rw [HNN6.out]; exact Nat.le_refl _)]; exact HCNT.out)
                  rw [HT6.out]
                  go_wp2
                  go_ret
                  exact ⟨by first | rfl | simp, G13.out⟩
    · have hbi : ¬ (s.size : Int) ≤ 300 := by omega
      go_wp2
      go_ret
      exact ⟨rfl, G3.out⟩
  · have hr1 : (r != 0) = true := by simpa using hr0
    clear hr0
    go_wp2
    go_ret
    exact ⟨rfl, G3.out⟩
end Go.Proofs.YtnapfecalckajaaDoor
