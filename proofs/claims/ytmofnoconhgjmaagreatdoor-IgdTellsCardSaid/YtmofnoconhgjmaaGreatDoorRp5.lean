/- (*strings.byteStringReplacer).Replace: the walk. -/
import Derived.Test.YtmofnoconhgjmaaGreatDoorRp4
import Derived.Test.YtmofnoconhgjmaaGreatDoorShelf
import Derived.Deep.RegionLaw
import Derived.Laws.CopyOwn
import Derived.Deep.DeepCutAuto
namespace Go.Proofs.YtmofnoconhgjmaaGreatDoor
open Go.RowKit
set_option linter.unusedVariables false
set_option linter.unusedSimpArgs false

theorem infoU8 : (Tryz.prog.info? 5).map (fun i => (i.zero, i.size, i.bytes)) = some (some (.int .u8 0), 1, 1) := by kernel_rfl
theorem take_set1 (l : List Value) (j : Nat) (v : Value) (h : j < l.length) : (l.set j v).take (j + 1) = l.take j ++ [v] := by
  rw [List.take_add_one, List.take_set_of_le (Nat.le_refl _), List.getElem?_set_self h]
  rfl
theorem take_splice (l : List Value) (j n : Nat) {cs : List Value} (h : j ≤ l.length) (hn : cs.length = n) : (splice l j cs).take (j + n) = l.take j ++ cs := by
  unfold splice
  rw [← List.append_assoc, List.take_append_of_le_length (by simp; omega), List.take_of_length_le (by simp; omega)]
/-- How great it is, and whether anything becomes something else. -/
def SzAt (prs : Prs) (s : List UInt8) (v5 v6 : Value) : Prop := v5 = .int .i64 ((repL prs s).length : Int) ∧ v6 = .bool (s.any (hitC prs))
set_option maxRecDepth 100000 in
set_option maxHeartbeats 8000000 in
theorem bs_replace (w : World) (rb base : Nat) (prs : Prs) (s : List UInt8) (cs : Array Value) (tv : Value) (hB : w.heap[rb]? = some (.cells cs 358 (0, 0))) (hC : BsC w cs prs) (ht : cs[256]? = some tv) (hown : w.ownsRow base 9 1 tv prs.length (keyV prs))
    (hnd : (prs.map (·.1)).Nodup) (hl : ∀ x ∈ prs, 2 ≤ x.2.length ∧ x.2.length ≤ 1000) (hm : prs.length ≤ 100) (hs : s.length ≤ 100000) :
    Calls Tryz.prog 372 #[.pointer (some ⟨rb, 0, none⟩), .string ⟨s.toArray⟩] w fun e w' => e = .returned (.string ⟨(repL prs s).toArray⟩) ∧ w.grownBy w' none := by
  have HL2 := hid (fun x hx => (hl x hx).1 : ∀ x ∈ prs, 2 ≤ x.2.length)
  have HSZ := hid (szK_szB prs s hnd HL2.out)
  have HRL := hid (repL_len prs s HL2.out)
  have HAT := hid (hC.at hnd)
  have c256 : w.cell? ⟨rb, 256, none⟩ = some tv := (cell_of_block hB 256).trans ht
  have HB := hid hB
  have hss : (⟨s.toArray⟩ : ByteArray).size = s.length := by rw [Lib.size_eq]
  have HSS := hid hss
  have hs1 : (⟨s.toArray⟩ : ByteArray).size ≤ 100000 := by rw [hss]; exact hs
  have HS := hid hs
  have HM := hid hm
  obtain ⟨m, hmm⟩ : ∃ m, m = prs.length := ⟨_, rfl⟩
  have HMM := hid hmm
  rw [← hmm] at hown hm
  have HOWN := hid hown
  have HL := hid hl
  obtain ⟨ta, tc, rfl⟩ := own_shapeG hown
  clear hC ht hown hB hss hs hl hmm
  obtain ⟨S, hS⟩ : ∃ S, S = (⟨s.toArray⟩ : ByteArray) := ⟨_, rfl⟩
  rw [← hS] at HSS hs1 ⊢
  have HS' := hid hS
  clear hS
  go_enter Tryz.func372, Tryz.ntmps372
  go_upto_if 26 with fail
  go_cut [5, 6] from 8 to 80 (fun v5 v6 wc => SzAt prs s v5 v6 ∧ w.grownBy wc none)
  case first =>
    by_cases h8 : (m : Int) * 8 ≤ (S.size : Int)
    · rw [decide_eq_true h8]
      clear h8
      go_wp2_with fail
      go_loopw [5, 6, 32] (fun v5 v6 v32 wr => ∃ (i q : Nat) (b : Bool), i ≤ m ∧ v32 = .int .i64 (i : Int) ∧ v5 = .int .i64 (q : Int) ∧ Hid (q = s.length + szK s (prs.reverse.take i)) ∧ v6 = .bool b ∧ Hid (b = (prs.reverse.take i).any fun x => decide (Lib.countByte s x.1 ≠ 0)) ∧ w.grownBy wr none) (fun _ _ v32 _ => m - (intOf v32).toNat)
      case atStart => exact ⟨0, s.length, false, Nat.zero_le _, rfl, by rw [HSS.out], hid (by simp [szK]), rfl, hid rfl, gr_refl _ _⟩
      case round =>
        obtain ⟨i, q, b, hi, rfl, rfl, h5, rfl, h6, g⟩ := hrel
        have hq : q ≤ 200000000 := by have h1 := h5.out; have h2 := szK_take s prs.reverse i; have h3 := szK_rev s prs; have h4 := HSZ.out; have h5 := szB_le prs s HL.out; have h6 := HS.out; omega
        have HG := hid g
        by_cases hlt : i < m
        · have hirl : i < prs.reverse.length := by rw [List.length_reverse, ← HMM.out]; exact hlt
          obtain ⟨x, hx⟩ : ∃ x, prs.reverse[i]? = some x := ⟨_, List.getElem?_eq_getElem hirl⟩
          have HTK := hid (show prs.reverse.take (i + 1) = prs.reverse.take i ++ [x] by rw [List.take_add_one, hx]; rfl)
          have hxm : x ∈ prs := List.mem_reverse.1 (List.mem_of_getElem? hx)
          have HXL := hid (HL.out x hxm)
          have HRP := hid (rpC_hit hnd hxm)
          obtain ⟨tg, hta, hcell⟩ : ∃ tg, ta = some ⟨tg, 0, none⟩ ∧ wr.cell? ⟨tg, i, none⟩ = some (.string ⟨#[x.1]⟩) := by
            rcases HOWN.out.2 with ⟨-, h0⟩ | ⟨tg, cap, cur, e, hb, hh, hc, hmx, hsz, htk⟩
            · omega
            · simp only [Value.slice.injEq] at e
              obtain ⟨rfl, -, rfl⟩ := e
              refine ⟨tg, rfl, g.cell ?_ (by simp)⟩
              have := HOWN.out.cells (g := tg) rfl i (.string ⟨#[x.1]⟩) (by unfold keyV; rw [List.getElem?_map, hx]; rfl)
              rw [Go.WideShapes.add_plain, Nat.zero_add] at this
              exact this
          subst hta
          have CNT := hid (fun W => Tryz.strings_Count_one S x.1 W)
          rw [HS'.out, show (⟨s.toArray⟩ : ByteArray).data.toList = s from rfl, ← HS'.out] at CNT
          have hkl : Lib.countByte s x.1 ≤ s.length := List.count_le_length
          obtain ⟨k, hk⟩ : ∃ k, k = Lib.countByte s x.1 := ⟨_, rfl⟩
          rw [← hk] at CNT hkl
          have HK := hid hk
          have hi0 : (0 : Int) ≤ (i : Int) := by omega
          have hi1 : (i : Int) < (m : Int) := by omega
          have hi2 : (i : Int) + 1 ≤ 101 := by omega
          clear hx hk
          by_cases hk0 : k = 0
          · have hk1 : ((k : Int) != 0) = false := by simp [hk0]
            have H5' := hid (show s.length + szK s (prs.reverse.take (i + 1)) = s.length + szK s (prs.reverse.take i) by rw [HTK.out, szK_app]; simp only [szK]; rw [← HK.out, hk0]; omega)
            have H6' := hid (show ((prs.reverse.take (i + 1)).any fun x => decide (Lib.countByte s x.1 ≠ 0)) = ((prs.reverse.take i).any fun x => decide (Lib.countByte s x.1 ≠ 0)) by rw [HTK.out, List.any_append]; simp [← HK.out, hk0])
            clear hk0
            go_wp2_with fail
            refine (CNT.out wr).mono ?_
            rintro e w' ⟨rfl, rfl⟩
            go_wp2_with fail
            go_roundw
            case rel => exact ⟨i + 1, q, b, by omega, by go_num, rfl, hid (h5.out.trans H5'.out.symm), rfl, hid (h6.out.trans H6'.out.symm), HG.out⟩
            case measure => simp [intOf]; omega
          · have hk1 : ((k : Int) != 0) = true := by simpa using hk0
            clear hk0
            go_wp2_with fail
            refine (CNT.out wr).mono ?_
            rintro e w' ⟨rfl, rfl⟩
            go_wp2_with fail
            rcases HAT.out x.1 with ⟨h0, -⟩ | ⟨-, -, gx, cx, hcx, hrow⟩
            · rw [HRP.out.2] at h0; cases h0
            rw [HRP.out.1] at hcx
            have hcx' : w'.cell? ⟨rb, x.1.toNat, none⟩ = some (.slice (some ⟨gx, 0, none⟩) x.2.length cx) := HG.out.cell ((cell_of_block HB.out _).trans hcx) (by simp)
            obtain ⟨n, hn⟩ : ∃ n, x.2.length = n + 1 := ⟨x.2.length - 1, by have := HXL.out; omega⟩
            have HN := hid hn
            rw [hn] at hcx'
            have hix : (⟨#[x.1]⟩ : ByteArray)[0]'(by show 0 < 1; decide) = x.1 := rfl
            have hxr : (x.1.toNat : Int) < 256 := by have := x.1.toNat_lt; omega
            have hn1 : n ≤ 1000 := by have := HXL.out; omega
            obtain ⟨p, hp⟩ : ∃ p, p = k * n := ⟨_, rfl⟩
            have HP := hid hp
            have hpb : p ≤ 200000000 := by rw [hp]; exact Nat.le_trans (Nat.mul_le_mul (Nat.le_trans hkl HS.out) hn1) (by decide)
            have hw1 : IntKind.i64.wrap (((n + 1 : Nat) : Int) - 1) = (n : Int) := by rw [IntKind.wrap_i64]; omega
            have hw2 : IntKind.i64.wrap ((k : Int) * (n : Int)) = (p : Int) := by rw [IntKind.wrap_i64, hp, ← Int.natCast_mul]; omega
            have hw3 : IntKind.i64.wrap ((q : Int) + (p : Int)) = ((q + p : Nat) : Int) := by rw [IntKind.wrap_i64]; omega
            have H5' := hid (show q + p = s.length + szK s (prs.reverse.take (i + 1)) by
              rw [HTK.out, szK_app, h5.out]; simp only [szK]; rw [← HK.out, HN.out, HP.out]; simp; omega)
            have H6' := hid (show true = ((prs.reverse.take (i + 1)).any fun x => decide (Lib.countByte s x.1 ≠ 0)) by
              rw [HTK.out, List.any_append]; simp only [List.any_cons, List.any_nil, Bool.or_false]; rw [← HK.out]; simp at hk1; simp [hk1])
            clear hcx hrow hn hp h5
            go_quiet (fail)
            have HG2 := hid (gr_drewN nq HG.out)
            clear hw1 hw2 hw3 hcx' hcell hix
            go_wp2_with fail
            go_roundw
            case rel => exact ⟨i + 1, q + p, true, by omega, by go_num, by go_num, H5', rfl, H6', HG2.out⟩
            case measure => simp [intOf]; omega
        · obtain rfl : m = i := by omega
          have hT : prs.reverse.take m = prs.reverse := List.take_of_length_le (by rw [List.length_reverse, HMM.out]; exact Nat.le_refl _)
          have HF := hid (show SzAt prs s (.int .i64 (q : Int)) (.bool b) from ⟨by rw [h5.out, hT, szK_rev, HRL.out, HSZ.out], by
            rw [h6.out, hT, List.any_reverse, any_count]⟩)
          clear h5 h6 hT hi hlt hq
          go_wp2_with fail
          go_meet
          exact ⟨HF.out, HG.out⟩
    · rw [decide_eq_false h8]
      clear h8
      go_wp2_with fail
      go_loop [5, 6, 10] (fun v5 v6 v10 => ∃ (i q : Nat) (b : Bool), i ≤ s.length ∧ v10 = .int .i64 (i : Int) ∧ v5 = .int .i64 (q : Int) ∧ Hid (q = s.length + szB prs (s.take i)) ∧ v6 = .bool b ∧ Hid (b = (s.take i).any (hitC prs))) (fun _ _ v10 => s.length - (intOf v10).toNat)
      case atStart => exact ⟨0, s.length, false, Nat.zero_le _, rfl, by rw [HSS.out], hid (by simp [szB]), rfl, hid rfl⟩
      case round =>
        obtain ⟨i, q, b, hi, rfl, rfl, h5, rfl, h6⟩ := hrel
        have hq : q ≤ 200000000 := by have h1 := h5.out; have h2 := szB_take_le prs s i; have h5 := szB_le prs s HL.out; have h6 := HS.out; omega
        by_cases hlt : i < s.length
        · obtain ⟨c, hc⟩ : ∃ c, s[i]? = some c := ⟨_, List.getElem?_eq_getElem hlt⟩
          have hSi : i < S.size := by rw [HSS.out]; exact hlt
          have hsc : S[i]'hSi = c := by
            have h1 := HS'.out
            subst h1
            rw [List.getElem?_eq_getElem hlt] at hc
            exact Option.some.inj hc
          have HT5 := hid (szB_take prs s i c hc)
          have HT6 := hid (show (s.take (i + 1)).any (hitC prs) = ((s.take i).any (hitC prs) || hitC prs c) by rw [List.take_add_one, hc, List.any_append]; simp)
          have hRL := rpC_len prs c HL.out
          have hcr : (c.toNat : Int) < 256 := by have := c.toNat_lt; omega
          have hi0 : (0 : Int) ≤ (i : Int) := by omega
          have hi2 : (i : Int) + 1 ≤ 100001 := by have := HS.out; omega
          clear hc
          have hnn := fun W : World => run_neq_slice_nil_any (P := Tryz.prog) W 30 5
          rcases HAT.out c with ⟨h0, h1, h2⟩ | ⟨h0, -, gx, cx, hcx, hrow⟩
          · have hcx' := (cell_of_block HB.out _).trans h2
            have H5' := hid (show q = s.length + szB prs (s.take (i + 1)) by rw [HT5.out, h1, h5.out]; rfl)
            have H6' := hid (show b = (s.take (i + 1)).any (hitC prs) by rw [HT6.out, h0, h6.out, Bool.or_false])
            have hn1 := fun W : World => hnn W none 0 0 0 0 Tryz.underlying30
            clear hnn h0 h1 h2 h5 h6
            go_wp2_with fail
            go_round
            case rel => exact ⟨i + 1, q, b, by omega, by go_num, rfl, H5', rfl, H6'⟩
            case measure => simp [intOf]; omega
          · have hcx' := (cell_of_block HB.out _).trans hcx
            obtain ⟨n, hn⟩ : ∃ n, (rpC prs c).length = n + 1 := ⟨(rpC prs c).length - 1, by omega⟩
            rw [hn] at hcx' hRL
            have H5' := hid (show q + n = s.length + szB prs (s.take (i + 1)) by rw [HT5.out, hn, h5.out]; omega)
            have H6' := hid (show true = (s.take (i + 1)).any (hitC prs) by rw [HT6.out, h0, Bool.or_true])
            have hn1 := fun W : World => hnn W (some ⟨gx, 0, none⟩) (n + 1) cx 0 0 Tryz.underlying30
            have hqn : (q : Int) + (n : Int) ≤ 300000000 := by omega
            clear hnn h0 h5 h6 hcx hrow hn
            go_wp2_with fail
            go_round
            case rel => exact ⟨i + 1, q + n, true, by omega, by go_num, by go_num, H5', rfl, H6'⟩
            case measure => simp [intOf]; omega
        · obtain rfl : s.length = i := by omega
          have HF := hid (show SzAt prs s (.int .i64 (q : Int)) (.bool b) from ⟨by rw [h5.out, List.take_length, HRL.out], by rw [h6.out, List.take_length]⟩)
          have hge : ¬ s.length < S.size := by rw [HSS.out]; omega
          clear h5 h6 hi hlt hq
          go_wp2_with fail
          go_meet
          exact ⟨HF.out, gr_refl _ _⟩
  case rest =>
    obtain ⟨⟨rfl, rfl⟩, g⟩ := hcut
    have HG := hid g
    clear g
    cases hany : s.any (hitC prs)
    · have HE := hid (repL_miss prs s hany)
      clear hany
      go_wp2_with fail
      go_ret
      exact ⟨by rw [HE.out, HS'.out]; rfl, HG.out⟩
    · clear hany
      obtain ⟨M, hM⟩ : ∃ M, M = (repL prs s).length := ⟨_, rfl⟩
      have HMB := hid (show M ≤ 200000000 by rw [hM, HRL.out]; have h5 := szB_le prs s HL.out; have h6 := HS.out; omega)
      rw [← hM]
      have HMM2 := hid hM
      obtain ⟨i0, hi, hz0, hz1, hz2⟩ := info_parts infoU8
      have hmk : ∀ W : World, (Instr.makeSlice 30 (.int .i64 (M : Int)) (.int .i64 (M : Int))).run Tryz.prog W = .ok (.slice (some ⟨W.heap.size, 0, none⟩) M M) (W.alloc (.cells (madeCells #[.int .u8 0] M) 5)) := fun W => by
        have := run_make_rowN (P := Tryz.prog) 30 5 i0 _ Tryz.underlying30 hi hz0 .i64 .i64 M M (Nat.le_refl _) (by rw [hz2]; have := HMB.out; omega) (by have := HMB.out; omega) W
        rw [hz1, Nat.mul_one] at this
        exact this
      clear hM hi hz0 hz1 hz2
      go_wp2_with fail
      obtain ⟨gb, hgb⟩ : ∃ gb, gb = wc.heap.size := ⟨_, rfl⟩
      have N1 := hid (heap_alloc_new wc (.cells (madeCells #[.int .u8 0] M) 5))
      have G1 := hid (gr_alloc HG.out (.cells (madeCells #[.int .u8 0] M) 5))
      rw [← hgb]
      rw [← hgb] at N1
      have HGB := hid (show w.heap.size ≤ gb by rw [hgb]; exact HG.out.size)
      clear hgb hmk
      go_loopw [13, 14] (fun v13 v14 wr => ∃ (i j : Nat) (bl : List Value), i ≤ s.length ∧ v14 = .int .i64 (i : Int) ∧ v13 = .int .i64 (j : Int) ∧ Hid (j = (repL prs (s.take i)).length) ∧ Hid (wr.heap[gb]? = some (.cells bl.toArray 5 (0, 0))) ∧ Hid (bl.length = M) ∧ Hid (bl.take j = (repL prs (s.take i)).map fun c => .int .u8 (c.toNat : Int)) ∧ Hid (Below w.heap.size w wr)) (fun _ v14 _ => s.length - (intOf v14).toNat)
      case atStart => exact ⟨0, 0, (madeCells #[.int .u8 0] M).toList, Nat.zero_le _, rfl, rfl, hid rfl, hid (by simpa using N1.out), hid (by simp [size_madeCells]), hid rfl, hid (gr_below G1.out)⟩
      case round =>
        obtain ⟨i, j, bl, hi, rfl, rfl, hj, hb, hbl, ht, hbw⟩ := hrel
        by_cases hlt : i < s.length
        · obtain ⟨c, hc⟩ : ∃ c, s[i]? = some c := ⟨_, List.getElem?_eq_getElem hlt⟩
          have hSi : i < S.size := by rw [HSS.out]; exact hlt
          have hsc : S[i]'hSi = c := by
            have h1 := HS'.out
            subst h1
            rw [List.getElem?_eq_getElem hlt] at hc
            exact Option.some.inj hc
          have HTK := hid (repL_take prs s i c hc)
          have hRL := rpC_len prs c HL.out
          have hcr : (c.toNat : Int) < 256 := by have := c.toNat_lt; omega
          have hi0 : (0 : Int) ≤ (i : Int) := by omega
          have hi2 : (i : Int) + 1 ≤ 100001 := by have := HS.out; omega
          have HFIT := hid (show j + (rpC prs c).length ≤ M by
            have h1 := hj.out
            have h2 := HTK.out
            have h3 : (repL prs (s.take (i + 1))).length ≤ (repL prs s).length := by
              have h4 : repL prs s = repL prs (s.take (i + 1)) ++ repL prs (s.drop (i + 1)) := by
                unfold repL
                rw [← List.flatMap_append, List.take_append_drop]
              rw [h4, List.length_append]
              omega
            rw [h2, List.length_append] at h3
            rw [HMM2.out]
            omega)
          have hB2 := gr_keep (gr_of_below hbw.out) HB.out (by simp)
          have HB2 := hid hB2
          clear hc hB2
          have hnn := fun W : World => run_neq_slice_nil_any (P := Tryz.prog) W 30 5
          rcases HAT.out c with ⟨h0, h1, h2⟩ | ⟨h0, -, gx, cx, hcx, hrow⟩
          · have hcx' := (cell_of_block HB2.out _).trans h2
            have hn1 := fun W : World => hnn W none 0 0 0 0 Tryz.underlying30
            have hj1 : (j : Int) < (M : Int) := by have := HFIT.out; rw [h1] at this; simp at this; omega
            have hj2 : (j : Int) + 1 ≤ 300000000 := by have := HMB.out; omega
            have hj0 : (0 : Int) ≤ (j : Int) := by omega
            have hcj : wr.cell? ⟨gb, j, none⟩ = bl[j]? := by rw [cell_of_block hb.out]; simp
            have hjl : j < bl.length := by rw [hbl.out]; omega
            rw [List.getElem?_eq_getElem hjl] at hcj
            have hfj := free_of_block hb.out j
            have HJL := hid hjl
            have H1 := hid h1
            generalize bl[j] = b0 at *
            have HBS := hid (show (wr.setCell ⟨gb, j, none⟩ (.int .u8 (c.toNat : Int))).heap[gb]? = some (.cells (bl.set j (.int .u8 (c.toNat : Int))).toArray 5 (0, 0)) by
              have := heap_set (o := j) (v := .int .u8 (c.toNat : Int)) hb.out
              rw [List.setIfInBounds_toArray] at this
              exact this)
            have HTS := hid (show (bl.set j (.int .u8 (c.toNat : Int))).take (j + 1) = (repL prs (s.take (i + 1))).map fun c => .int .u8 (c.toNat : Int) by
              rw [HTK.out, H1.out, List.map_append, ← ht.out]
              exact take_set1 bl j _ HJL.out)
            have HJN := hid (show j + 1 = (repL prs (s.take (i + 1))).length by rw [HTK.out, H1.out, List.length_append, hj.out]; rfl)
            clear hnn h0 h1 h2 hRL hjl
            go_wp2_with fail
            go_roundw
            case rel => exact ⟨i + 1, j + 1, bl.set j (.int .u8 (c.toNat : Int)), by omega, by go_num, by go_num, HJN, HBS, hid (by rw [List.length_set]; exact hbl.out), HTS, hid (gr_below (gr_set_new (gr_of_below hbw.out) HGB.out))⟩
            case measure => simp [intOf]; omega
          · have hcx' := (cell_of_block HB2.out _).trans hcx
            have hn1 := fun W : World => hnn W (some ⟨gx, 0, none⟩) (rpC prs c).length cx 0 0 Tryz.underlying30
            have HROW := hid (hrow.keep (gr_of_below hbw.out) (by simp))
            have hj1 : (j : Int) < (M : Int) := by have := HFIT.out; omega
            have hj1' : j < M := by have := HFIT.out; omega
            have hj0 : (0 : Int) ≤ (j : Int) := by omega
            have HMIN := hid (show ((rpC prs c).map fun c => Value.int .u8 (c.toNat : Int)).length = Nat.min (rpC prs c).length (M - j) by have := HFIT.out; rw [List.length_map]; exact (Nat.min_eq_left (by omega)).symm)
            have HSRC := hid (show ∀ k v, ((rpC prs c).map fun c => Value.int .u8 (c.toNat : Int))[k]? = some v → wr.cell? ((⟨gx, 0, none⟩ : Addr).add k) = some v from fun k v hk => by
              rw [List.getElem?_map] at hk
              obtain ⟨y, hy, rfl⟩ := Option.map_eq_some_iff.1 hk
              have hkl := (List.getElem?_eq_some_iff.1 hy).1
              rw [Go.WideShapes.add_plain, Nat.zero_add, HROW.out.cell hkl, List.getD_eq_getElem?_getD, hy]
              rfl)
            have HJN := hid (show j + (rpC prs c).length = (repL prs (s.take (i + 1))).length by rw [HTK.out, List.length_append, hj.out])
            have HTS := hid (show (splice bl j ((rpC prs c).map fun c => Value.int .u8 (c.toNat : Int))).take (j + (rpC prs c).length) = (repL prs (s.take (i + 1))).map fun c => .int .u8 (c.toNat : Int) by
              rw [HTK.out, List.map_append, ← ht.out]
              exact take_splice bl j _ (by rw [hbl.out]; omega) (by simp))
            have HLS := hid (show (splice bl j ((rpC prs c).map fun c => Value.int .u8 (c.toNat : Int))).length = M by
              have := HFIT.out; have := hbl.out
              unfold splice
              simp
              omega)
            have HRL2 := hid hRL
            have hjn : (j : Int) + ((rpC prs c).length : Int) ≤ 300000000 := by have := HMB.out; have := HFIT.out; omega
            have hrl0 : 0 < (rpC prs c).length := by omega
            have hjm : j ≤ M := by omega
            have hMj : ¬ M = j := by omega
            obtain ⟨n, hn⟩ : ∃ n, n = (rpC prs c).length := ⟨_, rfl⟩
            rw [← hn] at hcx' HMIN HJN HTS hrl0 hn1
            have HN := hid hn
            clear hnn h0 hcx hrow hRL hn
            go_upto_region 28 with fail
            go_region_law (refine step_copy_splice rfl (.tmp 105) (.tmp 111) 30 30 rfl 5 Tryz.underlying30 (by kernel_rfl) _ _ _ _ _ _ rfl rfl gb j bl 5 hb.out ((rpC prs c).map fun c => Value.int .u8 (c.toNat : Int)) HMIN.out (fun _ => ⟨rfl, _, rfl, HSRC.out⟩) (by have := HFIT.out; rw [hbl.out]; simp; omega) (fun v hv => by obtain ⟨y, -, rfl⟩ := List.mem_map.1 hv; rfl) w.heap.size w ⟨hbw.out.os, hbw.out.tape, hbw.out.output, hbw.out.size, hbw.out.block⟩ HGB.out ?_; intro w4 hg4 hb4)
            go_wp2_with fail
            go_roundw
            case rel => exact ⟨i + 1, j + n, splice bl j ((rpC prs c).map fun c => Value.int .u8 (c.toNat : Int)), by omega, by go_num, by rw [HN.out]; go_num, HJN, hg4, HLS, HTS, hid hb4⟩
            case measure => simp [intOf]; omega
        · obtain rfl : s.length = i := by omega
          have hge : ¬ s.length < S.size := by rw [HSS.out]; omega
          have hjM := hj.out
          rw [List.take_length, ← HMM2.out] at hjM
          have HBY := hid (show Bytes wr (.slice (some ⟨gb, 0, none⟩) M M) (repL prs s) from by
            have ht2 := ht.out
            rw [List.take_length, hjM, List.take_of_length_le (by rw [hbl.out]; exact Nat.le_refl _)] at ht2
            have hM2 := HMM2.out
            rw [hM2]
            refine ⟨_, (repL prs s).length, rfl, Nat.le_refl _, by rw [← hM2]; unfold maxLen; have := HMB.out; omega, fun _ => ⟨gb, 0, rfl, fun k hk => ?_⟩⟩
            rw [Nat.zero_add, cell_of_block hb.out, ht2]
            simp [List.getElem?_eq_getElem hk, List.getD_eq_getElem?_getD])
          have HGF := hid (gr_of_below hbw.out)
          clear hj ht hbl hb hbw hi hlt hjM
          go_wp2_with (refine wpl_b2s rfl 30 9 5 _ rfl Tryz.underlying30 Tryz.underlying5 Tryz.underlying9 _ (repL prs s) rfl HBY.out ?_; unfold str)
          go_ret
          exact ⟨rfl, HGF.out⟩
end Go.Proofs.YtmofnoconhgjmaaGreatDoor
