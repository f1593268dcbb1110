/- The walk of SsdpFinds. -/
import Derived.Test.YtnapfecalckajaaDoorSs13
set_option linter.unusedSimpArgs false
namespace Go.Proofs.YtnapfecalckajaaDoor
open Go.RowKit

theorem RowsOk.keepB {W W' : World} {n0 : Nat} {vs : List Value} {L : List (List UInt8)} {row : Option Nat} (h : RowsOk W n0 vs L) (k : W.grownBy W' row) (hr : ∀ r, row = some r → r < n0) : RowsOk W' n0 vs L := by
  refine ⟨h.1, fun i x hx => ?_⟩
  obtain ⟨g, c, e, hg, h8⟩ := h.2 i x hx
  exact ⟨g, c, e, hg, h8.keep k (fun e => by have := hr g e.symm; omega)⟩
theorem own_keepB {w w' : World} {base size n : Nat} {e : TypeId} {v : Value} {xs : List Value} {row : Option Nat} (h : w.ownsRow base e size v n xs) (k : w.grownBy w' row) (hr : ∀ r, row = some r → r < base) : w'.ownsRow base e size v n xs := by
  refine h.kept k ?_
  cases hv : v.ownBlock with
  | none => exact .inl rfl
  | some g => exact .inr (fun e => by have := (h.lt g hv).1; have := hr g e.symm; omega)
/-- What holds while the search's bytes are overwritten. -/
def EeI (ws : World) (n : Nat) (ia : Option Addr) (ic : Nat) (vi : Value) (wr : World) : Prop :=
  ∃ k : Nat, k ≤ n ∧ vi = .int .i64 (k : Int) ∧ ws.grownBy wr (Value.slice ia n ic).ownBlock ∧ (0 < n → ∃ g cur, ia = some ⟨g, 0, none⟩ ∧ wr.heap[g]? = some (.cells cur 5 (0, 0)) ∧ n ≤ cur.size)
theorem ansS_len (lan : Nat) (u : List UInt8) (o : Option (List UInt8)) : (ansS lan u o).length ≤ 6 := by
  cases o with
  | none => simp [ansS]
  | some st => exact Nat.le_trans (ansA_len lan st (prsU u)) (by simp [prsU, nmL])
set_option maxRecDepth 100000 in
set_option maxHeartbeats 8000000 in
theorem ssdp_finds_walk (cs : Array Value) (lan : Nat) (u t : List UInt8) (v : Value) (fa : Option Addr) (fl fc : Nat) (m : Int) (w : World) (hc : CfOk cs lan u) (h25 : cs[25]? = some (.slice fa fl fc)) (hb : Bytes w v t) (hm : w.cell? ⟨0, 0, none⟩ = some (.int .i64 m)) (h10 : P10 w) :
    Calls Tryd.prog 3 #[.agg cs, v] w fun e w' => e = .returned (.bool true) ∧ w.grownBy w' none := by
  obtain ⟨ta, tc, rfl, h1, h2, h3⟩ := id hb
  have HC := hid hc
  have HB := hid hb
  have HM := hid hm
  have H10 := hid h10
  have HSZ28 := hid (show (Tryd.prog.info? 28).map (·.size) = some cs.size by rw [hc.sz]; kernel_rfl)
  have H25 := hid h25
  obtain ⟨n, hn⟩ : ∃ n, n = t.length := ⟨_, rfl⟩
  rw [← hn] at h1 ⊢
  have HN := hid hn
  have HB2 := hid (show Bytes w (.slice ta n tc) t by rw [hn]; exact hb)
  clear hb hc hm h10 h25 h2 h3 hn
  go_enter Tryd.func3, Tryd.ntmps3
  go_wp2_with fail
  have hc0 := heap_alloc_new w (.cells cs 28)
  have g1 := World.grownBy_alloc w (.cells cs 28) none
  obtain ⟨w1, hw1⟩ : ∃ x, w.alloc (.cells cs 28) = x := ⟨_, rfl⟩
  rw [hw1] at hc0 g1 ⊢
  obtain ⟨bc, hbc⟩ : ∃ x, x = w.heap.size := ⟨_, rfl⟩
  rw [← hbc] at hc0 ⊢
  clear hw1 hbc
  refine (sspeaks_true m w1 (hid (g1.cell HM.out (by simp))) (hid (H10.out.grown g1))).mono ?_
  rintro e w2 ⟨rfl, g2⟩
  have HH2 := hid (gr_keep g2 hc0 (by simp))
  have G2 := hid (gr_trans g1 g2)
  clear hc0 g1 g2
  go_wp2_with (refine wpList_load_row rfl 28 _ rfl bc rfl 28 cs (0, 0) _ HH2.out Tryd.underlying28 rfl HSZ28.out ?_)
  refine (great_any cs ⟨u.toArray⟩ fa fl fc w2 HC.out.c27 H25.out).mono ?_
  rintro e w3 ⟨b, rfl, hbu, g3⟩
  have HBU := hid (show b = false → u.length ≤ 300 from fun h => by have := hbu h; rw [Lib.size_eq] at this; simpa using this)
  have HH3 := hid (gr_keep g3 HH2.out (by simp))
  have G3 := hid (gr_trans G2.out g3)
  clear hbu g3 HH2 G2
  cases b with
  | true =>
    go_wp2
    go_ret
    exact ⟨rfl, G3.out⟩
  | false =>
    by_cases hbig : n ≤ 3000
    · have HU := hid (HBU.out rfl)
      have hbi : (n : Int) ≤ 3000 := by omega
      have hown0 : ∀ W : World, Own8 (W.alloc (.cells #[] 5)) W.heap.size (.slice (some ⟨W.heap.size, 0, none⟩) 0 0) [] := fun W => World.ownsRow_made W #[] 0 (Nat.le_refl _) (by unfold maxLen; omega) rfl
      have HOWN0 := hid hown0
      have HTL := hid (show ([] : List UInt8).length + t.length ≤ 1000000 by rw [← HN.out]; simp; omega)
      clear hown0
      go_upto_region 6 with (refine wpl_app8 rfl _ _ rfl rfl rfl (HOWN0.out w3) (HB2.out.grown (gr_alloc G3.out _)) HTL.out (by simp) ?_; intro v' w5 hown' hg5)
      have g5 := gr_own (gr_alloc G3.out (.cells #[] 5)) (HOWN0.out w3) G3.out.size hg5
      rw [List.nil_append] at hown'
      have HIB := hid hown'.bytes
      have hsh : ∃ ia ic, v' = .slice ia n ic ∧ ((0 < n → ∃ g cur, ia = some ⟨g, 0, none⟩ ∧ w5.heap[g]? = some (.cells cur 5 (0, 0)) ∧ n ≤ cur.size)) ∧ (∀ r, (Value.slice ia n ic).ownBlock = some r → w.heap.size ≤ r ∧ r < w5.heap.size ∧ bc < r) := by
        rcases hown'.2 with ⟨rfl, h0⟩ | ⟨g, cap, cur, rfl, hg, hh, hcc, hmm, hss, htt⟩
        · exact ⟨none, 0, by rw [HN.out, h0], fun h => by rw [HN.out, h0] at h; omega, fun r e => by simp [Value.ownBlock] at e⟩
        · refine ⟨_, cap, by rw [HN.out], fun _ => ⟨g, cur, rfl, hh, by rw [HN.out]; omega⟩, fun r e => ?_⟩
          have : g = r := by simpa [Value.ownBlock] using e
          subst this
          exact ⟨Nat.le_trans G3.out.size hg, lt_of_block hh, by have := lt_of_block HH3.out; omega⟩
      obtain ⟨ia, ic, rfl, hin, hrow⟩ := hsh
      have HIN := hid hin
      have HROW := hid hrow
      have HH5 := hid (gr_keep hg5 (gr_keep (World.grownBy_alloc w3 (.cells #[] 5) none) HH3.out (by simp)) (by
        intro e
        have h5 := (HOWN0.out w3).lt bc e.symm
        have := lt_of_block HH3.out
        omega))
      have G5 := hid g5
      clear hown' hg5 g5 hin hrow HH3 G3 HOWN0
      go_wp2_with (refine wpList_load_row rfl 28 _ rfl bc rfl 28 cs (0, 0) _ HH5.out Tryd.underlying28 rfl HSZ28.out ?_)
      refine (search_any cs lan u t (.slice ia n ic) m w5 HIB.out (by rw [← HN.out]; omega) HC.out HU.out (G5.out.cell HM.out (by simp)) (H10.out.grown G5.out)).mono ?_
      rintro e w6 ⟨sv, vs, rfl, hsr, hrows, g6⟩
      have HSR := hid hsr
      have HRW := hid hrows
      have HH6 := hid (gr_keep g6 HH5.out (by simp))
      have G6 := hid (gr_trans G5.out g6)
      have HIN6 := hid (fun h => by
        obtain ⟨g, cur, e, hh, hl⟩ := HIN.out h
        exact ⟨g, cur, e, gr_keep g6 hh (by simp), hl⟩ : 0 < n → ∃ g cur, ia = some (⟨g, 0, none⟩ : Addr) ∧ w6.heap[g]? = some (.cells cur 5 (0, 0)) ∧ n ≤ cur.size)
      clear hsr hrows g6 HIN HH5 G5
      go_wp2_with fail
      go_loopw [25] (fun vi wr => EeI w6 n ia ic vi wr) (fun vi _ => n - (intOf vi).toNat)
      case atStart => exact ⟨0, Nat.zero_le _, rfl, gr_refl _ _, HIN6.out⟩
      case round =>
        obtain ⟨k, hk, rfl, gw, hgc⟩ := hrel
        by_cases hlt : k < n
        · obtain ⟨g, cur, rfl, hh, hl⟩ := hgc (by omega)
          have hf := free_of_block hh k
          have hlb := lt_of_block hh
          obtain ⟨x0, hx0⟩ : ∃ x, cur[k]? = some x := ⟨_, Array.getElem?_eq_getElem (by omega)⟩
          have hcell : wr.cell? ⟨g, k, none⟩ = some x0 := (cell_of_block hh k).trans hx0
          have HH := hid hh
          have HHL := hid hl
          have GW := hid gw
          clear hgc hh gw hl hx0
          go_wp2
          go_roundw
          case rel =>
            refine ⟨k + 1, by omega, by go_num, gr_trans GW.out (gr_set (gr_refl _ _)), fun _ => ⟨g, _, rfl, heap_set (o := k) HH.out, ?_⟩⟩
            rw [Array.size_setIfInBounds]; exact HHL.out
          case measure => simp [intOf]; omega
        · obtain rfl : k = n := by omega
          have HSR9 := hid (own_keepB HSR.out gw (fun r e => (HROW.out r e).2.1))
          have HRW9 := hid (HRW.out.keepB gw (fun r e => (HROW.out r e).2.1))
          have HH9 := hid (gr_keep gw HH6.out (fun e => by have := (HROW.out bc e.symm).2.2; omega))
          have G9 := hid (gr_old G6.out gw (fun r e => (HROW.out r e).1))
          clear hgc gw HSR HRW HH6 G6 HIN6 hlt hk
          go_wp2_with (refine wpList_load_row rfl 28 _ rfl bc rfl 28 cs (0, 0) _ HH9.out Tryd.underlying28 rfl HSZ28.out ?_)
          rw [run_b2s (l := t) Tryd.underlying29 Tryd.underlying5 Tryd.underlying9 (v := .slice ta k tc) (HB2.out.grown G9.out)]
          unfold str
          go_wp2_with fail
          refine (rsearch_any cs lan u ⟨t.toArray⟩ wr (by rw [Lib.size_eq]; show t.length ≤ 3000; rw [← HN.out]; omega) HC.out HU.out).mono ?_
          rw [show (ByteArray.mk t.toArray).data.toList = t from rfl, ← ssF_rfF]
          rintro e w8 ⟨rv, rfl, hro, g8⟩
          have hsr8 := row_none HSR9.out g8
          have hrw8 := HRW9.out.keep g8 (fun r e => by cases e)
          have HAL := hid (alike_any (ansS lan u (askL (ssF t))) sv rv vs _ _ _ w8 hsr8 hrw8 hro (Nat.le_trans (ansS_len lan u _) (by omega)))
          have G8 := hid (gr_trans G9.out g8)
          obtain ⟨ra, rc, rfl, -⟩ := row_shape hro
          obtain ⟨sa, sc, rfl, -⟩ := row_shape hsr8
          clear hsr8 hrw8 hro g8 HSR9 HRW9 HH9 G9
          go_wp2_with fail
          refine HAL.out.mono ?_
          rintro e w9 ⟨rfl, g9⟩
          have G9 := hid (gr_trans G8.out g9)
          clear g9
          go_wp2_with fail
          go_ret
          exact ⟨rfl, G9.out⟩
    · have hbi : ¬ (n : Int) ≤ 3000 := by omega
      go_wp2
      go_ret
      exact ⟨rfl, G3.out⟩
end Go.Proofs.YtnapfecalckajaaDoor
