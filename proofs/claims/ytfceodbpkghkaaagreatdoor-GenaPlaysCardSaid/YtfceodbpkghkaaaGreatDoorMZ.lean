/- Texts of one proof, put together: Gp7, ArS. -/
import Derived.Test.YtfceodbpkghkaaaGreatDoorGp6
import Derived.Test.YtfceodbpkghkaaaGreatDoorArg
import Derived.OpenShut
/- The walk of GenaPlays. -/
namespace Go.Proofs.YtfceodbpkghkaaaGreatDoor
open Go.RowKit
set_option linter.unusedVariables false
set_option linter.unusedSimpArgs false

theorem u64_and16 (x : Int) (h0 : 0 ≤ x) (h1 : x ≤ 18446744073709551615) : bits .and .u64 x 65535 = ((x.toNat % 65536 : Nat) : Int) := by
  have := bits_mask .u64 64 (by decide) wraps_u64 16 (by decide) x h0 (by omega)
  have h2 : bits .and .u64 x 65535 = x % 65536 := by simpa using this
  rw [h2]
  omega
/-- Behind k calls. -/
structure PlR (N B C : Nat) (W wr : World) (k : Nat) : Prop where
  kt : KT TA N W wr
  st : ∃ L most, PAll wr N (fun _ => True) B L most ∧ RAll wr N (fun _ => True) C L most ∧ OkL L ∧ L.length ≤ k
set_option maxRecDepth 20000 in
set_option maxHeartbeats 4000000 in
theorem gena_plays_walk (mst : Int) (hm1 : -9223372036854775808 ≤ mst) (hm2 : mst ≤ 9223372036854775807) (O : List Og) (v : Value) (m : Int) (W : World) (hT : Tabs W.heap.size m W) (hS : ScAt W v O) :
    Calls Tryz.prog 5 #[.int .i64 mst, v] W fun e w' => e = .returned (.bool true) ∧ W.grownBy w' none := by
  obtain ⟨N, hN⟩ : ∃ N, N = W.heap.size := ⟨_, rfl⟩
  rw [← hN] at hT
  have HN := hid hN
  have HT := hid hT
  have HS := hid hS
  obtain ⟨sa, sc, rfl, -, -⟩ := hS
  have HSP := hid (gspeaks_true m W (hid HT.out.max) (hid HT.out.p10))
  have HM := hid (And.intro hm1 hm2)
  clear hT hN
  go_enter Tryz.func5, Tryz.ntmps5
  go_wp2_with fail
  refine HSP.out.mono ?_
  rintro e w1 ⟨rfl, g1⟩
  have G1 := hid g1
  have GRE := hid (great_x O _ w1 (HS.out.grown g1))
  clear g1 HSP
  go_wp2_with fail
  refine GRE.out.mono ?_
  rintro e w2 ⟨b, rfl, g2, hb⟩
  have G2 := hid (gr_trans G1.out g2)
  clear g2 GRE G1
  cases b
  case true =>
    clear hb
    go_wp2
    go_ret
    exact ⟨rfl, G2.out⟩
  case false =>
  have HB := hid (hb rfl)
  have h80 := HB.out.1
  clear hb
  have NW := hid (new_x N (fun _ => True) mst HM.out.1 HM.out.2 w2 (by rw [HN.out]; exact G2.out.size))
  go_wp2_with fail
  refine NW.out.mono ?_
  rintro e w3 ⟨rfl, hP3, g3⟩
  have P3 := hid hP3
  have G3 := hid (gr_trans G2.out g3)
  obtain ⟨B, hB⟩ : ∃ B, B = w2.heap.size := ⟨_, rfl⟩
  rw [← hB] at P3 ⊢
  have RN := hid (rnew_x N (fun _ => True) mst HM.out.1 HM.out.2 w3 (by rw [HN.out]; exact G3.out.size))
  clear NW hP3 g3 hB G2
  go_wp2_with fail
  refine RN.out.mono ?_
  rintro e w4 ⟨rfl, hR4, g4⟩
  obtain ⟨C, hC⟩ : ∃ C, C = w3.heap.size := ⟨_, rfl⟩
  rw [← hC] at hR4 ⊢
  have S4 := hid (show PlR N B C W w4 0 from ⟨KT.of_none (gr_trans G3.out g4), [], mst.toNat, ⟨[], rfl, P3.out.grow g4⟩, ⟨[], rfl, hR4⟩, (show OkL [] from fun x hx => by cases hx), Nat.le_refl _⟩)
  clear RN hR4 g4 hC P3 G3
  go_wp2_with fail
  go_loopw [7, 8, 9, 22] (fun v7 _ _ v22 wr => ∃ k now : Nat, v22 = .int .i64 (k : Int) ∧ v7 = .int .u64 (now : Int) ∧ k ≤ O.length ∧ now ≤ k * 65535 ∧ Hid (PlR N B C W wr k)) (fun _ _ _ v22 _ => O.length - (intOf v22).toNat)
  case atStart => exact ⟨0, 0, rfl, rfl, Nat.zero_le _, Nat.le_refl _, S4.out⟩
  case round =>
    obtain ⟨k, now, rfl, rfl, hk, hnow, hR⟩ := hrel
    have hNW : W.heap.size ≤ N := by rw [HN.out]; exact Nat.le_refl _
    by_cases hkl : k < O.length
    rotate_left
    · have GF := hid (hR.out.kt.gr hNW)
      clear hR hNW
      go_wp2
      go_ret
      exact ⟨rfl, GF.out⟩
    have gW := hR.out.kt.gr hNW
    obtain ⟨og, hog⟩ : ∃ og, O[k]? = some og := ⟨_, List.getElem?_eq_getElem hkl⟩
    obtain ⟨a', c', e', hol, hSc⟩ := HS.out
    obtain ⟨rfl, rfl⟩ : sa = a' ∧ sc = c' := by simpa using e'
    obtain ⟨b, o, fv, vv, hv, rfl, hop, hcs⟩ := hSc k og hog
    have c0 := gW.cell (hcs 0 _ rfl) (by simp)
    have c1 := gW.cell (hcs 1 _ rfl) (by simp)
    have c2 := gW.cell (hcs 2 _ rfl) (by simp)
    have c3 := gW.cell (hcs 3 _ rfl) (by simp)
    have c4 := gW.cell (hcs 4 _ rfl) (by simp)
    have c5 := gW.cell (hcs 5 _ rfl) (by simp)
    have c6 := gW.cell (hcs 6 _ rfl) (by simp)
    have c7 := gW.cell (hcs 7 _ rfl) (by simp)
    rw [Nat.add_zero] at c0
    have SMO := hid (HB.out.2 k og hkl hog)
    have HOP := hid hop
    have htk := u64_and16 og.tick hop.tick1 hop.tick2
    obtain ⟨L, most, hP, hRR, hok, hlk⟩ := hR.out.st
    obtain ⟨D, hD, hP⟩ := hP
    obtain ⟨E, hE, hRR⟩ := hRR
    have hEl : E.length ≤ k := by rw [← hE, List.length_map] at hlk; exact hlk
    obtain ⟨fa, fc, rfl, -⟩ := hop.fs
    obtain ⟨va, vc, rfl, -⟩ := hop.vars
    obtain ⟨ha, hc, rfl, -⟩ := hop.hs
    obtain ⟨w5, hw5⟩ : ∃ w5, w5 = wr.alloc (.cells #[.int .i64 og.kind, .int .i64 og.pick, .int .i64 og.most, .int .u64 og.tick, .int .u32 (og.who : Int), .slice fa og.fs.length fc, .slice va og.vars.length vc, .slice ha og.hs.length hc] 31) := ⟨_, rfl⟩
    have n5 := heap_alloc_new wr (.cells #[.int .i64 og.kind, .int .i64 og.pick, .int .i64 og.most, .int .u64 og.tick, .int .u32 (og.who : Int), .slice fa og.fs.length fc, .slice va og.vars.length vc, .slice ha og.hs.length hc] 31)
    have g5 := World.grownBy_alloc wr (.cells #[.int .i64 og.kind, .int .i64 og.pick, .int .i64 og.most, .int .u64 og.tick, .int .u32 (og.who : Int), .slice fa og.fs.length fc, .slice va og.vars.length vc, .slice ha og.hs.length hc] 31) none
    rw [← hw5] at n5 g5
    obtain ⟨tk, htk2⟩ : ∃ tk, tk = og.tick.toNat % 65536 := ⟨_, rfl⟩
    rw [← htk2] at htk
    have htl : tk ≤ 65535 := by omega
    have hn2 : now + tk ≤ (k + 1) * 65535 := by omega
    have CALL := hid (call_x N B C D E most W HN.out.symm og _ _ _ HOP.out SMO.out (now + tk) k (by omega) (by omega) m w5 (gr_trans gW g5) (hP.grow g5) (hRR.grow g5) (hD.trans hE.symm) (by rw [hE]; exact hok) (by omega) ((HT.out.kt hR.out.kt).grow g5))
    have SAME := hid (fun (L' : List Sb) (most' : Nat) (w6 : World) (p6 : PAll w6 N (fun _ => True) B L' most') (r6 : RAll w6 N (fun _ => True) C L' most') (hl : L'.length ≤ 1000) => (show Calls Tryz.prog 23 #[.pointer (some ⟨B, 0, none⟩), .pointer (some ⟨C, 0, none⟩)] w6 fun e w' => e = .returned (.bool true) ∧ w6.grownBy w' none by
      obtain ⟨D6, hD6, p6⟩ := p6
      obtain ⟨E6, hE6, r6⟩ := r6
      exact same_x N (fun _ => True) B C D6 E6 most' w6 p6 r6 (by rw [← hE6, List.length_map] at hl; omega) (hD6.trans hE6.symm)))
    have HW5 := hid hw5
    have KT5 := hid (hR.out.kt.trans (KT.of_none (T := TA) (N := N) g5))
    have HEL := hid (show (E.map (·.1)).length ≤ k by rw [List.length_map]; exact hEl)
    obtain ⟨X, hX⟩ : ∃ X, X = wr.heap.size := ⟨_, rfl⟩
    rw [← hX] at n5
    have HX := hid hX
    have d0 := (cell_of_block n5 0).trans (show _ = some (Value.int .i64 og.kind) from rfl)
    have d1 := (cell_of_block n5 1).trans (show _ = some (Value.int .i64 og.pick) from rfl)
    have d2 := (cell_of_block n5 2).trans (show _ = some (Value.int .i64 og.most) from rfl)
    have d3 := (cell_of_block n5 3).trans (show _ = some (Value.int .u64 og.tick) from rfl)
    have d4 := (cell_of_block n5 4).trans (show _ = some (Value.int .u32 (og.who : Int)) from rfl)
    have d5 := (cell_of_block n5 5).trans (show _ = some (Value.slice fa og.fs.length fc) from rfl)
    have d6 := (cell_of_block n5 6).trans (show _ = some (Value.slice va og.vars.length vc) from rfl)
    have d7 := (cell_of_block n5 7).trans (show _ = some (Value.slice ha og.hs.length hc) from rfl)
    have hwr : IntKind.u64.wrap ((now + tk : Nat) : Int) = ((now + tk : Nat) : Int) := by rw [IntKind.wrap_u64]; omega
    have hsum : (now : Int) + (tk : Int) = ((now + tk : Nat) : Int) := by omega
    obtain ⟨nw, hnw⟩ : ∃ nw, nw = now + tk := ⟨_, rfl⟩
    rw [← hnw] at CALL hwr hn2 hsum
    have HN2 := hid hn2
    clear hnow hn2 hnw hop hcs hog hR hNW gW hP hRR hok hlk hD hE hEl hw5 n5 g5 htk2 hX hSc e' hol htl
    go_upto_region 11 with fail
    rw [← HW5.out, ← HX.out]
    clear HW5 HX c0 c1 c2 c3 c4 c5 c6 c7
    go_wp2_with fail
    refine CALL.out.mono ?_
    rintro e w6 ⟨rfl, L', most', p6, r6, k6, ok6, l6⟩
    have HL6 := hid (show L'.length ≤ k + 1 by have := HEL.out; omega)
    have SM := hid (SAME.out L' most' w6 p6 r6 (by have := HL6.out; omega))
    have P6 := hid p6
    have R6 := hid r6
    have OK6 := hid ok6
    have K6 := hid (KT5.out.trans k6)
    clear p6 r6 k6 ok6 l6 CALL SAME KT5 HEL htk d0 d1 d2 d3 d4 d5 d6 d7
    go_wp2_with fail
    refine SM.out.mono ?_
    rintro e w7 ⟨rfl, g7⟩
    have NXT := hid (show PlR N B C W w7 (k + 1) from ⟨K6.out.trans (KT.of_none g7), L', most', P6.out.grow g7, R6.out.grow g7, OK6.out, HL6.out⟩)
    clear g7 SM P6 R6 OK6 K6
    go_wp2_with fail
    go_roundw
    case rel => exact ⟨k + 1, nw, by go_num, rfl, by omega, HN2.out, NXT.out⟩
    case measure => simp [intOf]; omega
end Go.Proofs.YtfceodbpkghkaaaGreatDoor
/- An argument that is a script. -/
namespace Go.Proofs.YtfceodbpkghkaaaGreatDoor
open Go.RowKit Go.Deep Go.ChangeShapes Go.WideShapes
set_option linter.unusedVariables false
set_option linter.unusedSimpArgs false

theorem args_ofN {W : World} {a : Option Addr} {len cap : Nat} {ns vs : Nat → ByteArray} (h : PairsAt W a len ns vs) : ∃ xs : Gp, xs.length = len ∧ PairsAt W a xs.length (gN xs) (gV xs) := by
  obtain ⟨xs, hxs⟩ : ∃ xs : Gp, xs = (List.range len).map fun i => ((ns i).data.toList, (vs i).data.toList) := ⟨_, rfl⟩
  have hl : xs.length = len := by rw [hxs]; simp
  refine ⟨xs, hl, ?_⟩
  have hg : ∀ i, i < len → xs.getD i ([], []) = ((ns i).data.toList, (vs i).data.toList) := by
    intro i hi
    rw [hxs, List.getD_eq_getElem?_getD, List.getElem?_map, List.getElem?_range hi]; rfl
  rw [hl]
  rcases h with h0 | ⟨b, o, rfl, h⟩
  · exact .inl h0
  · refine .inr ⟨b, o, rfl, fun i hi => ?_⟩
    have e1 : gN xs i = ns i := by unfold gN; rw [hg i hi]
    have e2 : gV xs i = vs i := by unfold gV; rw [hg i hi]
    rw [e1, e2]
    exact h i hi
theorem spot_of {W : World} {x : Addr} {v : Value} (h : W.cell? (x.add 0) = some v) : x.spot = none := by
  simpa [Addr.add] using World.cell?_spot h
theorem tabs_ofS {W : World} {m : Int} (h10 : P10 W) (hm : MaxCell m W) : Tabs W.heap.size m W := by
  refine ⟨h10, fun i hi => ?_, hm, ?_⟩
  · unfold P10 Lib.TabIs World.var? at h10
    rw [hi] at h10
    simp only [Option.bind_some] at h10
    rcases Nat.lt_or_ge i W.heap.size with h' | h'
    · exact h'
    · simp [Array.getElem?_eq_none h'] at h10
  · exact World.block_lt_of_cell? W _ hm
section
variable {H : Type} {enc : TypeId × Value → H} {W : World}
theorem pairsF {a : Option Addr} {len cap : Nat} {d : DataW H} {p : List MemPlace}
    (h : DataW.Trod enc Tryz.prog W 0 (fun _ => true) true 28 (.slice a len cap) d p) : len ≤ maxLen ∧ ∃ ns vs, PairsAt W a len ns vs := by
  rcases struct_slice Tryz.underlying28 Tryz.underlying47 (by kernel_rfl) (by kernel_rfl) h with ⟨_, h0, _⟩ | ⟨x, rfl, hl, hm, hc⟩
  · exact ⟨by omega, fun _ => ByteArray.empty, fun _ => ByteArray.empty, .inl h0⟩
  · refine ⟨by omega, ?_⟩
    rcases Nat.eq_zero_or_pos len with h0 | hpos
    · exact ⟨fun _ => ByteArray.empty, fun _ => ByteArray.empty, .inl h0⟩
    have hone : ∀ i, ∃ o : ByteArray × ByteArray, i < len → (W.cell? (x.add (i * 2)) = some (.string o.1) ∧ W.cell? (x.add (i * 2 + 1)) = some (.string o.2)) := by
      intro i
      by_cases hi : i < len
      · obtain ⟨v0, _, _, _, c0, y0⟩ := hc i hi 0 _ rfl
        obtain ⟨v1, _, _, _, c1, y1⟩ := hc i hi 1 _ rfl
        obtain ⟨x0, rfl, _⟩ := fld_string Tryz.underlying9 y0
        obtain ⟨x1, rfl, _⟩ := fld_string Tryz.underlying9 y1
        exact ⟨(x0, x1), fun _ => ⟨c0, c1⟩⟩
      · exact ⟨(ByteArray.empty, ByteArray.empty), fun h => absurd h hi⟩
    obtain ⟨ops, hops⟩ := Classical.axiomOfChoice hone
    refine ⟨fun i => (ops i).1, fun i => (ops i).2, .inr ?_⟩
    obtain ⟨b, off, spot⟩ := x
    obtain rfl : spot = none := by simpa [Addr.add] using World.cell?_spot (hops 0 hpos).1
    refine ⟨b, off, rfl, fun i hi => ?_⟩
    obtain ⟨c0, c1⟩ := hops i hi
    simp only [Go.WideShapes.add_plain, ← Nat.add_assoc] at c0 c1
    exact ⟨c0, c1⟩
theorem pairsV {a : Option Addr} {len cap : Nat} {d : DataW H} {p : List MemPlace}
    (h : DataW.Trod enc Tryz.prog W 0 (fun _ => true) true 22 (.slice a len cap) d p) : len ≤ cap ∧ cap ≤ maxLen ∧ ∃ ns vs, PairsAt W a len ns vs := by
  rcases struct_slice Tryz.underlying22 Tryz.underlying58 (by kernel_rfl) (by kernel_rfl) h with ⟨_, h0, h1⟩ | ⟨x, rfl, hl, hm, hc⟩
  · exact ⟨by omega, by unfold maxLen; omega, fun _ => ByteArray.empty, fun _ => ByteArray.empty, .inl h0⟩
  · refine ⟨hl, hm, ?_⟩
    rcases Nat.eq_zero_or_pos len with h0 | hpos
    · exact ⟨fun _ => ByteArray.empty, fun _ => ByteArray.empty, .inl h0⟩
    have hone : ∀ i, ∃ o : ByteArray × ByteArray, i < len → (W.cell? (x.add (i * 2)) = some (.string o.1) ∧ W.cell? (x.add (i * 2 + 1)) = some (.string o.2)) := by
      intro i
      by_cases hi : i < len
      · obtain ⟨v0, _, _, _, c0, y0⟩ := hc i hi 0 _ rfl
        obtain ⟨v1, _, _, _, c1, y1⟩ := hc i hi 1 _ rfl
        obtain ⟨x0, rfl, _⟩ := fld_string Tryz.underlying9 y0
        obtain ⟨x1, rfl, _⟩ := fld_string Tryz.underlying9 y1
        exact ⟨(x0, x1), fun _ => ⟨c0, c1⟩⟩
      · exact ⟨(ByteArray.empty, ByteArray.empty), fun h => absurd h hi⟩
    obtain ⟨ops, hops⟩ := Classical.axiomOfChoice hone
    refine ⟨fun i => (ops i).1, fun i => (ops i).2, .inr ?_⟩
    obtain ⟨b, off, spot⟩ := x
    obtain rfl : spot = none := by simpa [Addr.add] using World.cell?_spot (hops 0 hpos).1
    refine ⟨b, off, rfl, fun i hi => ?_⟩
    obtain ⟨c0, c1⟩ := hops i hi
    simp only [Go.WideShapes.add_plain, ← Nat.add_assoc] at c0 c1
    exact ⟨c0, c1⟩
theorem hosts_of {a : Option Addr} {len cap : Nat} {d : DataW H} {p : List MemPlace}
    (h : DataW.Trod enc Tryz.prog W 0 (fun _ => true) true 29 (.slice a len cap) d p) : ∃ hs : List Nat, hs.length = len ∧ ∀ (i x : Nat), hs[i]? = some x → ∃ b p, a = some ⟨b, p, none⟩ ∧ W.cell? ⟨b, p + i, none⟩ = some (.int .u32 (x : Int)) := by
  obtain ⟨zs, row⟩ := isRow_of_trod (k := .u32) Tryz.underlying29 Tryz.underlying27 (by kernel_rfl) h
  rcases row with ⟨-, h0, -⟩ | ⟨x, rfl, h1, h2, h3, h4, h5⟩
  · exact ⟨[], h0.symm, fun i x hx => by simp at hx⟩
  · refine ⟨(zs.take len).map Int.toNat, by rw [List.length_map, List.length_take]; omega, fun i y hy => ?_⟩
    rw [List.getElem?_map] at hy
    obtain ⟨z, hz, rfl⟩ := Option.map_eq_some_iff.1 hy
    have hi : i < len := by have := (List.getElem?_eq_some_iff.1 hz).1; rw [List.length_take] at this; omega
    rw [List.getElem?_take_of_lt hi] at hz
    have hc := h4 i (by omega)
    have hg : zs.getD i 0 = z := by rw [List.getD_eq_getElem?_getD, hz]; rfl
    rw [hg] at hc
    have hb := bounds_u32 (h5 z (List.mem_of_getElem? hz))
    have hc00 := h4 0 (by omega)
    obtain ⟨b, off, spot⟩ := x
    obtain rfl : spot = none := spot_of hc00
    rw [Go.WideShapes.add_plain] at hc
    exact ⟨b, off, rfl, by rw [hc, show ((z.toNat : Nat) : Int) = z by omega]⟩
theorem sc_of_trod {a : Option Addr} {len cap : Nat} {d : DataW H} {p : List MemPlace}
    (h : DataW.Trod enc Tryz.prog W 0 (fun _ => true) true 32 (.slice a len cap) d p) : ∃ O : List Og, ScAt W (.slice a len cap) O := by
  rcases struct_slice Tryz.underlying32 Tryz.underlying31 (by kernel_rfl) (by kernel_rfl) h with ⟨rfl, rfl, rfl⟩ | ⟨x, rfl, hl, hm, hc⟩
  · exact ⟨[], none, 0, rfl, by simp, fun i og hi => by simp at hi⟩
  · have hone : ∀ i, ∃ o : Og × Value × Value × Value, i < len → (OpAt W o.1 o.2.1 o.2.2.1 o.2.2.2 ∧ ∀ j u, (opC o.1 o.2.1 o.2.2.1 o.2.2.2)[j]? = some u → W.cell? (x.add (i * 8 + j)) = some u) := by
      intro i
      by_cases hi : i < len
      · obtain ⟨v0, _, _, _, c0, y0⟩ := hc i hi 0 _ rfl
        obtain ⟨v1, _, _, _, c1, y1⟩ := hc i hi 1 _ rfl
        obtain ⟨v2, _, _, _, c2, y2⟩ := hc i hi 2 _ rfl
        obtain ⟨v3, _, _, _, c3, y3⟩ := hc i hi 3 _ rfl
        obtain ⟨v4, _, _, _, c4, y4⟩ := hc i hi 4 _ rfl
        obtain ⟨v5, _, _, _, c5, y5⟩ := hc i hi 5 _ rfl
        obtain ⟨v6, _, _, _, c6, y6⟩ := hc i hi 6 _ rfl
        obtain ⟨v7, _, _, _, c7, y7⟩ := hc i hi 7 _ rfl
        obtain ⟨x0, rfl, w0⟩ := fld_int Tryz.underlying3 y0
        obtain ⟨x1, rfl, w1⟩ := fld_int Tryz.underlying3 y1
        obtain ⟨x2, rfl, w2⟩ := fld_int Tryz.underlying3 y2
        obtain ⟨x3, rfl, w3⟩ := fld_int Tryz.underlying25 y3
        obtain ⟨x4, rfl, w4⟩ := fld_int Tryz.underlying27 y4
        obtain ⟨a5, l5, k5, rfl, t5⟩ := fld_slice Tryz.underlying28 y5
        obtain ⟨a6, l6, k6, rfl, t6⟩ := fld_slice Tryz.underlying22 y6
        obtain ⟨a7, l7, k7, rfl, t7⟩ := fld_slice Tryz.underlying29 y7
        obtain ⟨-, ns5, vs5, h5⟩ := pairsF t5
        obtain ⟨fs, rfl, hfs⟩ := args_ofN (cap := k5) h5
        obtain ⟨hl6, hm6, ns6, vs6, h6⟩ := pairsV t6
        obtain ⟨vars, rfl, hvars⟩ := args_ofN (cap := k6) h6
        obtain ⟨hs, rfl, hhs⟩ := hosts_of t7
        have b1 := bounds_i64 w1
        have b2 := bounds_i64 w2
        have b3 := bounds_u64 w3
        have b4 := bounds_u32 w4
        have e4 : ((x4.toNat : Nat) : Int) = x4 := by omega
        refine ⟨(⟨x0, x1, x2, x3, x4.toNat, fs, vars, hs⟩, .slice a5 fs.length k5, .slice a6 vars.length k6, .slice a7 hs.length k7), fun _ => ⟨⟨⟨a5, k5, rfl, hfs⟩, ⟨a6, k6, rfl, hl6, hm6, hvars⟩, ⟨a7, k7, rfl, hhs⟩, b2.1, b2.2, b1.1, b1.2, b3.1, b3.2, by simp only; omega⟩, fun j u hu => ?_⟩⟩
        simp only [opC, e4] at hu
        match j, hu with
        | 0, hu => obtain rfl := Option.some.inj hu; exact c0
        | 1, hu => obtain rfl := Option.some.inj hu; exact c1
        | 2, hu => obtain rfl := Option.some.inj hu; exact c2
        | 3, hu => obtain rfl := Option.some.inj hu; exact c3
        | 4, hu => obtain rfl := Option.some.inj hu; exact c4
        | 5, hu => obtain rfl := Option.some.inj hu; exact c5
        | 6, hu => obtain rfl := Option.some.inj hu; exact c6
        | 7, hu => obtain rfl := Option.some.inj hu; exact c7
        | j + 8, hu => simp at hu
      · exact ⟨(⟨0, 0, 0, 0, 0, [], [], []⟩, .int .i64 0, .int .i64 0, .int .i64 0), fun h => absurd h hi⟩
    obtain ⟨ops, hops⟩ := Classical.axiomOfChoice hone
    refine ⟨(List.range len).map fun i => (ops i).1, some x, cap, by simp, by rw [List.length_map, List.length_range]; unfold maxLen at hm; omega, fun i og hog => ?_⟩
    rw [List.getElem?_map] at hog
    obtain ⟨i', hi', rfl⟩ := Option.map_eq_some_iff.1 hog
    have hil : i < len := by have := (List.getElem?_eq_some_iff.1 hi').1; simpa using this
    rw [List.getElem?_range hil] at hi'
    obtain rfl := Option.some.inj hi'
    obtain ⟨h1, h2⟩ := hops i hil
    have hc0 := (hops 0 (by omega)).2 0 _ rfl
    obtain ⟨b, off, spot⟩ := x
    obtain rfl : spot = none := spot_of hc0
    refine ⟨b, off, _, _, _, rfl, h1, fun j u hu => ?_⟩
    have := h2 j u hu
    rwa [Go.WideShapes.add_plain, ← Nat.add_assoc] at this
end
end Go.Proofs.YtfceodbpkghkaaaGreatDoor
