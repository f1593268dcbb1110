/- Texts of one proof, put together: Gp1, Gp2. -/
import Derived.Test.YtfceodbpkghkaaaGreatDoorMN
import Derived.Test.YtfceodbpkghkaaaGreatDoorMT
import Derived.Test.YtfceodbpkghkaaaGreatDoorMR
/- A script's calls as they lie in memory; what is great. -/
namespace Go.Proofs.YtfceodbpkghkaaaGreatDoor
open Go.RowKit
set_option linter.unusedVariables false
set_option linter.unusedSimpArgs false

/-- A call of a script. -/
structure Og where
  kind : Int
  pick : Int
  most : Int
  tick : Int
  who : Nat
  fs : Gp
  vars : Gp
  hs : List Nat
def opC (o : Og) (fv vv hv : Value) : List Value := [.int .i64 o.kind, .int .i64 o.pick, .int .i64 o.most, .int .u64 o.tick, .int .u32 (o.who : Int), fv, vv, hv]
/-- What is known of a call's slices. -/
structure OpAt (W : World) (o : Og) (fv vv hv : Value) : Prop where
  fs : ArgsAt W fv o.fs
  vars : ∃ a c, vv = .slice a o.vars.length c ∧ o.vars.length ≤ c ∧ c ≤ maxLen ∧ PairsAt W a o.vars.length (gN o.vars) (gV o.vars)
  hs : ∃ a c, hv = .slice a o.hs.length c ∧ ∀ (i x : Nat), o.hs[i]? = some x → ∃ b p, a = some ⟨b, p, none⟩ ∧ W.cell? ⟨b, p + i, none⟩ = some (.int .u32 (x : Int))
  most1 : -9223372036854775808 ≤ o.most
  most2 : o.most ≤ 9223372036854775807
  pick1 : -9223372036854775808 ≤ o.pick
  pick2 : o.pick ≤ 9223372036854775807
  tick1 : 0 ≤ o.tick
  tick2 : o.tick ≤ 18446744073709551615
  who1 : o.who < 4294967296
theorem OpAt.grown {w w' : World} {o : Og} {fv vv hv : Value} (h : OpAt w o fv vv hv) (g : w.grownBy w' none) : OpAt w' o fv vv hv := by
  refine ⟨h.fs.grown g, ?_, ?_, h.most1, h.most2, h.pick1, h.pick2, h.tick1, h.tick2, h.who1⟩
  · obtain ⟨a, c, e, h1, h2, h3⟩ := h.vars
    exact ⟨a, c, e, h1, h2, h3.grown g⟩
  · obtain ⟨a, c, e, h1⟩ := h.hs
    refine ⟨a, c, e, fun i x hx => ?_⟩
    obtain ⟨b, p, rfl, hc⟩ := h1 i x hx
    exact ⟨b, p, rfl, g.cell hc (by simp)⟩
/-- A script. -/
def ScAt (W : World) (v : Value) (O : List Og) : Prop :=
  ∃ a c, v = .slice a O.length c ∧ O.length ≤ 9223372036854775807 ∧ ∀ i og, O[i]? = some og → ∃ b o fv vv hv, a = some ⟨b, o, none⟩ ∧ OpAt W og fv vv hv ∧ ∀ j u, (opC og fv vv hv)[j]? = some u → W.cell? ⟨b, o + i * 8 + j, none⟩ = some u
theorem ScAt.grown {w w' : World} {v : Value} {O : List Og} (h : ScAt w v O) (g : w.grownBy w' none) : ScAt w' v O := by
  obtain ⟨a, c, e, hl, h⟩ := h
  refine ⟨a, c, e, hl, fun i og hi => ?_⟩
  obtain ⟨b, o, fv, vv, hv, e1, h1, h2⟩ := h i og hi
  exact ⟨b, o, fv, vv, hv, e1, h1.grown g, fun j u hu => g.cell (h2 j u hu) (by simp)⟩
/-- A call that isn't great. -/
structure SmO (o : Og) : Prop where
  fn : o.fs.length ≤ 30
  fs : ∀ f ∈ o.fs, f.2.length ≤ 1000
  vars : SmP o.vars
  hs : o.hs.length ≤ 20
def SmK (O : List Og) (k : Nat) : Prop := ∀ i og, i < k → O[i]? = some og → SmO og
def GqP (w : World) (O : List Og) (e : Ending) (w' : World) : Prop := ∃ b, e = .returned (.bool b) ∧ w.grownBy w' none ∧ (b = false → O.length ≤ 80 ∧ SmK O O.length)
def SmV (fs : Gp) (j : Nat) : Prop := ∀ i, i < j → (fs.getD i ([], [])).2.length ≤ 1000
theorem SmV.all {fs : Gp} (h : SmV fs fs.length) : ∀ f ∈ fs, f.2.length ≤ 1000 := fun x hx => by
  obtain ⟨i, hi, rfl⟩ := List.getElem_of_mem hx
  have := h i hi
  rwa [List.getD_eq_getElem?_getD, List.getElem?_eq_getElem hi] at this
theorem SmJ.all {xs : Gp} (h : SmJ xs xs.length) (hn : xs.length ≤ 20) : SmP xs := ⟨hn, fun x hx => by
  obtain ⟨i, hi, rfl⟩ := List.getElem_of_mem hx
  have := h i hi
  rwa [List.getD_eq_getElem?_getD, List.getElem?_eq_getElem hi] at this⟩
set_option maxRecDepth 20000 in
set_option maxHeartbeats 4000000 in
theorem great_x (O : List Og) (v : Value) (w : World) (h : ScAt w v O) : Calls Tryz.prog 7 #[v] w (GqP w O) := by
  obtain ⟨a0, c0, rfl, hol, h⟩ := h
  have HO := hid h
  clear h
  go_enter Tryz.func7, Tryz.ntmps7
  by_cases h80 : (80 : Int) < (O.length : Int)
  · have hd := decide_eq_true h80
    go_wp2_with fail
    go_ret
    exact ⟨true, rfl, gr_refl _ _, fun h => by cases h⟩
  have hd := decide_eq_false h80
  go_wp2_with fail
  go_loopw [14] (fun v14 wx => ∃ k : Nat, v14 = .int .i64 (k : Int) ∧ k ≤ O.length ∧ w.grownBy wx none ∧ Hid (SmK O k)) (fun v14 _ => O.length - (intOf v14).toNat)
  case atStart => exact ⟨0, rfl, Nat.zero_le _, gr_refl _ _, hid (fun i og hi => by omega)⟩
  case round =>
    obtain ⟨k, rfl, hk, hg, hs⟩ := hrel
    by_cases hkl : k < O.length
    rotate_left
    · obtain rfl : k = O.length := by omega
      have HG := hid hg
      clear hg
      go_wp2_with fail
      go_ret
      exact ⟨false, rfl, HG.out, fun _ => ⟨by omega, hs.out⟩⟩
    · obtain ⟨og, hog⟩ : ∃ og, O[k]? = some og := ⟨_, List.getElem?_eq_getElem hkl⟩
      obtain ⟨b, o, fv, vv, hv, rfl, hop, hcs⟩ := HO.out k og hog
      have HOP := hid (hop.grown hg)
      have HS := hid (fun (hx : SmO og) => (show SmK O (k + 1) from fun i og' hi ho => by
        rcases Nat.lt_succ_iff_lt_or_eq.1 hi with h1 | rfl
        · exact hs.out i og' h1 ho
        · rw [hog] at ho; obtain rfl := Option.some.inj ho; exact hx))
      have c0 := hg.cell (hcs 0 _ rfl) (by simp)
      have c1 := hg.cell (hcs 1 _ rfl) (by simp)
      have c2 := hg.cell (hcs 2 _ rfl) (by simp)
      have c3 := hg.cell (hcs 3 _ rfl) (by simp)
      have c4 := hg.cell (hcs 4 _ rfl) (by simp)
      have c5 := hg.cell (hcs 5 _ rfl) (by simp)
      have c6 := hg.cell (hcs 6 _ rfl) (by simp)
      have c7 := hg.cell (hcs 7 _ rfl) (by simp)
      rw [Nat.add_zero] at c0
      obtain ⟨fa, fc, rfl, -⟩ := hop.fs
      obtain ⟨va, vc, rfl, -⟩ := hop.vars
      obtain ⟨ha, hc, rfl, -⟩ := hop.hs
      obtain ⟨kd, pk, mo, tk, wh, fs, vars, hs'⟩ := og
      simp only at c0 c1 c2 c3 c4 c5 c6 c7 HOP
      have HFS := hid (show ArgsAt w (.slice fa fs.length fc) fs from hop.fs)
      have HVS := hid (show ArgsAt w (.slice va vars.length vc) vars by obtain ⟨a9, c9, e9, -, -, h9⟩ := hop.vars; exact ⟨a9, c9, e9, h9⟩)
      have GA := hid (gr_alloc hg (.cells #[.int .i64 kd, .int .i64 pk, .int .i64 mo, .int .u64 tk, .int .u32 (wh : Int), .slice fa fs.length fc, .slice va vars.length vc, .slice ha hs'.length hc] 31))
      have NA := hid (heap_alloc_new wr (.cells #[.int .i64 kd, .int .i64 pk, .int .i64 mo, .int .u64 tk, .int .u32 (wh : Int), .slice fa fs.length fc, .slice va vars.length vc, .slice ha hs'.length hc] 31))
      obtain ⟨A, hA⟩ : ∃ A, A = wr.heap.size := ⟨_, rfl⟩
      rw [← hA] at NA
      have HA := hid hA
      have d5 := (cell_of_block NA.out 5).trans rfl
      have d6 := (cell_of_block NA.out 6).trans rfl
      have d7 := (cell_of_block NA.out 7).trans rfl
      clear hA hop hcs hog hs hg
      by_cases h30 : (30 : Int) < (fs.length : Int)
      · have h30' := decide_eq_true h30
        go_wp2_with fail
        go_ret
        exact ⟨true, rfl, GA.out, fun h => by cases h⟩
      have h30' := decide_eq_false h30
      by_cases h20 : (20 : Int) < (vars.length : Int)
      · have h20' := decide_eq_true h20
        go_wp2_with fail
        go_ret
        exact ⟨true, rfl, GA.out, fun h => by cases h⟩
      have h20' := decide_eq_false h20
      by_cases h21 : (20 : Int) < (hs'.length : Int)
      · have h21' := decide_eq_true h21
        go_wp2_with fail
        go_ret
        exact ⟨true, rfl, GA.out, fun h => by cases h⟩
      have h21' := decide_eq_false h21
      go_wp2_with fail
      generalize wr.alloc (.cells #[.int .i64 kd, .int .i64 pk, .int .i64 mo, .int .u64 tk, .int .u32 (wh : Int), .slice fa fs.length fc, .slice va vars.length vc, .slice ha hs'.length hc] 31) = w3 at GA NA ⊢
      rw [← HA.out]
      clear c0 c1 c2 c3 c4 c5 c6 c7 d5 d6 d7
      clear HOP
      have d6 : w3.cell? ⟨A, 6, none⟩ = some (.slice va vars.length vc) := (cell_of_block NA.out 6).trans rfl
      go_loopw [37] (fun v37 wx => ∃ j : Nat, v37 = .int .i64 (j : Int) ∧ j ≤ fs.length ∧ w3.grownBy wx none ∧ Hid (SmV fs j)) (fun v37 _ => fs.length - (intOf v37).toNat)
      case atStart => exact ⟨0, rfl, Nat.zero_le _, gr_refl _ _, hid (fun i hi => by omega)⟩
      case round =>
      obtain ⟨j, rfl, hj, hg2, hall⟩ := hrel
      have GD := hid (gr_trans GA.out hg2)
      have HG2 := hid hg2
      have d6r := hg2.cell d6 (by simp)
      clear hg2
      by_cases hjl : j < fs.length
      · obtain ⟨a', c', e', hp⟩ := HFS.out.grown GD.out
        simp only [Value.slice.injEq] at e'
        obtain ⟨rfl, -, rfl⟩ := e'
        rcases hp with h0 | ⟨b', o', rfl, hc'⟩
        · omega
        obtain ⟨q1, q2⟩ := hc' j hjl
        unfold gN at q1
        unfold gV at q2
        have HX := hid (show ∀ x : Gs × Gs, x = fs.getD j ([], []) → x.2.length ≤ 1000 → SmV fs (j + 1) from fun x hx hb i hi => by
          rcases (by omega : i < j ∨ i = j) with h | rfl
          · exact hall.out i h
          · rw [← hx]; exact hb)
        obtain ⟨x, hx⟩ : ∃ x, x = fs.getD j ([], []) := ⟨_, rfl⟩
        have HX := hid (HX.out x hx)
        rw [← hx] at q1 q2
        have hs2 : (⟨x.2.toArray⟩ : ByteArray).size = x.2.length := Lib.size_eq _
        obtain ⟨N, hN⟩ : ∃ N : ByteArray, N = ⟨x.1.toArray⟩ := ⟨_, rfl⟩
        obtain ⟨V, hV⟩ : ∃ N : ByteArray, N = ⟨x.2.toArray⟩ := ⟨_, rfl⟩
        rw [← hN] at q1
        rw [← hV] at q2 hs2
        clear hx hN hV hall
        have GC := hid (gr_trans GD.out (gr_alloc (gr_refl wr none) (.cells #[.string N, .string V] 47)))
        by_cases v1 : (1000 : Int) < (V.size : Int)
        · have v1' := decide_eq_true v1
          go_wp2_with fail
          go_ret
          exact ⟨true, rfl, GC.out, fun h => by cases h⟩
        · have v1' := decide_eq_false v1
          have HJ := hid (HX.out (by omega))
          clear hs2
          go_wp2_with fail
          go_round
          case rel => exact ⟨j + 1, by go_num, by omega, gr_alloc HG2.out _, HJ⟩
          case measure => simp [intOf]; omega
      · obtain rfl : j = fs.length := by omega
        have HSF := hid (hall.out.all)
        clear hall hjl hj d6
        obtain ⟨w4, hw4⟩ : ∃ w4, w4 = wr := ⟨_, rfl⟩
        rw [← hw4] at GD HG2 d6r ⊢
        clear hw4
        go_wp2_with fail
        go_loopw [49] (fun v49 wx => ∃ j : Nat, v49 = .int .i64 (j : Int) ∧ j ≤ vars.length ∧ w4.grownBy wx none ∧ Hid (SmJ vars j)) (fun v49 _ => vars.length - (intOf v49).toNat)
        case atStart => exact ⟨0, rfl, Nat.zero_le _, gr_refl _ _, hid (fun i hi => by omega)⟩
        case round =>
        obtain ⟨j, rfl, hj, hg2, hall⟩ := hrel
        have GE := hid (gr_trans GD.out hg2)
        have HG3 := hid hg2
        clear hg2
        by_cases hlt : j < vars.length
        · obtain ⟨a', c', e', hp⟩ := HVS.out.grown GE.out
          simp only [Value.slice.injEq] at e'
          obtain ⟨rfl, -, rfl⟩ := e'
          rcases hp with h0 | ⟨b', o', rfl, hc'⟩
          · omega
          obtain ⟨q1, q2⟩ := hc' j hlt
          unfold gN at q1
          unfold gV at q2
          have HX := hid (show ∀ x : Gs × Gs, x = vars.getD j ([], []) → x.1.length ≤ 100 ∧ x.2.length ≤ 500 → SmJ vars (j + 1) from fun x hx hb i hi => by
            rcases (by omega : i < j ∨ i = j) with h | rfl
            · exact hall.out i h
            · rw [← hx]; exact hb)
          obtain ⟨x, hx⟩ : ∃ x, x = vars.getD j ([], []) := ⟨_, rfl⟩
          have HX := hid (HX.out x hx)
          rw [← hx] at q1 q2
          have hs1 : (⟨x.1.toArray⟩ : ByteArray).size = x.1.length := Lib.size_eq _
          have hs2 : (⟨x.2.toArray⟩ : ByteArray).size = x.2.length := Lib.size_eq _
          obtain ⟨N, hN⟩ : ∃ N : ByteArray, N = ⟨x.1.toArray⟩ := ⟨_, rfl⟩
          obtain ⟨V, hV⟩ : ∃ N : ByteArray, N = ⟨x.2.toArray⟩ := ⟨_, rfl⟩
          rw [← hN] at q1 hs1
          rw [← hV] at q2 hs2
          clear hx hN hV hall
          have GC := hid (gr_trans GE.out (gr_alloc (gr_refl wr none) (.cells #[.string N, .string V] 58)))
          by_cases v1 : (500 : Int) < (V.size : Int)
          · have v1' := decide_eq_true v1
            go_wp2_with fail
            go_ret
            exact ⟨true, rfl, GC.out, fun h => by cases h⟩
          · have v1' := decide_eq_false v1
            by_cases v2 : (100 : Int) < (N.size : Int)
            · have v2' := decide_eq_true v2
              go_wp2_with fail
              go_ret
              exact ⟨true, rfl, GC.out, fun h => by cases h⟩
            · have v2' := decide_eq_false v2
              have HJ := hid (HX.out ⟨by omega, by omega⟩)
              clear hs1 hs2
              go_wp2_with fail
              go_round
              case rel => exact ⟨j + 1, by go_num, by omega, gr_alloc HG3.out _, HJ⟩
              case measure => simp [intOf]; omega
        · obtain rfl : j = vars.length := by omega
          have HSS := hid (HS.out ⟨show fs.length ≤ 30 by omega, HSF.out, SmJ.all hall.out (show vars.length ≤ 20 by omega), show hs'.length ≤ 20 by omega⟩)
          clear hall hlt hj
          go_wp2_with fail
          go_round
          case rel => exact ⟨k + 1, by go_num, by omega, GE.out, HSS⟩
          case measure => simp [intOf]; omega
end Go.Proofs.YtfceodbpkghkaaaGreatDoor
/- What the law compares: fields, notes; the hosts that are right. -/
namespace Go.Proofs.YtfceodbpkghkaaaGreatDoor
open Go.RowKit
set_option linter.unusedVariables false
set_option linter.unusedSimpArgs false

theorem FsAt.args {w : World} {v : Value} {fs : Gp} (h : FsAt w v fs) : ArgsAt w v fs := by
  obtain ⟨a, c, rfl⟩ := h.shape
  exact ⟨a, c, rfl, h.pairs⟩
set_option maxRecDepth 20000 in
set_option maxHeartbeats 4000000 in
theorem fields_x (xs : Gp) (v1 v2 : Value) (w : World) (h1 : ArgsAt w v1 xs) (h2 : ArgsAt w v2 xs) (l1 : xs.length ≤ 1000000) :
    Calls Tryz.prog 61 #[v1, v2] w fun e w' => e = .returned (.bool true) ∧ w.grownBy w' none := by
  obtain ⟨a1, c1, rfl, k1⟩ := h1.shape
  obtain ⟨a2, c2, rfl, k2⟩ := h2.shape
  have KK1 := hid k1
  have KK2 := hid k2
  obtain ⟨n, hn⟩ : ∃ n, n = xs.length := ⟨_, rfl⟩
  rw [← hn]
  have HN := hid hn
  have hb1 : ((n : Int) != (n : Int)) = false := by simp
  have hb2 : ((n : Int) == (n : Int)) = true := by simp
  rw [← hn] at l1
  clear k1 k2 hn h1 h2
  go_enter Tryz.func61, Tryz.ntmps61
  go_wp2_with fail
  go_loopw [13] (fun vk wr => ∃ k : Nat, vk = .int .i64 k ∧ k ≤ n ∧ w.grownBy wr none) (fun vk _ => n - (intOf vk).toNat)
  case atStart => exact ⟨0, rfl, Nat.zero_le _, gr_refl _ _⟩
  case round =>
    obtain ⟨k, rfl, hk, gw⟩ := hrel
    have GW := hid gw
    clear gw
    by_cases hkl : k < n
    · obtain ⟨x, hx⟩ : ∃ x, xs[k]? = some x := ⟨_, List.getElem?_eq_getElem (by rw [← HN.out]; exact hkl)⟩
      obtain ⟨b1, o1, rfl, p1⟩ := KK1.out (by have := HN.out; omega)
      obtain ⟨b2, o2, rfl, p2⟩ := KK2.out (by have := HN.out; omega)
      have q1 := (p1 k (by have := HN.out; omega)).grown GW.out
      have q2 := (p2 k (by have := HN.out; omega)).grown GW.out
      rw [(gN_at hx).1, (gN_at hx).2] at q1 q2
      obtain ⟨q10, q11⟩ := q1
      obtain ⟨q20, q21⟩ := q2
      have hki : (k : Int) < (n : Int) := by omega
      obtain ⟨xa, xb⟩ := x
      simp only at q10 q11 q20 q21
      clear p1 p2 hx
      go_wp2_with fail
      go_quiet (fail)
      go_wp2_with fail
      go_roundw
      case rel => exact ⟨k + 1, by go_num, by omega, gr_trans GW.out (by (repeat (first | exact gr_refl _ _ | assumption | refine gr_drew ?_ | refine gr_drewN _ ?_ | refine gr_alloc ?_ _ | refine gr_set ?_ | refine gr_set_new ?_ (by first | omega | (simp; omega)))))⟩
      case measure => simp [intOf]; omega
    · go_wp2
      go_ret
      exact ⟨rfl, GW.out⟩
set_option maxRecDepth 20000 in
set_option maxHeartbeats 4000000 in
theorem note_x (s t l : Gs) (sq h p : Int) (bv bu : Value) (w : World) (h1 : Bytes w bv l) (h2 : Bytes w bu l) :
    Calls Tryz.prog 55 #[.agg #[.string ⟨s.toArray⟩, .int .u32 sq, .int .u32 h, .int .u16 p, .string ⟨t.toArray⟩, bv], .agg #[.string ⟨s.toArray⟩, .int .u32 sq, .int .u32 h, .int .u16 p, .string ⟨t.toArray⟩, bu]] w fun e w' => e = .returned (.bool true) ∧ w.grownBy w' none := by
  have H1 := hid h1
  have H2 := hid h2
  obtain ⟨a1, c1, rfl, -⟩ := h1
  obtain ⟨a2, c2, rfl, -⟩ := h2
  go_enter Tryz.func55, Tryz.ntmps55
  go_wp2_with (first | (rw [run_b2s (l := l) Tryz.underlying37 Tryz.underlying5 Tryz.underlying9 (v := .slice a1 l.length c1) (H1.out.grown (by (repeat (first | exact gr_refl _ _ | assumption | refine gr_drew ?_ | refine gr_drewN _ ?_ | refine gr_alloc ?_ _ | refine gr_set ?_ | refine gr_set_new ?_ (by first | omega | (simp; omega))))))]; unfold str; go_simp) | (rw [run_b2s (l := l) Tryz.underlying37 Tryz.underlying5 Tryz.underlying9 (v := .slice a2 l.length c2) (H2.out.grown (by (repeat (first | exact gr_refl _ _ | assumption | refine gr_drew ?_ | refine gr_drewN _ ?_ | refine gr_alloc ?_ _ | refine gr_set ?_ | refine gr_set_new ?_ (by first | omega | (simp; omega))))))]; unfold str; go_simp))
  go_ret
  exact ⟨rfl, by (repeat (first | exact gr_refl _ _ | assumption | refine gr_drew ?_ | refine gr_drewN _ ?_ | refine gr_alloc ?_ _ | refine gr_set ?_ | refine gr_set_new ?_ (by first | omega | (simp; omega))))⟩
set_option maxRecDepth 20000 in
set_option maxHeartbeats 4000000 in
/-- The test of the hosts that are right. -/
theorem callc_x (hs : List Nat) (a : Option Addr) (c : Nat) (q : Nat) (x : Nat) (w : World) (hq : w.cell? ⟨q, 7, none⟩ = some (.slice a hs.length c)) (hh : ∀ (i y : Nat), hs[i]? = some y → ∃ b p, a = some ⟨b, p, none⟩ ∧ w.cell? ⟨b, p + i, none⟩ = some (.int .u32 (y : Int))) (hl : hs.length ≤ 1000000) :
    Calls Tryz.prog 58 #[.int .u32 (x : Int), .pointer (some ⟨q, 0, none⟩)] w fun e w' => e = .returned (.bool (decide (x ∈ hs))) ∧ w = w' := by
  have HH := hid hh
  clear hh
  obtain ⟨n, hn⟩ : ∃ n, n = hs.length := ⟨_, rfl⟩
  rw [← hn] at hq hl
  have HN := hid hn
  clear hn
  go_enter Tryz.func58, Tryz.ntmps58
  go_wp2_with fail
  go_loopw [9] (fun vk wr => ∃ k : Nat, vk = .int .i64 k ∧ k ≤ n ∧ wr = w ∧ Hid (x ∉ hs.take k)) (fun vk _ => n - (intOf vk).toNat)
  case atStart => exact ⟨0, rfl, Nat.zero_le _, rfl, hid (by simp)⟩
  case round =>
    obtain ⟨k, rfl, hk, rfl, hno⟩ := hrel
    by_cases hkl : k < n
    · obtain ⟨y, hy⟩ : ∃ y, hs[k]? = some y := ⟨_, List.getElem?_eq_getElem (by rw [← HN.out]; exact hkl)⟩
      obtain ⟨b, p, rfl, hc⟩ := HH.out k y hy
      have HY := hid hy
      have hki : (k : Int) < (n : Int) := by omega
      clear hy
      by_cases hyx : y = x
      · have R := hid (show decide (x ∈ hs) = true from decide_eq_true (by rw [← hyx]; exact List.mem_of_getElem? HY.out))
        subst hyx
        have hbe : ((y : Int) == (y : Int)) = true := by simp
        go_wp2
        go_ret
        exact ⟨by rw [R.out]; rfl, rfl⟩
      · have hbe : ((y : Int) == (x : Int)) = false := by simp; omega
        have NX := hid (show x ∉ hs.take (k + 1) by
          rw [List.take_add_one, HY.out]
          simp only [Option.toList_some, List.mem_append, List.mem_singleton]
          rintro (h | h)
          · exact hno.out h
          · exact hyx h.symm)
        clear hyx
        go_wp2_with fail
        go_roundw
        case rel => exact ⟨k + 1, by go_num, by omega, by first | rfl | trivial, NX⟩
        case measure => simp [intOf]; omega
    · obtain rfl : k = n := by omega
      have R := hid (show decide (x ∈ hs) = false from decide_eq_false (by have := hno.out; rw [HN.out, List.take_length] at this; exact this))
      go_wp2
      go_ret
      exact ⟨by rw [R.out]; rfl, rfl⟩
end Go.Proofs.YtfceodbpkghkaaaGreatDoor
