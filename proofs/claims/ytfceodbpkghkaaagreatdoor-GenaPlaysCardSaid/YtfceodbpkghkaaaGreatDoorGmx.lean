/- hearthref22: Next. -/
import Derived.Test.YtfceodbpkghkaaaGreatDoorMT
import Derived.Test.YtfceodbpkghkaaaGreatDoorMR
namespace Go.Proofs.YtfceodbpkghkaaaGreatDoor
open Go.RowKit
set_option linter.unusedVariables false
set_option linter.unusedSimpArgs false

/-- What is a byte stays one. -/
def U8K (w w' : World) : Prop := ∀ (b o : Nat) (m : Int), w.cell? ⟨b, o, none⟩ = some (.int .u8 m) → w'.cell? ⟨b, o, none⟩ = some (.int .u8 m)
theorem u8_none {w w' : World} (g : w.grownBy w' none) : U8K w w' := fun b o m h => g.cell h (by simp)
theorem U8K.trans {a b c : World} (h : U8K a b) (k : U8K b c) : U8K a c := fun x o m hc => k x o m (h x o m hc)
theorem u8_set {w : World} {b o : Nat} {v u : Value} (h : w.cell? ⟨b, o, none⟩ = some u) (hu : ∀ m : Int, u ≠ .int .u8 m) : U8K w (w.setCell ⟨b, o, none⟩ v) := fun x p m hc => by
  rw [World.cell?_setCell_other]
  · exact hc
  · intro e
    simp only [Addr.mk.injEq] at e
    obtain ⟨rfl, rfl, -⟩ := e
    rw [h] at hc
    exact hu m (Option.some.inj hc)
theorem U8K.then_new {a b c : World} {A : Nat} (h : U8K a b) (g : b.grownBy c (some A)) (hA : a.heap.size ≤ A) : U8K a c := fun x o m hc => g.cell (h x o m hc) (by have := World.block_lt_of_cell? a _ hc; simp at this ⊢; omega)
theorem U8K.bytes {w w' : World} {v : Value} {l : Gs} (h : U8K w w') (hb : Bytes w v l) : Bytes w' v l := by
  obtain ⟨a, c, rfl, h1, h2, h3⟩ := hb
  refine ⟨a, c, rfl, h1, h2, fun hl => ?_⟩
  obtain ⟨b, o, rfl, hc⟩ := h3 hl
  exact ⟨b, o, rfl, fun i hi => h b (o + i) _ (hc i hi)⟩
def RNx (w : World) (N : Nat) (F : Nat → Prop) (B most : Nat) (L : List Sb) (now : Nat) (vars : Gp) (e : Ending) (w' : World) : Prop :=
  KT TR N w w' ∧ U8K w w' ∧ RAll w' N F B (toldL L now vars) most ∧
  match L[nextL L now vars]? with
  | some x => ∃ bv, e = .returned (.tuple #[.agg #[.string ⟨x.sid.toArray⟩, .int .u32 (x.seq : Int), .int .u32 (x.host : Int), .int .u16 (x.port : Int), .string ⟨x.target.toArray⟩, bv], .bool true]) ∧ Bytes w' bv (bodL (newsL x vars))
  | none => e = .returned (.tuple #[.agg #[.string ⟨#[]⟩, .int .u32 0, .int .u32 0, .int .u16 0, .string ⟨#[]⟩, .slice none 0 0], .bool false])
theorem filter_take_g {E : Gp} {k : Nat} {e : Gs × Gs} (p : Gs × Gs → Bool) (h : E[k]? = some e) : (E.take (k + 1)).filter p = (E.take k).filter p ++ (if p e then [e] else []) := by
  rw [List.take_add_one, h, List.filter_append]
  congr 1
  cases hp : p e <;> simp [hp]
theorem bodL_len (xs : Gp) (h : SmP xs) : (bodL xs).length ≤ 100000 := by
  have h1 := bdM_len xs h.each
  have h2 := h.n
  unfold bodL
  rw [List.length_append, show bdZ.length = 16 from rfl]
  omega
/-- News that are built. -/
def NwR (la vars : Gp) (w3 : World) (vj vo : Value) (w4 : World) : Prop :=
  ∃ j : Nat, vj = .int .i64 (j : Int) ∧ j ≤ vars.length ∧ w3.grownBy w4 none ∧ OwnA w4 w3.heap.size vo ((vars.take j).filter fun y => decide (y ∉ la))
set_option maxRecDepth 20000 in
set_option maxHeartbeats 4000000 in
theorem rnext_x (N : Nat) (F : Nat → Prop) (B : Nat) (E : List Sv) (most : Nat) (now : Nat) (vars : Gp) (v : Value) (w : World) (h : RAt w N F B E most) (hvk : ArgsK w N (fun _ => True) v vars) (hvs : SmP vars) (hlast : ∀ e ∈ E, e.1.last.length ≤ 1000000) (hF : ∀ b, w.heap.size ≤ b → F b) (hEl : E.length ≤ 1000000) :
    Calls Tryz.prog 54 #[.pointer (some ⟨B, 0, none⟩), .int .u64 (now : Int), v] w (RNx w N F B most (E.map (·.1)) now vars) := by
  have hv := hvk.at
  have HVK := hid hvk
  clear hvk
  have nA := heap_alloc_new w (.cells #[.string ⟨#[]⟩, .int .u32 0, .int .u32 0, .int .u16 0, .string ⟨#[]⟩, .slice none 0 0] 55)
  have gA := World.grownBy_alloc w (.cells #[.string ⟨#[]⟩, .int .u32 0, .int .u32 0, .int .u16 0, .string ⟨#[]⟩, .slice none 0 0] 55) none
  have hl : (E.map (·.1)).length = E.length := List.length_map ..
  obtain ⟨wA, hw0⟩ : ∃ wA, wA = w.alloc (.cells #[.string ⟨#[]⟩, .int .u32 0, .int .u32 0, .int .u16 0, .string ⟨#[]⟩, .slice none 0 0] 55) := ⟨_, rfl⟩
  obtain ⟨A, hA⟩ : ∃ A, A = w.heap.size := ⟨_, rfl⟩
  rw [← hw0] at nA gA
  rw [← hA] at nA
  have HA0 := hid nA
  have GA := hid gA
  have PW := hid h
  have P0 := hid ((h.f (F' := fun b => F b ∧ b ≠ A) (fun b hb hf => ⟨hf, by omega⟩)).grow gA)
  have HV := hid (hv.grown gA)
  have HVS := hid hvs
  have HLA := hid hlast
  have HFF := hid (show ∀ b, wA.heap.size ≤ b → F b ∧ b ≠ A from fun b hb => ⟨hF b (Nat.le_trans gA.size hb), by have := lt_of_block nA; omega⟩)
  have HW0 := hid hw0
  have HAA := hid hA
  have hvl : vars.length ≤ 20 := hvs.n
  obtain ⟨va, vc, rfl, -⟩ := hv.shape
  obtain ⟨a, cap, h1, h2, hcap, -, hc⟩ := P0.out.parts
  have HC := hid hc
  have HB := hid h1
  have HRW := hid h2
  have c1 := (cell_of_block h1 0).trans (show _ = some (Value.slice a E.length cap) from rfl)
  clear h hv hvs hF nA gA hw0 hA h1 h2 hc hcap hlast
  go_enter Tryz.func54, Tryz.ntmps54
  go_upto_region 1 with fail
  rw [← HW0.out, ← HAA.out]
  clear HW0
  go_wp2_with fail
  go_loopw [8] (fun v8 wr => ∃ k : Nat, v8 = .int .i64 (k : Int) ∧ Hid (NR (E.map (·.1)) now vars wA wr k)) (fun v8 _ => E.length - (intOf v8).toNat)
  case atStart => exact ⟨0, rfl, Nat.zero_le _, gr_refl _ _, fun j x h _ => absurd h (Nat.not_lt_zero _)⟩
  case round =>
    obtain ⟨k, rfl, hR⟩ := hrel
    have hk := hR.out.1
    rw [hl] at hk
    have c1r := hR.out.2.1.cell c1 (by simp)
    by_cases hkl : k < E.length
    rotate_left
    · have hnx : nextL (E.map (·.1)) now vars = E.length := by
        rw [nextL_hit]
        exact hit_is _ _ E.length (by omega) (fun j x hj hx => hR.out.2.2 j x (by omega) hx) (.inl hl.symm)
      have HNX := hid (show (E.map (·.1))[nextL (E.map (·.1)) now vars]? = none by rw [hnx]; exact List.getElem?_eq_none (by omega))
      have HTD := hid (show toldL (E.map (·.1)) now vars = E.map (·.1) by
        unfold toldL
        rw [hnx]
        exact List.modify_eq_self (by omega))
      have HAr := hid (gr_keep hR.out.2.1 HA0.out (by simp))
      have a0 := (cell_of_block HAr.out 0).trans rfl
      have a1 := (cell_of_block HAr.out 1).trans rfl
      have a2 := (cell_of_block HAr.out 2).trans rfl
      have a3 := (cell_of_block HAr.out 3).trans rfl
      have a4 := (cell_of_block HAr.out 4).trans rfl
      have a5 := (cell_of_block HAr.out 5).trans rfl
      have f0 := free_of_block HAr.out 0
      have f1 := free_of_block HAr.out 1
      have f2 := free_of_block HAr.out 2
      have f3 := free_of_block HAr.out 3
      have f4 := free_of_block HAr.out 4
      have f5 := free_of_block HAr.out 5
      have G1 := hid (gr_trans GA.out hR.out.2.1)
      clear hnx
      go_wp2_with fail
      have hF := six_set HAr.out (.string ⟨#[]⟩) (.int .u32 0) (.int .u32 0) (.int .u16 0) (.string ⟨#[]⟩) (.slice none 0 0)
      have gF := six_gr (w := wr) (b := A) (.string ⟨#[]⟩) (.int .u32 0) (.int .u32 0) (.int .u16 0) (.string ⟨#[]⟩) (.slice none 0 0)
      revert hF gF
      generalize ((((((wr.setCell ⟨A, 0, none⟩ (.string ⟨#[]⟩)).setCell ⟨A, 1, none⟩ (.int .u32 0)).setCell ⟨A, 2, none⟩ (.int .u32 0)).setCell ⟨A, 3, none⟩ (.int .u16 0)).setCell ⟨A, 4, none⟩ (.string ⟨#[]⟩)).setCell ⟨A, 5, none⟩ (.slice none 0 0)) = w9
      intro hF gF
      clear a0 a1 a2 a3 a4 a5 f0 f1 f2 f3 f4 f5
      have b0 := (cell_of_block hF 0).trans (show _ = some (Value.string ⟨#[]⟩) from rfl)
      have b1 := (cell_of_block hF 1).trans (show _ = some (Value.int .u32 0) from rfl)
      have b2 := (cell_of_block hF 2).trans (show _ = some (Value.int .u32 0) from rfl)
      have b3 := (cell_of_block hF 3).trans (show _ = some (Value.int .u16 0) from rfl)
      have b4 := (cell_of_block hF 4).trans (show _ = some (Value.string ⟨#[]⟩) from rfl)
      have b5 := (cell_of_block hF 5).trans (show _ = some (Value.slice none 0 0) from rfl)
      have GF := gr_new G1.out gF (by have := HAA.out; omega)
      exact bodyPost_ret (v := .tuple #[.agg #[.string ⟨#[]⟩, .int .u32 0, .int .u32 0, .int .u16 0, .string ⟨#[]⟩, .slice none 0 0], .bool false]) (by simp [results, Tryz.results54, go_sem, b0, b1, b2, b3, b4, b5]) rfl ⟨KT.of_none GF, u8_none GF, by rw [HTD.out]; exact (PW.out.grow GF).all, by rw [HNX.out]⟩
    · obtain ⟨e, hek⟩ : ∃ e, E[k]? = some e := ⟨_, List.getElem?_eq_getElem hkl⟩
      obtain ⟨g0, rfl, hgN, ⟨cs0, hcs0⟩, hcell⟩ := HC.out k e hek
      have hki : (k : Int) < (E.length : Int) := by omega
      have gr := hR.out.2.1
      have q0 := gr.cell ((hcell 0 (by omega)).trans (show _ = some (str e.1.sid) from rfl)) (by simp)
      have q1 := gr.cell ((hcell 1 (by omega)).trans (show _ = some (.int .u32 e.1.host) from rfl)) (by simp)
      have q2 := gr.cell ((hcell 2 (by omega)).trans (show _ = some (.int .u16 e.1.port) from rfl)) (by simp)
      have q3 := gr.cell ((hcell 3 (by omega)).trans (show _ = some (str e.1.target) from rfl)) (by simp)
      have q4 := gr.cell ((hcell 4 (by omega)).trans (show _ = some (.int .u32 e.1.seq) from rfl)) (by simp)
      have q5 := gr.cell ((hcell 5 (by omega)).trans (show _ = some (.int .u64 e.1.ends) from rfl)) (by simp)
      have q6 := gr.cell ((hcell 6 (by omega)).trans (show _ = some (.bool e.1.busy) from rfl)) (by simp)
      have q7 := gr.cell ((hcell 7 (by omega)).trans (show _ = some (.int .u64 e.1.ready) from rfl)) (by simp)
      have q8 := gr.cell ((hcell 8 (by omega)).trans (show _ = some e.2 from rfl)) (by simp)
      have HLK := hid ((P0.out.each e (List.mem_of_getElem? hek)).grow gr)
      have HEK := hid hek
      have HMK := hid (show (E.map (·.1))[k]? = some e.1 by rw [List.getElem?_map, hek]; rfl)
      have HCS := hid (gr_keep gr hcs0 (by simp))
      have hll := HLA.out e (List.mem_of_getElem? hek)
      obtain ⟨⟨sd, ht, po, tg, sq, en, bu, re, la⟩, lv⟩ := e
      obtain ⟨la2, lc2, hlv, -⟩ := HLK.out
      simp only at hlv
      subst hlv
      simp only [Nat.add_zero] at q0
      simp only at q0 q1 q2 q3 q4 q5 q6 q7 q8 hll
      unfold str at q0 q3
      have HGR := hid gr
      clear hcell hek gr hcs0
      go_upto_region 5 with fail
      obtain ⟨wX, hwX⟩ : ∃ wX, wX = wr.alloc (.cells #[.string ⟨sd.toArray⟩, .int .u32 (ht : Int), .int .u16 (po : Int), .string ⟨tg.toArray⟩, .int .u32 (sq : Int), .int .u64 (en : Int), .bool bu, .int .u64 (re : Int), .slice la2 la.length lc2] 111) := ⟨_, rfl⟩
      have nX := heap_alloc_new wr (.cells #[.string ⟨sd.toArray⟩, .int .u32 (ht : Int), .int .u16 (po : Int), .string ⟨tg.toArray⟩, .int .u32 (sq : Int), .int .u64 (en : Int), .bool bu, .int .u64 (re : Int), .slice la2 la.length lc2] 111)
      have gX := World.grownBy_alloc wr (.cells #[.string ⟨sd.toArray⟩, .int .u32 (ht : Int), .int .u16 (po : Int), .string ⟨tg.toArray⟩, .int .u32 (sq : Int), .int .u64 (en : Int), .bool bu, .int .u64 (re : Int), .slice la2 la.length lc2] 111) none
      obtain ⟨D, hD⟩ : ∃ D, D = wr.heap.size := ⟨_, rfl⟩
      rw [← hwX] at nX gX ⊢
      rw [← hD] at nX ⊢
      have GX := hid gX
      have NX := hid nX
      have x6 := (cell_of_block nX 6).trans (show _ = some (Value.bool bu) from rfl)
      have x7 := (cell_of_block nX 7).trans (show _ = some (Value.int .u64 (re : Int)) from rfl)
      have x8 := (cell_of_block nX 8).trans (show _ = some (Value.slice la2 la.length lc2) from rfl)
      have HDE := hid hD
      clear hD gX nX hwX q0 q1 q2 q3 q4 q5 q6 q7 q8
      have HD := hid (show dueB now vars ⟨sd, ht, po, tg, sq, en, bu, re, la⟩ = (!bu && decide (re ≤ now) && decide (la ≠ vars)) from rfl)
      have NOT := hid (fun (wN : World) (gN : wX.grownBy wN none) (hd : dueB now vars ⟨sd, ht, po, tg, sq, en, bu, re, la⟩ = false) => (show Hid (NR (E.map (·.1)) now vars wA wN (k + 1)) from hid ⟨by omega, gr_trans HGR.out (gr_trans GX.out gN), fun j y hj hy => by
        rcases Nat.lt_succ_iff_lt_or_eq.1 hj with h | rfl
        · exact hR.out.2.2 j y h hy
        · rw [HMK.out] at hy
          obtain rfl := Option.some.inj hy
          exact hd⟩))
      cases bu with
      | true =>
        have NXT := NOT.out wX (gr_refl _ _) (by rw [HD.out]; rfl)
        go_wp2_with fail
        go_roundw
        case rel => exact ⟨k + 1, by go_num, NXT⟩
        case measure => simp [intOf]; omega
      | false =>
        by_cases hrd : now < re
        · have NXT := NOT.out wX (gr_refl _ _) (by rw [HD.out, decide_eq_false (show ¬ re ≤ now by omega)]; simp)
          have hd1 := decide_eq_true hrd
          have hd2 : (now : Int) < (re : Int) := by omega
          go_wp2_with fail
          go_roundw
          case rel => exact ⟨k + 1, by go_num, NXT⟩
          case measure => simp [intOf]; omega
        · have hd1 := decide_eq_false hrd
          have SAM := hid (rsame_x la vars (.slice la2 la.length lc2) (.slice va vars.length vc) wX (HLK.out.at.grown GX.out) (HV.out.grown (gr_trans HGR.out GX.out)) hll (by omega))
          go_wp2_with fail
          refine SAM.out.mono ?_
          rintro e w3 ⟨rfl, g3⟩
          have G3 := hid g3
          clear g3 SAM
          by_cases hla : la = vars
          · have NXT := NOT.out w3 G3.out (by rw [HD.out]; simp [hla])
            rw [decide_eq_true hla]
            go_wp2_with fail
            go_roundw
            case rel => exact ⟨k + 1, by go_num, NXT⟩
            case measure => simp [intOf]; omega
          · rw [decide_eq_false hla]
            clear NOT
            go_wp2_with fail
            have gM := World.grownBy_alloc w3 (.cells #[] 58) none
            have NW0 := hid (show NwR la vars w3 (.int .i64 0) (.slice (some ⟨w3.heap.size, 0, none⟩) 0 0) (w3.alloc (.cells #[] 58)) from ⟨0, rfl, Nat.zero_le _, gM, rfl, .inr ⟨w3.heap.size, 0, #[], rfl, Nat.le_refl _, heap_alloc_new w3 _, Nat.le_refl _, by simp [maxLen], rfl, rfl⟩⟩)
            have HLN := hid hla
            have x8r := G3.out.cell x8 (by simp)
            have LAT := hid ((HLK.out.at.grown GX.out).grown G3.out)
            have VAT := hid ((HV.out.grown (gr_trans HGR.out GX.out)).grown G3.out)
            clear gM hla x6 x7 x8
            go_loopw [11, 10] (fun vj vo w4 => NwR la vars w3 vj vo w4) (fun vj _ _ => vars.length - (intOf vj).toNat)
            case atStart => exact NW0.out
            case round =>
              obtain ⟨j, rfl, hj, g4, how⟩ := hrel
              have G4 := hid g4
              have OW := hid how
              obtain ⟨oa, oc, rfl⟩ := own_shapeG how
              have x8s := g4.cell x8r (by simp)
              clear g4 how
              by_cases hjl : j < vars.length
              · obtain ⟨y, hy⟩ : ∃ y, vars[j]? = some y := ⟨_, List.getElem?_eq_getElem hjl⟩
                obtain ⟨a9, c9, e9, k9⟩ := VAT.out.shape
                obtain ⟨rfl, rfl⟩ : va = a9 ∧ vc = c9 := by simpa using e9
                obtain ⟨b9, o9, rfl, p9⟩ := k9 (by omega)
                have q9 := (p9 j hjl).grown G4.out
                rw [(gN_at hy).1, (gN_at hy).2] at q9
                obtain ⟨q90, q91⟩ := q9
                have HFT := hid (filter_take_g (fun y => decide (y ∉ la)) hy)
                obtain ⟨ya, yb⟩ := y
                simp only at q90 q91
                have hji : (j : Int) < (vars.length : Int) := by omega
                have AMO := hid (fun (W : World) (g : wr.grownBy W none) => ramong_x la ya yb (.slice la2 la.length lc2) W ((LAT.out.grown G4.out).grown g) hll)
                obtain ⟨T, hT⟩ : ∃ T, T = (vars.take j).filter fun y => decide (y ∉ la) := ⟨_, rfl⟩
                rw [← hT] at OW HFT ⊢
                have hTl : T.length ≤ 20 := by rw [hT]; exact Nat.le_trans (List.length_filter_le ..) (Nat.le_trans (List.length_take_le' ..) hvl)
                clear e9 k9 p9 hy hT
                go_wp2_with fail
                go_region_with (go_at_call 91; refine (AMO.out _ (by (repeat (first | exact gr_refl _ _ | assumption | refine gr_drew ?_ | refine gr_drewN _ ?_ | refine gr_alloc ?_ _ | refine gr_set ?_ | refine gr_set_new ?_ (by first | omega | (simp; omega)))))).mono ?_; rintro e w5 ⟨rfl, g5⟩; have G5 := hid (gr_trans (by (repeat (first | exact gr_refl _ _ | assumption | refine gr_drew ?_ | refine gr_drewN _ ?_ | refine gr_alloc ?_ _ | refine gr_set ?_ | refine gr_set_new ?_ (by first | omega | (simp; omega)))) : wr.grownBy _ none) g5); clear g5)
                all_goals
                  by_cases hm : (ya, yb) ∈ la
                  · have NXT := hid (show NwR la vars w3 (.int .i64 ((j : Int) + 1)) (.slice oa T.length oc) w5 from ⟨j + 1, by go_num, by omega, gr_trans G4.out G5.out, by
                      rw [HFT.out, if_neg (by simpa using hm), List.append_nil]; exact own_growG OW.out G5.out⟩)
                    rw [decide_eq_true hm]
                    go_wp2_with fail
                    refine ⟨NXT.out, ?_⟩
                    show vars.length - ((j : Int) + 1).toNat < vars.length - (j : Int).toNat
                    omega
                  · rw [decide_eq_false hm]
                    obtain ⟨i0, hi0, hz0, hz1, hz2⟩ := info_parts infoArg
                    have nB := heap_alloc_new w5 (.cells #[.string ⟨ya.toArray⟩, .string ⟨yb.toArray⟩] 58)
                    have gB := World.grownBy_alloc w5 (.cells #[.string ⟨ya.toArray⟩, .string ⟨yb.toArray⟩] 58) none
                    have q90r := G5.out.cell q90 (by simp)
                    have q91r := G5.out.cell q91 (by simp)
                    have GB := hid (gr_trans (gr_trans G4.out G5.out) gB)
                    have OB := hid (own_growG (own_growG OW.out G5.out) gB)
                    have HSRC := hid (show SrcAt (w5.alloc (.cells #[.string ⟨ya.toArray⟩, .string ⟨yb.toArray⟩] 58)) (some ⟨w5.heap.size, 0, none⟩) (flatA [(ya, yb)]) from .inr ⟨_, rfl, fun j' u hu => by
                      rw [add_at, Nat.zero_add]
                      refine (cell_of_block nB j').trans ?_
                      rw [← hu]
                      match j' with
                      | 0 => rfl
                      | 1 => rfl
                      | j' + 2 => rfl⟩)
                    have HBS := hid GB.out.size
                    clear nB gB
                    go_wp2_with (refine wpl_appG rfl (.tmp 57) (.tmp 62) 22 rfl (base := w3.heap.size) (e := 58) (size := 2) (bytes := 32) Tryz.underlying22 hi0 hz0 hz1 hz2 rfl (by decide) (v := .slice oa T.length oc) (by rfl) OB.out (ad := some ⟨w5.heap.size, 0, none⟩) (m := 1) (c := 1) (news := flatA [(ya, yb)]) (by rfl) rfl HSRC.out (flatA_one _) (by unfold maxLen; omega) (by omega) HBS.out ?_; intro v8 w8 k2 k3 k4; have NXT := hid (show NwR la vars w3 (.int .i64 ((j : Int) + 1)) v8 w8 from ⟨j + 1, by go_num, by omega, gr_own GB.out OB.out (Nat.le_refl _) k3, by
                      rw [HFT.out, if_pos (by simpa using hm)]; unfold OwnA; rw [List.length_append, flatA_app]; exact k2⟩); clear k2 k3 k4)
                    refine ⟨NXT.out, ?_⟩
                    show vars.length - ((j : Int) + 1).toNat < vars.length - (j : Int).toNat
                    omega
              · obtain rfl : j = vars.length := by omega
                have OW2 := hid (show OwnA wr w3.heap.size (.slice oa ((vars.take vars.length).filter fun y => decide (y ∉ la)).length oc) (newsL ⟨sd, ht, po, tg, sq, en, false, re, la⟩ vars) by
                  have := OW.out; rw [List.take_length] at this ⊢; exact this)
                obtain ⟨nl, hnl⟩ : ∃ nl, nl = ((vars.take vars.length).filter fun y => decide (y ∉ la)).length := ⟨_, rfl⟩
                rw [← hnl] at OW2 ⊢
                clear hnl OW
                have GW := hid (gr_trans HGR.out (gr_trans GX.out (gr_trans G3.out G4.out)))
                have P4 := P0.out.grow GW.out
                have hB4 := hid (gr_keep GW.out HB.out (by simp))
                have hC4 := hid (gr_keep (gr_trans GX.out (gr_trans G3.out G4.out)) HCS.out (by simp))
                have A4 := P4.each _ (List.mem_of_getElem? HEK.out)
                have U1 := hid (P4.upd2 (e' := (⟨sd, ht, po, tg, sq, en, true, re, la⟩, .slice la2 la.length lc2)) (j := 6) (v := .bool true) hB4.out ⟨cs0, hC4.out⟩ HEK.out (by omega) rfl A4)
                have f6 := free_of_block hC4.out (k * 9 + 6)
                have d6 := (cell_of_block hB4.out 0).trans (show _ = some (Value.slice (some ⟨g0, 0, none⟩) E.length cap) from rfl)
                obtain ⟨aa, cca, pp1, -, -, -, pp2⟩ := P4.parts
                obtain rfl : aa = some ⟨g0, 0, none⟩ := by
                  rw [hB4.out] at pp1
                  have := congrArg (fun o => match o with | some (Obj.cells cs _ _) => cs[0]? | _ => none) pp1
                  simp at this
                  exact this.1.symm
                obtain ⟨gg, ee, -, -, pp3⟩ := pp2 k _ HEK.out
                obtain rfl : g0 = gg := by simpa using ee
                have r6 := (pp3 6 (by omega)).trans (show _ = some (Value.bool false) from rfl)
                have GL := hid (gr_trans G3.out G4.out)
                clear pp1 pp2 pp3 ee P4
                go_upto_region 13 with fail
                obtain ⟨w0, hw0⟩ : ∃ w0, w0 = wr.setCell ⟨g0, k * 9 + 6, none⟩ (.bool true) := ⟨_, rfl⟩
                rw [← hw0] at U1 ⊢
                have VK := hid ((HVK.out.grow (gr_trans GA.out GW.out)).kt tr_ta U1.out.2.1)
                have VSRC := hid (show SrcAt w0 va (flatA vars) by
                  obtain ⟨a8, c8, e8, k8⟩ := VK.out.at.shape
                  obtain ⟨rfl, -⟩ : va = a8 ∧ vc = c8 := by simpa using e8
                  rcases Nat.eq_zero_or_pos vars.length with h | h
                  · obtain rfl : vars = [] := List.eq_nil_of_length_eq_zero h
                    exact .inl rfl
                  · obtain ⟨b8, o8, rfl, p8⟩ := k8 h
                    exact .inr ⟨_, rfl, fun j u hu => by rw [add_at]; exact pair_flat p8 j u hu⟩)
                have b0 := (cell_of_block U1.out.2.2.1 0).trans (show _ = some (Value.slice (some ⟨g0, 0, none⟩) E.length cap) from rfl)
                obtain ⟨i0, hi0, hz0, hz1, hz2⟩ := info_parts infoArg
                have g6 : wr.grownBy w0 (some g0) := by rw [hw0]; exact gr_set (gr_refl _ _)
                have NX0 := hid (gr_keep g6 (gr_keep (gr_trans G3.out G4.out) NX.out (by simp)) (by have := lt_of_block HCS.out; have := HDE.out; simp; omega))
                have NWS := hid ((OW2.out.keep N (fun _ => True) (fun _ _ => trivial)).kt tr_ta U1.out.2.1)
                have U6 := hid (show U8K wr w0 by rw [hw0]; exact u8_set r6 (by intro m h; cases h))
                clear hw0 r6 d6 f6 g6 OW2
                refine wp_region_spec3 10 11 none (by kernel_rfl) (by kernel_rfl) (by kernel_rfl) (by kernel_rfl) (by kernel_rfl) (by kernel_rfl) [some 71, some 72, some 73, some 74, some 75, some 76, some 77, some 78, some 79, some 80] (by kernel_rfl) _ (fun u => (by simp only [fill, List.zipIdx_cons, List.zipIdx_nil, List.foldl_cons, List.foldl_nil, Act.put, List.setIfInBounds_toArray, List.set_cons_zero, List.set_cons_succ, Nat.zero_add, Nat.reduceAdd]; exact rfl)) (by kernel_rfl)
                  (all_succ (all_succ (all_succ (all_succ (all_succ (all_succ (all_succ (all_succ (all_succ (all_succ (all_zero _) (fun u v => by kernel_rfl)) (fun u v => by kernel_rfl)) (fun u v => by kernel_rfl)) (fun u v => by kernel_rfl)) (fun u v => by kernel_rfl)) (fun u v => by kernel_rfl)) (fun u v => by kernel_rfl)) (fun u v => by kernel_rfl)) (fun u v => by kernel_rfl)) (fun u v => by kernel_rfl))
                  (fun ri v w => match ri with | 0 => v = .pointer (some ⟨B, 0, none⟩) | 1 => v = .pointer (some ⟨B, 0, none⟩) | 2 => v = .pointer (some ⟨B, 0, none⟩) | 3 => v = .slice (some ⟨g0, 0, none⟩) E.length cap | 4 => v = .int .i64 (k : Int) | 5 => ∃ b, v = .slice (some ⟨b, 0, none⟩) 0 0 ∧ w.ownsRow w0.heap.size 58 2 (.slice (some ⟨b, 0, none⟩) 0 0) 0 [] | 6 => v = .slice va vars.length vc | 7 => OwnA w w0.heap.size v vars | 8 => v = .pointer (some ⟨g0, k * 9, none⟩) | 9 => v = .pointer (some ⟨g0, k * 9 + 8, none⟩) | _ => True)
                  (all_succ (all_succ (all_succ (all_succ (all_succ (all_succ (all_succ (all_succ (all_succ (all_succ (all_zero _) ?qm0) ?qm1) ?qm2) ?qm3) ?qm4) ?qm5) ?qm6) ?qm7) ?qm8) ?qm9)
                  [[], [0], [1], [2], [], [], [], [5, 6], [3, 4], [8]] (by kernel_rfl)
                  ⟨?qo0, ?qo1, ?qo2, ?qo3, ?qo4, ?qo5, ?qo6, ?qo7, ?qo8, ?qo9, trivial⟩ ?qdone
                case qm0 => intro v w w' h g; first | exact h | exact own_growG h g | exact ⟨h.choose, h.choose_spec.1, own_growG h.choose_spec.2 g⟩
                case qm1 => intro v w w' h g; first | exact h | exact own_growG h g | exact ⟨h.choose, h.choose_spec.1, own_growG h.choose_spec.2 g⟩
                case qm2 => intro v w w' h g; first | exact h | exact own_growG h g | exact ⟨h.choose, h.choose_spec.1, own_growG h.choose_spec.2 g⟩
                case qm3 => intro v w w' h g; first | exact h | exact own_growG h g | exact ⟨h.choose, h.choose_spec.1, own_growG h.choose_spec.2 g⟩
                case qm4 => intro v w w' h g; first | exact h | exact own_growG h g | exact ⟨h.choose, h.choose_spec.1, own_growG h.choose_spec.2 g⟩
                case qm5 => intro v w w' h g; first | exact h | exact own_growG h g | exact ⟨h.choose, h.choose_spec.1, own_growG h.choose_spec.2 g⟩
                case qm6 => intro v w w' h g; first | exact h | exact own_growG h g | exact ⟨h.choose, h.choose_spec.1, own_growG h.choose_spec.2 g⟩
                case qm7 => intro v w w' h g; first | exact h | exact own_growG h g | exact ⟨h.choose, h.choose_spec.1, own_growG h.choose_spec.2 g⟩
                case qm8 => intro v w w' h g; first | exact h | exact own_growG h g | exact ⟨h.choose, h.choose_spec.1, own_growG h.choose_spec.2 g⟩
                case qm9 => intro v w w' h g; first | exact h | exact own_growG h g | exact ⟨h.choose, h.choose_spec.1, own_growG h.choose_spec.2 g⟩
                case qo0 =>
                  intro u w g hd K hK
                  replace g : w0.grownBy w (none) := g
                  clear hd
                  simp only [Act.put, List.setIfInBounds_toArray, List.set_cons_zero, List.set_cons_succ] at hK
                  go_simp
                  exact hK _ _ rfl (gr_refl _ _)
                case qo1 =>
                  intro u w g hd K hK
                  replace g : w0.grownBy w (none) := g
                  have h0 : (u 0) = .pointer (some ⟨B, 0, none⟩) := hd 0 (by simp)
                  clear hd
                  simp only [Act.put, List.setIfInBounds_toArray, List.set_cons_zero, List.set_cons_succ] at hK
                  simp only [h0] at hK ⊢
                  go_simp
                  exact hK _ _ rfl (gr_refl _ _)
                case qo2 =>
                  intro u w g hd K hK
                  replace g : w0.grownBy w (none) := g
                  have h1 : (u 1) = .pointer (some ⟨B, 0, none⟩) := hd 1 (by simp)
                  clear hd
                  simp only [Act.put, List.setIfInBounds_toArray, List.set_cons_zero, List.set_cons_succ] at hK
                  simp only [h1] at hK ⊢
                  go_simp
                  exact hK _ _ rfl (gr_refl _ _)
                case qo3 =>
                  intro u w g hd K hK
                  replace g : w0.grownBy w (none) := g
                  have h2 : (u 2) = .pointer (some ⟨B, 0, none⟩) := hd 2 (by simp)
                  clear hd
                  simp only [Act.put, List.setIfInBounds_toArray, List.set_cons_zero, List.set_cons_succ] at hK
                  have c := g.cell b0 (by simp)
                  simp only [h2] at hK ⊢
                  go_simp
                  exact hK _ _ rfl (gr_refl _ _)
                case qo4 =>
                  intro u w g hd K hK
                  replace g : w0.grownBy w (none) := g
                  clear hd
                  simp only [Act.put, List.setIfInBounds_toArray, List.set_cons_zero, List.set_cons_succ] at hK
                  go_simp
                  exact hK _ _ rfl (gr_refl _ _)
                case qo5 =>
                  intro u w g hd K hK
                  replace g : w0.grownBy w (none) := g
                  clear hd
                  simp only [Act.put, List.setIfInBounds_toArray, List.set_cons_zero, List.set_cons_succ] at hK
                  have gs := g.size
                  go_simp
                  refine hK _ _ ⟨w.heap.size, rfl, ?_⟩ (gr_alloc (gr_refl _ _) _)
                  exact ⟨rfl, .inr ⟨w.heap.size, 0, #[], rfl, gs, heap_alloc_new w _, Nat.le_refl _, by simp [maxLen], rfl, rfl⟩⟩
                case qo6 =>
                  intro u w g hd K hK
                  replace g : w0.grownBy w (none) := g
                  clear hd
                  simp only [Act.put, List.setIfInBounds_toArray, List.set_cons_zero, List.set_cons_succ] at hK
                  go_simp
                  exact hK _ _ rfl (gr_refl _ _)
                case qo7 =>
                  intro u w g hd K hK
                  replace g : w0.grownBy w (none) := g
                  have h5 : ∃ b, (u 5) = .slice (some ⟨b, 0, none⟩) 0 0 ∧ w.ownsRow w0.heap.size 58 2 (.slice (some ⟨b, 0, none⟩) 0 0) 0 [] := hd 5 (by simp)
                  have h6 : (u 6) = .slice va vars.length vc := hd 6 (by simp)
                  clear hd
                  simp only [Act.put, List.setIfInBounds_toArray, List.set_cons_zero, List.set_cons_succ] at hK
                  obtain ⟨b, e1, o1⟩ := h5
                  split
                  rotate_left
                  · rename_i hno; exact absurd rfl hno
                  refine wp_app0 (.tmp 76) (.tmp 77) 22 rfl (base := w0.heap.size) (e := 58) (size := 2) (bytes := 32) Tryz.underlying22 hi0 hz0 hz1 hz2 rfl (by decide) (b := b) (by exact e1) o1 (ad := va) (m := vars.length) (c := vc) (news := flatA vars) (by exact h6) (flatA_len vars) (VSRC.out.grown g) (by unfold maxLen; omega) (by omega) g.size ?_
                  intro v' w' q2 q3 q4
                  exact hK v' w' q2 q3
                case qo8 =>
                  intro u w g hd K hK
                  replace g : w0.grownBy w (none) := g
                  have h3 : (u 3) = .slice (some ⟨g0, 0, none⟩) E.length cap := hd 3 (by simp)
                  have h4 : (u 4) = .int .i64 (k : Int) := hd 4 (by simp)
                  clear hd
                  simp only [Act.put, List.setIfInBounds_toArray, List.set_cons_zero, List.set_cons_succ] at hK
                  simp only [h3, h4] at hK ⊢
                  go_simp
                  exact hK _ _ rfl (gr_refl _ _)
                case qo9 =>
                  intro u w g hd K hK
                  replace g : w0.grownBy w (none) := g
                  have h8 : (u 8) = .pointer (some ⟨g0, k * 9, none⟩) := hd 8 (by simp)
                  clear hd
                  simp only [Act.put, List.setIfInBounds_toArray, List.set_cons_zero, List.set_cons_succ] at hK
                  simp only [h8] at hK ⊢
                  go_simp
                  exact hK _ _ rfl (gr_refl _ _)
                intro u w hS g
                have s0 : (u 0) = .pointer (some ⟨B, 0, none⟩) := hS 0 (by decide)
                have s1 : (u 1) = .pointer (some ⟨B, 0, none⟩) := hS 1 (by decide)
                have s2 : (u 2) = .pointer (some ⟨B, 0, none⟩) := hS 2 (by decide)
                have s3 : (u 3) = .slice (some ⟨g0, 0, none⟩) E.length cap := hS 3 (by decide)
                have s4 : (u 4) = .int .i64 (k : Int) := hS 4 (by decide)
                have s5 : ∃ b, (u 5) = .slice (some ⟨b, 0, none⟩) 0 0 ∧ w.ownsRow w0.heap.size 58 2 (.slice (some ⟨b, 0, none⟩) 0 0) 0 [] := hS 5 (by decide)
                have s6 : (u 6) = .slice va vars.length vc := hS 6 (by decide)
                have s7 : OwnA w w0.heap.size (u 7) vars := hS 7 (by decide)
                have s8 : (u 8) = .pointer (some ⟨g0, k * 9, none⟩) := hS 8 (by decide)
                have s9 : (u 9) = .pointer (some ⟨g0, k * 9 + 8, none⟩) := hS 9 (by decide)
                clear hS
                replace g : w0.grownBy w none := g
                change wpList _ _ _ [_] _ _
                have GY := hid g
                have T7 := hid s7
                have T9 := hid s9
                clear s0 s1 s2 s3 s4 s5 s6 s7 s8 s9 g
                generalize u 0 = y0 at *
                generalize u 1 = y1 at *
                generalize u 2 = y2 at *
                generalize u 3 = y3 at *
                generalize u 4 = y4 at *
                generalize u 5 = y5 at *
                generalize u 6 = y6 at *
                generalize u 7 = y7 at *
                generalize u 8 = y8 at *
                generalize u 9 = y9 at *
                obtain rfl := T9.out
                have P5 := U1.out.1.grow GY.out
                have hB5 := gr_keep GY.out U1.out.2.2.1 (by simp)
                have hb5 := U1.out.2.2.2.1.imp fun cs (h : w0.heap[g0]? = _) => gr_keep GY.out h (by simp)
                have r8 := GY.out.cell ((U1.out.2.2.2.2.2 8 (by omega)).trans (show _ = some (Value.slice la2 la.length lc2) from rfl)) (by simp)
                have f8 := free_of_block hb5.choose_spec (k * 9 + 8)
                have A7 := T7.out.keep N (fun b => F b ∧ b ≠ A) (fun b hb => HFF.out b (Nat.le_trans (Nat.le_trans (gr_trans HGR.out (gr_trans GX.out (gr_trans G3.out G4.out))).size U1.out.2.1.size) hb))
                have U2 := hid (P5.upd2 (e' := (⟨sd, ht, po, tg, sq, en, true, re, vars⟩, y7)) (j := 8) (v := y7) (by rw [List.length_set]; exact hB5) hb5 U1.out.2.2.2.2.1 (by omega) rfl A7)
                have K2 := hid (U1.out.2.1.trans ((KT.of_none GY.out).trans U2.out.2.1))
                obtain ⟨ra, rc, rfl⟩ := own_shapeG T7.out
                clear P5 hB5 A7 hb5 b0
                go_upto_region 14 with fail
                obtain ⟨w0, hw0⟩ : ∃ w0, w0 = w.setCell ⟨g0, k * 9 + 8, none⟩ (.slice ra vars.length rc) := ⟨_, rfl⟩
                have UU8 := hid (show U8K w w0 by rw [hw0]; exact u8_set r8 (by intro m h; cases h))
                have g8 : w.grownBy w0 (some g0) := by rw [hw0]; exact gr_set (gr_refl _ _)
                rw [← hw0] at U2 K2 ⊢
                have NX7 := gr_keep g8 (gr_keep GY.out NX0.out (by simp)) (by have := lt_of_block HCS.out; have := HDE.out; simp; omega)
                have NW := hid ((((NWS.out.grow GY.out)).kt tr_ta U2.out.2.1).at)
                have BOD := hid (fun (W : World) (g : w0.grownBy W none) => rbody_x (newsL ⟨sd, ht, po, tg, sq, en, false, re, la⟩ vars) _ W (NW.out.grown g) (newsL_sm _ vars HVS.out))
                have z0 := (cell_of_block NX7 0).trans (show _ = some (Value.string ⟨sd.toArray⟩) from rfl)
                have z1 := (cell_of_block NX7 1).trans (show _ = some (Value.int .u32 (ht : Int)) from rfl)
                have z2 := (cell_of_block NX7 2).trans (show _ = some (Value.int .u16 (po : Int)) from rfl)
                have z3 := (cell_of_block NX7 3).trans (show _ = some (Value.string ⟨tg.toArray⟩) from rfl)
                have z4 := (cell_of_block NX7 4).trans (show _ = some (Value.int .u32 (sq : Int)) from rfl)
                have HA7 := hid (K2.out.of_type (gr_keep GW.out HA0.out (by simp)) rfl)
                have K7 := hid ((KT.of_none (T := TR) (N := N) (gr_trans GA.out GW.out)).trans K2.out)
                have HBL := hid (bodL_len _ (newsL_sm ⟨sd, ht, po, tg, sq, en, false, re, la⟩ vars HVS.out))
                have hnx : nextL (E.map (·.1)) now vars = k := by
                  rw [nextL_hit]
                  exact hit_is _ _ k (by omega) hR.out.2.2 (.inr ⟨_, HMK.out, by rw [HD.out, decide_eq_true (show re ≤ now by omega), decide_eq_true HLN.out]; rfl⟩)
                have HNX := hid (show (E.map (·.1))[nextL (E.map (·.1)) now vars]? = some ⟨sd, ht, po, tg, sq, en, false, re, la⟩ by rw [hnx, HMK.out])
                have HTD := hid (show toldL (E.map (·.1)) now vars = ((E.set k (⟨sd, ht, po, tg, sq, en, true, re, la⟩, .slice la2 la.length lc2)).set k (⟨sd, ht, po, tg, sq, en, true, re, vars⟩, .slice ra vars.length rc)).map (·.1) by
                  unfold toldL
                  rw [hnx, List.set_set, map_set1]
                  exact modify_set HMK.out)
                obtain ⟨BL, hBL⟩ : ∃ BL, BL = bodL (newsL ⟨sd, ht, po, tg, sq, en, false, re, la⟩ vars) := ⟨_, rfl⟩
                rw [← hBL] at BOD HBL
                have HBE := hid hBL
                have U8 := hid (((u8_none (gr_trans GA.out GW.out)).trans U6.out).trans ((u8_none GY.out).trans UU8.out))
                clear hBL hw0 g8 NX7 hnx HD HLN hR
                refine wp_region_spec3 14 15 none (by kernel_rfl) (by kernel_rfl) (by kernel_rfl) (by kernel_rfl) (by kernel_rfl) (by kernel_rfl) [some 81, some 82, some 83, some 84, some 85, some 86, some 87, some 88, some 89, some 90, some 91, some 92, some 93, some 94] (by kernel_rfl) _ (fun u => (by simp only [fill, List.zipIdx_cons, List.zipIdx_nil, List.foldl_cons, List.foldl_nil, Act.put, List.setIfInBounds_toArray, List.set_cons_zero, List.set_cons_succ, Nat.zero_add, Nat.reduceAdd]; exact rfl)) (by kernel_rfl)
                  (all_succ (all_succ (all_succ (all_succ (all_succ (all_succ (all_succ (all_succ (all_succ (all_succ (all_succ (all_succ (all_succ (all_succ (all_zero _) (fun u v => by kernel_rfl)) (fun u v => by kernel_rfl)) (fun u v => by kernel_rfl)) (fun u v => by kernel_rfl)) (fun u v => by kernel_rfl)) (fun u v => by kernel_rfl)) (fun u v => by kernel_rfl)) (fun u v => by kernel_rfl)) (fun u v => by kernel_rfl)) (fun u v => by kernel_rfl)) (fun u v => by kernel_rfl)) (fun u v => by kernel_rfl)) (fun u v => by kernel_rfl)) (fun u v => by kernel_rfl))
                  (fun ri v w => match ri with | 0 => v = .pointer (some ⟨D, 0, none⟩) | 1 => v = .string ⟨sd.toArray⟩ | 2 => v = .pointer (some ⟨D, 4, none⟩) | 3 => v = .int .u32 (sq : Int) | 4 => v = .pointer (some ⟨D, 1, none⟩) | 5 => v = .int .u32 (ht : Int) | 6 => v = .pointer (some ⟨D, 2, none⟩) | 7 => v = .int .u16 (po : Int) | 8 => v = .pointer (some ⟨D, 3, none⟩) | 9 => v = .string ⟨tg.toArray⟩ | 10 => v = .slice oa nl oc | 11 => v = .string ⟨BL.toArray⟩ | 12 => Bytes w v BL | 13 => ∃ bv, v = .agg #[.string ⟨sd.toArray⟩, .int .u32 (sq : Int), .int .u32 (ht : Int), .int .u16 (po : Int), .string ⟨tg.toArray⟩, bv] ∧ Bytes w bv BL | _ => True)
                  (all_succ (all_succ (all_succ (all_succ (all_succ (all_succ (all_succ (all_succ (all_succ (all_succ (all_succ (all_succ (all_succ (all_succ (all_zero _) ?nm0) ?nm1) ?nm2) ?nm3) ?nm4) ?nm5) ?nm6) ?nm7) ?nm8) ?nm9) ?nm10) ?nm11) ?nm12) ?nm13)
                  [[], [0], [], [2], [], [4], [], [6], [], [8], [], [10], [11], [1, 3, 5, 7, 9, 12]] (by kernel_rfl)
                  ⟨?no0, ?no1, ?no2, ?no3, ?no4, ?no5, ?no6, ?no7, ?no8, ?no9, ?no10, ?no11, ?no12, ?no13, trivial⟩ ?ndone
                case nm0 => intro v w w' h g; first | exact h | exact Bytes.grown h (by simpa using g) | (obtain ⟨bv, e, hb⟩ := h; exact ⟨bv, e, Bytes.grown hb (by simpa using g)⟩)
                case nm1 => intro v w w' h g; first | exact h | exact Bytes.grown h (by simpa using g) | (obtain ⟨bv, e, hb⟩ := h; exact ⟨bv, e, Bytes.grown hb (by simpa using g)⟩)
                case nm2 => intro v w w' h g; first | exact h | exact Bytes.grown h (by simpa using g) | (obtain ⟨bv, e, hb⟩ := h; exact ⟨bv, e, Bytes.grown hb (by simpa using g)⟩)
                case nm3 => intro v w w' h g; first | exact h | exact Bytes.grown h (by simpa using g) | (obtain ⟨bv, e, hb⟩ := h; exact ⟨bv, e, Bytes.grown hb (by simpa using g)⟩)
                case nm4 => intro v w w' h g; first | exact h | exact Bytes.grown h (by simpa using g) | (obtain ⟨bv, e, hb⟩ := h; exact ⟨bv, e, Bytes.grown hb (by simpa using g)⟩)
                case nm5 => intro v w w' h g; first | exact h | exact Bytes.grown h (by simpa using g) | (obtain ⟨bv, e, hb⟩ := h; exact ⟨bv, e, Bytes.grown hb (by simpa using g)⟩)
                case nm6 => intro v w w' h g; first | exact h | exact Bytes.grown h (by simpa using g) | (obtain ⟨bv, e, hb⟩ := h; exact ⟨bv, e, Bytes.grown hb (by simpa using g)⟩)
                case nm7 => intro v w w' h g; first | exact h | exact Bytes.grown h (by simpa using g) | (obtain ⟨bv, e, hb⟩ := h; exact ⟨bv, e, Bytes.grown hb (by simpa using g)⟩)
                case nm8 => intro v w w' h g; first | exact h | exact Bytes.grown h (by simpa using g) | (obtain ⟨bv, e, hb⟩ := h; exact ⟨bv, e, Bytes.grown hb (by simpa using g)⟩)
                case nm9 => intro v w w' h g; first | exact h | exact Bytes.grown h (by simpa using g) | (obtain ⟨bv, e, hb⟩ := h; exact ⟨bv, e, Bytes.grown hb (by simpa using g)⟩)
                case nm10 => intro v w w' h g; first | exact h | exact Bytes.grown h (by simpa using g) | (obtain ⟨bv, e, hb⟩ := h; exact ⟨bv, e, Bytes.grown hb (by simpa using g)⟩)
                case nm11 => intro v w w' h g; first | exact h | exact Bytes.grown h (by simpa using g) | (obtain ⟨bv, e, hb⟩ := h; exact ⟨bv, e, Bytes.grown hb (by simpa using g)⟩)
                case nm12 => intro v w w' h g; first | exact h | exact Bytes.grown h (by simpa using g) | (obtain ⟨bv, e, hb⟩ := h; exact ⟨bv, e, Bytes.grown hb (by simpa using g)⟩)
                case nm13 => intro v w w' h g; first | exact h | exact Bytes.grown h (by simpa using g) | (obtain ⟨bv, e, hb⟩ := h; exact ⟨bv, e, Bytes.grown hb (by simpa using g)⟩)
                case no0 =>
                  intro u w g hd K hK
                  replace g : w0.grownBy w (none) := g
                  clear hd
                  simp only [Act.put, List.setIfInBounds_toArray, List.set_cons_zero, List.set_cons_succ] at hK
                  go_simp
                  exact hK _ _ rfl (gr_refl _ _)
                case no1 =>
                  intro u w g hd K hK
                  replace g : w0.grownBy w (none) := g
                  have h0 : (u 0) = .pointer (some ⟨D, 0, none⟩) := hd 0 (by simp)
                  clear hd
                  simp only [Act.put, List.setIfInBounds_toArray, List.set_cons_zero, List.set_cons_succ] at hK
                  have c := g.cell z0 (by simp)
                  simp only [h0] at hK ⊢
                  go_simp
                  exact hK _ _ rfl (gr_refl _ _)
                case no2 =>
                  intro u w g hd K hK
                  replace g : w0.grownBy w (none) := g
                  clear hd
                  simp only [Act.put, List.setIfInBounds_toArray, List.set_cons_zero, List.set_cons_succ] at hK
                  go_simp
                  exact hK _ _ rfl (gr_refl _ _)
                case no3 =>
                  intro u w g hd K hK
                  replace g : w0.grownBy w (none) := g
                  have h2 : (u 2) = .pointer (some ⟨D, 4, none⟩) := hd 2 (by simp)
                  clear hd
                  simp only [Act.put, List.setIfInBounds_toArray, List.set_cons_zero, List.set_cons_succ] at hK
                  have c := g.cell z4 (by simp)
                  simp only [h2] at hK ⊢
                  go_simp
                  exact hK _ _ rfl (gr_refl _ _)
                case no4 =>
                  intro u w g hd K hK
                  replace g : w0.grownBy w (none) := g
                  clear hd
                  simp only [Act.put, List.setIfInBounds_toArray, List.set_cons_zero, List.set_cons_succ] at hK
                  go_simp
                  exact hK _ _ rfl (gr_refl _ _)
                case no5 =>
                  intro u w g hd K hK
                  replace g : w0.grownBy w (none) := g
                  have h4 : (u 4) = .pointer (some ⟨D, 1, none⟩) := hd 4 (by simp)
                  clear hd
                  simp only [Act.put, List.setIfInBounds_toArray, List.set_cons_zero, List.set_cons_succ] at hK
                  have c := g.cell z1 (by simp)
                  simp only [h4] at hK ⊢
                  go_simp
                  exact hK _ _ rfl (gr_refl _ _)
                case no6 =>
                  intro u w g hd K hK
                  replace g : w0.grownBy w (none) := g
                  clear hd
                  simp only [Act.put, List.setIfInBounds_toArray, List.set_cons_zero, List.set_cons_succ] at hK
                  go_simp
                  exact hK _ _ rfl (gr_refl _ _)
                case no7 =>
                  intro u w g hd K hK
                  replace g : w0.grownBy w (none) := g
                  have h6 : (u 6) = .pointer (some ⟨D, 2, none⟩) := hd 6 (by simp)
                  clear hd
                  simp only [Act.put, List.setIfInBounds_toArray, List.set_cons_zero, List.set_cons_succ] at hK
                  have c := g.cell z2 (by simp)
                  simp only [h6] at hK ⊢
                  go_simp
                  exact hK _ _ rfl (gr_refl _ _)
                case no8 =>
                  intro u w g hd K hK
                  replace g : w0.grownBy w (none) := g
                  clear hd
                  simp only [Act.put, List.setIfInBounds_toArray, List.set_cons_zero, List.set_cons_succ] at hK
                  go_simp
                  exact hK _ _ rfl (gr_refl _ _)
                case no9 =>
                  intro u w g hd K hK
                  replace g : w0.grownBy w (none) := g
                  have h8 : (u 8) = .pointer (some ⟨D, 3, none⟩) := hd 8 (by simp)
                  clear hd
                  simp only [Act.put, List.setIfInBounds_toArray, List.set_cons_zero, List.set_cons_succ] at hK
                  have c := g.cell z3 (by simp)
                  simp only [h8] at hK ⊢
                  go_simp
                  exact hK _ _ rfl (gr_refl _ _)
                case no10 =>
                  intro u w g hd K hK
                  replace g : w0.grownBy w (none) := g
                  clear hd
                  simp only [Act.put, List.setIfInBounds_toArray, List.set_cons_zero, List.set_cons_succ] at hK
                  go_simp
                  exact hK _ _ rfl (gr_refl _ _)
                case no11 =>
                  intro u w g hd K hK
                  replace g : w0.grownBy w (none) := g
                  have h10 : (u 10) = .slice oa nl oc := hd 10 (by simp)
                  clear hd
                  simp only [Act.put, List.setIfInBounds_toArray, List.set_cons_zero, List.set_cons_succ] at hK
                  simp only [h10] at hK ⊢
                  go_simp
                  refine (BOD.out w g).mono ?_
                  rintro e w' ⟨rfl, rfl⟩
                  exact hK _ _ rfl (gr_refl _ _)
                case no12 =>
                  intro u w g hd K hK
                  replace g : w0.grownBy w (none) := g
                  have h11 : (u 11) = .string ⟨BL.toArray⟩ := hd 11 (by simp)
                  clear hd
                  simp only [Act.put, List.setIfInBounds_toArray, List.set_cons_zero, List.set_cons_succ] at hK
                  split
                  rotate_left
                  · rename_i hno; exact absurd rfl hno
                  refine wp_s2b 9 37 5 (.tmp 92) rfl Tryz.underlying9 Tryz.underlying37 Tryz.underlying5 ⟨BL.toArray⟩ (by exact h11) (by rw [Lib.size_eq]; unfold maxLen; have := HBL.out; simp only; omega) ?_
                  intro g1 c1 w' q1 q2 q3
                  exact hK _ _ q2.bytes q3
                case no13 =>
                  intro u w g hd K hK
                  replace g : w0.grownBy w (none) := g
                  have h1 : (u 1) = .string ⟨sd.toArray⟩ := hd 1 (by simp)
                  have h3 : (u 3) = .int .u32 (sq : Int) := hd 3 (by simp)
                  have h5 : (u 5) = .int .u32 (ht : Int) := hd 5 (by simp)
                  have h7 : (u 7) = .int .u16 (po : Int) := hd 7 (by simp)
                  have h9 : (u 9) = .string ⟨tg.toArray⟩ := hd 9 (by simp)
                  have h12 : Bytes w (u 12) BL := hd 12 (by simp)
                  clear hd
                  simp only [Act.put, List.setIfInBounds_toArray, List.set_cons_zero, List.set_cons_succ] at hK
                  have hb' := h12
                  obtain ⟨ba, bc, hbe, -⟩ := h12
                  simp only [h1, h3, h5, h7, h9, hbe] at hK hb' ⊢
                  go_simp
                  exact hK _ _ ⟨_, rfl, hb'⟩ (gr_refl _ _)
                intro u w hS g
                have s0 : (u 0) = .pointer (some ⟨D, 0, none⟩) := hS 0 (by decide)
                have s1 : (u 1) = .string ⟨sd.toArray⟩ := hS 1 (by decide)
                have s2 : (u 2) = .pointer (some ⟨D, 4, none⟩) := hS 2 (by decide)
                have s3 : (u 3) = .int .u32 (sq : Int) := hS 3 (by decide)
                have s4 : (u 4) = .pointer (some ⟨D, 1, none⟩) := hS 4 (by decide)
                have s5 : (u 5) = .int .u32 (ht : Int) := hS 5 (by decide)
                have s6 : (u 6) = .pointer (some ⟨D, 2, none⟩) := hS 6 (by decide)
                have s7 : (u 7) = .int .u16 (po : Int) := hS 7 (by decide)
                have s8 : (u 8) = .pointer (some ⟨D, 3, none⟩) := hS 8 (by decide)
                have s9 : (u 9) = .string ⟨tg.toArray⟩ := hS 9 (by decide)
                have s10 : (u 10) = .slice oa nl oc := hS 10 (by decide)
                have s11 : (u 11) = .string ⟨BL.toArray⟩ := hS 11 (by decide)
                have s12 : Bytes w (u 12) BL := hS 12 (by decide)
                have s13 : ∃ bv, (u 13) = .agg #[.string ⟨sd.toArray⟩, .int .u32 (sq : Int), .int .u32 (ht : Int), .int .u16 (po : Int), .string ⟨tg.toArray⟩, bv] ∧ Bytes w bv BL := hS 13 (by decide)
                clear hS
                replace g : w0.grownBy w none := g
                change wpList _ _ _ [_, _] _ _
                obtain ⟨bv, e13, hbv⟩ := s13
                have HBV := hid hbv
                have E13 := hid e13
                have GZ := hid g
                clear s0 s1 s2 s3 s4 s5 s6 s7 s8 s9 s10 s11 s12 g e13 hbv
                generalize u 0 = y0 at *
                generalize u 1 = y1 at *
                generalize u 2 = y2 at *
                generalize u 3 = y3 at *
                generalize u 4 = y4 at *
                generalize u 5 = y5 at *
                generalize u 6 = y6 at *
                generalize u 7 = y7 at *
                generalize u 8 = y8 at *
                generalize u 9 = y9 at *
                generalize u 10 = y10 at *
                generalize u 11 = y11 at *
                generalize u 12 = y12 at *
                generalize u 13 = y13 at *
                obtain rfl := E13.out
                clear E13
                have HAr := hid (gr_keep GZ.out HA7.out (by simp))
                have a0 := (cell_of_block HAr.out 0).trans rfl
                have a1 := (cell_of_block HAr.out 1).trans rfl
                have a2 := (cell_of_block HAr.out 2).trans rfl
                have a3 := (cell_of_block HAr.out 3).trans rfl
                have a4 := (cell_of_block HAr.out 4).trans rfl
                have a5 := (cell_of_block HAr.out 5).trans rfl
                have f0 := free_of_block HAr.out 0
                have f1 := free_of_block HAr.out 1
                have f2 := free_of_block HAr.out 2
                have f3 := free_of_block HAr.out 3
                have f4 := free_of_block HAr.out 4
                have f5 := free_of_block HAr.out 5
                obtain ⟨ba, bc, hbe, -⟩ := HBV.out
                obtain ⟨bl, hbl⟩ : ∃ bl, bl = BL.length := ⟨_, rfl⟩
                rw [← hbl] at hbe
                subst hbe
                clear hbl z0 z1 z2 z3 z4 r8 f8
                go_wp2_with fail
                have hF := six_set HAr.out (.string ⟨sd.toArray⟩) (.int .u32 (sq : Int)) (.int .u32 (ht : Int)) (.int .u16 (po : Int)) (.string ⟨tg.toArray⟩) (.slice ba bl bc)
                have gF := six_gr (w := w) (b := A) (.string ⟨sd.toArray⟩) (.int .u32 (sq : Int)) (.int .u32 (ht : Int)) (.int .u16 (po : Int)) (.string ⟨tg.toArray⟩) (.slice ba bl bc)
                have hPA := ((U2.out.1.grow GZ.out).row gF HAr.out (by decide) (fun h => h.2 rfl)).f (F' := F) (fun b _ h => h.1)
                have hKK := (K7.out.trans (KT.of_none GZ.out)).then_new gF (by have := HAA.out; omega)
                have hU := (U8.out.trans (u8_none GZ.out)).then_new gF (by have := HAA.out; omega)
                have hBY : Bytes _ (.slice ba bl bc) BL := Bytes.kept_blk HBV.out gF HAr.out (note_no _ _ _ _ _ _ _ _)
                revert hF hPA hKK hBY hU
                generalize ((((((w.setCell ⟨A, 0, none⟩ (.string ⟨sd.toArray⟩)).setCell ⟨A, 1, none⟩ (.int .u32 (sq : Int))).setCell ⟨A, 2, none⟩ (.int .u32 (ht : Int))).setCell ⟨A, 3, none⟩ (.int .u16 (po : Int))).setCell ⟨A, 4, none⟩ (.string ⟨tg.toArray⟩)).setCell ⟨A, 5, none⟩ (.slice ba bl bc)) = w9
                intro hF hPA hKK hU hBY
                clear a0 a1 a2 a3 a4 a5 f0 f1 f2 f3 f4 f5 gF
                have b0 := (cell_of_block hF 0).trans (show _ = some (Value.string ⟨sd.toArray⟩) from rfl)
                have b1 := (cell_of_block hF 1).trans (show _ = some (Value.int .u32 (sq : Int)) from rfl)
                have b2 := (cell_of_block hF 2).trans (show _ = some (Value.int .u32 (ht : Int)) from rfl)
                have b3 := (cell_of_block hF 3).trans (show _ = some (Value.int .u16 (po : Int)) from rfl)
                have b4 := (cell_of_block hF 4).trans (show _ = some (Value.string ⟨tg.toArray⟩) from rfl)
                have b5 := (cell_of_block hF 5).trans (show _ = some (Value.slice ba bl bc) from rfl)
                exact bodyPost_ret (v := .tuple #[.agg #[.string ⟨sd.toArray⟩, .int .u32 (sq : Int), .int .u32 (ht : Int), .int .u16 (po : Int), .string ⟨tg.toArray⟩, .slice ba bl bc], .bool true]) (by simp [results, Tryz.results54, go_sem, b0, b1, b2, b3, b4, b5]) rfl ⟨hKK, hU, by rw [HTD.out]; exact hPA.all, by rw [HNX.out]; exact ⟨_, rfl, by rw [← HBE.out]; exact hBY⟩⟩
end Go.Proofs.YtfceodbpkghkaaaGreatDoor
