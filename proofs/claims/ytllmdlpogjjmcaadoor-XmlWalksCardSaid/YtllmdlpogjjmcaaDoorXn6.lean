/- hearthref17.Parse. -/
import Derived.Test.YtllmdlpogjjmcaaDoorXn3
import Derived.Test.YtllmdlpogjjmcaaDoorXn5
import Derived.Test.YtllmdlpogjjmcaaDoorMT
namespace Go.Proofs.YtllmdlpogjjmcaaDoor
open Go.RowKit
set_option linter.unusedVariables false
set_option linter.unusedSimpArgs false

theorem ins_el : ∀ N, InsideOk N ∧ ElementOk N := by
  intro N
  induction N with
  | zero =>
    have h : InsideOk 0 := fun m _ _ _ _ r _ _ _ _ _ _ _ _ _ _ hm hr => absurd hr (by omega)
    exact ⟨h, element_r 0 h inside_bad⟩
  | succ N ih => exact ⟨inside_r N ih.2, element_r (N + 1) (inside_r N ih.2) inside_bad⟩
set_option maxHeartbeats 4000000 in
theorem around_bad (b : Nat) (S rest : List UInt8) (cnt : Int) (full : Bool) (w : World) (h : DcR w b S rest cnt true full) (hS : S.length ≤ 100000) :
    Calls Tryd.prog 19 #[.pointer (some ⟨b, 0, none⟩)] w fun e w' => e = .returned (.tuple #[]) ∧ w.grownBy w' (some b) ∧ ∃ r', DcR w' b S r' cnt true full := by
  have HB0 := hid (blanks_r b S rest cnt true full w h hS)
  clear h
  go_enter Tryd.func19, Tryd.ntmps19
  go_wp2_with fail
  refine HB0.out.mono ?_
  rintro e w0 ⟨n0, rfl, -, hd0, g0⟩
  have G0 := hid g0
  have HD0 := hid hd0
  clear hd0 g0
  go_wp2_with fail
  go_loopw [4] (fun _ wr => w.grownBy wr (some b) ∧ ∃ r', DcR wr b S r' cnt true full) (fun _ wr => 0)
  case atStart => exact ⟨G0.out, _, HD0.out⟩
  case round =>
    obtain ⟨gw, r', hd⟩ := hrel
    have hbd := hd.bad
    have HD := hid hd
    have GW := hid gw
    clear gw hd
    go_wp2
    refine bodyPost_end (results_none rfl _ _ _) rfl ?_
    exact ⟨rfl, GW.out, _, HD.out⟩
/-- A text's element in the reference's memory. -/
theorem elAt_out {w : World} {base B : Nat} {e : El} {av kv : Value} (hB : B ≤ base) (ha : AtsAt w (· < base) av e.ats) (hk : KidV w (· < base) kv e.kids) : ElAt w (fun k => k < B) (elV e av kv) e :=
  ⟨av, kv, rfl, ha.less (fun k _ h => Nat.lt_of_lt_of_le h hB), hk.less (fun k _ h => Nat.lt_of_lt_of_le h hB)⟩
theorem docL_beg {l : Bs} {r : Option Bs} (h : docBeg l = r) : docL l = (r.bind (rootL xmlB)).bind fun x => if miscA x.2.1 = some [] then some (x.1, x.2.2.2) else none := by
  unfold docL; rw [h]
/-- Behind the declaration. -/
def HdQ (w wx : World) (b : Nat) (S l : Bs) : Prop := w.grownBy wx (some b) ∧ ((∃ r, docHead l = some r ∧ r.length ≤ l.length ∧ DcR wx b S r 0 false false) ∨ (docHead l = none ∧ ∃ r, DcR wx b S r 0 true false))
set_option maxRecDepth 20000 in
set_option maxHeartbeats 20000000 in
theorem rparse_r (w : World) (l : Bs) (hl : l.length ≤ 20000) :
    Calls Tryd.prog 8 #[.string ⟨l.toArray⟩] w (ParseQ w (parseL l)) := by
  obtain ⟨R, hR⟩ : ∃ R, R = parseL l := ⟨_, rfl⟩
  rw [← hR]
  have HL := hid hl
  by_cases h8 : 8192 < l.length
  · have h8' : (8192 : Int) < (l.length : Int) := by omega
    have HV := hid (show R = (El.zero, 14) by rw [hR]; unfold parseL; rw [if_pos h8])
    clear hR hl h8
    go_enter Tryd.func8, Tryd.ntmps8
    go_wp2
    refine bodyPost_ret (v := .tuple #[.agg #[.string ⟨#[]⟩, .string ⟨#[]⟩, .slice none 0 0, .string ⟨#[]⟩, .slice none 0 0], .int .i64 14]) (by simp [results, Tryd.results8, go_sem]) rfl ?_
    rw [HV.out]
    exact ⟨by (repeat (first | exact gr_refl _ _ | assumption | refine gr_drew ?_ | refine gr_drewN _ ?_ | refine gr_alloc ?_ _ | refine gr_set ?_ | refine gr_set_new ?_ (by first | omega | (simp; omega)))), _, rfl, zero_at _ _⟩
  · have h8' : ¬ (8192 : Int) < (l.length : Int) := by omega
    have HV := hid (show R = finL l (docL l) by rw [hR, parseL_fin h8])
    clear hR hl h8
    obtain ⟨w1, hw1⟩ : ∃ w1, w1 = w.alloc (.cells #[.string ⟨#[]⟩, .string ⟨#[]⟩, .slice none 0 0, .string ⟨#[]⟩, .slice none 0 0] 27) := ⟨_, rfl⟩
    obtain ⟨w2, hw2⟩ : ∃ w2, w2 = w1.alloc (.cells #[.string ⟨l.toArray⟩, .int .i64 0, .int .i64 0, .bool false, .bool false] 56) := ⟨_, rfl⟩
    have G1 := hid (show w.grownBy w1 none by rw [hw1]; exact gr_alloc (gr_refl _ _) _)
    have T1 := hid (show ElB w1 w.heap.size [] [] (.slice none 0 0) [] (.slice none 0 0) by rw [hw1]; exact heap_alloc_new w _)
    have HSZ := hid (show w.heap.size + 1 = w1.heap.size by rw [hw1]; simp)
    have G2 := hid (show w1.grownBy w2 (some w1.heap.size) by rw [hw2]; exact gr_alloc (gr_refl _ _) _)
    have D2 := hid (show DcR w2 w1.heap.size l l 0 false false from ⟨0, Nat.zero_le _, rfl, by rw [hw2]; exact heap_alloc_new w1 _⟩)
    have HW1 := hid hw1
    have HW2 := hid hw2
    clear hw1 hw2
    obtain ⟨b, hb⟩ : ∃ b, b = w1.heap.size := ⟨_, rfl⟩
    rw [← hb] at G2 D2
    have HB := hid hb
    clear hb
    -- what is written behind: the place of the result
    have HT := hid (fun (W : World) (g : w1.grownBy W (some b)) => (show ElB W w.heap.size [] [] (.slice none 0 0) [] (.slice none 0 0) from gr_keep g T1.out (by have := HB.out; have := HSZ.out; simp; omega)))
    have HGR := hid (fun (W : World) (g : w1.grownBy W (some b)) => (show w.grownBy W none from gr_new G1.out g (by have := HB.out; have := HSZ.out; omega)))
    have BAD := hid (fun (W : World) (c : Nat) (hR : R = (El.zero, c)) (g : w1.grownBy W (some b)) =>
      (show ParseQ w R (.returned (.tuple #[.agg #[.string ⟨#[]⟩, .string ⟨#[]⟩, .slice none 0 0, .string ⟨#[]⟩, .slice none 0 0], .int .i64 (c : Int)])) (ret5 W w.heap.size [] [] (.slice none 0 0) [] (.slice none 0 0)) from by
        rw [hR]; exact ⟨ret5_gr (HGR.out W g) (Nat.le_refl _), _, rfl, zero_at _ _⟩))
    clear T1 G1
    go_enter Tryd.func8, Tryd.ntmps8
    go_wp2_with fail
    rw [← HW1.out, ← HW2.out]
    rw [HSZ.out, ← HB.out]
    have HT1 := hid (pass_r b l l [60, 63, 120, 109, 108] 0 false false w2 D2.out (by have := HL.out; omega) (by decide))
    obtain ⟨p1, hp1⟩ : ∃ p1, Lib.hasPrefix l [60, 63, 120, 109, 108] = p1 := ⟨_, rfl⟩
    have HDH := hid (show docHead l = if p1 then (if (Lib.cut (Lib.trimPrefix l decO) decC).2.2 then some (Lib.cut (Lib.trimPrefix l decO) decC).2.1 else none) else some l by unfold docHead; rw [show Lib.hasPrefix l decO = p1 from hp1])
    have HN1 := hid (fun (hp : p1 = false) => show Lib.trimPrefix l [60, 63, 120, 109, 108] = l by unfold Lib.trimPrefix; rw [hp1, hp]; rfl)
    rw [hp1] at HT1
    clear hp1 HW1 HW2
    go_wp2_with fail
    refine HT1.out.mono ?_
    rintro e w3 ⟨rfl, hd, g3⟩
    have G3 := hid (gr_trans G2.out g3)
    have D3 := hid hd
    clear hd g3 HT1 G2 D2
    go_upto_if 14 with fail
    go_cut [4] (fun v4 wx => v4 = .pointer (some ⟨b, 0, none⟩) ∧ HdQ w1 wx b l l)
    case first =>
      cases p1
      · have HD := hid (show docHead l = some l from HDH.out)
        rw [HN1.out rfl] at D3
        go_wp2_with fail
        go_meet
        exact ⟨rfl, G3.out, .inl ⟨l, HD.out, Nat.le_refl _, D3.out⟩⟩
      · have HD := hid (show docHead l = if (Lib.cut (Lib.trimPrefix l [60, 63, 120, 109, 108]) [63, 62]).2.2 then some (Lib.cut (Lib.trimPrefix l [60, 63, 120, 109, 108]) [63, 62]).2.1 else none from HDH.out)
        have htl := trim_len l [60, 63, 120, 109, 108]
        generalize Lib.trimPrefix l [60, 63, 120, 109, 108] = la at *
        have hcl := cut_len la [63, 62]
        have HU := hid (upto_r b l la [63, 62] 0 false w3 D3.out (by have := HL.out; omega) (by decide) (by decide))
        unfold UpPost at HU
        generalize Lib.cut la [63, 62] = C at *
        go_wp2_with fail
        refine HU.out.mono ?_
        rintro e w4 ⟨g4, h4⟩
        have G4 := hid (gr_trans G3.out g4)
        rcases h4 with ⟨h4, rfl, h5⟩ | ⟨h4, rfl, r', h5⟩
        · have HD2 := hid (show docHead l = some C.2.1 by rw [HD.out, if_pos h4])
          have H5 := hid h5
          clear h4 h5
          unfold str
          go_wp2_with fail
          go_meet
          exact ⟨rfl, G4.out, .inl ⟨_, HD2.out, by omega, H5.out⟩⟩
        · have HD2 := hid (show docHead l = none by rw [HD.out, h4]; rfl)
          have H5 := hid h5
          clear h4 h5
          unfold str
          go_wp2_with fail
          go_meet
          exact ⟨rfl, G4.out, .inr ⟨HD2.out, _, H5.out⟩⟩
    case rest =>
      obtain ⟨rfl, g4, h4⟩ := hcut
      have G4 := hid g4
      have HX : Hid (∃ (r3 : Option Bs), True ∧ docL l = ((r3.bind fun r' => if Lib.hasPrefix r' [60] then some (Lib.trimPrefix r' [60]) else none).bind (rootL xmlB)).bind (fun x => if miscA x.2.1 = some [] then some (x.1, x.2.2.2) else none) ∧
          Calls Tryd.prog 19 #[.pointer (some ⟨b, 0, none⟩)] wc fun e w' => e = .returned (.tuple #[]) ∧ wc.grownBy w' (some b) ∧ ((∃ t, r3 = some t ∧ t.length ≤ l.length ∧ DcR w' b l t 0 false false) ∨ (r3 = none ∧ ∃ r', DcR w' b l r' 0 true false))) := by
        rcases h4 with ⟨r, h5, h6, h7⟩ | ⟨h5, r, h7⟩
        · refine hid ⟨miscA r, trivial, by unfold docL docBeg; rw [h5]; rfl, (around_r b l r 0 false wc h7 (by have := HL.out; omega)).mono ?_⟩
          rintro e w' ⟨h1, h2, h3⟩
          refine ⟨h1, h2, ?_⟩
          rcases h3 with ⟨t, h3, h8⟩ | ⟨h3, r', h8⟩
          · exact .inl ⟨t, h3, h8.len, h8⟩
          · exact .inr ⟨h3, r', h8⟩
        · refine hid ⟨none, trivial, by unfold docL docBeg; rw [h5]; rfl, (around_bad b l r 0 false wc h7 (by have := HL.out; omega)).mono ?_⟩
          rintro e w' ⟨h1, h2, h3⟩
          exact ⟨h1, h2, .inr ⟨rfl, h3⟩⟩
      clear h4 g4 HN1 HDH G3 D3
      obtain ⟨r3, -, hdoc, hcall⟩ := HX.out
      have HDOC := hid hdoc
      have HCALL := hid hcall
      clear hdoc hcall HX
      go_wp2_with fail
      refine HCALL.out.mono ?_
      rintro e w5 ⟨rfl, g5, h5⟩
      have G5 := hid (gr_trans G4.out g5)
      clear HCALL g5 G4
      rcases h5 with ⟨t, rfl, htl, hd5⟩ | ⟨rfl, r', hd5⟩
      rotate_left
      · -- bad
        have HN := hid (show R = (El.zero, 11) by rw [HV.out, HDOC.out]; rfl)
        have d3 := hd5.bad
        have HT5 := hid (HT.out w5 G5.out)
        obtain ⟨k0, k1, k2, k3, k4⟩ := ElB.cells HT5.out
        have z0 := ElB.free HT5.out 0
        have z1 := ElB.free HT5.out 1
        have z2 := ElB.free HT5.out 2
        have z3 := ElB.free HT5.out 3
        have z4 := ElB.free HT5.out 4
        clear hd5
        go_wp2
        refine bodyPost_ret (v := .tuple #[.agg #[.string ⟨#[]⟩, .string ⟨#[]⟩, .slice none 0 0, .string ⟨#[]⟩, .slice none 0 0], .int .i64 11]) (by simp [results, Tryd.results8, go_sem, k0, k1, k2, k3, k4]) rfl ?_
        exact BAD.out w5 11 HN.out G5.out
      have d3 := hd5.bad
      have D5 := hid hd5
      have HT6 := hid (pass_r b l t [60] 0 false false w5 hd5 (by have := HL.out; omega) (by decide))
      obtain ⟨p2, hp2⟩ : ∃ p2, Lib.hasPrefix t [60] = p2 := ⟨_, rfl⟩
      have HDOC2 := hid (show docL l = ((if p2 then some (Lib.trimPrefix t [60]) else none).bind (rootL xmlB)).bind (fun x => if miscA x.2.1 = some [] then some (x.1, x.2.2.2) else none) by rw [HDOC.out, ← hp2]; rfl)
      have htt := trim_len t [60]
      rw [hp2] at HT6
      clear hp2 hd5 HDOC
      go_wp2_with fail
      refine HT6.out.mono ?_
      rintro e w6 ⟨rfl, hd6, g6⟩
      have G6 := hid (gr_trans G5.out g6)
      have D6 := hid hd6
      clear hd6 g6 HT6 D5 d3 G5
      cases p2
      · have HN := hid (show R = (El.zero, 11) by rw [HV.out, HDOC2.out]; rfl)
        have HT5 := hid (HT.out w6 G6.out)
        obtain ⟨k0, k1, k2, k3, k4⟩ := ElB.cells HT5.out
        have z0 := ElB.free HT5.out 0
        have z1 := ElB.free HT5.out 1
        have z2 := ElB.free HT5.out 2
        have z3 := ElB.free HT5.out 3
        have z4 := ElB.free HT5.out 4
        go_wp2
        refine bodyPost_ret (v := .tuple #[.agg #[.string ⟨#[]⟩, .string ⟨#[]⟩, .slice none 0 0, .string ⟨#[]⟩, .slice none 0 0], .int .i64 11]) (by simp [results, Tryd.results8, go_sem, k0, k1, k2, k3, k4]) rfl ?_
        exact BAD.out w6 11 HN.out G6.out
      generalize Lib.trimPrefix t [60] = r4 at *
      have HDOC3 := hid (show docL l = (elmL (r4.length + 1) xmlB r4 1 0 false).bind (fun x => if miscA x.2.1 = some [] then some (x.1, x.2.2.2) else none) by rw [← rootL_elm]; exact HDOC2.out)
      clear HDOC2
      have CALL := hid (fun (W : World) (g : w6.grownBy W none) (vL : Value) (hv : BnAt W vL xmlB) => (ins_el (r4.length + 1)).2 (r4.length + 1) W b l r4 xmlB vL 1 0 false (Nat.le_refl _) (Nat.lt_succ_self _) (D6.out.grow g) HL.out hv (by decide) (by have := HL.out; simp only [xmlB, List.length_cons, List.length_nil]; omega) (by have := HL.out; omega) (by have := HL.out; omega))
      rw [show xmlB.reverse = xmlB from rfl] at CALL
      have hel := hid (fun x => elmL_cnt (n := r4.length + 1) (up := xmlB) (r := r4) (deep := 1) (cnt := 0) (full := false) (x := x))
      generalize elmL (r4.length + 1) xmlB r4 1 0 false = E at *
      have HBW := hid (show b < w6.heap.size from D6.out.lt)
      rw [show ((1 : Nat) : Int) = 1 from rfl] at CALL
      have BNX := hid (show BnAt (w6.alloc (.cells #[.string ⟨#[120, 109, 108]⟩, .string ⟨#[104, 116, 116, 112, 58, 47, 47, 119, 119, 119, 46, 119, 51, 46, 111, 114, 103, 47, 88, 77, 76, 47, 49, 57, 57, 56, 47, 110, 97, 109, 101, 115, 112, 97, 99, 101]⟩] 60)) (.slice (some ⟨w6.heap.size, 0, none⟩) 1 1) xmlB from
        bn_new w6 [120, 109, 108] [104, 116, 116, 112, 58, 47, 47, 119, 119, 119, 46, 119, 51, 46, 111, 114, 103, 47, 88, 77, 76, 47, 49, 57, 57, 56, 47, 110, 97, 109, 101, 115, 112, 97, 99, 101])
      have GA := hid (gr_alloc (gr_refl w6 none) (.cells #[.string ⟨#[120, 109, 108]⟩, .string ⟨#[104, 116, 116, 112, 58, 47, 47, 119, 119, 119, 46, 119, 51, 46, 111, 114, 103, 47, 88, 77, 76, 47, 49, 57, 57, 56, 47, 110, 97, 109, 101, 115, 112, 97, 99, 101]⟩] 60))
      go_wp2_with fail
      refine (CALL.out _ GA.out _ BNX.out).mono ?_
      obtain ⟨w6', hw6'⟩ : ∃ w6', w6' = w6.alloc (.cells #[.string ⟨#[120, 109, 108]⟩, .string ⟨#[104, 116, 116, 112, 58, 47, 47, 119, 119, 119, 46, 119, 51, 46, 111, 114, 103, 47, 88, 77, 76, 47, 49, 57, 57, 56, 47, 110, 97, 109, 101, 115, 112, 97, 99, 101]⟩] 60) := ⟨_, rfl⟩
      rw [← hw6'] at GA ⊢
      clear hw6' BNX CALL
      rintro e w7 ⟨g7, h7⟩
      have G7 := hid (gr_trans (gr_trans G6.out (gr_none GA.out)) g7)
      have HB7 := hid (show b < w6'.heap.size from Nat.lt_of_lt_of_le HBW.out GA.out.size)
      clear g7 G6 D6 GA
      rcases h7 with ⟨x, av, kv, hx, rfl, hd, ha, hk⟩ | ⟨hx, s', n', tx', a1, a2, l1, l2, l3, l4, r', cnt', full', rfl, hd⟩
      rotate_left
      · have HN := hid (show R = (El.zero, 11) by rw [HV.out, HDOC3.out, hx]; rfl)
        have HD8 := hid (hd.grow (gr_alloc (gr_refl w7 none) (.cells #[.string ⟨s'.toArray⟩, .string ⟨n'.toArray⟩, .slice a1 l1 l2, .string ⟨tx'.toArray⟩, .slice a2 l3 l4] 27)))
        have G8 := hid (gr_alloc G7.out (.cells #[.string ⟨s'.toArray⟩, .string ⟨n'.toArray⟩, .slice a1 l1 l2, .string ⟨tx'.toArray⟩, .slice a2 l3 l4] 27))
        unfold str
        go_upto_region 10 with fail
        generalize w7.alloc (.cells #[.string ⟨s'.toArray⟩, .string ⟨n'.toArray⟩, .slice a1 l1 l2, .string ⟨tx'.toArray⟩, .slice a2 l3 l4] 27) = w8 at *
        have d3 := HD8.out.bad
        clear hd hx G7
        have HT5 := hid (HT.out w8 G8.out)
        obtain ⟨k0, k1, k2, k3, k4⟩ := ElB.cells HT5.out
        have z0 := ElB.free HT5.out 0
        have z1 := ElB.free HT5.out 1
        have z2 := ElB.free HT5.out 2
        have z3 := ElB.free HT5.out 3
        have z4 := ElB.free HT5.out 4
        go_wp2
        refine bodyPost_ret (v := .tuple #[.agg #[.string ⟨#[]⟩, .string ⟨#[]⟩, .slice none 0 0, .string ⟨#[]⟩, .slice none 0 0], .int .i64 11]) (by simp [results, Tryd.results8, go_sem, k0, k1, k2, k3, k4]) rfl ?_
        exact BAD.out w8 11 HN.out G8.out
      have HCT := hid (hel.out x hx)
      have HDOC4 := hid (show docL l = if miscA x.2.1 = some [] then some (x.1, x.2.2.2) else none by rw [HDOC3.out, hx]; rfl)
      have HA := hid ha
      have HK := hid hk
      obtain ⟨xa, xc, rfl, -⟩ := ha
      obtain ⟨ya, yc, rfl, -⟩ := hk
      have HD8 := hid (hd.grow (gr_alloc (gr_refl w7 none) (.cells #[.string ⟨x.1.s.toArray⟩, .string ⟨x.1.n.toArray⟩, .slice xa x.1.ats.length xc, .string ⟨x.1.tx.toArray⟩, .slice ya x.1.kids.len yc] 27)))
      have GA := hid (gr_alloc (gr_refl w7 none) (.cells #[.string ⟨x.1.s.toArray⟩, .string ⟨x.1.n.toArray⟩, .slice xa x.1.ats.length xc, .string ⟨x.1.tx.toArray⟩, .slice ya x.1.kids.len yc] 27))
      have HE8 := hid (show ElB (w7.alloc (.cells #[.string ⟨x.1.s.toArray⟩, .string ⟨x.1.n.toArray⟩, .slice xa x.1.ats.length xc, .string ⟨x.1.tx.toArray⟩, .slice ya x.1.kids.len yc] 27)) w7.heap.size x.1.s x.1.n (.slice xa x.1.ats.length xc) x.1.tx (.slice ya x.1.kids.len yc) from heap_alloc_new w7 _)
      have HW7 := hid (show b < w7.heap.size ∧ w.heap.size < w7.heap.size by have h1 := hd.lt; have h2 := G7.out.size; have := HSZ.out; omega)
      clear hd hx HDOC3 hel
      unfold elV str
      go_upto_region 10 with fail
      generalize w7.alloc (.cells #[.string ⟨x.1.s.toArray⟩, .string ⟨x.1.n.toArray⟩, .slice xa x.1.ats.length xc, .string ⟨x.1.tx.toArray⟩, .slice ya x.1.kids.len yc] 27) = w8 at *
      have G8 := hid (gr_trans G7.out (gr_none GA.out))
      have d3 := HD8.out.bad
      have HAR := hid (around_r b l x.2.1 (x.2.2.1 : Int) x.2.2.2 w8 HD8.out (by have := HL.out; omega))
      go_wp2_with fail
      refine HAR.out.mono ?_
      rintro e w9 ⟨rfl, g9, h9⟩
      have G9 := hid (gr_trans G8.out g9)
      have GK := hid (gr_trans (gr_none GA.out : w7.grownBy w8 (some b)) g9)
      have HE9 := hid (show ElB w9 w7.heap.size x.1.s x.1.n (.slice xa x.1.ats.length xc) x.1.tx (.slice ya x.1.kids.len yc) from gr_keep g9 HE8.out (by have := HW7.out; simp; omega))
      clear HAR g9 d3 HD8 G8 HE8 GA
      rcases h9 with ⟨t5, ht5, hd9⟩ | ⟨ht5, r', hd9⟩
      rotate_left
      · have HN := hid (show R = (El.zero, 11) by rw [HV.out, HDOC4.out, ht5]; rfl)
        have d3 := hd9.bad
        clear hd9 ht5
        have HT5 := hid (HT.out w9 G9.out)
        obtain ⟨k0, k1, k2, k3, k4⟩ := ElB.cells HT5.out
        have z0 := ElB.free HT5.out 0
        have z1 := ElB.free HT5.out 1
        have z2 := ElB.free HT5.out 2
        have z3 := ElB.free HT5.out 3
        have z4 := ElB.free HT5.out 4
        go_wp2
        refine bodyPost_ret (v := .tuple #[.agg #[.string ⟨#[]⟩, .string ⟨#[]⟩, .slice none 0 0, .string ⟨#[]⟩, .slice none 0 0], .int .i64 11]) (by simp [results, Tryd.results8, go_sem, k0, k1, k2, k3, k4]) rfl ?_
        exact BAD.out w9 11 HN.out G9.out
      obtain ⟨i, hi, hdr, hat⟩ := hd9
      obtain ⟨c0, c1, -, d3, c4, -⟩ := hat.cells
      by_cases ht0 : t5 = []
      rotate_left
      · have HN := hid (show R = (El.zero, 11) by rw [HV.out, HDOC4.out, ht5, if_neg (fun h => ht0 (Option.some.inj h))]; rfl)
        have hlt : i < l.length := by
          have h1 : t5.length = l.length - i := by rw [← hdr, List.length_drop]
          have : 0 < t5.length := List.length_pos_iff.2 ht0
          omega
        have hlt2 : decide (i < l.length) = true := by simpa using hlt
        clear hat ht5 hdr ht0
        have HT5 := hid (HT.out w9 G9.out)
        obtain ⟨k0, k1, k2, k3, k4⟩ := ElB.cells HT5.out
        have z0 := ElB.free HT5.out 0
        have z1 := ElB.free HT5.out 1
        have z2 := ElB.free HT5.out 2
        have z3 := ElB.free HT5.out 3
        have z4 := ElB.free HT5.out 4
        go_wp2
        refine bodyPost_ret (v := .tuple #[.agg #[.string ⟨#[]⟩, .string ⟨#[]⟩, .slice none 0 0, .string ⟨#[]⟩, .slice none 0 0], .int .i64 11]) (by simp [results, Tryd.results8, go_sem, k0, k1, k2, k3, k4]) rfl ?_
        exact BAD.out w9 11 HN.out G9.out
      have hlt : ¬ i < l.length := by
        have := hdr
        rw [ht0] at this
        have := List.drop_eq_nil_iff.1 this
        omega
      have hlt2 : decide (i < l.length) = false := by simpa using hlt
      have HDOC5 := hid (show docL l = some (x.1, x.2.2.2) by rw [HDOC4.out, ht5, ht0, if_pos rfl])
      have hpl := hid (rplain_any ⟨l.toArray⟩ w9 (by rw [Lib.size_eq]; have := HL.out; simp; omega))
      rw [show (ByteArray.mk l.toArray).data.toList = l from rfl] at hpl
      obtain ⟨pb, hpb⟩ : ∃ pb, pb = plainB l := ⟨_, rfl⟩
      rw [← hpb] at hpl
      have HPB := hid hpb
      clear hat ht5 hdr ht0 hpb HDOC4 hi
      go_wp2_with fail
      refine hpl.out.mono ?_
      rintro e w10 ⟨rfl, rfl⟩
      clear hpl
      cases pb
      · have HN := hid (show R = (El.zero, 11) by rw [HV.out, HDOC5.out]; unfold finL; simp only; rw [← HPB.out]; rfl)
        have HT5 := hid (HT.out w9 G9.out)
        obtain ⟨k0, k1, k2, k3, k4⟩ := ElB.cells HT5.out
        have z0 := ElB.free HT5.out 0
        have z1 := ElB.free HT5.out 1
        have z2 := ElB.free HT5.out 2
        have z3 := ElB.free HT5.out 3
        have z4 := ElB.free HT5.out 4
        go_wp2
        refine bodyPost_ret (v := .tuple #[.agg #[.string ⟨#[]⟩, .string ⟨#[]⟩, .slice none 0 0, .string ⟨#[]⟩, .slice none 0 0], .int .i64 11]) (by simp [results, Tryd.results8, go_sem, k0, k1, k2, k3, k4]) rfl ?_
        exact BAD.out w9 11 HN.out G9.out
      have HF := hid (show R = if x.2.2.2 then (El.zero, 20) else (x.1, 0) by rw [HV.out, HDOC5.out]; unfold finL; simp only; rw [← HPB.out]; rfl)
      obtain ⟨fl, hfl⟩ : ∃ fl, fl = x.2.2.2 := ⟨_, rfl⟩
      rw [← hfl] at HF c4
      clear hfl
      cases fl
      rotate_left
      · have HN := hid (show R = (El.zero, 20) from HF.out)
        have HT5 := hid (HT.out w9 G9.out)
        obtain ⟨k0, k1, k2, k3, k4⟩ := ElB.cells HT5.out
        have z0 := ElB.free HT5.out 0
        have z1 := ElB.free HT5.out 1
        have z2 := ElB.free HT5.out 2
        have z3 := ElB.free HT5.out 3
        have z4 := ElB.free HT5.out 4
        go_wp2
        refine bodyPost_ret (v := .tuple #[.agg #[.string ⟨#[]⟩, .string ⟨#[]⟩, .slice none 0 0, .string ⟨#[]⟩, .slice none 0 0], .int .i64 20]) (by simp [results, Tryd.results8, go_sem, k0, k1, k2, k3, k4]) rfl ?_
        exact BAD.out w9 20 HN.out G9.out
      have HN := hid (show R = (x.1, 0) from HF.out)
      have HT5 := hid (HT.out w9 G9.out)
      obtain ⟨k0, k1, k2, k3, k4⟩ := ElB.cells HT5.out
      have z0 := ElB.free HT5.out 0
      have z1 := ElB.free HT5.out 1
      have z2 := ElB.free HT5.out 2
      have z3 := ElB.free HT5.out 3
      have z4 := ElB.free HT5.out 4
      obtain ⟨s0, s1, s2, s3, s4⟩ := ElB.cells HE9.out
      go_wp2
      refine bodyPost_ret (v := .tuple #[.agg #[.string ⟨x.1.s.toArray⟩, .string ⟨x.1.n.toArray⟩, .slice xa x.1.ats.length xc, .string ⟨x.1.tx.toArray⟩, .slice ya x.1.kids.len yc], .int .i64 0]) (by simp [results, Tryd.results8, go_sem, k0, k1, k2, k3, k4]) rfl ?_
      rw [HN.out]
      have hk : ∀ k, k < w7.heap.size → ¬ (k < w6'.heap.size) → (ret5 w9 w.heap.size x.1.s x.1.n (.slice xa x.1.ats.length xc) x.1.tx (.slice ya x.1.kids.len yc)).heap[k]? = w7.heap[k]? := fun k h1 h2 => by
        have hw6 : w.heap.size < w6'.heap.size := by have := HB7.out; have := HB.out; have := HSZ.out; omega
        exact (ret5_same k (Nat.lt_of_lt_of_le h1 GK.out.size) (by omega)).trans (GK.out.block k h1 (by have := HB7.out; simp; omega))
      exact ⟨ret5_gr (s := x.1.s) (n := x.1.n) (av := .slice xa x.1.ats.length xc) (tx := x.1.tx) (kv := .slice ya x.1.kids.len yc) (HGR.out w9 G9.out) (Nat.le_refl _), _, rfl, elAt_out (by have := HB7.out; have := HB.out; have := HSZ.out; omega) (HA.out.same hk) (HK.out.same hk)⟩
end Go.Proofs.YtllmdlpogjjmcaaDoor
