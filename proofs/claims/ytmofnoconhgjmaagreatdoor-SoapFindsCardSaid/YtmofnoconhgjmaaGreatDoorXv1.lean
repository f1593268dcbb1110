/- xml.weight, xml.right: what may be written. -/
import Derived.Test.YtmofnoconhgjmaaGreatDoorMW
namespace Go.Proofs.YtmofnoconhgjmaaGreatDoor
open Go.RowKit
set_option linter.unusedVariables false
set_option linter.unusedSimpArgs false

/-- An attribute in a box. -/
def AtB (w : World) (b : Nat) (a : At) : Prop := w.heap[b]? = some (.cells #[.string ⟨a.1.toArray⟩, .string ⟨a.2.1.toArray⟩, .string ⟨a.2.2.toArray⟩] 102 (0, 0))
theorem AtB.grow {w w' : World} {b : Nat} {a : At} (h : AtB w b a) (g : w.grownBy w' none) : AtB w' b a := gr_keep g h (by simp)
theorem AtB.cells {w : World} {b : Nat} {a : At} (h : AtB w b a) : w.cell? ⟨b, 0, none⟩ = some (.string ⟨a.1.toArray⟩) ∧ w.cell? ⟨b, 1, none⟩ = some (.string ⟨a.2.1.toArray⟩) ∧ w.cell? ⟨b, 2, none⟩ = some (.string ⟨a.2.2.toArray⟩) :=
  ⟨cell_of_block h 0, cell_of_block h 1, cell_of_block h 2⟩
theorem AtB.new (w : World) (a : At) : AtB (w.alloc (.cells #[.string ⟨a.1.toArray⟩, .string ⟨a.2.1.toArray⟩, .string ⟨a.2.2.toArray⟩] 102)) w.heap.size a := heap_alloc_new w _
/-- One of an element's attributes in memory. -/
theorem AtsAt.get {w : World} {X : Nat → Prop} {a : Option Addr} {n c : Nat} {l : List At} (h : AtsAt w X (.slice a n c) l) {i : Nat} (hi : i < l.length) : ∃ g o, a = some ⟨g, o, none⟩ ∧ ¬ X g ∧ l.length ≤ c ∧ TriAt w g (o + i * 3) (l.getD i at0) := by
  obtain ⟨a', c', e', h'⟩ := h
  simp only [Value.slice.injEq] at e'
  obtain ⟨rfl, -, rfl⟩ := e'
  obtain ⟨g, o, rfl, ⟨h1, h2⟩, h3⟩ := h' i hi
  exact ⟨g, o, rfl, h1, h2, h3⟩
theorem getD_some {l : List At} {i : Nat} (h : i < l.length) : l[i]? = some (l.getD i at0) := by
  rw [List.getD_eq_getElem?_getD, List.getElem?_eq_getElem h]; rfl
set_option maxRecDepth 20000 in
set_option maxHeartbeats 20000000 in
theorem weight_any (w : World) (X : Nat → Prop) (v : Value) (e : El) (he : ElAt w X v e) (hl : e.ats.length ≤ 100000) :
    Calls Tryz.prog 49 #[v] w fun e' w' => e' = .returned (.int .i64 (weiN e : Int)) ∧ w.grownBy w' none := by
  rw [weiN_eq]
  obtain ⟨s, n, ats, tx, kids⟩ := e
  obtain ⟨av, kv, rfl, ha, hk⟩ := he
  simp only at hl ha ⊢
  have HA := hid ha
  obtain ⟨aa, ac, rfl, -⟩ := ha
  obtain ⟨ka, kc, rfl, -⟩ := hk
  unfold elV str
  simp only
  have E1 := hid (show ElB _ w.heap.size s n (.slice aa ats.length ac) tx (.slice ka kids.len kc) from heap_alloc_new w (.cells #[.string ⟨s.toArray⟩, .string ⟨n.toArray⟩, .slice aa ats.length ac, .string ⟨tx.toArray⟩, .slice ka kids.len kc] 25))
  have G1 := hid (gr_alloc (gr_refl w none) (.cells #[.string ⟨s.toArray⟩, .string ⟨n.toArray⟩, .slice aa ats.length ac, .string ⟨tx.toArray⟩, .slice ka kids.len kc] 25))
  obtain ⟨s0, s1, s2, s3, s4⟩ := ElB.cells E1.out
  go_enter Tryz.func49, Tryz.ntmps49
  go_wp2_with fail
  clear s0 s1 s2 s3 s4
  go_loopw [3, 9] (fun v3 v9 wr => ∃ i : Nat, v9 = .int .i64 (i : Int) ∧ v3 = .int .i64 ((1 + weiA ats i : Nat) : Int) ∧ i ≤ ats.length ∧ w.grownBy wr none) (fun _ v9 _ => ats.length - (intOf v9).toNat)
  case atStart => exact ⟨0, rfl, rfl, Nat.zero_le _, G1.out⟩
  case round =>
    obtain ⟨i, rfl, rfl, hi, hg⟩ := hrel
    have HG := hid hg
    have hwl := weiA_le ats i
    clear hg
    by_cases hlt : i < ats.length
    · obtain ⟨g, o, rfl, -, -, hT⟩ := (HA.out.grow HG.out).get hlt
      have HS := hid (weiA_succ (getD_some hlt))
      generalize ats.getD i at0 = y at *
      obtain ⟨u1, u2, u3⟩ := y
      have p0 := hT.c0
      have p1 := hT.c1
      have p2 := hT.c2
      simp only at p0 p1 p2 HS
      have hi0 : (0 : Int) ≤ (i : Int) := by omega
      have hi1 : (i : Int) < (ats.length : Int) := by omega
      have hi2 : (i : Int) + 1 ≤ 100001 := by omega
      have GC := hid (gr_alloc (gr_refl wr none) (.cells #[.string ⟨u1.toArray⟩, .string ⟨u2.toArray⟩, .string ⟨u3.toArray⟩] 102))
      have GD := hid (gr_trans HG.out GC.out)
      obtain ⟨c0, c1, c2⟩ := (AtB.new wr (u1, u2, u3)).cells
      simp only at c0 c1 c2
      generalize weiA ats i = W at *
      have hw1 : ((1 + W : Nat) : Int) + 1 ≤ 300000 := by omega
      have hw2 : ((1 + W : Nat) : Int) + 1 + 1 ≤ 300001 := by omega
      clear hT
      by_cases h0 : u1 = []
      · have q : u1.isEmpty = true := by rw [h0]; rfl
        have HE := hid (show weiA ats (i + 1) = W + 1 by rw [HS.out, if_pos h0])
        clear h0
        go_wp2_with fail
        go_roundw
        case rel => exact ⟨i + 1, by go_num, by rw [HE.out]; go_num, by omega, GD.out⟩
        case measure => simp [intOf]; omega
      · have q : u1.isEmpty = false := by
          cases u1 with
          | nil => exact absurd rfl h0
          | cons _ _ => rfl
        have HE := hid (show weiA ats (i + 1) = W + 2 by rw [HS.out, if_neg h0])
        clear h0
        go_wp2_with fail
        go_roundw
        case rel => exact ⟨i + 1, by go_num, by rw [HE.out]; go_num, by omega, GD.out⟩
        case measure => simp [intOf]; omega
    · obtain rfl : i = ats.length := by omega
      clear hi hlt
      go_wp2_with fail
      go_ret
      exact ⟨rfl, HG.out⟩
theorem okAts_no {ats : List At} {i : Nat} (hi : i < ats.length) (h : okAt ats i = false) : okAts ats ats.length = false := by
  unfold okAts
  rw [List.all_eq_false]
  exact ⟨i, List.mem_range.2 hi, by rw [h]; decide⟩
def BdE (e : El) : Prop := e.n.length ≤ 100000 ∧ e.s.length ≤ 100000 ∧ e.tx.length ≤ 100000 ∧ e.ats.length ≤ 100000 ∧ ∀ i, i < e.ats.length → (e.ats.getD i at0).1.length ≤ 100000 ∧ (e.ats.getD i at0).2.1.length ≤ 100000 ∧ (e.ats.getD i at0).2.2.length ≤ 100000
theorem sz_le {l : Bs} {n : Nat} (h : l.length ≤ n) : (⟨l.toArray⟩ : ByteArray).size ≤ n := by rw [Lib.size_eq]; simpa using h
theorem dl_eq (l : Bs) : (⟨l.toArray⟩ : ByteArray).data.toList = l := rfl
set_option maxRecDepth 20000 in
set_option maxHeartbeats 20000000 in
theorem right_any (w : World) (X : Nat → Prop) (v : Value) (e : El) (he : ElAt w X v e) (hb : BdE e) :
    Calls Tryz.prog 48 #[v] w fun e' w' => e' = .returned (.bool (rightB e)) ∧ w.grownBy w' none := by
  obtain ⟨s, n, ats, tx, kids⟩ := e
  obtain ⟨av, kv, rfl, ha, hk⟩ := he
  have HR := hid (show rightB ⟨s, n, ats, tx, kids⟩ = (nameB n && plainB s && plainB tx && okAts ats ats.length) from rfl)
  generalize rightB ⟨s, n, ats, tx, kids⟩ = R at *
  unfold BdE at hb
  simp only at hb ha ⊢
  have HA := hid ha
  have HB := hid hb
  obtain ⟨aa, ac, rfl, -⟩ := ha
  obtain ⟨ka, kc, rfl, -⟩ := hk
  unfold elV str
  simp only
  have E0 := hid (show ElB _ w.heap.size s n (.slice aa ats.length ac) tx (.slice ka kids.len kc) from heap_alloc_new w (.cells #[.string ⟨s.toArray⟩, .string ⟨n.toArray⟩, .slice aa ats.length ac, .string ⟨tx.toArray⟩, .slice ka kids.len kc] 25))
  have G0 := hid (gr_alloc (gr_refl w none) (.cells #[.string ⟨s.toArray⟩, .string ⟨n.toArray⟩, .slice aa ats.length ac, .string ⟨tx.toArray⟩, .slice ka kids.len kc] 25))
  obtain ⟨w0, hw0⟩ : ∃ w0, w0 = w.alloc (.cells #[.string ⟨s.toArray⟩, .string ⟨n.toArray⟩, .slice aa ats.length ac, .string ⟨tx.toArray⟩, .slice ka kids.len kc] 25) := ⟨_, rfl⟩
  obtain ⟨bx, hbx⟩ : ∃ bx, bx = w.heap.size := ⟨_, rfl⟩
  rw [← hw0] at E0 G0
  rw [← hbx] at E0
  have HW0 := hid hw0
  have HBX := hid hbx
  clear hw0 hbx hb
  go_enter Tryz.func48, Tryz.ntmps48
  go_upto_region 1 with fail
  rw [← HW0.out, ← HBX.out]
  clear HW0 HBX
  obtain ⟨s0, s1, s2, s3, s4⟩ := ElB.cells E0.out
  go_wp2_with fail
  refine (xname_any ⟨n.toArray⟩ w0 (sz_le HB.out.1)).mono ?_
  rintro e1 w1 ⟨rfl, g1⟩
  rw [dl_eq]
  have G1 := hid (gr_trans G0.out g1)
  have E1 := hid (E0.out.grow g1)
  clear s0 s1 s2 s3 s4 g1 E0
  cases hn : nameB n with
  | false =>
    rw [hn] at HR
    obtain rfl : R = false := HR.out
    go_wp2_with fail
    go_ret
    exact ⟨rfl, G1.out⟩
  | true =>
  rw [hn] at HR
  clear hn
  obtain ⟨s0, s1, s2, s3, s4⟩ := ElB.cells E1.out
  go_wp2_with fail
  refine (xplain_any ⟨s.toArray⟩ w1 (sz_le HB.out.2.1)).mono ?_
  rintro e1 w2 ⟨rfl, g2⟩
  rw [dl_eq]
  have G2 := hid (gr_trans G1.out g2)
  have E2 := hid (E1.out.grow g2)
  clear s0 s1 s2 s3 s4 g2 E1
  cases hn : plainB s with
  | false =>
    rw [hn] at HR
    obtain rfl : R = false := HR.out
    go_wp2_with fail
    go_ret
    exact ⟨rfl, G2.out⟩
  | true =>
  rw [hn] at HR
  clear hn
  obtain ⟨s0, s1, s2, s3, s4⟩ := ElB.cells E2.out
  go_wp2_with fail
  refine (xplain_any ⟨tx.toArray⟩ w2 (sz_le HB.out.2.2.1)).mono ?_
  rintro e1 w3 ⟨rfl, g3⟩
  rw [dl_eq]
  have G3 := hid (gr_trans G2.out g3)
  have E3 := hid (E2.out.grow g3)
  clear s0 s1 s2 s3 s4 g3 E2
  cases hn : plainB tx with
  | false =>
    rw [hn] at HR
    obtain rfl : R = false := HR.out
    go_wp2_with fail
    go_ret
    exact ⟨rfl, G3.out⟩
  | true =>
  rw [hn] at HR
  clear hn
  have HR2 := hid (show R = okAts ats ats.length by rw [HR.out]; simp)
  clear HR
  obtain ⟨s0, s1, s2, s3, s4⟩ := ElB.cells E3.out
  go_wp2_with fail
  clear s0 s1 s2 s3 s4
  go_loopw [26] (fun v26 wr => ∃ i : Nat, v26 = .int .i64 (i : Int) ∧ i ≤ ats.length ∧ w3.grownBy wr none ∧ okAts ats i = true) (fun v26 _ => ats.length - (intOf v26).toNat)
  case atStart => exact ⟨0, rfl, Nat.zero_le _, gr_refl _ _, rfl⟩
  case round =>
    obtain ⟨i, rfl, hi, hg, hok⟩ := hrel
    have HG := hid hg
    have HOK := hid hok
    clear hg hok
    by_cases hlt : i < ats.length
    · obtain ⟨g, o, rfl, -, hcap, hT⟩ := (HA.out.grow (gr_trans G3.out HG.out)).get hlt
      obtain ⟨b1, b2, b3⟩ := HB.out.2.2.2.2 i hlt
      have HS := hid (okAts_succ ats i)
      have HY := hid (getD_some hlt)
      have HIL := hid hlt
      generalize ats.getD i at0 = y at *
      obtain ⟨x1, x2, x3⟩ := y
      have p0 := hT.c0
      have p1 := hT.c1
      have p2 := hT.c2
      simp only at p0 p1 p2 b1 b2 b3
      have HOA := hid (show okAt ats i = (nameB x2 && plainB x1 && plainB x3 && !(decide (x1 = []) && decide (x2 = nsT)) && !((ats.take i).any (sameA x1 x2))) by unfold okAt; rw [HY.out])
      have hi0 : (0 : Int) ≤ (i : Int) := by omega
      have hi1 : (i : Int) < (ats.length : Int) := by omega
      have hi2 : (i : Int) + 1 ≤ 100001 := by have := HB.out.2.2.2.1; omega
      have HCAP := hid hcap
      clear hT hcap
      have F0 := hid (AtB.new wr (x1, x2, x3))
      have g4 := gr_alloc (gr_refl wr none) (.cells #[.string ⟨x1.toArray⟩, .string ⟨x2.toArray⟩, .string ⟨x3.toArray⟩] 102)
      obtain ⟨w4, hw4⟩ : ∃ w4, w4 = wr.alloc (.cells #[.string ⟨x1.toArray⟩, .string ⟨x2.toArray⟩, .string ⟨x3.toArray⟩] 102) := ⟨_, rfl⟩
      obtain ⟨bb, hbb⟩ : ∃ bb, bb = wr.heap.size := ⟨_, rfl⟩
      simp only at F0
      rw [← hw4] at F0 g4
      rw [← hbb] at F0
      have HW4 := hid hw4
      have HBB := hid hbb
      have G4 := hid (gr_trans HG.out g4)
      clear hw4 hbb g4
      go_upto_region 6 with fail
      rw [← HW4.out, ← HBB.out]
      clear HW4 HBB p0 p1 p2
      obtain ⟨c0, c1, c2⟩ := F0.out.cells
      simp only at c0 c1 c2
      go_wp2_with fail
      refine (xname_any ⟨x2.toArray⟩ w4 (sz_le b2)).mono ?_
      rintro e5 w5 ⟨rfl, g5⟩
      rw [dl_eq]
      have G5 := hid (gr_trans G4.out g5)
      have F5 := hid (F0.out.grow g5)
      clear c0 c1 c2 g5 F0
      cases hn : nameB x2 with
      | false =>
        rw [hn] at HOA
        have HF := hid (show R = false by rw [HR2.out]; exact okAts_no HIL.out HOA.out)
        have GF := hid (gr_trans G3.out G5.out)
        go_wp2_with fail
        go_ret
        exact ⟨by rw [HF.out]; rfl, GF.out⟩
      | true =>
      rw [hn] at HOA
      clear hn
      obtain ⟨c0, c1, c2⟩ := F5.out.cells
      simp only at c0 c1 c2
      go_wp2_with fail
      refine (xplain_any ⟨x1.toArray⟩ w5 (sz_le b1)).mono ?_
      rintro e6 w6 ⟨rfl, g6⟩
      rw [dl_eq]
      have G6 := hid (gr_trans G5.out g6)
      have F6 := hid (F5.out.grow g6)
      clear c0 c1 c2 g6 F5
      cases hn : plainB x1 with
      | false =>
        rw [hn] at HOA
        have HF := hid (show R = false by rw [HR2.out]; exact okAts_no HIL.out HOA.out)
        have GF := hid (gr_trans G3.out G6.out)
        go_wp2_with fail
        go_ret
        exact ⟨by rw [HF.out]; rfl, GF.out⟩
      | true =>
      rw [hn] at HOA
      clear hn
      obtain ⟨c0, c1, c2⟩ := F6.out.cells
      simp only at c0 c1 c2
      go_wp2_with fail
      refine (xplain_any ⟨x3.toArray⟩ w6 (sz_le b3)).mono ?_
      rintro e7 w7 ⟨rfl, g7⟩
      rw [dl_eq]
      have G7 := hid (gr_trans G6.out g7)
      have F7 := hid (F6.out.grow g7)
      clear c0 c1 c2 g7 F6
      cases hn : plainB x3 with
      | false =>
        rw [hn] at HOA
        have HF := hid (show R = false by rw [HR2.out]; exact okAts_no HIL.out HOA.out)
        have GF := hid (gr_trans G3.out G7.out)
        go_wp2_with fail
        go_ret
        exact ⟨by rw [HF.out]; rfl, GF.out⟩
      | true =>
      rw [hn] at HOA
      clear hn
      have G8 := hid (gr_trans G3.out G7.out)
      obtain ⟨s0, s1, s2, s3, s4⟩ := ElB.cells (E3.out.grow G7.out)
      obtain ⟨c0, c1, c2⟩ := F7.out.cells
      simp only at c0 c1 c2
      have hci : (i : Int) ≤ (ac : Int) := by have := HCAP.out; have := HIL.out; omega
      have STEP : ∀ (q0 : x1.isEmpty = decide (x1 = [])), True := fun _ => trivial
      by_cases h0 : x1 = [] ∧ x2 = nsT
      · have q : x1.isEmpty = true := by rw [h0.1]; rfl
        have q2 : (x2 == [120, 109, 108, 110, 115]) = true := by rw [h0.2]; rfl
        have HF := hid (show R = false by rw [HR2.out]; exact okAts_no HIL.out (by rw [HOA.out, decide_eq_true h0.1, decide_eq_true h0.2]; rfl))
        clear h0
        go_wp2_with fail
        go_ret
        exact ⟨by rw [HF.out]; rfl, G8.out⟩
      · have HOB := hid (show okAt ats i = !((ats.take i).any (sameA x1 x2)) by
          rw [HOA.out, show (decide (x1 = []) && decide (x2 = nsT)) = false by rw [Bool.and_eq_false_iff, decide_eq_false_iff_not, decide_eq_false_iff_not]; exact Classical.not_and_iff_not_or_not.1 h0]; rfl)
        have HQ := hid h0
        clear h0 HOA
        by_cases h1 : x1 = []
        · have q : x1.isEmpty = true := by rw [h1]; rfl
          have q2 : (x2 == [120, 109, 108, 110, 115]) = false := by rw [beq_dec, decide_eq_false (show ¬ x2 = [120, 109, 108, 110, 115] from fun e => HQ.out ⟨h1, e⟩)]
          clear h1
          go_wp2_with fail
          clear s0 s1 s2 s3 s4 c0 c1 c2
          go_loopw [62] (fun v62 WX => ∃ j : Nat, v62 = .int .i64 (j : Int) ∧ j ≤ i ∧ w7.grownBy WX none ∧ (ats.take j).any (sameA x1 x2) = false) (fun v62 _ => i - (intOf v62).toNat)
          case atStart => exact ⟨0, rfl, Nat.zero_le _, gr_refl _ _, rfl⟩
          case round =>
            obtain ⟨j, rfl, hj, hgx, hno⟩ := hrel
            have HGX := hid hgx
            have HNO := hid hno
            clear hgx hno
            by_cases hlt2 : j < i
            · have hjl : j < ats.length := by have := HIL.out; omega
              obtain ⟨g', o', e', -, -, hT⟩ := (HA.out.grow (gr_trans G8.out HGX.out)).get hjl
              obtain ⟨rfl, rfl⟩ : g = g' ∧ o = o' := by simpa using e'
              have HT1 := hid (show (ats.take (j + 1)).any (sameA x1 x2) = ((ats.take j).any (sameA x1 x2) || sameA x1 x2 (ats.getD j at0)) by rw [List.take_add_one, getD_some hjl]; simp)
              have HTI := hid (show (ats.take (j + 1)).any (sameA x1 x2) = true → (ats.take i).any (sameA x1 x2) = true from fun h => by
                rw [List.any_eq_true] at h ⊢
                obtain ⟨x, hx, h1⟩ := h
                exact ⟨x, (List.take_sublist_take_left (by omega)).mem hx, h1⟩)
              generalize ats.getD j at0 = y at *
              obtain ⟨v1, v2, v3⟩ := y
              have p0 := hT.c0
              have p1 := hT.c1
              have p2 := hT.c2
              simp only at p0 p1 p2
              have GY := hid (gr_alloc (gr_refl wr none) (.cells #[.string ⟨v1.toArray⟩, .string ⟨v2.toArray⟩, .string ⟨v3.toArray⟩] 102))
              have GX2 := hid (gr_trans HGX.out GY.out)
              obtain ⟨c0, c1, c2⟩ := ((F7.out.grow HGX.out).grow GY.out).cells
              obtain ⟨d0, d1, d2⟩ := (AtB.new wr (v1, v2, v3)).cells
              simp only at c0 c1 c2 d0 d1 d2
              have hj0 : (0 : Int) ≤ (j : Int) := by omega
              have hj1 : (j : Int) < (i : Int) := by omega
              have hj2 : (j : Int) + 1 ≤ 100001 := by omega
              clear hT
              by_cases z1 : x1 = v1
              · have q3 : (x1 == v1) = true := by rw [beq_dec, decide_eq_true z1]
                by_cases z2 : x2 = v2
                · have q4 : (x2 == v2) = true := by rw [beq_dec, decide_eq_true z2]
                  have HF := hid (show R = false by rw [HR2.out]; exact okAts_no HIL.out (by rw [HOB.out, HTI.out (by rw [HT1.out, show sameA x1 x2 (v1, v2, v3) = true by unfold sameA; simp [z1, z2]]; simp)]; rfl))
                  have GF := hid (gr_trans G8.out GX2.out)
                  clear z1 z2
                  go_wp2_with fail
                  go_ret
                  exact ⟨by rw [HF.out]; rfl, GF.out⟩
                · have q4 : (x2 == v2) = false := by rw [beq_dec, decide_eq_false z2]
                  have HN := hid (show (ats.take (j + 1)).any (sameA x1 x2) = false by rw [HT1.out, HNO.out, show sameA x1 x2 (v1, v2, v3) = false by unfold sameA; simp; intros; first | exact fun e => z2 e | exact fun e => z2 e.symm | assumption]; rfl)
                  clear z1 z2
                  go_wp2_with fail
                  go_roundw
                  case rel => exact ⟨j + 1, by go_num, by omega, GX2.out, HN.out⟩
                  case measure => simp [intOf]; omega
              · have q3 : (x1 == v1) = false := by rw [beq_dec, decide_eq_false z1]
                have HN := hid (show (ats.take (j + 1)).any (sameA x1 x2) = false by rw [HT1.out, HNO.out, show sameA x1 x2 (v1, v2, v3) = false by unfold sameA; simp; intro e; first | exact absurd e z1 | exact absurd e.symm z1]; rfl)
                clear z1
                go_wp2_with fail
                go_roundw
                case rel => exact ⟨j + 1, by go_num, by omega, GX2.out, HN.out⟩
                case measure => simp [intOf]; omega
            · obtain rfl : j = i := by omega
              have HN := hid (show okAts ats (j + 1) = true by rw [HS.out, HOK.out, HOB.out, HNO.out]; rfl)
              have GN := hid (gr_trans G7.out HGX.out)
              clear hlt2 hj
              go_wp2_with fail
              go_roundw
              case rel => exact ⟨j + 1, by go_num, by have := HIL.out; omega, GN.out, HN.out⟩
              case measure => simp [intOf]; omega
        · have q : x1.isEmpty = false := by
            cases x1 with
            | nil => exact absurd rfl h1
            | cons _ _ => rfl
          clear h1
          go_wp2_with fail
          clear s0 s1 s2 s3 s4 c0 c1 c2
          go_loopw [62] (fun v62 WX => ∃ j : Nat, v62 = .int .i64 (j : Int) ∧ j ≤ i ∧ w7.grownBy WX none ∧ (ats.take j).any (sameA x1 x2) = false) (fun v62 _ => i - (intOf v62).toNat)
          case atStart => exact ⟨0, rfl, Nat.zero_le _, gr_refl _ _, rfl⟩
          case round =>
            obtain ⟨j, rfl, hj, hgx, hno⟩ := hrel
            have HGX := hid hgx
            have HNO := hid hno
            clear hgx hno
            by_cases hlt2 : j < i
            · have hjl : j < ats.length := by have := HIL.out; omega
              obtain ⟨g', o', e', -, -, hT⟩ := (HA.out.grow (gr_trans G8.out HGX.out)).get hjl
              obtain ⟨rfl, rfl⟩ : g = g' ∧ o = o' := by simpa using e'
              have HT1 := hid (show (ats.take (j + 1)).any (sameA x1 x2) = ((ats.take j).any (sameA x1 x2) || sameA x1 x2 (ats.getD j at0)) by rw [List.take_add_one, getD_some hjl]; simp)
              have HTI := hid (show (ats.take (j + 1)).any (sameA x1 x2) = true → (ats.take i).any (sameA x1 x2) = true from fun h => by
                rw [List.any_eq_true] at h ⊢
                obtain ⟨x, hx, h1⟩ := h
                exact ⟨x, (List.take_sublist_take_left (by omega)).mem hx, h1⟩)
              generalize ats.getD j at0 = y at *
              obtain ⟨v1, v2, v3⟩ := y
              have p0 := hT.c0
              have p1 := hT.c1
              have p2 := hT.c2
              simp only at p0 p1 p2
              have GY := hid (gr_alloc (gr_refl wr none) (.cells #[.string ⟨v1.toArray⟩, .string ⟨v2.toArray⟩, .string ⟨v3.toArray⟩] 102))
              have GX2 := hid (gr_trans HGX.out GY.out)
              obtain ⟨c0, c1, c2⟩ := ((F7.out.grow HGX.out).grow GY.out).cells
              obtain ⟨d0, d1, d2⟩ := (AtB.new wr (v1, v2, v3)).cells
              simp only at c0 c1 c2 d0 d1 d2
              have hj0 : (0 : Int) ≤ (j : Int) := by omega
              have hj1 : (j : Int) < (i : Int) := by omega
              have hj2 : (j : Int) + 1 ≤ 100001 := by omega
              clear hT
              by_cases z1 : x1 = v1
              · have q3 : (x1 == v1) = true := by rw [beq_dec, decide_eq_true z1]
                by_cases z2 : x2 = v2
                · have q4 : (x2 == v2) = true := by rw [beq_dec, decide_eq_true z2]
                  have HF := hid (show R = false by rw [HR2.out]; exact okAts_no HIL.out (by rw [HOB.out, HTI.out (by rw [HT1.out, show sameA x1 x2 (v1, v2, v3) = true by unfold sameA; simp [z1, z2]]; simp)]; rfl))
                  have GF := hid (gr_trans G8.out GX2.out)
                  clear z1 z2
                  go_wp2_with fail
                  go_ret
                  exact ⟨by rw [HF.out]; rfl, GF.out⟩
                · have q4 : (x2 == v2) = false := by rw [beq_dec, decide_eq_false z2]
                  have HN := hid (show (ats.take (j + 1)).any (sameA x1 x2) = false by rw [HT1.out, HNO.out, show sameA x1 x2 (v1, v2, v3) = false by unfold sameA; simp; intros; first | exact fun e => z2 e | exact fun e => z2 e.symm | assumption]; rfl)
                  clear z1 z2
                  go_wp2_with fail
                  go_roundw
                  case rel => exact ⟨j + 1, by go_num, by omega, GX2.out, HN.out⟩
                  case measure => simp [intOf]; omega
              · have q3 : (x1 == v1) = false := by rw [beq_dec, decide_eq_false z1]
                have HN := hid (show (ats.take (j + 1)).any (sameA x1 x2) = false by rw [HT1.out, HNO.out, show sameA x1 x2 (v1, v2, v3) = false by unfold sameA; simp; intro e; first | exact absurd e z1 | exact absurd e.symm z1]; rfl)
                clear z1
                go_wp2_with fail
                go_roundw
                case rel => exact ⟨j + 1, by go_num, by omega, GX2.out, HN.out⟩
                case measure => simp [intOf]; omega
            · obtain rfl : j = i := by omega
              have HN := hid (show okAts ats (j + 1) = true by rw [HS.out, HOK.out, HOB.out, HNO.out]; rfl)
              have GN := hid (gr_trans G7.out HGX.out)
              clear hlt2 hj
              go_wp2_with fail
              go_roundw
              case rel => exact ⟨j + 1, by go_num, by have := HIL.out; omega, GN.out, HN.out⟩
              case measure => simp [intOf]; omega
    · obtain rfl : i = ats.length := by omega
      have HF := hid (show R = true by rw [HR2.out, HOK.out])
      have GF := hid (gr_trans G3.out HG.out)
      clear hi hlt
      go_wp2_with fail
      go_ret
      exact ⟨by rw [HF.out]; rfl, GF.out⟩
end Go.Proofs.YtmofnoconhgjmaaGreatDoor
