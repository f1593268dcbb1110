/- hearthref17.Same, of two trees that are one. -/
import Derived.Test.YtmofnoconhgjmaaGreatDoorXn1
import Derived.RegionTactic
import Derived.Deep.QuietTactic
import Derived.BigQuiet
import Derived.Deep.DeepCutAuto
namespace Go.Proofs.YtmofnoconhgjmaaGreatDoor
open Go.RowKit
set_option linter.unusedVariables false
set_option linter.unusedSimpArgs false

/-- How much there is: elements and attributes. -/
def Fo.sz : Fo → Nat
  | .nil => 0
  | .cons _ _ ats _ kids next => 1 + ats.length + kids.sz + next.sz
theorem Fo.len_sz (f : Fo) : f.len ≤ f.sz := by
  induction f with
  | nil => exact Nat.le_refl _
  | cons s n ats tx kids next _ ih => simp only [Fo.len, Fo.sz]; omega
/-- The element at a place. -/
def Fo.at : Fo → Nat → El
  | .nil, _ => El.zero
  | .cons s n ats tx kids _, 0 => ⟨s, n, ats, tx, kids⟩
  | .cons _ _ _ _ _ next, i + 1 => next.at i
theorem FoAt.get {w : World} {X : Nat → Prop} : ∀ {f : Fo} {b o i : Nat}, FoAt w X f b o → i < f.len → ∃ av kv, w.cell? ⟨b, o + i * 5, none⟩ = some (.string ⟨(f.at i).s.toArray⟩) ∧ w.cell? ⟨b, o + i * 5 + 1, none⟩ = some (.string ⟨(f.at i).n.toArray⟩) ∧ w.cell? ⟨b, o + i * 5 + 2, none⟩ = some av ∧ w.cell? ⟨b, o + i * 5 + 3, none⟩ = some (.string ⟨(f.at i).tx.toArray⟩) ∧ w.cell? ⟨b, o + i * 5 + 4, none⟩ = some kv ∧ AtsAt w X av (f.at i).ats ∧ KidV w X kv (f.at i).kids := by
  intro f
  induction f with
  | nil => intro b o i _ hi; simp [Fo.len] at hi
  | cons s n ats tx kids next _ ih =>
    intro b o i h hi
    obtain ⟨⟨c0, c1, c3⟩, ⟨av, c2, ha⟩, ⟨a, c, c4, hk⟩, hn⟩ := h
    cases i with
    | zero =>
      simp only [Nat.zero_mul, Nat.add_zero]
      exact ⟨av, _, c0, c1, c2, c3, c4, ha, ⟨a, c, rfl, hk⟩⟩
    | succ i =>
      have := ih hn (i := i) (by simp only [Fo.len] at hi; omega)
      rw [show o + (i + 1) * 5 = o + 5 + i * 5 by omega]
      exact this
abbrev noX : Nat → Prop := fun _ => False
/-- Two trees that are one are told so. -/
def SameOk (e : El) : Prop := ∀ (w : World) (v1 v2 : Value), ElAt w noX v1 e → ElAt w noX v2 e → Calls Tryz.prog 16 #[v1, v2] w fun e' w' => e' = .returned (.bool true) ∧ w.grownBy w' none
theorem AtsAt.grow {w w' : World} {X : Nat → Prop} {v : Value} {l : List At} (h : AtsAt w X v l) (g : w.grownBy w' none) : AtsAt w' X v l := h.same fun k h1 _ => g.block k h1 (by simp)
theorem KidV.grow {w w' : World} {X : Nat → Prop} {v : Value} {f : Fo} (h : KidV w X v f) (g : w.grownBy w' none) : KidV w' X v f := h.same fun k h1 _ => g.block k h1 (by simp)
set_option maxRecDepth 20000 in
set_option maxHeartbeats 20000000 in
theorem same_el (e : El) (ha : e.ats.length ≤ 100000) (hk : e.kids.len ≤ 100000) (hs : ∀ i, i < e.kids.len → SameOk (e.kids.at i)) : SameOk e := by
  intro w v1 v2 h1 h2
  obtain ⟨s, n, ats, tx, kids⟩ := e
  obtain ⟨av1, kv1, rfl, ha1, hk1⟩ := h1
  obtain ⟨av2, kv2, rfl, ha2, hk2⟩ := h2
  simp only at ha hk hs ha1 ha2 hk1 hk2
  unfold elV str
  simp only
  have HA1 := hid ha1
  have HA2 := hid ha2
  have HK1 := hid hk1
  have HK2 := hid hk2
  have HS := hid hs
  obtain ⟨a1, c1, rfl, -⟩ := ha1
  obtain ⟨a2, c2, rfl, -⟩ := ha2
  obtain ⟨b1, d1, rfl, -⟩ := hk1
  obtain ⟨b2, d2, rfl, -⟩ := hk2
  have HN := hid (show ats.length ≤ 100000 ∧ kids.len ≤ 100000 from ⟨ha, hk⟩)
  obtain ⟨x2, hx2⟩ : ∃ x2, x2 = w.heap.size + 1 := ⟨_, rfl⟩
  obtain ⟨x1, hx1⟩ : ∃ x1, x1 = w.heap.size := ⟨_, rfl⟩
  obtain ⟨w1, hw1⟩ : ∃ w1, w1 = (w.alloc (.cells #[.string ⟨s.toArray⟩, .string ⟨n.toArray⟩, .slice a1 ats.length c1, .string ⟨tx.toArray⟩, .slice b1 kids.len d1] 25)).alloc (.cells #[.string ⟨s.toArray⟩, .string ⟨n.toArray⟩, .slice a2 ats.length c2, .string ⟨tx.toArray⟩, .slice b2 kids.len d2] 25) := ⟨_, rfl⟩
  have ga : (w.alloc (.cells #[.string ⟨s.toArray⟩, .string ⟨n.toArray⟩, .slice a1 ats.length c1, .string ⟨tx.toArray⟩, .slice b1 kids.len d1] 25)).grownBy w1 none := by rw [hw1]; exact gr_alloc (gr_refl _ _) _
  have G1 := hid (show w.grownBy w1 none from gr_trans (gr_alloc (gr_refl _ none) _) ga)
  have E1 := hid (show ElB w1 x1 s n (.slice a1 ats.length c1) tx (.slice b1 kids.len d1) by rw [hx1]; exact gr_keep ga (heap_alloc_new w _) (by simp))
  have E2 := hid (show ElB w1 x2 s n (.slice a2 ats.length c2) tx (.slice b2 kids.len d2) by
    have := heap_alloc_new (w.alloc (.cells #[.string ⟨s.toArray⟩, .string ⟨n.toArray⟩, .slice a1 ats.length c1, .string ⟨tx.toArray⟩, .slice b1 kids.len d1] 25)) (.cells #[.string ⟨s.toArray⟩, .string ⟨n.toArray⟩, .slice a2 ats.length c2, .string ⟨tx.toArray⟩, .slice b2 kids.len d2] 25)
    rw [← hw1, show (w.alloc (.cells #[.string ⟨s.toArray⟩, .string ⟨n.toArray⟩, .slice a1 ats.length c1, .string ⟨tx.toArray⟩, .slice b1 kids.len d1] 25)).heap.size = w.heap.size + 1 by simp, ← hx2] at this
    exact this)
  have HW1 := hid hw1
  have HX1 := hid hx1
  have HX2 := hid hx2
  clear ga hw1 hx1 hx2 ha hk hs
  go_enter Tryz.func16, Tryz.ntmps16
  go_upto_region 1 with fail
  rw [← HW1.out, ← HX2.out, ← HX1.out]
  clear HW1 HX1 HX2
  obtain ⟨s0, s1, s2, s3, s4⟩ := ElB.cells E1.out
  obtain ⟨t0, t1, t2, t3, t4⟩ := ElB.cells E2.out
  go_wp2_with fail
  clear s0 s1 s2 s3 s4 t0 t1 t2 t3 t4
  go_loopw [5] (fun v5 wr => ∃ j : Nat, v5 = .int .i64 (j : Int) ∧ j ≤ ats.length ∧ w1.grownBy wr none) (fun v5 _ => ats.length - (intOf v5).toNat)
  case atStart => exact ⟨0, rfl, Nat.zero_le _, gr_refl _ _⟩
  case round =>
    obtain ⟨j, rfl, hj, hg⟩ := hrel
    have HG := hid hg
    clear hg
    obtain ⟨s0, s1, s2, s3, s4⟩ := ElB.cells (E1.out.grow HG.out)
    obtain ⟨t0, t1, t2, t3, t4⟩ := ElB.cells (E2.out.grow HG.out)
    by_cases hlt : j < ats.length
    · obtain ⟨a', c', e', h'⟩ := HA1.out.grow (gr_trans G1.out HG.out)
      simp only [Value.slice.injEq] at e'
      obtain ⟨rfl, -, rfl⟩ := e'
      obtain ⟨g1, o1, rfl, -, hT1⟩ := h' j hlt
      obtain ⟨a', c', e', h''⟩ := HA2.out.grow (gr_trans G1.out HG.out)
      simp only [Value.slice.injEq] at e'
      obtain ⟨rfl, -, rfl⟩ := e'
      obtain ⟨g2, o2, rfl, -, hT2⟩ := h'' j hlt
      generalize ats.getD j at0 = y at *
      obtain ⟨y1, y2, y3⟩ := y
      have p0 := hT1.c0
      have p1 := hT1.c1
      have p2 := hT1.c2
      have q0 := hT2.c0
      have q1 := hT2.c1
      have q2 := hT2.c2
      simp only at p0 p1 p2 q0 q1 q2
      have hj0 : (0 : Int) ≤ (j : Int) := by omega
      have hj1 : (j : Int) < (ats.length : Int) := by omega
      have hj2 : (j : Int) + 1 ≤ 100001 := by have := HN.out; omega
      clear h' h'' hT1 hT2
      go_wp2_with fail
      go_quiet (fail)
      have HG2 := hid (gr_trans HG.out (gr_drewN nq (gr_refl _ _)))
      go_wp2
      go_roundw
      case rel => exact ⟨j + 1, by go_num, by omega, HG2.out⟩
      case measure => simp [intOf]; omega
    · obtain rfl : j = ats.length := by omega
      have HG0 := hid (gr_trans G1.out HG.out)
      have F1 := hid (E1.out.grow HG.out)
      have F2 := hid (E2.out.grow HG.out)
      clear hj hlt E1 E2
      go_wp2_with fail
      clear s0 s1 s2 s3 s4 t0 t1 t2 t3 t4
      go_loopw [6] (fun v6 wx => ∃ j : Nat, v6 = .int .i64 (j : Int) ∧ j ≤ kids.len ∧ wr.grownBy wx none) (fun v6 _ => kids.len - (intOf v6).toNat)
      case atStart => exact ⟨0, rfl, Nat.zero_le _, gr_refl _ _⟩
      case round =>
        obtain ⟨j, rfl, hj, hg⟩ := hrel
        have HG2 := hid hg
        clear hg
        obtain ⟨s0, s1, s2, s3, s4⟩ := ElB.cells (F1.out.grow HG2.out)
        obtain ⟨t0, t1, t2, t3, t4⟩ := ElB.cells (F2.out.grow HG2.out)
        by_cases hlt : j < kids.len
        · have gg := gr_trans HG0.out HG2.out
          obtain ⟨b', d', e', h'⟩ := HK1.out.grow gg
          simp only [Value.slice.injEq] at e'
          obtain ⟨rfl, -, rfl⟩ := e'
          obtain ⟨k1, o1, rfl, -, hF1⟩ := h' (by omega)
          obtain ⟨b', d', e', h''⟩ := HK2.out.grow gg
          simp only [Value.slice.injEq] at e'
          obtain ⟨rfl, -, rfl⟩ := e'
          obtain ⟨k2, o2, rfl, -, hF2⟩ := h'' (by omega)
          obtain ⟨av3, kv3, m0, m1, m2, m3, m4, hA3, hK3⟩ := hF1.get hlt
          obtain ⟨av4, kv4, n0, n1, n2, n3, n4, hA4, hK4⟩ := hF2.get hlt
          have HSJ := hid (HS.out j hlt)
          have HA3 := hid hA3
          have HA4 := hid hA4
          have HK3 := hid hK3
          have HK4 := hid hK4
          generalize kids.at j = y at *
          obtain ⟨y1, y2, y3, y4, y5⟩ := y
          obtain ⟨i1, i2, rfl, -⟩ := hA3
          obtain ⟨i3, i4, rfl, -⟩ := hA4
          obtain ⟨i5, i6, rfl, -⟩ := hK3
          obtain ⟨i7, i8, rfl, -⟩ := hK4
          simp only at m0 m1 m2 m3 m4 n0 n1 n2 n3 n4
          have CALL := hid (fun (W : World) (g : wr.grownBy W none) => HSJ.out W (elV ⟨y1, y2, y3, y4, y5⟩ (.slice i1 y3.length i2) (.slice i5 y5.len i6)) (elV ⟨y1, y2, y3, y4, y5⟩ (.slice i3 y3.length i4) (.slice i7 y5.len i8)) ⟨_, _, rfl, HA3.out.grow g, HK3.out.grow g⟩ ⟨_, _, rfl, HA4.out.grow g, HK4.out.grow g⟩)
          unfold elV str at CALL
          simp only at CALL
          have hj0 : (0 : Int) ≤ (j : Int) := by omega
          have hj1 : (j : Int) < (kids.len : Int) := by omega
          have hj2 : (j : Int) + 1 ≤ 100001 := by have := HN.out; omega
          clear h' h'' hF1 hF2 gg
          go_wp2_with fail
          go_region_with (go_at_call 16; refine (CALL.out _ (by first | exact gr_refl _ _ | exact gr_drew (gr_refl _ _))).mono ?_; rintro e w8 ⟨rfl, g8⟩; have g28 : wr.grownBy w8 none := gr_trans (gr_drew (gr_refl wr none)) g8)
          all_goals
            have HG8 := hid (gr_trans HG2.out g28)
            clear s0 s1 s2 s3 s4 t0 t1 t2 t3 t4 m0 m1 m2 m3 m4 n0 n1 n2 n3 n4 g8 g28 CALL HSJ HA3 HA4 HK3 HK4 F1 F2 HS HK1 HK2 HA1 HA2 hj0 hj1
            have hjn : j ≤ 100000 := by omega
            clear hj2
            go_wp2_with fail
            refine ⟨⟨j + 1, by go_num, by omega, HG8.out⟩, by simp [intOf]; omega⟩
        · obtain rfl : j = kids.len := by omega
          have HF := hid (gr_trans HG0.out HG2.out)
          clear hj hlt
          go_wp2
          go_ret
          exact ⟨rfl, HF.out⟩
theorem same_fo : ∀ (f : Fo), f.sz ≤ 100000 → ∀ i, i < f.len → SameOk (f.at i) := by
  intro f
  induction f with
  | nil => intro _ i hi; simp [Fo.len] at hi
  | cons s n ats tx kids next ih1 ih2 =>
    intro hz i hi
    simp only [Fo.sz] at hz
    cases i with
    | zero => exact same_el _ (by show ats.length ≤ 100000; omega) (by show kids.len ≤ 100000; have := kids.len_sz; omega) (fun i hi => ih1 (by omega) i hi)
    | succ i => exact ih2 (by omega) i (by simp only [Fo.len] at hi; omega)
theorem same_r (e : El) (h : e.ats.length + e.kids.sz ≤ 100000) : SameOk e :=
  same_el e (by omega) (by have := e.kids.len_sz; omega) (fun i hi => same_fo e.kids (by omega) i hi)
end Go.Proofs.YtmofnoconhgjmaaGreatDoor
