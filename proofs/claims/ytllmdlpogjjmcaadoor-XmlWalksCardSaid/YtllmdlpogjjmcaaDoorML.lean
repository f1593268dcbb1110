/- Texts of one proof, put together: Xn7, Xn8, Xn9, XnA, ArB. -/
import Derived.Test.YtllmdlpogjjmcaaDoorMS
import Derived.RegionTactic
import Derived.Deep.QuietTactic
import Derived.BigQuiet
import Derived.Deep.DeepCutAuto
import Derived.Test.YtllmdlpogjjmcaaDoorMT
import Derived.Lib.SlBytesConst
import Derived.Test.YtllmdlpogjjmcaaDoorXn6
import Derived.Test.YtllmdlpogjjmcaaDoorByA
import Derived.Test.YtllmdlpogjjmcaaDoorArg
import Derived.Test.YtllmdlpogjjmcaaDoorBytes
/- hearthref17.Same, of two trees that are one. -/
namespace Go.Proofs.YtllmdlpogjjmcaaDoor
open Go.RowKit
set_option linter.unusedVariables false
set_option linter.unusedSimpArgs false

/-- How much there is: elements and attributes. -/
def Fo.sz : Fo → Nat
  | .nil => 0
  | .cons _ _ ats _ kids next => 1 + ats.length + kids.sz + next.sz
theorem Fo.len_sz (f : Fo) : f.len ≤ f.sz := by
  induction f with
  | nil => exact Nat.le_refl _
  | cons s n ats tx kids next _ ih => simp only [Fo.len, Fo.sz]; omega
/-- The element at a place. -/
def Fo.at : Fo → Nat → El
  | .nil, _ => El.zero
  | .cons s n ats tx kids _, 0 => ⟨s, n, ats, tx, kids⟩
  | .cons _ _ _ _ _ next, i + 1 => next.at i
theorem FoAt.get {w : World} {X : Nat → Prop} : ∀ {f : Fo} {b o i : Nat}, FoAt w X f b o → i < f.len → ∃ av kv, w.cell? ⟨b, o + i * 5, none⟩ = some (.string ⟨(f.at i).s.toArray⟩) ∧ w.cell? ⟨b, o + i * 5 + 1, none⟩ = some (.string ⟨(f.at i).n.toArray⟩) ∧ w.cell? ⟨b, o + i * 5 + 2, none⟩ = some av ∧ w.cell? ⟨b, o + i * 5 + 3, none⟩ = some (.string ⟨(f.at i).tx.toArray⟩) ∧ w.cell? ⟨b, o + i * 5 + 4, none⟩ = some kv ∧ AtsAt w X av (f.at i).ats ∧ KidV w X kv (f.at i).kids := by
  intro f
  induction f with
  | nil => intro b o i _ hi; simp [Fo.len] at hi
  | cons s n ats tx kids next _ ih =>
    intro b o i h hi
    obtain ⟨⟨c0, c1, c3⟩, ⟨av, c2, ha⟩, ⟨a, c, c4, hk⟩, hn⟩ := h
    cases i with
    | zero =>
      simp only [Nat.zero_mul, Nat.add_zero]
      exact ⟨av, _, c0, c1, c2, c3, c4, ha, ⟨a, c, rfl, hk⟩⟩
    | succ i =>
      have := ih hn (i := i) (by simp only [Fo.len] at hi; omega)
      rw [show o + (i + 1) * 5 = o + 5 + i * 5 by omega]
      exact this
abbrev noX : Nat → Prop := fun _ => False
/-- Two trees that are one are told so. -/
def SameOk (e : El) : Prop := ∀ (w : World) (v1 v2 : Value), ElAt w noX v1 e → ElAt w noX v2 e → Calls Tryd.prog 9 #[v1, v2] w fun e' w' => e' = .returned (.bool true) ∧ w.grownBy w' none
theorem AtsAt.grow {w w' : World} {X : Nat → Prop} {v : Value} {l : List At} (h : AtsAt w X v l) (g : w.grownBy w' none) : AtsAt w' X v l := h.same fun k h1 _ => g.block k h1 (by simp)
theorem KidV.grow {w w' : World} {X : Nat → Prop} {v : Value} {f : Fo} (h : KidV w X v f) (g : w.grownBy w' none) : KidV w' X v f := h.same fun k h1 _ => g.block k h1 (by simp)
set_option maxRecDepth 20000 in
set_option maxHeartbeats 20000000 in
theorem same_el (e : El) (ha : e.ats.length ≤ 100000) (hk : e.kids.len ≤ 100000) (hs : ∀ i, i < e.kids.len → SameOk (e.kids.at i)) : SameOk e := by
  intro w v1 v2 h1 h2
  obtain ⟨s, n, ats, tx, kids⟩ := e
  obtain ⟨av1, kv1, rfl, ha1, hk1⟩ := h1
  obtain ⟨av2, kv2, rfl, ha2, hk2⟩ := h2
  simp only at ha hk hs ha1 ha2 hk1 hk2
  unfold elV str
  simp only
  have HA1 := hid ha1
  have HA2 := hid ha2
  have HK1 := hid hk1
  have HK2 := hid hk2
  have HS := hid hs
  obtain ⟨a1, c1, rfl, -⟩ := ha1
  obtain ⟨a2, c2, rfl, -⟩ := ha2
  obtain ⟨b1, d1, rfl, -⟩ := hk1
  obtain ⟨b2, d2, rfl, -⟩ := hk2
  have HN := hid (show ats.length ≤ 100000 ∧ kids.len ≤ 100000 from ⟨ha, hk⟩)
  obtain ⟨x2, hx2⟩ : ∃ x2, x2 = w.heap.size + 1 := ⟨_, rfl⟩
  obtain ⟨x1, hx1⟩ : ∃ x1, x1 = w.heap.size := ⟨_, rfl⟩
  obtain ⟨w1, hw1⟩ : ∃ w1, w1 = (w.alloc (.cells #[.string ⟨s.toArray⟩, .string ⟨n.toArray⟩, .slice a1 ats.length c1, .string ⟨tx.toArray⟩, .slice b1 kids.len d1] 27)).alloc (.cells #[.string ⟨s.toArray⟩, .string ⟨n.toArray⟩, .slice a2 ats.length c2, .string ⟨tx.toArray⟩, .slice b2 kids.len d2] 27) := ⟨_, rfl⟩
  have ga : (w.alloc (.cells #[.string ⟨s.toArray⟩, .string ⟨n.toArray⟩, .slice a1 ats.length c1, .string ⟨tx.toArray⟩, .slice b1 kids.len d1] 27)).grownBy w1 none := by rw [hw1]; exact gr_alloc (gr_refl _ _) _
  have G1 := hid (show w.grownBy w1 none from gr_trans (gr_alloc (gr_refl _ none) _) ga)
  have E1 := hid (show ElB w1 x1 s n (.slice a1 ats.length c1) tx (.slice b1 kids.len d1) by rw [hx1]; exact gr_keep ga (heap_alloc_new w _) (by simp))
  have E2 := hid (show ElB w1 x2 s n (.slice a2 ats.length c2) tx (.slice b2 kids.len d2) by
    have := heap_alloc_new (w.alloc (.cells #[.string ⟨s.toArray⟩, .string ⟨n.toArray⟩, .slice a1 ats.length c1, .string ⟨tx.toArray⟩, .slice b1 kids.len d1] 27)) (.cells #[.string ⟨s.toArray⟩, .string ⟨n.toArray⟩, .slice a2 ats.length c2, .string ⟨tx.toArray⟩, .slice b2 kids.len d2] 27)
    rw [← hw1, show (w.alloc (.cells #[.string ⟨s.toArray⟩, .string ⟨n.toArray⟩, .slice a1 ats.length c1, .string ⟨tx.toArray⟩, .slice b1 kids.len d1] 27)).heap.size = w.heap.size + 1 by simp, ← hx2] at this
    exact this)
  have HW1 := hid hw1
  have HX1 := hid hx1
  have HX2 := hid hx2
  clear ga hw1 hx1 hx2 ha hk hs
  go_enter Tryd.func9, Tryd.ntmps9
  go_upto_region 1 with fail
  rw [← HW1.out, ← HX2.out, ← HX1.out]
  clear HW1 HX1 HX2
  obtain ⟨s0, s1, s2, s3, s4⟩ := ElB.cells E1.out
  obtain ⟨t0, t1, t2, t3, t4⟩ := ElB.cells E2.out
  go_wp2_with fail
  clear s0 s1 s2 s3 s4 t0 t1 t2 t3 t4
  go_loopw [5] (fun v5 wr => ∃ j : Nat, v5 = .int .i64 (j : Int) ∧ j ≤ ats.length ∧ w1.grownBy wr none) (fun v5 _ => ats.length - (intOf v5).toNat)
  case atStart => exact ⟨0, rfl, Nat.zero_le _, gr_refl _ _⟩
  case round =>
    obtain ⟨j, rfl, hj, hg⟩ := hrel
    have HG := hid hg
    clear hg
    obtain ⟨s0, s1, s2, s3, s4⟩ := ElB.cells (E1.out.grow HG.out)
    obtain ⟨t0, t1, t2, t3, t4⟩ := ElB.cells (E2.out.grow HG.out)
    by_cases hlt : j < ats.length
    · obtain ⟨a', c', e', h'⟩ := HA1.out.grow (gr_trans G1.out HG.out)
      simp only [Value.slice.injEq] at e'
      obtain ⟨rfl, -, rfl⟩ := e'
      obtain ⟨g1, o1, rfl, -, hT1⟩ := h' j hlt
      obtain ⟨a', c', e', h''⟩ := HA2.out.grow (gr_trans G1.out HG.out)
      simp only [Value.slice.injEq] at e'
      obtain ⟨rfl, -, rfl⟩ := e'
      obtain ⟨g2, o2, rfl, -, hT2⟩ := h'' j hlt
      generalize ats.getD j at0 = y at *
      obtain ⟨y1, y2, y3⟩ := y
      have p0 := hT1.c0
      have p1 := hT1.c1
      have p2 := hT1.c2
      have q0 := hT2.c0
      have q1 := hT2.c1
      have q2 := hT2.c2
      simp only at p0 p1 p2 q0 q1 q2
      have hj0 : (0 : Int) ≤ (j : Int) := by omega
      have hj1 : (j : Int) < (ats.length : Int) := by omega
      have hj2 : (j : Int) + 1 ≤ 100001 := by have := HN.out; omega
      clear h' h'' hT1 hT2
      go_wp2_with fail
      go_quiet (fail)
      have HG2 := hid (gr_trans HG.out (gr_drewN nq (gr_refl _ _)))
      go_wp2
      go_roundw
      case rel => exact ⟨j + 1, by go_num, by omega, HG2.out⟩
      case measure => simp [intOf]; omega
    · obtain rfl : j = ats.length := by omega
      have HG0 := hid (gr_trans G1.out HG.out)
      have F1 := hid (E1.out.grow HG.out)
      have F2 := hid (E2.out.grow HG.out)
      clear hj hlt E1 E2
      go_wp2_with fail
      clear s0 s1 s2 s3 s4 t0 t1 t2 t3 t4
      go_loopw [6] (fun v6 wx => ∃ j : Nat, v6 = .int .i64 (j : Int) ∧ j ≤ kids.len ∧ wr.grownBy wx none) (fun v6 _ => kids.len - (intOf v6).toNat)
      case atStart => exact ⟨0, rfl, Nat.zero_le _, gr_refl _ _⟩
      case round =>
        obtain ⟨j, rfl, hj, hg⟩ := hrel
        have HG2 := hid hg
        clear hg
        obtain ⟨s0, s1, s2, s3, s4⟩ := ElB.cells (F1.out.grow HG2.out)
        obtain ⟨t0, t1, t2, t3, t4⟩ := ElB.cells (F2.out.grow HG2.out)
        by_cases hlt : j < kids.len
        · have gg := gr_trans HG0.out HG2.out
          obtain ⟨b', d', e', h'⟩ := HK1.out.grow gg
          simp only [Value.slice.injEq] at e'
          obtain ⟨rfl, -, rfl⟩ := e'
          obtain ⟨k1, o1, rfl, -, hF1⟩ := h' (by omega)
          obtain ⟨b', d', e', h''⟩ := HK2.out.grow gg
          simp only [Value.slice.injEq] at e'
          obtain ⟨rfl, -, rfl⟩ := e'
          obtain ⟨k2, o2, rfl, -, hF2⟩ := h'' (by omega)
          obtain ⟨av3, kv3, m0, m1, m2, m3, m4, hA3, hK3⟩ := hF1.get hlt
          obtain ⟨av4, kv4, n0, n1, n2, n3, n4, hA4, hK4⟩ := hF2.get hlt
          have HSJ := hid (HS.out j hlt)
          have HA3 := hid hA3
          have HA4 := hid hA4
          have HK3 := hid hK3
          have HK4 := hid hK4
          generalize kids.at j = y at *
          obtain ⟨y1, y2, y3, y4, y5⟩ := y
          obtain ⟨i1, i2, rfl, -⟩ := hA3
          obtain ⟨i3, i4, rfl, -⟩ := hA4
          obtain ⟨i5, i6, rfl, -⟩ := hK3
          obtain ⟨i7, i8, rfl, -⟩ := hK4
          simp only at m0 m1 m2 m3 m4 n0 n1 n2 n3 n4
          have CALL := hid (fun (W : World) (g : wr.grownBy W none) => HSJ.out W (elV ⟨y1, y2, y3, y4, y5⟩ (.slice i1 y3.length i2) (.slice i5 y5.len i6)) (elV ⟨y1, y2, y3, y4, y5⟩ (.slice i3 y3.length i4) (.slice i7 y5.len i8)) ⟨_, _, rfl, HA3.out.grow g, HK3.out.grow g⟩ ⟨_, _, rfl, HA4.out.grow g, HK4.out.grow g⟩)
          unfold elV str at CALL
          simp only at CALL
          have hj0 : (0 : Int) ≤ (j : Int) := by omega
          have hj1 : (j : Int) < (kids.len : Int) := by omega
          have hj2 : (j : Int) + 1 ≤ 100001 := by have := HN.out; omega
          clear h' h'' hF1 hF2 gg
          go_wp2_with fail
          go_region_with (go_at_call 9; refine (CALL.out _ (by first | exact gr_refl _ _ | exact gr_drew (gr_refl _ _))).mono ?_; rintro e w8 ⟨rfl, g8⟩; have g28 : wr.grownBy w8 none := gr_trans (gr_drew (gr_refl wr none)) g8)
          all_goals
            have HG8 := hid (gr_trans HG2.out g28)
            clear s0 s1 s2 s3 s4 t0 t1 t2 t3 t4 m0 m1 m2 m3 m4 n0 n1 n2 n3 n4 g8 g28 CALL HSJ HA3 HA4 HK3 HK4 F1 F2 HS HK1 HK2 HA1 HA2 hj0 hj1
            have hjn : j ≤ 100000 := by omega
            clear hj2
            go_wp2_with fail
            refine ⟨⟨j + 1, by go_num, by omega, HG8.out⟩, by simp [intOf]; omega⟩
        · obtain rfl : j = kids.len := by omega
          have HF := hid (gr_trans HG0.out HG2.out)
          clear hj hlt
          go_wp2
          go_ret
          exact ⟨rfl, HF.out⟩
theorem same_fo : ∀ (f : Fo), f.sz ≤ 100000 → ∀ i, i < f.len → SameOk (f.at i) := by
  intro f
  induction f with
  | nil => intro _ i hi; simp [Fo.len] at hi
  | cons s n ats tx kids next ih1 ih2 =>
    intro hz i hi
    simp only [Fo.sz] at hz
    cases i with
    | zero => exact same_el _ (by show ats.length ≤ 100000; omega) (by show kids.len ≤ 100000; have := kids.len_sz; omega) (fun i hi => ih1 (by omega) i hi)
    | succ i => exact ih2 (by omega) i (by simp only [Fo.len] at hi; omega)
theorem same_r (e : El) (h : e.ats.length + e.kids.sz ≤ 100000) : SameOk e :=
  same_el e (by omega) (by have := e.kids.len_sz; omega) (fun i hi => same_fo e.kids (by omega) i hi)
end Go.Proofs.YtllmdlpogjjmcaaDoor
/- How great an element is that was read. It speaks of no program but for Fo.sz. -/
namespace Go.Proofs.YtllmdlpogjjmcaaDoor
open Go.RowKit
set_option linter.unusedVariables false
set_option linter.unusedSimpArgs false

theorem Fo.sz_snoc (f : Fo) (e : El) : (f.snoc e).sz = f.sz + 1 + e.ats.length + e.kids.sz := by
  induction f with
  | nil => simp only [Fo.snoc, Fo.sz]; omega
  | cons s n ats tx kids next _ ih => simp only [Fo.snoc, Fo.sz, ih]; omega
theorem attrsL_sum1 {n : Nat} {r r' : Bs} {acc l : List At} {b : Bool} (h : attrsL n r acc = some (l, b, r')) : l.length + r'.length + 1 ≤ acc.length + r.length := by
  induction n generalizing r acc with
  | zero => cases h
  | succ n ih =>
    unfold attrsL at h
    have h0 := trimS_len r
    split at h
    · rename_i h1
      have := trimP_len h1
      simp only [List.length_cons, List.length_nil] at this
      cases h; omega
    · split at h
      · rename_i h1
        have := trimP_len h1
        simp only [List.length_cons, List.length_nil] at this
        cases h; omega
      · split at h
        · split at h
          · cases h
          · rename_i a r2 h2
            have := oneL_len h2
            split at h
            · cases h
            · have := ih h; simp only [List.length_append, List.length_cons, List.length_nil] at this; omega
        · cases h
theorem attB_len (bs : List (Bs × Bs)) : ∀ (l acc : List At), (attB bs l acc).1.length ≤ acc.length + l.length := by
  intro l
  induction l with
  | nil => intro acc; simp [attB]
  | cons a l ih =>
    intro acc
    unfold attB
    split
    · have := ih acc; simp only [List.length_cons]; omega
    · have := ih (acc ++ [((atSp bs a.1).1, a.2.1, a.2.2)])
      simp only [List.length_append, List.length_cons, List.length_nil] at this ⊢
      omega
theorem beginL_sz {up : List (Bs × Bs)} {r r' : Bs} {f : Fr} {b : Bool} {k : Nat} (h : beginL up r = some (f, b, r', k)) : f.ats.length + r'.length + 1 ≤ r.length ∧ f.kids = .nil := by
  refine ⟨?_, (beginL_new h).1⟩
  unfold beginL at h
  split at h
  · split at h
    · cases h
    · rename_i l emp r2 h2
      obtain ⟨x, hx, e⟩ := Option.map_eq_some_iff.1 h
      cases e
      have h3 := attrsL_sum1 h2
      have h4 := fullL_len r
      simp only [List.length_nil] at h3
      unfold elemL at hx
      split at hx
      · cases hx
        have h5 := attB_len (bindB l up) l []
        simp only [List.length_nil] at h5
        simp only
        omega
      · cases hx
  · cases h
theorem inL_sz : ∀ (n : Nat) {r : Bs} {f : Fr} {deep cnt : Nat} {full : Bool} {x : Res}, inL n r f deep cnt full = some x → x.1.ats.length + x.1.kids.sz + x.2.1.length ≤ f.ats.length + f.kids.sz + r.length := by
  intro n
  induction n with
  | zero => intro _ _ _ _ _ _ h; cases h
  | succ n ih =>
    intro r f deep cnt full x h
    unfold inL at h
    split at h
    · rename_i h1
      have := trimP_len h1
      have := cut_len (Lib.trimPrefix r noteO) noteC
      split at h
      · have := ih h; omega
      · cases h
    split at h
    · rename_i h1
      have := trimP_len h1
      have := cut_len (Lib.trimPrefix r cdO) cdC
      split at h
      · have := ih h; simp only [Fr.txt] at this; omega
      · cases h
    split at h
    · rename_i h1
      have := trimP_len h1
      obtain ⟨r', h2, rfl⟩ := Option.map_eq_some_iff.1 h
      have := endL_len h2
      simp only [Fr.el]; omega
    split at h
    · rename_i h1
      have := trimP_len h1
      split at h
      · cases h
      · rename_i h2
        obtain ⟨h3, h4⟩ := beginL_sz h2
        have := ih h
        simp only [Fr.kid, Fo.sz_snoc, Fr.el, h4, Fo.sz] at this
        omega
      · rename_i h2
        obtain ⟨h3, h4⟩ := beginL_sz h2
        split at h
        · cases h
        · rename_i h5
          have h6 := ih h5
          have h7 := ih h
          simp only [Fr.kid, Fo.sz_snoc, h4, Fo.sz] at h6 h7
          omega
    split at h
    · cases h
    · split at h
      · cases h
      · have := ih h
        simp only [List.length_drop, Fr.txt] at this; omega
theorem elmL_sz {n : Nat} {up : List (Bs × Bs)} {r : Bs} {deep cnt : Nat} {full : Bool} {x : Res} (h : elmL n up r deep cnt full = some x) : x.1.ats.length + x.1.kids.sz ≤ r.length := by
  unfold elmL at h
  split at h
  · cases h
  · rename_i g emp r' k hb
    obtain ⟨h3, h4⟩ := beginL_sz hb
    split at h
    · cases h; simp only [Fr.el, h4, Fo.sz]; omega
    · have := inL_sz n h
      rw [h4] at this
      simp only [Fo.sz] at this
      omega
theorem miscL_len : ∀ (n : Nat) {r t : Bs}, miscL n r = some t → t.length ≤ r.length := by
  intro n
  induction n with
  | zero => intro r t h; cases h
  | succ n ih =>
    intro r t h
    unfold miscL at h
    have h0 := trimS_len r
    split at h
    · rename_i h1
      have := trimP_len h1
      split at h
      · have := cut_len (Lib.trimPrefix (Lib.trimLeftS r blkL) noteO) noteC
        have := ih h; omega
      · cases h
    · cases h; exact h0
theorem docBeg_len {l r : Bs} (h : docBeg l = some r) : r.length ≤ l.length := by
  unfold docBeg at h
  obtain ⟨r1, h1, h2⟩ := Option.bind_eq_some_iff.1 h
  obtain ⟨r0, h3, h4⟩ := Option.bind_eq_some_iff.1 h1
  have h5 : r0.length ≤ l.length := by
    unfold docHead at h3
    split at h3
    · split at h3
      · cases h3
        have := cut_len (Lib.trimPrefix l decO) decC
        have := trim_len l decO
        omega
      · cases h3
    · cases h3; exact Nat.le_refl _
  have h6 := miscL_len _ h4
  split at h2
  · cases h2
    have := trim_len r1 [60]
    omega
  · cases h2
theorem parseL_sz (l : Bs) : (parseL l).1.ats.length + (parseL l).1.kids.sz ≤ l.length := by
  unfold parseL
  split
  · simp [El.zero, Fo.sz]
  · split
    · simp [El.zero, Fo.sz]
    · rename_i e full h
      unfold docL at h
      obtain ⟨x, h1, h2⟩ := Option.bind_eq_some_iff.1 h
      obtain ⟨r, h3, h4⟩ := Option.bind_eq_some_iff.1 h1
      rw [rootL_elm] at h4
      have h5 := elmL_sz h4
      have h6 := docBeg_len h3
      split at h2
      · cases h2
        split
        · simp [El.zero, Fo.sz]
        · split
          · simp [El.zero, Fo.sz]
          · simp only; omega
      · cases h2
end Go.Proofs.YtllmdlpogjjmcaaDoor
/- hearthlaw17.speaks. -/
namespace Go.Proofs.YtllmdlpogjjmcaaDoor
open Go.RowKit
set_option linter.unusedVariables false
set_option linter.unusedSimpArgs false

theorem bytes_lit {w : World} {g : Nat} {C : Array Value} {T : TypeId} {r : Nat × Nat} {l : List UInt8} (n : Nat) (hn : l.length = n) (h : w.heap[g]? = some (.cells C T r)) (hC : C.toList = l.map bv) (hm : n ≤ 1000000) : Bytes w (.slice (some ⟨g, 0, none⟩) n n) l := by
  subst hn
  refine ⟨_, l.length, rfl, Nat.le_refl _, by unfold maxLen; omega, fun _ => ⟨g, 0, rfl, fun i hi => ?_⟩⟩
  rw [Nat.zero_add, show w.cell? ⟨g, i, none⟩ = C[i]? by simp [World.cell?, h], ← Array.getElem?_toList, hC, List.getElem?_map, List.getElem?_eq_getElem hi, List.getD_eq_getElem?_getD, List.getElem?_eq_getElem hi]
  rfl
/-- The document's example. -/
def exL : Bs := [60, 97, 32, 120, 61, 34, 49, 38, 108, 116, 59, 34, 62, 116, 60, 33, 45, 45, 32, 99, 32, 45, 45, 62, 60, 98, 47, 62, 117, 60, 47, 97, 62]
theorem exL_read : parseL exL = (⟨[], [97], [([], [120], [49, 60])], [116, 117], .cons [] [98] [] [] .nil .nil⟩, 0) := by kernel_rfl
def exC : Array Value := #[.int .u8 60, .int .u8 97, .int .u8 32, .int .u8 120, .int .u8 61, .int .u8 34, .int .u8 49, .int .u8 38, .int .u8 108, .int .u8 116, .int .u8 59, .int .u8 34, .int .u8 62, .int .u8 116, .int .u8 60, .int .u8 33, .int .u8 45, .int .u8 45, .int .u8 32, .int .u8 99, .int .u8 32, .int .u8 45, .int .u8 45, .int .u8 62, .int .u8 60, .int .u8 98, .int .u8 47, .int .u8 62, .int .u8 117, .int .u8 60, .int .u8 47, .int .u8 97, .int .u8 62]
theorem exC_is : exC.toList = exL.map bv := by kernel_rfl
set_option maxRecDepth 20000 in
set_option maxHeartbeats 4000000 in
theorem speaks_true (w : World) (m : Int) (hm : w.cell? ⟨0, 0, none⟩ = some (.int .i64 m)) : Calls Tryd.prog 6 #[] w fun e w' => e = .returned (.bool true) ∧ w.grownBy w' none := by
  have G1 := hid (gr_alloc (gr_refl w none) (.cells exC 5 (33, 34)))
  have HB := hid (show Bytes (w.alloc (.cells exC 5 (33, 34))) (.slice (some ⟨w.heap.size, 0, none⟩) 33 33) exL from bytes_lit 33 rfl (heap_alloc_new w _) exC_is (by decide))
  have HP := hid (parse_q (w.alloc (.cells exC 5 (33, 34))) _ exL m HB.out (G1.out.cell hm (by simp)) (by decide))
  rw [exL_read] at HP
  unfold exC at HP G1
  have hcv := Lib.run_convert_bytes_const w 22 5 exC 33 33 Tryd.underlying22 Tryd.underlying5
  rw [show exC.size = 33 from rfl] at hcv
  unfold exC at hcv
  clear hm HB
  go_enter Tryd.func6, Tryd.ntmps6
  go_wp2_with fail
  refine HP.out.mono ?_
  rintro e w2 ⟨g2, v, rfl, av, kv, rfl, ha, hk⟩
  have G2 := hid (gr_trans G1.out g2)
  clear HP g2
  simp only at ha hk
  obtain ⟨a1, c1, rfl, ha⟩ := ha
  obtain ⟨g1, o1, rfl, -, hT⟩ := ha 0 (by decide)
  obtain ⟨a2, c2, rfl, hk⟩ := hk
  obtain ⟨k1, q1, rfl, -, hF⟩ := hk (by decide)
  have t2 := hT.c2
  have f1 := hF.1.2.1
  have ga := gr_alloc (gr_refl w2 none) (.cells #[.string ⟨#[]⟩, .string ⟨#[97]⟩, .slice (some ⟨g1, o1, none⟩) 1 c1, .string ⟨#[116, 117]⟩, .slice (some ⟨k1, q1, none⟩) 1 c2] 27)
  have t3 : (w2.alloc (.cells #[.string ⟨#[]⟩, .string ⟨#[97]⟩, .slice (some ⟨g1, o1, none⟩) 1 c1, .string ⟨#[116, 117]⟩, .slice (some ⟨k1, q1, none⟩) 1 c2] 27)).cell? ⟨g1, o1 + 2, none⟩ = some (.string ⟨#[49, 60]⟩) := ga.cell (by simpa using t2) (by simp)
  have f3 : (w2.alloc (.cells #[.string ⟨#[]⟩, .string ⟨#[97]⟩, .slice (some ⟨g1, o1, none⟩) 1 c1, .string ⟨#[116, 117]⟩, .slice (some ⟨k1, q1, none⟩) 1 c2] 27)).cell? ⟨k1, q1 + 1, none⟩ = some (.string ⟨#[98]⟩) := ga.cell f1 (by simp)
  have G3 := hid (gr_trans G2.out ga)
  clear ha hT hk hF t2 f1 ga
  unfold elV str
  rw [show (Fo.cons [] [98] [] [] Fo.nil Fo.nil).len = 1 from rfl]
  go_wp2
  go_ret
  exact ⟨rfl, G3.out⟩
end Go.Proofs.YtllmdlpogjjmcaaDoor
/- hearthlaw17.XmlReads. -/
namespace Go.Proofs.YtllmdlpogjjmcaaDoor
open Go.RowKit
set_option linter.unusedVariables false
set_option linter.unusedSimpArgs false

/-- What is kept while the text is written over. -/
structure Ovr (w w3 w7 wx : World) (a3 : Option Addr) (n : Nat) : Prop where
  gr : w.grownBy wx none
  sz : w7.heap.size ≤ wx.heap.size
  kp : ∀ k, k < w7.heap.size → ¬ k < w3.heap.size → wx.heap[k]? = w7.heap[k]?
  row : 0 < n → ∃ g cs, a3 = some ⟨g, 0, none⟩ ∧ g < w3.heap.size ∧ w.heap.size ≤ g ∧ wx.heap[g]? = some (.cells cs 5 (0, 0)) ∧ n ≤ cs.size
theorem Ovr.set {w w3 w7 wx : World} {g n i : Nat} (h : Ovr w w3 w7 wx (some ⟨g, 0, none⟩) n) (hi : i < n) (u : Value) : Ovr w w3 w7 (wx.setCell ⟨g, i, none⟩ u) (some ⟨g, 0, none⟩) n := by
  obtain ⟨g', cs, e, h1, h2, h3, h4⟩ := h.row (by omega)
  cases e
  refine ⟨gr_set_new h.gr h2, by simpa [World.setCell] using h.sz, fun k hk hn => ?_, fun _ => ⟨g, _, rfl, h1, h2, heap_set (o := i) h3, by simpa using h4⟩⟩
  rw [heap_set_other (by omega)]
  exact h.kp k hk hn
theorem ElAt.keep {w w' : World} {B : Nat} {v : Value} {e : El} (h : ElAt w (fun k => k < B) v e) (hk : ∀ k, k < w.heap.size → ¬ k < B → w'.heap[k]? = w.heap[k]?) : ElAt w' noX v e := by
  obtain ⟨av, kv, rfl, h1, h2⟩ := h
  exact ⟨av, kv, rfl, (h1.same hk).less (fun _ _ h => h.elim), (h2.same hk).less (fun _ _ h => h.elim)⟩
set_option maxRecDepth 20000 in
set_option maxHeartbeats 20000000 in
theorem xml_reads_walk (l : Bs) (vb : Value) (m : Int) (w : World) (hb : Bytes w vb l) (hm : w.cell? ⟨0, 0, none⟩ = some (.int .i64 m)) :
    Calls Tryd.prog 3 #[vb] w fun e w' => e = .returned (.bool true) ∧ w.grownBy w' none := by
  have HS := hid (speaks_true w m hm)
  have HM := hid hm
  have HB := hid hb
  obtain ⟨ab, cb, rfl, -, -, -⟩ := hb
  clear hm
  go_enter Tryd.func3, Tryd.ntmps3
  go_wp2_with fail
  refine HS.out.mono ?_
  rintro e w1 ⟨rfl, g1⟩
  have G1 := hid g1
  clear g1 HS
  by_cases hl : 20000 < l.length
  · have hl' : (20000 : Int) < (l.length : Int) := by omega
    clear hl
    go_wp2
    go_ret
    exact ⟨rfl, G1.out⟩
  have hl' : ¬ (20000 : Int) < (l.length : Int) := by omega
  have HL := hid (show l.length ≤ 20000 by omega)
  clear hl
  have HO := hid (show Own8 (w1.alloc (.cells #[] 5)) w1.heap.size (.slice (some ⟨w1.heap.size, 0, none⟩) 0 0) [] from own8_of (heap_alloc_new w1 _) (Nat.le_refl _) rfl rfl (by decide))
  have HB1 := hid (HB.out.grown (gr_trans G1.out (gr_alloc (gr_refl w1 none) (.cells #[] 5))))
  go_upto_region 6 with (at_builtin; refine wpl_app8 (base := w1.heap.size) (xs := []) (l := l) rfl _ _ rfl rfl rfl HO.out HB1.out (by have := HL.out; simp; omega) (World.grownBy_alloc _ _ none).size ?_; intro v3 w3 hown3 g3)
  have G3 := hid (gr_trans G1.out (gr_new (gr_alloc (gr_refl w1 none) (.cells #[] 5)) g3 (Nat.le_refl _)))
  rw [List.nil_append] at hown3
  have O3 := hid hown3
  have HB3 := hid hown3.bytes
  obtain ⟨a3, c3, hv3, hcc3⟩ := row_shape hown3
  have hv3' : v3 = .slice a3 l.length c3 := hv3
  subst hv3'
  clear hown3 g3 hv3 hcc3 HO HB1
  have HP := hid (parse_q w3 _ l m HB3.out (G3.out.cell HM.out (by simp)) HL.out)
  have HSM := hid (same_r (parseL l).1 (by have := parseL_sz l; have := HL.out; omega))
  have HR := hid (fun W => rparse_r W l HL.out)
  obtain ⟨PL, hPL⟩ : ∃ PL, PL = parseL l := ⟨_, rfl⟩
  rw [← hPL] at HP HSM HR
  clear hPL
  obtain ⟨⟨s, n, ats, tx, kids⟩, cd⟩ := PL
  simp only at HSM
  go_wp2_with fail
  refine HP.out.mono ?_
  rintro e w4 ⟨g4, v, rfl, hel⟩
  simp only at hel
  obtain ⟨av, kv, rfl, ha, hk⟩ := hel
  have E1 := hid (show ElAt w4 (fun k => k < w3.heap.size) (elV ⟨s, n, ats, tx, kids⟩ av kv) ⟨s, n, ats, tx, kids⟩ from ⟨av, kv, rfl, ha, hk⟩)
  obtain ⟨xa, xc, rfl, -⟩ := ha
  obtain ⟨ya, yc, rfl, -⟩ := hk
  have G4 := hid g4
  clear HP g4
  unfold elV str at E1 ⊢
  simp only at E1 ⊢
  have F5 := hid (heap_alloc_new w4 (.cells #[.string ⟨s.toArray⟩, .string ⟨n.toArray⟩, .slice xa ats.length xc, .string ⟨tx.toArray⟩, .slice ya kids.len yc] 27))
  have G5 := hid (gr_alloc (gr_refl w4 none) (.cells #[.string ⟨s.toArray⟩, .string ⟨n.toArray⟩, .slice xa ats.length xc, .string ⟨tx.toArray⟩, .slice ya kids.len yc] 27))
  go_upto_region 7 with fail
  generalize w4.alloc (.cells #[.string ⟨s.toArray⟩, .string ⟨n.toArray⟩, .slice xa ats.length xc, .string ⟨tx.toArray⟩, .slice ya kids.len yc] 27) = w5 at *
  obtain ⟨p4, hp4⟩ : ∃ p4, p4 = w4.heap.size := ⟨_, rfl⟩
  have HP4 := hid (show w3.heap.size ≤ p4 by rw [hp4]; exact G4.out.size)
  rw [← hp4] at F5 ⊢
  clear hp4
  have HB5 := hid (HB.out.grown (gr_trans (gr_trans G3.out G4.out) G5.out))
  have HR5 := hid (HR.out w5)
  clear HR
  go_wp2_with (refine wpl_b2s rfl 22 9 5 _ rfl Tryd.underlying22 Tryd.underlying5 Tryd.underlying9 _ l rfl HB5.out ?_; unfold str)
  refine HR5.out.mono ?_
  rintro e w6 ⟨g6, v, rfl, hel⟩
  simp only at hel
  obtain ⟨av, kv, rfl, ha, hk⟩ := hel
  have E2 := hid (show ElAt w6 (fun k => k < w5.heap.size) (elV ⟨s, n, ats, tx, kids⟩ av kv) ⟨s, n, ats, tx, kids⟩ from ⟨av, kv, rfl, ha, hk⟩)
  obtain ⟨za, zc, rfl, -⟩ := ha
  obtain ⟨ua, uc, rfl, -⟩ := hk
  have G6 := hid g6
  clear HR5 g6
  unfold elV str at E2 ⊢
  simp only at E2 ⊢
  have F7 := hid (heap_alloc_new w6 (.cells #[.string ⟨s.toArray⟩, .string ⟨n.toArray⟩, .slice za ats.length zc, .string ⟨tx.toArray⟩, .slice ua kids.len uc] 27))
  have G7 := hid (gr_alloc (gr_refl w6 none) (.cells #[.string ⟨s.toArray⟩, .string ⟨n.toArray⟩, .slice za ats.length zc, .string ⟨tx.toArray⟩, .slice ua kids.len uc] 27))
  go_upto_region 8 with fail
  generalize w6.alloc (.cells #[.string ⟨s.toArray⟩, .string ⟨n.toArray⟩, .slice za ats.length zc, .string ⟨tx.toArray⟩, .slice ua kids.len uc] 27) = w7 at *
  obtain ⟨p6, hp6⟩ : ∃ p6, p6 = w6.heap.size := ⟨_, rfl⟩
  have HP6 := hid (show w5.heap.size ≤ p6 by rw [hp6]; exact G6.out.size)
  rw [← hp6] at F7 ⊢
  clear hp6
  have G57 := hid (gr_trans G6.out G7.out)
  have G47 := hid (gr_trans G5.out G57.out)
  have G37 := hid (gr_trans G4.out G47.out)
  have F5' := hid (gr_keep G57.out F5.out (by simp))
  have HB7 := hid (HB.out.grown (gr_trans G3.out G37.out))
  have HC7 := hid (HB3.out.grown G37.out)
  have OV := hid (show Ovr w w3 w7 w7 a3 l.length from ⟨gr_trans G3.out G37.out, Nat.le_refl _, fun _ _ _ => rfl, fun h0 => by
    rcases O3.out.2 with ⟨e, h1⟩ | ⟨g, cap, cur, e, hg, hh, hc, hmx, hs, ht⟩
    · omega
    · cases e
      exact ⟨g, cur, rfl, lt_of_block hh, Nat.le_trans G1.out.size hg, G37.out.block g (lt_of_block hh) (by simp) |>.trans hh, by rw [hs]; omega⟩⟩)
  have hE1 := hid (fun (wx : World) (h : Ovr w w3 w7 wx a3 l.length) => E1.out.keep (w' := wx) (fun k h1 h2 => (h.kp k (Nat.lt_of_lt_of_le h1 G47.out.size) h2).trans (G47.out.block k h1 (by simp))))
  have hE2 := hid (fun (wx : World) (h : Ovr w w3 w7 wx a3 l.length) => E2.out.keep (w' := wx) (fun k h1 h2 => (h.kp k (Nat.lt_of_lt_of_le h1 G7.out.size) (by have h5 := G4.out.size; have h6 := G5.out.size; omega)).trans (G7.out.block k h1 (by simp))))
  have hF5 := hid (fun (wx : World) (h : Ovr w w3 w7 wx a3 l.length) => (h.kp p4 (lt_of_block F5'.out) (by have := HP4.out; omega)).trans F5'.out)
  have hF7 := hid (fun (wx : World) (h : Ovr w w3 w7 wx a3 l.length) => (h.kp p6 (lt_of_block F7.out) (by have := HP6.out; have h5 := G4.out.size; have h6 := G5.out.size; omega)).trans F7.out)
  clear E1 E2 F5 F5' F7 G57 G47 G37 G6 G7 G5 G4 HB5 O3
  go_upto_region 9 with (first | (refine wpl_b2s rfl 22 9 5 _ rfl Tryd.underlying22 Tryd.underlying5 Tryd.underlying9 _ l rfl HC7.out ?_; unfold str) | (refine wpl_b2s rfl 22 9 5 _ rfl Tryd.underlying22 Tryd.underlying5 Tryd.underlying9 _ l rfl HB7.out ?_; unfold str))
  go_wp2_with fail
  go_loopw [8, 35] (fun _ v35 wx => ∃ i : Nat, v35 = .int .i64 (i : Int) ∧ i ≤ l.length ∧ Ovr w w3 w7 wx a3 l.length) (fun _ v35 _ => l.length - (intOf v35).toNat)
  case atStart => exact ⟨0, rfl, Nat.zero_le _, OV.out⟩
  case round =>
    obtain ⟨i, rfl, hi, hov⟩ := hrel
    have OV2 := hid hov
    clear hov OV
    by_cases hlt : i < l.length
    · obtain ⟨g, cs, rfl, hg1, hg2, hg3, hg4⟩ := OV2.out.row (by omega)
      have hci : wr.cell? ⟨g, i, none⟩ = some (cs[i]'(by omega)) := by
        rw [cell_of_block hg3 i]; simp
      have hfi := free_of_block hg3 i
      have OV3 := hid (OV2.out.set hlt (.int .u8 238))
      have hj0 : (0 : Int) ≤ (i : Int) := by omega
      have hj1 : (i : Int) < (l.length : Int) := by omega
      have hj2 : i + 1 ≤ 20001 := by have := HL.out; omega
      generalize cs[i]'(by omega) = c0 at *
      clear hg1 hg2 hg3 hg4
      go_wp2
      go_roundw
      case rel => exact ⟨i + 1, by go_num, by omega, OV3.out⟩
      case measure => simp [intOf]; omega
    · obtain rfl : i = l.length := by omega
      have X1 := hid (hE1.out wr OV2.out)
      have X2 := hid (hE2.out wr OV2.out)
      have Y1 := hid (show ElB wr p4 s n (.slice xa ats.length xc) tx (.slice ya kids.len yc) from hF5.out wr OV2.out)
      have Y2 := hid (show ElB wr p6 s n (.slice za ats.length zc) tx (.slice ua kids.len uc) from hF7.out wr OV2.out)
      obtain ⟨s0, s1, s2, s3, s4⟩ := ElB.cells Y1.out
      obtain ⟨t0, t1, t2, t3, t4⟩ := ElB.cells Y2.out
      have CALL := hid (HSM.out wr _ _ X1.out X2.out)
      clear hlt hi hE1 hE2 hF5 hF7
      go_wp2_with fail
      refine CALL.out.mono ?_
      rintro e w9 ⟨rfl, g9⟩
      have G9 := hid (gr_trans OV2.out.gr g9)
      clear g9
      go_wp2
      go_ret
      exact ⟨rfl, G9.out⟩
end Go.Proofs.YtllmdlpogjjmcaaDoor
/- An argument that is a slice of bytes. -/
namespace Go.Proofs.YtllmdlpogjjmcaaDoor
open Go.RowKit Go.Deep Go.ChangeShapes Go.WideShapes

theorem bytes_of_isRow {W : World} {a : Option Addr} {len cap : Nat} {zs : List Int} (h : IsRow .u8 W a len cap zs) : ∃ l : List UInt8, l.length = len ∧ Bytes W (.slice a len cap) l := by
  rcases h with ⟨rfl, rfl, rfl, rfl⟩ | ⟨x, rfl, h1, h2, h3, h4, h5⟩
  · exact ⟨[], rfl, Bytes.nil W⟩
  · have hl : ((zs.take len).map fun z => UInt8.ofNat z.toNat).length = len := by simp; omega
    refine ⟨(zs.take len).map fun z => UInt8.ofNat z.toNat, hl, some x, cap, by rw [hl], by omega, h2, fun hne => ?_⟩
    have hp : 0 < len := by rw [← hl]; exact List.length_pos_iff.2 hne
    obtain ⟨b, off, spot⟩ := x
    obtain rfl : spot = none := by simpa [Addr.add] using World.cell?_spot (h4 0 (by omega))
    refine ⟨b, off, rfl, fun i hi => ?_⟩
    rw [hl] at hi
    have := h4 i (by omega)
    rw [Go.WideShapes.add_plain] at this
    rw [this]
    have hm : zs[i] ∈ zs := List.getElem_mem (by omega)
    have hb := bounds_u8 (h5 _ hm)
    have e1 : zs.getD i 0 = zs[i] := by rw [List.getD_eq_getElem?_getD, List.getElem?_eq_getElem (by omega)]; rfl
    have e2 : ((zs.take len).map fun z => UInt8.ofNat z.toNat).getD i 0 = UInt8.ofNat (zs[i]).toNat := by
      rw [List.getD_eq_getElem?_getD, List.getElem?_map, List.getElem?_take, if_pos hi, List.getElem?_eq_getElem (by omega)]; rfl
    rw [e1, e2]
    simp
    omega
theorem bytes_of_trod {H : Type} {enc : TypeId × Value → H} {P : Program} {W : World} {t e : TypeId} {a : Option Addr} {len cap : Nat} {d : DataW H} {p : List MemPlace}
    (ht : P.underlying t = some (.slice e)) (he : P.underlying e = some (.int .u8)) (hC : P.cellsOf e = 1) (h : DataW.Trod enc P W 0 (fun _ => true) true t (.slice a len cap) d p) :
    ∃ l : List UInt8, l.length = len ∧ Bytes W (.slice a len cap) l := by
  obtain ⟨zs, hz⟩ := isRow_of_trod (k := .u8) ht he hC h
  exact bytes_of_isRow hz
end Go.Proofs.YtllmdlpogjjmcaaDoor
