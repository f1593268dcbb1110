/- xml.Write. -/
import Derived.Test.YtmofnoconhgjmaaGreatDoorXv3
import Derived.Test.YtmofnoconhgjmaaGreatDoorXv4
namespace Go.Proofs.YtmofnoconhgjmaaGreatDoor
open Go.RowKit Go.Shelf
attribute [local go_sem] Oper.semAt_some
set_option linter.unusedVariables false
set_option linter.unusedSimpArgs false

theorem calls_of_wp_m {P : Program} {f : FuncId} {fn : Func} {c : Code} {args : Array Value} {w : World} {R : Ending → World → Prop}
    (hf : P.funcs[f]? = some fn) (hb : fn.body = some c)
    (h : c.wp P (bodyPostM Fence.wide 3 P fn R) { tmps := args ++ Array.replicate (fn.ntmps - args.size) undef, defers := [] } w) : Calls P f args w R :=
  callsIn_wide.1 (callsIn_of_wp_marks hf hb trivial (wpIn_wide.2 h) rfl)
def WritePost (w : World) (e : El) (e' : Ending) (w' : World) : Prop := w.grownBy w' none ∧ ∃ (v : Value) (k : Int), e' = .returned (.tuple #[v, .int .i64 k]) ∧
  ((k ≠ 0 ∧ v = .slice none 0 0) ∨ (k = 0 ∧ Bytes w' v (textE e) ∧ (textE e).length ≤ 8192 ∧ (∀ y ∈ flatE 0 e, OkX y.1 y.2) ∧ (flatE 0 e).length ≤ 64))
theorem keep_other {A B : World} {row : Option Nat} {b : Nat} {cs : Array Value} {t : TypeId} {fr : Nat × Nat} (hs : A.heap[b]? = some (.cells cs t fr)) (hg : A.grownBy B row) (hr : ∀ r, row = some r → ∃ o : Obj, A.heap[r]? = some o ∧ o.isCells = false) : B.heap[b]? = some (.cells cs t fr) :=
  gr_keep hg hs (fun e => by obtain ⟨o, ho, hc⟩ := hr b e.symm; rw [hs] at ho; cases ho; cases hc)
theorem bdE_of {e : El} (h : SmE e) : BdE e := by
  obtain ⟨⟨-, h2, h3, h4, h5, h6⟩, -⟩ := h
  exact ⟨by omega, by omega, by omega, by omega, fun i hi => by obtain ⟨a, b, c⟩ := h6 i hi; exact ⟨by omega, by omega, by omega⟩⟩
/-- What holds between two rounds over the elements. -/
def WrI (w : World) (bx b2 b3 b4 b5 : Nat) (s n : Bs) (av : Value) (tx : Bs) (kv : Value) (pre : List (Ex w w.heap.size)) (W : World) : Prop :=
  ∃ f : Bool, W.heap[b2]? = some (.cells #[.slice none 0 0] 30 (0, 0)) ∧ W.heap[b3]? = some (.cells #[.int .i64 0] 31 (0, 0)) ∧ W.heap[b4]? = some (.cells #[.int .i64 (pre.length : Int)] 3 (0, 0)) ∧ W.heap[b5]? = some (.cells #[.bool f] 4 (0, 0)) ∧
    ElB W bx s n av tx kv ∧ Below w.heap.size w W ∧ (∀ x ∈ pre, rightB x.1.2.1 = true) ∧ (f = false → pre.length ≤ 64 ∧ ∀ x ∈ pre, x.1.1 ≤ 7 ∧ weiN x.1.2.1 ≤ 16)
def WrX (w : World) (b2 b3 : Nat) (c : Code) (pre : List (Ex w w.heap.size)) (W : World) : Prop :=
  c = .ret ∧ W.heap[b2]? = some (.cells #[.slice none 0 0] 30 (0, 0)) ∧ W.heap[b3]? = some (.cells #[.int .i64 11] 31 (0, 0)) ∧ Below w.heap.size w W
theorem wrI_own {w : World} {N bx b2 b3 b4 b5 : Nat} {s n : Bs} {av : Value} {tx : Bs} {kv : Value} (hN : w.heap.size ≤ N) : OwnFrom N (WrI w bx b2 b3 b4 b5 s n av tx kv) := by
  rintro pre A B row ⟨f, h2, h3, h4, h5, hx, hb, hr1, hf⟩ hg hr
  have hr2 : ∀ r, row = some r → ∃ o : Obj, A.heap[r]? = some o ∧ o.isCells = false := fun r e => (hr r e).2
  exact ⟨f, keep_other h2 hg hr2, keep_other h3 hg hr2, keep_other h4 hg hr2, keep_other h5 hg hr2, keep_other hx hg hr2, hb.grown hg hb.size (fun k e => Nat.le_trans hN (hr k e).1), hr1, hf⟩
theorem wrX_own {w : World} {N b2 b3 : Nat} {c : Code} (hN : w.heap.size ≤ N) : OwnFrom N (WrX w b2 b3 c) := by
  rintro pre A B row ⟨rfl, h2, h3, hb⟩ hg hr
  have hr2 : ∀ r, row = some r → ∃ o : Obj, A.heap[r]? = some o ∧ o.isCells = false := fun r e => (hr r e).2
  exact ⟨rfl, keep_other h2 hg hr2, keep_other h3 hg hr2, hb.grown hg hb.size (fun k e => Nat.le_trans hN (hr k e).1)⟩
theorem wrI_next {w W w1 w2 : World} {N : Nat} {s n : Bs} {av : Value} {tx : Bs} {kv : Value} {pre : List (Ex w w.heap.size)} {x : Ex w w.heap.size} {f f' : Bool}
    (GK : KeepsOthers W w1) (HG1 : KP w.heap.size W w1) (HB1 : Below w.heap.size w w1) (hN : w.heap.size + 5 ≤ w1.heap.size) (HW1 : ElB w1 w.heap.size s n av tx kv)
    (H21 : w1.heap[w.heap.size + 1]? = some (.cells #[.slice none 0 0] 30 (0, 0))) (H31 : w1.heap[w.heap.size + 1 + 1]? = some (.cells #[.int .i64 0] 31 (0, 0)))
    (H41 : w1.heap[w.heap.size + 1 + 1 + 1]? = some (.cells #[.int .i64 (pre.length : Int)] 3 (0, 0))) (H51 : w1.heap[w.heap.size + 1 + 1 + 1 + 1]? = some (.cells #[.bool f] 4 (0, 0)))
    (hrt : ∀ y ∈ pre, rightB y.1.2.1 = true) (hx : rightB x.1.2.1 = true) (g2 : (w1.setCell ⟨w.heap.size + 1 + 1 + 1, 0, none⟩ (.int .i64 ((pre.length : Int) + 1))).grownBy w2 none)
    (hf : f' = false → (pre.length + 1 ≤ 64 ∧ ∀ y ∈ pre, y.1.1 ≤ 7 ∧ weiN y.1.2.1 ≤ 16) ∧ x.1.1 ≤ 7 ∧ weiN x.1.2.1 ≤ 16) :
    KeepsFrom N W (w2.setCell ⟨w.heap.size + 1 + 1 + 1 + 1, 0, none⟩ (.bool f')) ∧ KP w.heap.size W (w2.setCell ⟨w.heap.size + 1 + 1 + 1 + 1, 0, none⟩ (.bool f')) ∧
    WrI w w.heap.size (w.heap.size + 1) (w.heap.size + 1 + 1) (w.heap.size + 1 + 1 + 1) (w.heap.size + 1 + 1 + 1 + 1) s n av tx kv (pre ++ [x]) (w2.setCell ⟨w.heap.size + 1 + 1 + 1 + 1, 0, none⟩ (.bool f')) := by
  have k : ∀ {b : Nat} {o : Obj}, w1.heap[b]? = some o → b ≠ w.heap.size + 1 + 1 + 1 → w2.heap[b]? = some o := fun h hne => gr_keep g2 ((heap_set_other hne).trans h) (by simp)
  have k2 : ∀ {b : Nat} {o : Obj}, w1.heap[b]? = some o → b ≠ w.heap.size + 1 + 1 + 1 → b ≠ w.heap.size + 1 + 1 + 1 + 1 → (w2.setCell ⟨w.heap.size + 1 + 1 + 1 + 1, 0, none⟩ (.bool f')).heap[b]? = some o := fun h h1 h2 => (heap_set_other h2).trans (k h h1)
  have hsz : (w1.setCell ⟨w.heap.size + 1 + 1 + 1, 0, none⟩ (.int .i64 ((pre.length : Int) + 1))).heap.size = w1.heap.size := by simp [World.setCell]
  have hb2 : Below w.heap.size w1 (w2.setCell ⟨w.heap.size + 1 + 1 + 1 + 1, 0, none⟩ (.bool f')) :=
    (((Below.refl w.heap.size w1).setCell (p := ⟨w.heap.size + 1 + 1 + 1, 0, none⟩) (by show w.heap.size ≤ w.heap.size + 1 + 1 + 1; omega) _).grown g2 (by rw [hsz]; omega) (fun k e => by cases e)).setCell (p := ⟨w.heap.size + 1 + 1 + 1 + 1, 0, none⟩) (by show w.heap.size ≤ w.heap.size + 1 + 1 + 1 + 1; omega) _
  refine ⟨(((GK.trans (KeepsOthers.setCell _ _ _)).trans (KeepsOthers.of_grownBy g2 (fun j o e ho => by cases e))).trans (KeepsOthers.setCell _ _ _)).from _, ⟨HG1.1.trans hb2, fun i cs fr h => ?_⟩, f', k2 H21 (by omega) (by omega), k2 H31 (by omega) (by omega), ?_, heap_set (o := 0) (k H51 (by omega)), k2 HW1 (by omega) (by omega), HB1.trans hb2, ?_, ?_⟩
  · have h1 := HG1.2 i cs fr h
    refine k2 h1 ?_ ?_
    · rintro rfl; rw [H41] at h1; cases h1
    · rintro rfl; rw [H51] at h1; cases h1
  · refine (heap_set_other (by omega)).trans ?_
    rw [List.length_append, List.length_singleton]
    exact gr_keep g2 (heap_set (o := 0) H41) (by simp)
  · intro y hy
    rcases List.mem_append.1 hy with h | h
    · exact hrt y h
    · obtain rfl := List.mem_singleton.1 h
      exact hx
  · intro h0
    obtain ⟨⟨h1, h2⟩, h3⟩ := hf h0
    refine ⟨by rw [List.length_append, List.length_singleton]; exact h1, fun y hy => ?_⟩
    rcases List.mem_append.1 hy with h | h
    · exact h2 y h
    · obtain rfl := List.mem_singleton.1 h
      exact h3
set_option maxRecDepth 100000 in
set_option maxHeartbeats 20000000 in
theorem write_any (w : World) (v : Value) (e : El) (m : Int) (he : ElAt w noX v e) (hm : w.cell? ⟨0, 0, none⟩ = some (.int .i64 m)) (hsm : SmE e) (hsz : e.kids.sz ≤ 1000000) (hcn : (flatE 0 e).length ≤ 1000000) (hlen : (textE e).length ≤ 100000000000) :
    Calls Tryz.prog 14 #[v] w (WritePost w e) := by
  obtain ⟨s, n, ats, tx, kids⟩ := e
  obtain ⟨av, kv, rfl, ha, hk⟩ := he
  have HA := hid (show AtsAt w (w.heap.size ≤ ·) av ats from ha.less fun b h1 h2 => absurd h1 (Nat.not_lt.2 h2))
  have HK := hid (show KidV w (w.heap.size ≤ ·) kv kids from hk.less fun b h1 h2 => absurd h1 (Nat.not_lt.2 h2))
  have HSM := hid hsm
  have HSZ := hid hsz
  have HCN := hid hcn
  have HLEN := hid hlen
  have HM := hid hm
  simp only at ha hk
  obtain ⟨aa, ac, rfl, -⟩ := ha
  obtain ⟨ka, kc, rfl, -⟩ := hk
  unfold elV str
  simp only
  clear hsm hsz hlen hm hcn
  refine calls_of_wp_m Tryz.func14 rfl ?_
  simp only [Tryz.ntmps14, List.size_toArray, List.length_cons, List.length_nil, Nat.reduceAdd, Nat.reduceSub, Array.replicate_succ, Array.replicate_zero, List.push_toArray, List.append_toArray, List.nil_append, List.cons_append]
  go_upto_region 2 with fail
  have gA := gr_alloc (gr_refl w none) (.cells #[.string ⟨s.toArray⟩, .string ⟨n.toArray⟩, .slice aa ats.length ac, .string ⟨tx.toArray⟩, .slice ka kids.len kc] 25)
  have hA := heap_alloc_new w (.cells #[.string ⟨s.toArray⟩, .string ⟨n.toArray⟩, .slice aa ats.length ac, .string ⟨tx.toArray⟩, .slice ka kids.len kc] 25)
  have hAs : (w.alloc (.cells #[.string ⟨s.toArray⟩, .string ⟨n.toArray⟩, .slice aa ats.length ac, .string ⟨tx.toArray⟩, .slice ka kids.len kc] 25)).heap.size = w.heap.size + 1 := by simp
  revert gA hA hAs
  generalize w.alloc (.cells #[.string ⟨s.toArray⟩, .string ⟨n.toArray⟩, .slice aa ats.length ac, .string ⟨tx.toArray⟩, .slice ka kids.len kc] 25) = wA
  intro gA hA hAs
  have hB := heap_alloc_new wA (.cells #[.slice none 0 0] 30)
  have hC := heap_alloc_new (wA.alloc (.cells #[.slice none 0 0] 30)) (.cells #[.int .i64 0] 31)
  have hD := heap_alloc_new ((wA.alloc (.cells #[.slice none 0 0] 30)).alloc (.cells #[.int .i64 0] 31)) (.cells #[.int .i64 0] 3)
  have hE := heap_alloc_new (((wA.alloc (.cells #[.slice none 0 0] 30)).alloc (.cells #[.int .i64 0] 31)).alloc (.cells #[.int .i64 0] 3)) (.cells #[.bool false] 4)
  have gE := World.grownBy_alloc (((wA.alloc (.cells #[.slice none 0 0] 30)).alloc (.cells #[.int .i64 0] 31)).alloc (.cells #[.int .i64 0] 3)) (.cells #[.bool false] 4) none
  have gD := World.grownBy_alloc ((wA.alloc (.cells #[.slice none 0 0] 30)).alloc (.cells #[.int .i64 0] 31)) (.cells #[.int .i64 0] 3) none
  have gC := World.grownBy_alloc (wA.alloc (.cells #[.slice none 0 0] 30)) (.cells #[.int .i64 0] 31) none
  have gB := World.grownBy_alloc wA (.cells #[.slice none 0 0] 30) none
  simp only [World.size_alloc, hAs] at hB hC hD hE
  obtain ⟨w5, hw5⟩ : ∃ w5, w5 = (((wA.alloc (.cells #[.slice none 0 0] 30)).alloc (.cells #[.int .i64 0] 31)).alloc (.cells #[.int .i64 0] 3)).alloc (.cells #[.bool false] 4) := ⟨_, rfl⟩
  have hsz5 : w5.heap.size = w.heap.size + 5 := by rw [hw5]; simp [hAs]
  rw [← hw5] at hE gE ⊢
  have HBX := hid (gr_keep (gr_trans gB (gr_trans gC (gr_trans gD gE))) hA (by simp))
  have HB2 := hid (gr_keep (gr_trans gC (gr_trans gD gE)) hB (by simp))
  have HB3 := hid (gr_keep (gr_trans gD gE) hC (by simp))
  have HB4 := hid (gr_keep gE hD (by simp))
  have HB5 := hid hE
  have G5 := hid (gr_trans gA (gr_trans gB (gr_trans gC (gr_trans gD gE))))
  have HS5 := hid hsz5
  clear hw5 hA hB hC hD hE gA gB gC gD gE hAs hsz5
  obtain ⟨s0, s1, s2, s3, s4⟩ := ElB.cells (show ElB w5 w.heap.size s n (.slice aa ats.length ac) tx (.slice ka kids.len kc) from HBX.out)
  go_wp2_with fail
  refine (all_any w5 s n tx aa ka ats.length kids.len ac kc).mono ?_
  rintro e w6 ⟨rfl, hw6⟩
  have hQ := heap_alloc_new w5 (.cells #[.string ⟨s.toArray⟩, .string ⟨n.toArray⟩, .slice aa ats.length ac, .string ⟨tx.toArray⟩, .slice ka kids.len kc] 25)
  have g6 := World.grownBy_alloc w5 (.cells #[.string ⟨s.toArray⟩, .string ⟨n.toArray⟩, .slice aa ats.length ac, .string ⟨tx.toArray⟩, .slice ka kids.len kc] 25) none
  rw [hw6] at hQ g6
  have hsz6 : w6.heap.size = w.heap.size + 6 := by rw [← hw6, World.size_alloc, HS5.out]
  rw [HS5.out] at hQ ⊢
  have HQ := hid (show ElB w6 (w.heap.size + 5) s n (.slice aa ats.length ac) tx (.slice ka kids.len kc) from hQ)
  have KX6 := hid (gr_keep g6 HBX.out (by simp))
  have K26 := hid (gr_keep g6 HB2.out (by simp))
  have K36 := hid (gr_keep g6 HB3.out (by simp))
  have K46 := hid (gr_keep g6 HB4.out (by simp))
  have K56 := hid (gr_keep g6 HB5.out (by simp))
  have G6 := hid (gr_trans G5.out g6)
  have HS6 := hid hsz6
  clear hw6 hQ g6 hsz6 HBX HB2 HB3 HB4 HB5 G5 HS5 s0 s1 s2 s3 s4
  go_wp2_with fail
  refine (wpIn_wide (n := 3)).1 ?_
  refine wpIn_rangeFunc_ownH rfl (by omega) (gf := 89) (lb := #[.pointer (some ⟨w.heap.size + 5, 0, none⟩)]) rfl trivial (enters_of Tryz.func89 (by kernel_rfl) rfl)
    (all_stops _ rfl _ trivial trivial rfl (w.heap.size + 5) w.heap.size ⟨s, n, ats, tx, kids⟩ _ _ w w6 G6.out.size (gr_below G6.out) HSZ.out HSM.out HQ.out HA.out HK.out) KP.trans (kp_b G6.out.size) (Below.refl _ _) (fun _ => rfl)
    (WrI w w.heap.size (w.heap.size + 1) (w.heap.size + 1 + 1) (w.heap.size + 1 + 1 + 1) (w.heap.size + 1 + 1 + 1 + 1) s n (.slice aa ats.length ac) tx (.slice ka kids.len kc)) (WrX w (w.heap.size + 1) (w.heap.size + 1 + 1)) (wrI_own G6.out.size) (fun c => wrX_own G6.out.size) ⟨false, K26.out, K36.out, K46.out, K56.out, KX6.out, gr_below G6.out, (fun x hx => by cases hx), fun _ => ⟨Nat.zero_le _, fun x hx => by cases hx⟩⟩
    (fun x a' W => ∃ (Bx : Nat) (cs : Array Value), x.1.2.2 = .agg cs ∧ w.heap.size + 5 ≤ Bx ∧ W.heap[Bx]? = some (.cells cs 25 (0, 0)) ∧ a' = { tmps := #[Value.agg #[.string ⟨s.toArray⟩, .string ⟨n.toArray⟩, .slice aa ats.length ac, .string ⟨tx.toArray⟩, .slice ka kids.len kc], .pointer (some ⟨w.heap.size, 0, none⟩), .pointer (some ⟨w.heap.size + 1, 0, none⟩), .pointer (some ⟨w.heap.size + 1 + 1, 0, none⟩), .pointer (some ⟨w.heap.size + 1 + 1 + 1, 0, none⟩), .pointer (some ⟨w.heap.size + 1 + 1 + 1 + 1, 0, none⟩), .int .i64 (x.1.1 : Int), .pointer (some ⟨Bx, 0, none⟩), undef, Value.agg #[.string ⟨s.toArray⟩, .string ⟨n.toArray⟩, .slice aa ats.length ac, .string ⟨tx.toArray⟩, .slice ka kids.len kc], .func (Fn.func 89) #[] #[.pointer (some ⟨w.heap.size + 5, 0, none⟩)], .int .i64 (x.1.1 : Int), x.1.2.2, undef, undef, undef, undef, undef, undef, undef, undef, undef, undef, undef, undef, undef, undef, undef, undef, undef, undef, undef, undef, undef, undef, undef, undef, undef, undef], defers := [] }) ?hAx ?assign ?body ?done ?stop
  case hAx =>
    rintro x a' s A B row ⟨Bx, cs, h1, h2, h3, h4⟩ hg hr
    exact ⟨Bx, cs, h1, h2, keep_other h3 hg (fun r e => (hr r e).2), h4⟩
  case assign =>
    intro l pre x W K hi hK
    have HEX := hid x.2
    obtain ⟨⟨d, ⟨x1, x2, x3, x4, x5⟩, vx⟩, hx⟩ := x
    simp only at HEX
    obtain ⟨⟨av', kv', e', ha', hk'⟩, hx2⟩ := HEX.out
    simp only at e' ha' hk'
    obtain ⟨a1, c1, rfl, -⟩ := ha'
    obtain ⟨a2, c2, rfl, -⟩ := hk'
    unfold elV str at e'
    simp only at e'
    subst e'
    gi_wp2
    refine hK _ _ ((KeepsOthers.alloc _ _).from _) (KP.none (hi.choose_spec.2.2.2.2.2.1).size (World.grownBy_alloc _ _ _)) (wrI_own G6.out.size pre W _ none hi (World.grownBy_alloc _ _ _) (fun r e => by cases e)) ⟨W.heap.size, _, rfl, ?_, heap_alloc_new W _, rfl⟩
    have := lt_of_block hi.choose_spec.2.2.2.1
    omega
  case body =>
    rintro l pre x a' W hl - ⟨f, h2, h3, h4, h5, hbx, hB, hrt, hf⟩ ⟨Bx, cs, hcs, hBx, hX, rfl⟩ hlt
    have HKX := hid (show ∃ y, y = x from ⟨_, rfl⟩)
    have HEX := hid x.2
    have HRT := hid hrt
    have HF := hid hf
    have HPL := hid (show (pre.length : Int) + 1 ≤ 1000001 by have := HCN.out; omega)
    obtain ⟨⟨d, ⟨x1, x2, x3, x4, x5⟩, vx⟩, hx⟩ := x
    simp only at HEX
    obtain ⟨⟨av', kv', e', ha', hk'⟩, hsx, hdx⟩ := HEX.out
    simp only at e' ha' hk'
    have HEL := hid (show ElAt W (w.heap.size ≤ ·) vx ⟨x1, x2, x3, x4, x5⟩ from ⟨av', kv', e', ha'.same fun i _ h => hB.block i (Nat.lt_of_not_le h), hk'.same fun i _ h => hB.block i (Nat.lt_of_not_le h)⟩)
    have HBD := hid (bdE_of hsx)
    obtain ⟨a1, c1, rfl, -⟩ := ha'
    obtain ⟨a2, c2, rfl, -⟩ := hk'
    unfold elV str at e'
    simp only at e'
    subst e'
    obtain rfl : _ = cs := Value.agg.inj hcs
    have HX := hid hX
    have H2 := hid h2
    have H3 := hid h3
    have H4 := hid h4
    have H5 := hid h5
    have HBB := hid hB
    have HBX := hid hbx
    have HXX := hid hBx
    have HL := hid hl
    obtain ⟨s0, s1, s2, s3, s4⟩ := ElB.cells (show ElB W Bx x1 x2 (.slice a1 x3.length c1) x4 (.slice a2 x5.len c2) from hX)
    clear hrt hf hcs hX h2 h3 h4 h5 hB hbx hBx hl hlt hdx hsx
    dsimp only
    gi_wp2
    refine ⟨trivial, ?_⟩
    gi_at_call 48
    refine (CallsIn.inRound l (callsIn_wide.2 (right_any W (w.heap.size ≤ ·) _ ⟨x1, x2, x3, x4, x5⟩ HEL.out HBD.out))).mono ?_
    rintro e1 w1 ⟨rfl, g1⟩
    have g01 := KeepsOthers.of_grownBy g1 (fun j o e ho => by cases e)
    have GK := hid g01
    have HB1 := hid (HBB.out.grown g1 HBB.out.size (fun k e => by cases e))
    have HX1 := hid (show ElB w1 Bx x1 x2 (.slice a1 x3.length c1) x4 (.slice a2 x5.len c2) from gr_keep g1 HX.out (by simp))
    have HW1 := hid (gr_keep g1 HBX.out (by simp))
    have H21 := hid (gr_keep g1 H2.out (by simp))
    have H31 := hid (gr_keep g1 H3.out (by simp))
    have H41 := hid (gr_keep g1 H4.out (by simp))
    have H51 := hid (gr_keep g1 H5.out (by simp))
    have HE1 := hid (show ElAt w1 (w.heap.size ≤ ·) (.agg #[.string ⟨x1.toArray⟩, .string ⟨x2.toArray⟩, .slice a1 x3.length c1, .string ⟨x4.toArray⟩, .slice a2 x5.len c2]) ⟨x1, x2, x3, x4, x5⟩ by
      obtain ⟨p1, p2, p3, p4, p5⟩ := HEL.out
      exact ⟨p1, p2, p3, p4.grow g1, p5.grow g1⟩)
    have HN1 := hid (show w.heap.size + 5 ≤ w1.heap.size from Nat.le_trans (by have := lt_of_block H5.out; omega) g1.size)
    have HG1 := hid (KP.none (show w.heap.size ≤ W.heap.size from HBB.out.size) g1)
    clear s0 s1 s2 s3 s4 g1 g01 H2 H3 H4 H5 HBB HBX HX HEL
    cases hn : rightB ⟨x1, x2, x3, x4, x5⟩ with
    | false =>
      have c2' := (cell_of_block H21.out 0).trans (show _ = some (Value.slice none 0 0) from rfl)
      have f2' := free_of_block H21.out 0
      have c3' := (cell_of_block H31.out 0).trans (show _ = some (Value.int .i64 0) from rfl)
      have f3' := free_of_block H31.out 0
      gi_wp2
      exact ⟨((GK.out.trans (KeepsOthers.setCell _ _ _)).trans (KeepsOthers.setCell _ _ _)).from _, rfl, (heap_set_other (by omega)).trans (heap_set (o := 0) H21.out), heap_set (o := 0) ((heap_set_other (by omega)).trans H31.out),
        (HB1.out.setCell (p := ⟨w.heap.size + 1, 0, none⟩) (by show w.heap.size ≤ w.heap.size + 1; omega) _).setCell (p := ⟨w.heap.size + 1 + 1, 0, none⟩) (by show w.heap.size ≤ w.heap.size + 1 + 1; omega) _⟩
    | true =>
      have hpl := HPL.out
      have c4' := (cell_of_block H41.out 0).trans (show _ = some (Value.int .i64 (pre.length : Int)) from rfl)
      have f4' := free_of_block H41.out 0
      have c5' := (cell_of_block H51.out 0).trans (show _ = some (Value.bool f) from rfl)
      have f5' := free_of_block H51.out 0
      cases f with
      | true =>
        gi_wp2
        refine ⟨trivial, ?_⟩
        gi_wp2
        exact wrI_next (x := ⟨(d, ⟨x1, x2, x3, x4, x5⟩, _), hx⟩) GK.out HG1.out HB1.out HN1.out HW1.out H21.out H31.out H41.out H51.out HRT.out hn (gr_refl _ _) (fun h => by cases h)
      | false =>
        by_cases q1 : (64 : Int) < (pre.length : Int) + 1
        · gi_wp2
          refine ⟨trivial, ?_⟩
          gi_wp2
          exact wrI_next (x := ⟨(d, ⟨x1, x2, x3, x4, x5⟩, _), hx⟩) GK.out HG1.out HB1.out HN1.out HW1.out H21.out H31.out H41.out H51.out HRT.out hn (gr_refl _ _) (fun h => by cases h)
        · by_cases q2 : (8 : Int) ≤ (d : Int)
          · gi_wp2
            refine ⟨trivial, ?_⟩
            gi_wp2
            exact wrI_next (x := ⟨(d, ⟨x1, x2, x3, x4, x5⟩, _), hx⟩) GK.out HG1.out HB1.out HN1.out HW1.out H21.out H31.out H41.out H51.out HRT.out hn (gr_refl _ _) (fun h => by cases h)
          · have HXS := hid (show ElB (w1.setCell ⟨w.heap.size + 1 + 1 + 1, 0, none⟩ (.int .i64 ((pre.length : Int) + 1))) Bx x1 x2 (.slice a1 x3.length c1) x4 (.slice a2 x5.len c2) from (heap_set_other (by have := HXX.out; omega)).trans HX1.out)
            have HES := hid (show ElAt (w1.setCell ⟨w.heap.size + 1 + 1 + 1, 0, none⟩ (.int .i64 ((pre.length : Int) + 1))) (w.heap.size ≤ ·) (.agg #[.string ⟨x1.toArray⟩, .string ⟨x2.toArray⟩, .slice a1 x3.length c1, .string ⟨x4.toArray⟩, .slice a2 x5.len c2]) ⟨x1, x2, x3, x4, x5⟩ by
              obtain ⟨p1, p2, p3, p4, p5⟩ := HE1.out
              exact ⟨p1, p2, p3, p4.same fun i _ h => heap_set_other (by omega), p5.same fun i _ h => heap_set_other (by omega)⟩)
            obtain ⟨s0, s1, s2, s3, s4⟩ := ElB.cells HXS.out
            have HQ12 := hid (show pre.length + 1 ≤ 64 ∧ d ≤ 7 by omega)
            gi_wp2
            refine ⟨trivial, ?_⟩
            gi_at_call 49
            refine (CallsIn.inRound l (callsIn_wide.2 (weight_any _ (w.heap.size ≤ ·) _ ⟨x1, x2, x3, x4, x5⟩ HES.out HBD.out.2.2.2.1))).mono ?_
            rintro e2 w2 ⟨rfl, g2⟩
            have H52 := hid (gr_keep g2 ((heap_set_other (by omega)).trans H51.out) (by simp))
            have G2 := hid g2
            clear c4' f4' c5' f5' s0 s1 s2 s3 s4 g2
            have c5' := (cell_of_block H52.out 0).trans (show _ = some (Value.bool false) from rfl)
            have f5' := free_of_block H52.out 0
            have HWN := hid (show ∃ k, k = weiN ⟨x1, x2, x3, x4, x5⟩ from ⟨_, rfl⟩)
            obtain ⟨k, hk⟩ := HWN.out
            rw [← hk]
            have HKK := hid hk
            clear hk
            by_cases q3 : (16 : Int) < (k : Int)
            · gi_wp2
              exact wrI_next (x := ⟨(d, ⟨x1, x2, x3, x4, x5⟩, _), hx⟩) GK.out HG1.out HB1.out HN1.out HW1.out H21.out H31.out H41.out H51.out HRT.out hn G2.out (fun h => by cases h)
            · gi_wp2
              exact wrI_next (x := ⟨(d, ⟨x1, x2, x3, x4, x5⟩, _), hx⟩) GK.out HG1.out HB1.out HN1.out HW1.out H21.out H31.out H41.out H51.out HRT.out hn G2.out (fun _ => ⟨⟨HQ12.out.1, (HF.out (by simp)).2⟩, HQ12.out.2, by show weiN _ ≤ 16; rw [← HKK.out]; omega⟩)
  case done =>
    rintro D ys W hD hys ⟨f, h2, h3, h4, h5, hbx, hB, hrt, hf⟩ hK
    have HRT := hid hrt
    have HF := hid hf
    have HYS := hid hys
    have H2 := hid h2
    have H3 := hid h3
    have H4 := hid h4
    have H5 := hid h5
    have HBX := hid hbx
    have HBB := hid hB
    have HKK := hid hK
    have HD := hid hD
    clear hrt hf hys h2 h3 h4 h5 hbx hB hD
    have c5 := (cell_of_block H5.out 0).trans (show _ = some (Value.bool f) from rfl)
    have hD6 : w.heap.size + 6 ≤ D := by have := HD.out; have := HS6.out; omega
    cases f with
    | true =>
      have c2 := (cell_of_block H2.out 0).trans (show _ = some (Value.slice none 0 0) from rfl)
      have f2 := free_of_block H2.out 0
      have c3 := (cell_of_block H3.out 0).trans (show _ = some (Value.int .i64 0) from rfl)
      have f3 := free_of_block H3.out 0
      gi_wp2
      go_wp2_with fail
      have hk9 : ((W.setCell ⟨w.heap.size + 1, 0, none⟩ (.slice none 0 0)).setCell ⟨w.heap.size + 1 + 1, 0, none⟩ (.int .i64 20)).heap[D]? = some (.deferred (some [])) := (heap_set_other (by omega)).trans ((heap_set_other (by omega)).trans HKK.out)
      refine ⟨by simp, .inl ⟨_, _, rfl, run_takeDeferred hk9, ?_⟩⟩
      have hb2 : (World.putObj ((W.setCell ⟨w.heap.size + 1, 0, none⟩ (.slice none 0 0)).setCell ⟨w.heap.size + 1 + 1, 0, none⟩ (.int .i64 20)) D (.deferred none)).heap[w.heap.size + 1]? = some (.cells #[(.slice none 0 0)] 30 (0, 0)) := (World.putObj_heap_other (by omega)).trans ((heap_set_other (by omega)).trans (heap_set (o := 0) H2.out))
      have hb3 : (World.putObj ((W.setCell ⟨w.heap.size + 1, 0, none⟩ (.slice none 0 0)).setCell ⟨w.heap.size + 1 + 1, 0, none⟩ (.int .i64 20)) D (.deferred none)).heap[w.heap.size + 1 + 1]? = some (.cells #[.int .i64 20] 31 (0, 0)) := (World.putObj_heap_other (by omega)).trans (heap_set (o := 0) ((heap_set_other (by omega)).trans H3.out))
      have c2' := (cell_of_block hb2 0).trans (show _ = some ((.slice none 0 0) : Value) from rfl)
      have c3' := (cell_of_block hb3 0).trans (show _ = some (Value.int .i64 20) from rfl)
      have hgr := gr_of_below ((((HBB.out).setCell (p := ⟨w.heap.size + 1, 0, none⟩) (show w.heap.size ≤ w.heap.size + 1 by omega) (.slice none 0 0)).setCell (p := ⟨w.heap.size + 1 + 1, 0, none⟩) (show w.heap.size ≤ w.heap.size + 1 + 1 by omega) (.int .i64 20)).trans (belowK_b (w := w) (Nat.le_refl _) _ D _ (.deferred none) (by omega) hk9 rfl rfl))
      refine ⟨.tuple #[.slice none 0 0, .int .i64 20], ?_, hgr, _, 20, rfl, .inl ⟨by decide, rfl⟩⟩
      simp [results, Tryz.results14, go_sem, c2', c3']
    | false =>
      have HDL := hid (show D < W.heap.size from lt_of_block HKK.out)
      have hn0 : w.heap.size ≤ W.heap.size := HBB.out.size
      have gW := World.grownBy_alloc W (.cells #[.pointer none, .slice none 0 0] 108) none
      have HEW := hid (show ElB (W.alloc (.cells #[.pointer none, .slice none 0 0] 108)) w.heap.size s n (.slice aa ats.length ac) tx (.slice ka kids.len kc) from gr_keep gW HBX.out (by simp))
      have HAW := hid (show AtsAt (W.alloc (.cells #[.pointer none, .slice none 0 0] 108)) (W.heap.size ≤ ·) (.slice aa ats.length ac) ats from ((HA.out.same fun i _ h => HBB.out.block i (Nat.lt_of_not_le h)).grow gW).less fun b _ h => Nat.le_trans hn0 h)
      have HKW := hid (show KidV (W.alloc (.cells #[.pointer none, .slice none 0 0] 108)) (W.heap.size ≤ ·) (.slice ka kids.len kc) kids from ((HK.out.same fun i _ h => HBB.out.block i (Nat.lt_of_not_le h)).grow gW).less fun b _ h => Nat.le_trans hn0 h)
      have h0w : 0 < w.heap.size := lt_of_cell HM.out
      have HMW := hid (show (W.alloc (.cells #[.pointer none, .slice none 0 0] 108)).cell? ⟨0, 0, none⟩ = some (.int .i64 m) from gW.cell ((HBB.out.cell (p := ⟨0, 0, none⟩) h0w).trans HM.out) (by simp))
      have CALL := hid (write_el m W.heap.size W.heap.size (by omega) (kids.sz + 1) ⟨s, n, ats, tx, kids⟩ [] _ (W.alloc (.cells #[.pointer none, .slice none 0 0] 108)) (Nat.lt_succ_self _) HSZ.out HSM.out (by have := HLEN.out; rw [List.length_nil]; omega) gW.size HMW.out (bld_new W) ⟨_, _, rfl, HAW.out, HKW.out⟩)
      rw [List.nil_append] at CALL
      unfold elV str at CALL
      dsimp only at CALL
      obtain ⟨s0, s1, s2, s3, s4⟩ := ElB.cells HEW.out
      have GW := hid gW
      have HBW := hid (show Below w.heap.size w (W.alloc (.cells #[.pointer none, .slice none 0 0] 108)) from HBB.out.trans ((gr_below gW).mono hn0))
      have H2W := hid (gr_keep gW H2.out (by simp))
      have H3W := hid (gr_keep gW H3.out (by simp))
      have HKD := hid (gr_keep gW HKK.out (by simp))
      have HW5 := hid (show w.heap.size + 6 < W.heap.size by have := HDL.out; omega)
      have HD6 := hid hD6
      clear gW HAW HKW HMW HEW H2 H3 h0w hn0 hK hD6
      gi_wp2
      go_wp2_with fail
      refine CALL.out.mono ?_
      rintro e1 w1 ⟨rfl, bl1, k1⟩
      have hDW := HDL.out
      have hW5 := HW5.out
      have hD6 := HD6.out
      have H21 := hid ((k1.b.block _ (by omega)).trans H2W.out)
      have H31 := hid ((k1.b.block _ (by omega)).trans H3W.out)
      have HK1 := hid ((k1.b.block _ (by omega)).trans HKD.out)
      have HB1 := hid (HBW.out.trans (k1.b.mono (show w.heap.size ≤ W.heap.size by omega)))
      have HS1 := hid (show W.heap.size ≤ w1.heap.size from Nat.le_trans GW.out.size k1.size)
      have BL1 := hid bl1
      clear CALL bl1 k1 s0 s1 s2 s3 s4 H2W H3W HKD HBW GW c5 HDL HW5 HD6
      obtain ⟨L, hL⟩ : ∃ L, L = (textE ⟨s, n, ats, tx, kids⟩).length := ⟨_, rfl⟩
      have hbc : (Lib.byteCells (textE ⟨s, n, ats, tx, kids⟩)).length = L := by rw [hL]; simp [Lib.byteCells]
      have LEN := hid (Tryz.Builder_Len W.heap.size W.heap.size _ w1 BL1.out)
      rw [hbc] at LEN
      have HL := hid hL
      clear hbc hL
      go_wp2_with fail
      refine LEN.out.mono ?_
      rintro e2 w2 ⟨rfl, rfl⟩
      by_cases q : (8192 : Int) < (L : Int)
      · have c2 := (cell_of_block H21.out 0).trans (show _ = some (Value.slice none 0 0) from rfl)
        have f2 := free_of_block H21.out 0
        have c3 := (cell_of_block H31.out 0).trans (show _ = some (Value.int .i64 0) from rfl)
        have f3 := free_of_block H31.out 0
        clear LEN
        revert H21 H31 HK1 HB1 HS1 BL1 c2 f2 c3 f3
        generalize w2 = w1
        intro H21 H31 HK1 HB1 HS1 BL1 c2 f2 c3 f3
        go_wp2_with fail
        have hk9 : ((w1.setCell ⟨w.heap.size + 1, 0, none⟩ (.slice none 0 0)).setCell ⟨w.heap.size + 1 + 1, 0, none⟩ (.int .i64 14)).heap[D]? = some (.deferred (some [])) := (heap_set_other (by omega)).trans ((heap_set_other (by omega)).trans HK1.out)
        refine ⟨by simp, .inl ⟨_, _, rfl, run_takeDeferred hk9, ?_⟩⟩
        have hb2 : (World.putObj ((w1.setCell ⟨w.heap.size + 1, 0, none⟩ (.slice none 0 0)).setCell ⟨w.heap.size + 1 + 1, 0, none⟩ (.int .i64 14)) D (.deferred none)).heap[w.heap.size + 1]? = some (.cells #[(.slice none 0 0)] 30 (0, 0)) := (World.putObj_heap_other (by omega)).trans ((heap_set_other (by omega)).trans (heap_set (o := 0) H21.out))
        have hb3 : (World.putObj ((w1.setCell ⟨w.heap.size + 1, 0, none⟩ (.slice none 0 0)).setCell ⟨w.heap.size + 1 + 1, 0, none⟩ (.int .i64 14)) D (.deferred none)).heap[w.heap.size + 1 + 1]? = some (.cells #[.int .i64 14] 31 (0, 0)) := (World.putObj_heap_other (by omega)).trans (heap_set (o := 0) ((heap_set_other (by omega)).trans H31.out))
        have c2' := (cell_of_block hb2 0).trans (show _ = some ((.slice none 0 0) : Value) from rfl)
        have c3' := (cell_of_block hb3 0).trans (show _ = some (Value.int .i64 14) from rfl)
        have hgr := gr_of_below ((((HB1.out).setCell (p := ⟨w.heap.size + 1, 0, none⟩) (show w.heap.size ≤ w.heap.size + 1 by omega) (.slice none 0 0)).setCell (p := ⟨w.heap.size + 1 + 1, 0, none⟩) (show w.heap.size ≤ w.heap.size + 1 + 1 by omega) (.int .i64 14)).trans (belowK_b (w := w) (Nat.le_refl _) _ D _ (.deferred none) (by omega) hk9 rfl rfl))
        refine ⟨.tuple #[.slice none 0 0, .int .i64 14], ?_, hgr, _, 14, rfl, .inl ⟨by decide, rfl⟩⟩
        simp [results, Tryz.results14, go_sem, c2', c3']
      · have STR := hid (Tryz.Builder_String_any W.heap.size W.heap.size (textE ⟨s, n, ats, tx, kids⟩) w2 BL1.out HS1.out)
        clear LEN
        go_wp2_with fail
        refine STR.out.mono ?_
        rintro e3 wS ⟨rfl, hbS⟩
        have H2S := hid ((hbS.block _ (by omega)).trans H21.out)
        have H3S := hid ((hbS.block _ (by omega)).trans H31.out)
        have HKS := hid ((hbS.block _ (by omega)).trans HK1.out)
        have HBS := hid (HB1.out.trans (hbS.mono (show w.heap.size ≤ W.heap.size by omega)))
        have HSS := hid (Nat.le_trans HS1.out hbS.size)
        clear STR hbS H21 H31 HK1 HB1 HS1 BL1
        have HTL := hid (show (⟨(textE ⟨s, n, ats, tx, kids⟩).toArray⟩ : ByteArray).size = (textE ⟨s, n, ats, tx, kids⟩).length by rw [Lib.size_eq])
        have HT8 := hid (show (textE ⟨s, n, ats, tx, kids⟩).length ≤ 8192 by rw [← HL.out]; omega)
        go_wp2_with (refine wpl_s2b rfl 9 30 5 _ rfl Tryz.underlying9 Tryz.underlying30 Tryz.underlying5 ⟨(textE ⟨s, n, ats, tx, kids⟩).toArray⟩ rfl (by rw [HTL.out]; unfold maxLen; have := HT8.out; omega) ?_; intro g cap w3 hg hrow g3; have H23 := hid (gr_keep g3 H2S.out (by simp)); have H33 := hid (gr_keep g3 H3S.out (by simp)); have c2 := (cell_of_block H23.out 0).trans (show _ = some (Value.slice none 0 0) from rfl); have f2 := free_of_block H23.out 0; have c3 := (cell_of_block H33.out 0).trans (show _ = some (Value.int .i64 0) from rfl); have f3 := free_of_block H33.out 0)
        have HK3 := hid (gr_keep g3 HKS.out (by simp))
        have HB3 := hid (HBS.out.trans ((gr_below g3).mono (show w.heap.size ≤ wS.heap.size by have := HSS.out; omega)))
        have hk9 : ((w3.setCell ⟨w.heap.size + 1, 0, none⟩ (.slice (some ⟨g, 0, none⟩) (textE ⟨s, n, ats, tx, kids⟩).length cap)).setCell ⟨w.heap.size + 1 + 1, 0, none⟩ (.int .i64 0)).heap[D]? = some (.deferred (some [])) := (heap_set_other (by omega)).trans ((heap_set_other (by omega)).trans HK3.out)
        refine ⟨by simp, .inl ⟨_, _, rfl, run_takeDeferred hk9, ?_⟩⟩
        have hb2 : (World.putObj ((w3.setCell ⟨w.heap.size + 1, 0, none⟩ (.slice (some ⟨g, 0, none⟩) (textE ⟨s, n, ats, tx, kids⟩).length cap)).setCell ⟨w.heap.size + 1 + 1, 0, none⟩ (.int .i64 0)) D (.deferred none)).heap[w.heap.size + 1]? = some (.cells #[(.slice (some ⟨g, 0, none⟩) (textE ⟨s, n, ats, tx, kids⟩).length cap)] 30 (0, 0)) := (World.putObj_heap_other (by omega)).trans ((heap_set_other (by omega)).trans (heap_set (o := 0) H23.out))
        have hb3 : (World.putObj ((w3.setCell ⟨w.heap.size + 1, 0, none⟩ (.slice (some ⟨g, 0, none⟩) (textE ⟨s, n, ats, tx, kids⟩).length cap)).setCell ⟨w.heap.size + 1 + 1, 0, none⟩ (.int .i64 0)) D (.deferred none)).heap[w.heap.size + 1 + 1]? = some (.cells #[.int .i64 0] 31 (0, 0)) := (World.putObj_heap_other (by omega)).trans (heap_set (o := 0) ((heap_set_other (by omega)).trans H33.out))
        have c2' := (cell_of_block hb2 0).trans (show _ = some ((.slice (some ⟨g, 0, none⟩) (textE ⟨s, n, ats, tx, kids⟩).length cap) : Value) from rfl)
        have c3' := (cell_of_block hb3 0).trans (show _ = some (Value.int .i64 0) from rfl)
        have hgr := gr_of_below ((((HB3.out).setCell (p := ⟨w.heap.size + 1, 0, none⟩) (show w.heap.size ≤ w.heap.size + 1 by omega) (.slice (some ⟨g, 0, none⟩) (textE ⟨s, n, ats, tx, kids⟩).length cap)).setCell (p := ⟨w.heap.size + 1 + 1, 0, none⟩) (show w.heap.size ≤ w.heap.size + 1 + 1 by omega) (.int .i64 0)).trans (belowK_b (w := w) (Nat.le_refl _) _ D _ (.deferred none) (by omega) hk9 rfl rfl))
        have hgD : D < g := by have := HSS.out; omega
        have r1 := hrow.keep (gr_set (gr_refl w3 (some (w.heap.size + 1))) : w3.grownBy (w3.setCell ⟨w.heap.size + 1, 0, none⟩ (.slice (some ⟨g, 0, none⟩) (textE ⟨s, n, ats, tx, kids⟩).length cap)) (some (w.heap.size + 1))) (fun e => by cases e; omega)
        have r2 := r1.keep (gr_set (gr_refl (w3.setCell ⟨w.heap.size + 1, 0, none⟩ (.slice (some ⟨g, 0, none⟩) (textE ⟨s, n, ats, tx, kids⟩).length cap)) (some (w.heap.size + 1 + 1))) : (w3.setCell ⟨w.heap.size + 1, 0, none⟩ (.slice (some ⟨g, 0, none⟩) (textE ⟨s, n, ats, tx, kids⟩).length cap)).grownBy ((w3.setCell ⟨w.heap.size + 1, 0, none⟩ (.slice (some ⟨g, 0, none⟩) (textE ⟨s, n, ats, tx, kids⟩).length cap)).setCell ⟨w.heap.size + 1 + 1, 0, none⟩ (.int .i64 0)) (some (w.heap.size + 1 + 1))) (fun e => by cases e; omega)
        have r3 := (r2.keep (grownBy_putObj' _ D (.deferred none)) (fun e => by cases e; omega)).bytes
        refine ⟨.tuple #[(.slice (some ⟨g, 0, none⟩) (textE ⟨s, n, ats, tx, kids⟩).length cap), .int .i64 0], ?_, hgr, _, 0, rfl, .inr ⟨rfl, r3, HT8.out, fun y hy => ?_, ?_⟩⟩
        · simp [results, Tryz.results14, go_sem, c2', c3']
        · rw [← HYS.out] at hy
          obtain ⟨x, hx, rfl⟩ := List.mem_map.1 hy
          have h1 := (HF.out (by simp)).2 x hx
          exact ⟨HRT.out x hx, h1.1, h1.2⟩
        · rw [← HYS.out, List.length_map]
          exact (HF.out (by simp)).1
  case stop =>
    rintro D c pre W hD _ ⟨rfl, h2, h3, hB⟩ hK
    have hD6 : w.heap.size + 6 ≤ D := by have := HS6.out; omega
    gi_wp2
    refine ⟨by simp, .inl ⟨_, _, rfl, run_takeDeferred hK, ?_⟩⟩
    have hb2 := (World.putObj_heap_other (o := .deferred none) (show w.heap.size + 1 ≠ D by omega)).trans h2
    have hb3 := (World.putObj_heap_other (o := .deferred none) (show w.heap.size + 1 + 1 ≠ D by omega)).trans h3
    have c2' := (cell_of_block hb2 0).trans (show _ = some (Value.slice none 0 0) from rfl)
    have c3' := (cell_of_block hb3 0).trans (show _ = some (Value.int .i64 11) from rfl)
    have hgr := gr_of_below (hB.trans (belowK_b (w := w) (Nat.le_refl _) W D _ (.deferred none) (by omega) hK rfl rfl))
    refine ⟨.tuple #[.slice none 0 0, .int .i64 11], ?_, hgr, _, 11, rfl, .inl ⟨by decide, rfl⟩⟩
    simp [results, Tryz.results14, go_sem, c2', c3']
end Go.Proofs.YtmofnoconhgjmaaGreatDoor
