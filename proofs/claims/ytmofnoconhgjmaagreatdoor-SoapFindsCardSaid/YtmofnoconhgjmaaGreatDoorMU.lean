/- Texts of one proof, put together: Sp6, Sp7, Sp8, Sp9. -/
import Derived.Test.YtmofnoconhgjmaaGreatDoorMS
import Derived.Test.YtmofnoconhgjmaaGreatDoorXv5
import Derived.Test.YtmofnoconhgjmaaGreatDoorXv6
import Derived.Test.YtmofnoconhgjmaaGreatDoorMR
/- soap.leaf, soap.seal. -/
namespace Go.Proofs.YtmofnoconhgjmaaGreatDoor
open Go.RowKit
set_option linter.unusedVariables false
set_option linter.unusedSimpArgs false

def leafE (s n t : Bs) : El := ⟨s, n, [], t, .nil⟩
theorem leaf_at (w : World) (s n t : Bs) : ElAt w noX (.agg #[.string ⟨s.toArray⟩, .string ⟨n.toArray⟩, .slice none 0 0, .string ⟨t.toArray⟩, .slice none 0 0]) (leafE s n t) :=
  ⟨_, _, rfl, ⟨none, 0, rfl, fun i hi => by simp [leafE] at hi⟩, ⟨none, 0, rfl, fun hl => by simp [leafE, Fo.len] at hl⟩⟩
set_option maxHeartbeats 1000000 in
theorem leaf_any (w : World) (s n t : ByteArray) :
    Calls Tryz.prog 66 #[.string s, .string n, .string t] w fun e w' => e = .returned (.agg #[.string s, .string n, .slice none 0 0, .string t, .slice none 0 0]) ∧ w.grownBy w' none := by
  go_enter Tryz.func66, Tryz.ntmps66
  go_wp2
  refine bodyPost_ret (v := .agg #[.string s, .string n, .slice none 0 0, .string t, .slice none 0 0]) (by simp [results, Tryz.results66, go_sem]) rfl ⟨rfl, by (repeat (first | exact gr_refl _ _ | assumption | refine gr_drew ?_ | refine gr_drewN _ ?_ | refine gr_alloc ?_ _ | refine gr_set ?_ | refine gr_set_new ?_ (by first | omega | (simp; omega))))⟩
/-- Elements one behind the other in a new block: one element. -/
theorem kid_one {w : World} {X : Nat → Prop} {b : Nat} {e : El} {aa ka : Option Addr} {ac kc : Nat} (h : ElB w b e.s e.n (.slice aa e.ats.length ac) e.tx (.slice ka e.kids.len kc)) (he : ElAt w X (.agg #[.string ⟨e.s.toArray⟩, .string ⟨e.n.toArray⟩, .slice aa e.ats.length ac, .string ⟨e.tx.toArray⟩, .slice ka e.kids.len kc]) e) (hb : ¬ X b) :
    KidV w X (.slice (some ⟨b, 0, none⟩) 1 1) (.cons e.s e.n e.ats e.tx e.kids .nil) := by
  obtain ⟨s0, s1, s2, s3, s4⟩ := ElB.cells h
  obtain ⟨av, kv, q, ha, hk⟩ := he
  unfold elV at q
  simp only [Value.agg.injEq] at q
  have e1 : av = .slice aa e.ats.length ac := by
    have := congrArg (fun a : Array Value => a[2]?) q
    simpa using this.symm
  have e2 : kv = .slice ka e.kids.len kc := by
    have := congrArg (fun a : Array Value => a[4]?) q
    simpa using this.symm
  subst e1 e2
  obtain ⟨a', c', q', hk'⟩ := hk
  simp only [Value.slice.injEq] at q'
  obtain ⟨rfl, -, rfl⟩ := q'
  exact ⟨_, 1, rfl, fun _ => ⟨b, 0, rfl, hb, ⟨s0, s1, s3⟩, ⟨_, s2, ha⟩, ⟨_, _, s4, hk'⟩, trivial⟩⟩
theorem smE_seal {e : El} (h : SmE e) : SmE (sealE e) := by
  refine ⟨⟨by simp [sealE, Fo.len], by simp [sealE], by simp [sealE], by simp [sealE, nEnv], by simp [sealE, sEnv], fun i hi => ?_⟩, ⟨⟨by simp [Fo.len], by simp, by simp, by simp [nBody], by simp [sEnv], fun i hi => by simp at hi⟩, ⟨h.1, h.2, trivial⟩, trivial⟩⟩
  have hi0 : i = 0 := by simp [sealE] at hi; exact hi
  subst hi0
  simp [sealE, nStyle, sEnc, sEnv]
theorem cnt_seal (e : El) : (sealE e).cnt = e.cnt + 2 := by
  unfold El.cnt sealE
  simp only [Fo.cnt]
  omega
end Go.Proofs.YtmofnoconhgjmaaGreatDoor
/- soap.seal. -/
namespace Go.Proofs.YtmofnoconhgjmaaGreatDoor
open Go.RowKit
set_option linter.unusedVariables false
set_option linter.unusedSimpArgs false

def tEl : TypeId := 25
def obE (s n : Bs) (av : Value) (tx : Bs) (kv : Value) : Obj := .cells #[.string ⟨s.toArray⟩, .string ⟨n.toArray⟩, av, .string ⟨tx.toArray⟩, kv] 25
set_option maxRecDepth 100000 in
set_option maxHeartbeats 20000000 in
theorem seal_any (w : World) (v : Value) (e : El) (m : Int) (he : ElAt w noX v e) (hm : w.cell? ⟨0, 0, none⟩ = some (.int .i64 m)) (hsm : SmE e) (hc : e.cnt ≤ 200) :
    Calls Tryz.prog 63 #[v] w (WritePost w (sealE e)) := by
  have hs2 := smE_seal hsm
  have hc2 : (sealE e).cnt ≤ 202 := by rw [cnt_seal]; omega
  have HW1 := hid hs2
  have HW2 := hid (show (sealE e).kids.sz ≤ 1000000 by
    have h1 := sm_sz2 (sealE e).kids hs2.2
    have h2 : (sealE e).kids.cnt ≤ 202 := by unfold El.cnt at hc2; omega
    omega)
  have HW3 := hid (show (flatE 0 (sealE e)).length ≤ 1000000 by rw [flatE_cnt]; omega)
  have HW4 := hid (textE_len hs2 (by omega))
  obtain ⟨s, n, ats, tx, kids⟩ := e
  have HE := hid he
  obtain ⟨av, kv, rfl, ha, hk⟩ := he
  obtain ⟨aa, ac, rfl, -⟩ := ha
  obtain ⟨ka, kc, rfl, -⟩ := hk
  unfold elV str at HE ⊢
  dsimp only at HE ⊢
  have HM := hid hm
  clear hm hsm hc hs2 hc2
  -- the six blocks
  obtain ⟨b, hb⟩ : ∃ b, b = w.heap.size := ⟨_, rfl⟩
  have n1 := heap_alloc_new w (obE s n (.slice aa ats.length ac) tx (.slice ka kids.len kc))
  have g1 := gr_alloc (gr_refl w none) (obE s n (.slice aa ats.length ac) tx (.slice ka kids.len kc))
  have z1 : (w.alloc (obE s n (.slice aa ats.length ac) tx (.slice ka kids.len kc))).heap.size = w.heap.size + 1 := by simp
  obtain ⟨w1, hw1⟩ : ∃ x, x = w.alloc (obE s n (.slice aa ats.length ac) tx (.slice ka kids.len kc)) := ⟨_, rfl⟩
  rw [← hw1] at n1 g1 z1
  have n2 := heap_alloc_new w1 (.cells #[.string ⟨sEnv.toArray⟩, .string ⟨nStyle.toArray⟩, .string ⟨sEnc.toArray⟩] 102)
  have g2 := World.grownBy_alloc w1 (.cells #[.string ⟨sEnv.toArray⟩, .string ⟨nStyle.toArray⟩, .string ⟨sEnc.toArray⟩] 102) none
  have z2 : (w1.alloc (.cells #[.string ⟨sEnv.toArray⟩, .string ⟨nStyle.toArray⟩, .string ⟨sEnc.toArray⟩] 102)).heap.size = w.heap.size + 1 + 1 := by simp [z1]
  obtain ⟨w2, hw2⟩ : ∃ x, x = w1.alloc (.cells #[.string ⟨sEnv.toArray⟩, .string ⟨nStyle.toArray⟩, .string ⟨sEnc.toArray⟩] 102) := ⟨_, rfl⟩
  rw [← hw2] at n2 g2 z2
  have n3 := heap_alloc_new w2 (obE s n (.slice aa ats.length ac) tx (.slice ka kids.len kc))
  have g3 := World.grownBy_alloc w2 (obE s n (.slice aa ats.length ac) tx (.slice ka kids.len kc)) none
  have z3 : (w2.alloc (obE s n (.slice aa ats.length ac) tx (.slice ka kids.len kc))).heap.size = w.heap.size + 1 + 1 + 1 := by simp [z2]
  obtain ⟨w3, hw3⟩ : ∃ x, x = w2.alloc (obE s n (.slice aa ats.length ac) tx (.slice ka kids.len kc)) := ⟨_, rfl⟩
  rw [← hw3] at n3 g3 z3
  rw [z2] at n3
  have n4 := heap_alloc_new w3 (obE sEnv nBody (.slice none 0 0) [] (.slice (some ⟨w.heap.size + 1 + 1, 0, none⟩) 1 1))
  have g4 := World.grownBy_alloc w3 (obE sEnv nBody (.slice none 0 0) [] (.slice (some ⟨w.heap.size + 1 + 1, 0, none⟩) 1 1)) none
  have z4 : (w3.alloc (obE sEnv nBody (.slice none 0 0) [] (.slice (some ⟨w.heap.size + 1 + 1, 0, none⟩) 1 1))).heap.size = w.heap.size + 1 + 1 + 1 + 1 := by simp [z3]
  obtain ⟨w4, hw4⟩ : ∃ x, x = w3.alloc (obE sEnv nBody (.slice none 0 0) [] (.slice (some ⟨w.heap.size + 1 + 1, 0, none⟩) 1 1)) := ⟨_, rfl⟩
  rw [← hw4] at n4 g4 z4
  rw [z3] at n4
  have n5 := heap_alloc_new w4 (.cells #[.string ⟨sEnv.toArray⟩, .string ⟨nStyle.toArray⟩, .string ⟨sEnc.toArray⟩] 102)
  have g5 := World.grownBy_alloc w4 (.cells #[.string ⟨sEnv.toArray⟩, .string ⟨nStyle.toArray⟩, .string ⟨sEnc.toArray⟩] 102) none
  have z5 : (w4.alloc (.cells #[.string ⟨sEnv.toArray⟩, .string ⟨nStyle.toArray⟩, .string ⟨sEnc.toArray⟩] 102)).heap.size = w.heap.size + 1 + 1 + 1 + 1 + 1 := by simp [z4]
  obtain ⟨w5, hw5⟩ : ∃ x, x = w4.alloc (.cells #[.string ⟨sEnv.toArray⟩, .string ⟨nStyle.toArray⟩, .string ⟨sEnc.toArray⟩] 102) := ⟨_, rfl⟩
  rw [← hw5] at n5 g5 z5
  rw [z4] at n5
  have n6 := heap_alloc_new w5 (obE sEnv nBody (.slice none 0 0) [] (.slice (some ⟨w.heap.size + 1 + 1, 0, none⟩) 1 1))
  have g6 := World.grownBy_alloc w5 (obE sEnv nBody (.slice none 0 0) [] (.slice (some ⟨w.heap.size + 1 + 1, 0, none⟩) 1 1)) none
  obtain ⟨w6, hw6⟩ : ∃ x, x = w5.alloc (obE sEnv nBody (.slice none 0 0) [] (.slice (some ⟨w.heap.size + 1 + 1, 0, none⟩) 1 1)) := ⟨_, rfl⟩
  rw [← hw6] at n6 g6
  rw [z5] at n6
  have G6 := gr_trans g1 (gr_trans g2 (gr_trans g3 (gr_trans g4 (gr_trans g5 g6))))
  have K3 := kid_one (e := ⟨s, n, ats, tx, kids⟩) (X := noX) (show ElB w6 (w.heap.size + 1 + 1) s n (.slice aa ats.length ac) tx (.slice ka kids.len kc) from gr_keep (gr_trans g4 (gr_trans g5 g6)) n3 (by simp)) (HE.out.keep G6) (by simp [noX])
  have K6 := kid_one (e := ⟨sEnv, nBody, [], [], .cons s n ats tx kids .nil⟩) (X := noX) (show ElB w6 (w.heap.size + 1 + 1 + 1 + 1 + 1) sEnv nBody (.slice none 0 0) [] (.slice (some ⟨w.heap.size + 1 + 1, 0, none⟩) 1 1) from n6) ⟨_, _, rfl, ⟨none, 0, rfl, fun i hi => by simp at hi⟩, K3⟩ (by simp [noX])
  have A5 : AtsAt w6 noX (.slice (some ⟨w.heap.size + 1 + 1 + 1 + 1, 0, none⟩) 1 1) [(sEnv, nStyle, sEnc)] := ⟨_, 1, rfl, fun i hi => by
    have h0 : i = 0 := by simpa using hi
    subst h0
    have k := gr_keep g6 n5 (by simp)
    exact ⟨_, 0, rfl, ⟨by simp [noX], Nat.le_refl _⟩, ⟨cell_of_block k 0, cell_of_block k 1, cell_of_block k 2⟩⟩⟩
  have WR := hid (write_any w6 (.agg #[.string ⟨sEnv.toArray⟩, .string ⟨nEnv.toArray⟩, .slice (some ⟨w.heap.size + 1 + 1 + 1 + 1, 0, none⟩) 1 1, .string ⟨#[]⟩, .slice (some ⟨w.heap.size + 1 + 1 + 1 + 1 + 1, 0, none⟩) 1 1]) (sealE ⟨s, n, ats, tx, kids⟩) m ⟨_, _, rfl, A5, K6⟩ (G6.cell HM.out (by simp)) HW1.out HW2.out HW3.out HW4.out)
  have HWW := hid (show w6 = (((((w.alloc (obE s n (.slice aa ats.length ac) tx (.slice ka kids.len kc))).alloc (.cells #[.string ⟨sEnv.toArray⟩, .string ⟨nStyle.toArray⟩, .string ⟨sEnc.toArray⟩] 102)).alloc (obE s n (.slice aa ats.length ac) tx (.slice ka kids.len kc))).alloc (obE sEnv nBody (.slice none 0 0) [] (.slice (some ⟨w.heap.size + 1 + 1, 0, none⟩) 1 1))).alloc (.cells #[.string ⟨sEnv.toArray⟩, .string ⟨nStyle.toArray⟩, .string ⟨sEnc.toArray⟩] 102)).alloc (obE sEnv nBody (.slice none 0 0) [] (.slice (some ⟨w.heap.size + 1 + 1, 0, none⟩) 1 1)) by
    rw [hw6, hw5, hw4, hw3, hw2, hw1])
  have GG := hid G6
  generalize sealE ⟨s, n, ats, tx, kids⟩ = E at WR ⊢
  clear n1 n2 n3 n4 n5 n6 g1 g2 g3 g4 g5 g6 z1 z2 z3 z4 z5 hw1 hw2 hw3 hw4 hw5 hw6 G6 K3 K6 A5 hb HE HW1 HW2 HW3 HW4 HM
  rw [HWW.out] at WR GG
  simp only [obE, sEnv, nStyle, sEnc, nBody, nEnv] at WR GG
  clear HWW
  go_enter Tryz.func63, Tryz.ntmps63
  go_wp2_with fail
  refine WR.out.mono ?_
  rintro e7 w7 ⟨g7, v7, k7, rfl, h7⟩
  have G7 := hid (gr_trans GG.out g7)
  have H7 := hid h7
  clear h7 g7 GG WR
  rcases H7.out with ⟨hk, rfl⟩ | ⟨-, hby, -⟩
  · have HK := hid hk
    clear hk
    go_wp2_with fail
    go_ret2
    exact ⟨G7.out, .slice none 0 0, k7, rfl, .inl ⟨HK.out, rfl⟩⟩
  · obtain ⟨a7, c7, rfl, -⟩ := hby
    go_wp2_with fail
    go_ret2
    exact ⟨G7.out, _, _, rfl, H7.out⟩
end Go.Proofs.YtmofnoconhgjmaaGreatDoor
/- A call's elements as they are put together. -/
namespace Go.Proofs.YtmofnoconhgjmaaGreatDoor
open Go.RowKit
set_option linter.unusedVariables false
set_option linter.unusedSimpArgs false

/-- Arguments with room for them. -/
def ArgsC (w : World) (v : Value) (l : Ar) : Prop := ∃ a c, v = .slice a l.length c ∧ l.length ≤ c ∧ c ≤ maxLen ∧ PairsAt w a l.length (aN l) (aV l)
theorem ArgsC.at {w : World} {v : Value} {l : Ar} (h : ArgsC w v l) : ArgsAt w v l := by
  obtain ⟨a, c, e, -, -, h⟩ := h
  exact ⟨a, c, e, h⟩
theorem ArgsC.grow {w w' : World} {v : Value} {l : Ar} (h : ArgsC w v l) (g : w.grownBy w' none) : ArgsC w' v l := by
  obtain ⟨a, c, e, h1, h2, h⟩ := h
  exact ⟨a, c, e, h1, h2, h.grown g⟩
theorem pairs_take {w : World} {a : Option Addr} {l : Ar} {k : Nat} (h : PairsAt w a l.length (aN l) (aV l)) (hk : k ≤ l.length) {c : Nat} : ArgsAt w (.slice a k c) (l.take k) := by
  have hl : (l.take k).length = k := by rw [List.length_take]; exact Nat.min_eq_left hk
  refine ⟨a, c, by rw [hl], ?_⟩
  rcases h with h | ⟨b, o, e, h⟩
  · exact .inl (by omega)
  · refine .inr ⟨b, o, e, fun i hi => ?_⟩
    rw [hl] at hi
    have e1 : aN (l.take k) i = aN l i := by unfold aN; rw [List.getD_eq_getElem?_getD, List.getD_eq_getElem?_getD, List.getElem?_take, if_pos hi]
    have e2 : aV (l.take k) i = aV l i := by unfold aV; rw [List.getD_eq_getElem?_getD, List.getD_eq_getElem?_getD, List.getElem?_take, if_pos hi]
    rw [e1, e2]
    exact h i (by omega)
def ecV (l : Ar) : List Value := l.flatMap fun a => [.string ⟨#[]⟩, .string ⟨a.1.toArray⟩, .slice none 0 0, .string ⟨a.2.toArray⟩, .slice none 0 0]
theorem ecV_len (l : Ar) : (ecV l).length = l.length * 5 := by
  induction l with
  | nil => rfl
  | cons a l ih => unfold ecV at ih ⊢; rw [List.flatMap_cons, List.length_append, ih]; simp; omega
theorem ecV_one (l : Ar) : ∀ u ∈ ecV l, u.oneCell' = true := by
  intro u hu
  unfold ecV at hu
  obtain ⟨x, -, hx⟩ := List.mem_flatMap.1 hu
  simp only [List.mem_cons, List.not_mem_nil, or_false] at hx
  rcases hx with rfl | rfl | rfl | rfl | rfl <;> rfl
theorem ecV_app (l l' : Ar) : ecV (l ++ l') = ecV l ++ ecV l' := by unfold ecV; rw [List.flatMap_append]
theorem fo_enc {w : World} {X : Nat → Prop} : ∀ (l : Ar) {b o : Nat}, (∀ j u, (ecV l)[j]? = some u → w.cell? ⟨b, o + j, none⟩ = some u) → FoAt w X (encF l) b o := by
  intro l
  induction l with
  | nil => intro b o _; trivial
  | cons a l ih =>
    intro b o h
    have e : ecV (a :: l) = [.string ⟨#[]⟩, .string ⟨a.1.toArray⟩, .slice none 0 0, .string ⟨a.2.toArray⟩, .slice none 0 0] ++ ecV l := by unfold ecV; rw [List.flatMap_cons]
    rw [e] at h
    refine ⟨⟨h 0 _ rfl, h 1 _ rfl, h 3 _ rfl⟩, ⟨_, h 2 _ rfl, none, 0, rfl, fun i hi => by simp at hi⟩, ⟨none, 0, h 4 _ rfl, fun hl => by simp [Fo.len] at hl⟩, ih fun j u hj => ?_⟩
    have := h (j + 5) u (by simpa using hj)
    rw [show o + 5 + j = o + (j + 5) by omega]
    exact this
theorem kid_enc {w : World} {N : Nat} {t : TypeId} {v : Value} {l : Ar} (h : w.ownsRow N t 5 v l.length (ecV l)) : KidV w noX v (encF l) := by
  rcases h.2 with ⟨rfl, h0⟩ | ⟨g, cap, cur, rfl, hg, hh, hc, hm, hs, ht⟩
  · exact ⟨none, 0, by rw [encF_len, h0], fun hl => by rw [encF_len] at hl; omega⟩
  · refine ⟨_, cap, by rw [encF_len], fun _ => ⟨g, 0, rfl, by simp [noX], fo_enc l fun j u hj => ?_⟩⟩
    have := h.cells (g := g) rfl j u hj
    rwa [Go.WideShapes.add_plain] at this
theorem ec_src {w : World} {a : Bs × Bs} {t : TypeId} : SrcAt (w.alloc (.cells #[.string ⟨#[]⟩, .string ⟨a.1.toArray⟩, .slice none 0 0, .string ⟨a.2.toArray⟩, .slice none 0 0] t)) (some ⟨w.heap.size, 0, none⟩) (ecV [a]) := by
  refine .inr ⟨_, rfl, fun j u hj => ?_⟩
  rw [Go.WideShapes.add_plain, cell_of_block (heap_alloc_new w _), Nat.zero_add]
  match j, hj with
  | 0, hj => exact hj
  | 1, hj => exact hj
  | 2, hj => exact hj
  | 3, hj => exact hj
  | 4, hj => exact hj
  | j + 5, hj => simp [ecV] at hj
/-- What a call may be, so that it is put into an envelope. -/
structure SmC (c : Ca) : Prop where
  s : c.1.length ≤ 3000
  a : c.2.1.length ≤ 300
  l : c.2.2.length ≤ 40
  x : ∀ x ∈ c.2.2, x.1.length ≤ 300 ∧ x.2.length ≤ 9000
theorem smF_enc : ∀ (l : Ar), (∀ x ∈ l, x.1.length ≤ 300 ∧ x.2.length ≤ 9000) → SmF (encF l) := by
  intro l
  induction l with
  | nil => intro _; trivial
  | cons a l ih =>
    intro h
    obtain ⟨h1, h2⟩ := h a (List.mem_cons_self ..)
    exact ⟨⟨by simp [Fo.len], by simp, h2, h1, by simp, fun i hi => by simp at hi⟩, trivial, ih fun x hx => h x (List.mem_cons_of_mem _ hx)⟩
theorem cnt_enc (l : Ar) : (encF l).cnt = l.length := by
  induction l with
  | nil => rfl
  | cons a l ih => simp only [encF, Fo.cnt, ih, List.length_cons]; omega
theorem smE_enc {c : Ca} (h : SmC c) : SmE (encE c) ∧ (encE c).cnt ≤ 200 := by
  have h1 := h.s
  have h2 := h.a
  have h3 := h.l
  refine ⟨⟨⟨?_, by simp [encE], by simp [encE], h.a, by show c.1.length ≤ 9000; omega, fun i hi => by simp [encE] at hi⟩, smF_enc _ h.x⟩, ?_⟩
  · show (encF c.2.2).len ≤ 100
    rw [encF_len]; omega
  · unfold El.cnt
    show 1 + (encF c.2.2).cnt ≤ 200
    rw [cnt_enc]; omega
def EncOk (c : Ca) (w' : World) (v : Value) : Prop := c.1 ≠ [] ∧ oneN [] c.2.2 = true ∧ c.2.2.length ≤ 16 ∧ Bytes w' v (textE (sealE (encE c))) ∧ (textE (sealE (encE c))).length ≤ 8192 ∧ (∀ y ∈ flatE 0 (sealE (encE c)), OkX y.1 y.2) ∧ (flatE 0 (sealE (encE c))).length ≤ 64
def EncQ (w : World) (c : Ca) (e : Ending) (w' : World) : Prop := w.grownBy w' none ∧ ∃ (v : Value) (k : Int), e = .returned (.tuple #[v, .int .i64 k]) ∧ ((k ≠ 0 ∧ v = .slice none 0 0) ∨ (k = 0 ∧ EncOk c w' v))
end Go.Proofs.YtmofnoconhgjmaaGreatDoor
/- soap.Encode. -/
namespace Go.Proofs.YtmofnoconhgjmaaGreatDoor
open Go.RowKit
set_option linter.unusedVariables false
set_option linter.unusedSimpArgs false

theorem infoEl5 : (Tryz.prog.info? 25).map (fun i => (i.zero, i.size, i.bytes)) = some (some (.agg #[.string ⟨#[]⟩, .string ⟨#[]⟩, .slice none 0 0, .string ⟨#[]⟩, .slice none 0 0]), 5, 96) := by kernel_rfl
set_option maxRecDepth 100000 in
set_option maxHeartbeats 20000000 in
theorem encode_any (w : World) (va : Value) (c : Ca) (m : Int) (ha : ArgsC w va c.2.2) (hm : w.cell? ⟨0, 0, none⟩ = some (.int .i64 m)) (hc : SmC c) :
    Calls Tryz.prog 29 #[.agg #[.string ⟨c.1.toArray⟩, .string ⟨c.2.1.toArray⟩, va]] w (EncQ w c) := by
  obtain ⟨HS1, HS2⟩ := smE_enc hc
  have HSE := hid HS1
  have HSC := hid HS2
  have HL40 := hid hc.l
  obtain ⟨ss, sa, xs⟩ := c
  dsimp only at ha HL40 ⊢
  obtain ⟨ga, gc, rfl, hcap, hmax, hpa⟩ := ha
  have n1 := heap_alloc_new w (.cells #[.string ⟨ss.toArray⟩, .string ⟨sa.toArray⟩, .slice ga xs.length gc] tCall)
  have g1 := gr_alloc (gr_refl w none) (.cells #[.string ⟨ss.toArray⟩, .string ⟨sa.toArray⟩, .slice ga xs.length gc] tCall)
  have z1 : w.heap.size < (w.alloc (.cells #[.string ⟨ss.toArray⟩, .string ⟨sa.toArray⟩, .slice ga xs.length gc] tCall)).heap.size := by simp
  obtain ⟨w1, hw1⟩ : ∃ x, x = w.alloc (.cells #[.string ⟨ss.toArray⟩, .string ⟨sa.toArray⟩, .slice ga xs.length gc] tCall) := ⟨_, rfl⟩
  obtain ⟨pb, hpb⟩ : ∃ x, x = w.heap.size := ⟨_, rfl⟩
  rw [← hw1] at n1 g1 z1
  rw [← hpb] at n1 z1
  have n2 := heap_alloc_new w1 (.cells #[.string ⟨ss.toArray⟩, .string ⟨sa.toArray⟩, .slice none 0 0, .string ⟨#[]⟩, .slice none 0 0] 25)
  have g2 := World.grownBy_alloc w1 (.cells #[.string ⟨ss.toArray⟩, .string ⟨sa.toArray⟩, .slice none 0 0, .string ⟨#[]⟩, .slice none 0 0] 25) none
  have z2 : w1.heap.size < (w1.alloc (.cells #[.string ⟨ss.toArray⟩, .string ⟨sa.toArray⟩, .slice none 0 0, .string ⟨#[]⟩, .slice none 0 0] 25)).heap.size := by simp
  obtain ⟨w2, hw2⟩ : ∃ x, x = w1.alloc (.cells #[.string ⟨ss.toArray⟩, .string ⟨sa.toArray⟩, .slice none 0 0, .string ⟨#[]⟩, .slice none 0 0] 25) := ⟨_, rfl⟩
  obtain ⟨eb, heb⟩ : ∃ x, x = w1.heap.size := ⟨_, rfl⟩
  rw [← hw2] at n2 g2 z2
  rw [← heb] at n2 z2
  have C1 := hid n1
  have C2 := hid (gr_keep g2 n1 (by simp))
  have E2 := hid n2
  have G2 := hid (gr_trans g1 g2)
  have HPA := hid hpa
  have HEB := hid (show w.heap.size ≤ eb ∧ pb < eb ∧ eb < w2.heap.size from ⟨by omega, by omega, by omega⟩)
  have HM := hid hm
  have HW1 := hid hw1
  have HW2 := hid hw2
  have HPB := hid hpb
  have HB2 := hid heb
  have HCAP := hid hcap
  clear n1 n2 g1 g2 z1 z2 hw1 hw2 hpb heb hpa hm hc HS1 HS2
  obtain ⟨i0, hi, hz0, hz1, hz2⟩ := info_parts infoEl5
  go_enter Tryz.func29, Tryz.ntmps29
  go_upto_region 1 with fail
  rw [← HW1.out, ← HPB.out]
  clear HW1 HPB
  have p0 : w1.cell? ⟨pb, 0, none⟩ = some (.string ⟨ss.toArray⟩) := cell_of_block C1.out 0
  have p1 : w1.cell? ⟨pb, 1, none⟩ = some (.string ⟨sa.toArray⟩) := cell_of_block C1.out 1
  go_upto_region 2 with fail
  rw [← HW2.out, ← HB2.out]
  clear HW2 HB2 p0 p1
  have p2 : w2.cell? ⟨pb, 2, none⟩ = some (.slice ga xs.length gc) := cell_of_block C2.out 2
  go_wp2_with fail
  clear p2
  go_loopw [17] (fun vk wr => ∃ (k : Nat) (vK : Value), vk = .int .i64 k ∧ k ≤ xs.length ∧ Hid (w2.grownBy wr (some eb)) ∧ Hid (wr.heap[eb]? = some (.cells #[.string ⟨ss.toArray⟩, .string ⟨sa.toArray⟩, .slice none 0 0, .string ⟨#[]⟩, vK] 25 (0, 0))) ∧ Hid (wr.ownsRow w2.heap.size 25 5 vK k (ecV (xs.take k))) ∧ Hid (oneN [] xs = oneN (xs.take k) (xs.drop k))) (fun vk _ => xs.length - (intOf vk).toNat)
  case atStart => exact ⟨0, .slice none 0 0, rfl, Nat.zero_le _, hid (gr_refl _ _), E2, hid ⟨by simp [ecV], .inl ⟨rfl, rfl⟩⟩, hid (by simp)⟩
  case round =>
    obtain ⟨k, vK, rfl, hk, gr, hE, hO, hA⟩ := hrel
    have GR := hid (gr_new G2.out gr.out HEB.out.1)
    have CR := hid (gr_keep gr.out C2.out (by have := HEB.out.2.1; intro e; simp at e; omega))
    have PR := hid (HPA.out.grown GR.out)
    by_cases hlt : k < xs.length
    · obtain ⟨kb, ko, rfl, hp⟩ : ∃ b o, ga = some ⟨b, o, none⟩ ∧ ∀ i, i < xs.length → PairAt wr b (o + i * 2) (aN xs i) (aV xs i) := by
        rcases PR.out with h | h
        · omega
        · exact h
      have c0 := (hp k hlt).c0
      have c1 := (hp k hlt).c1
      have HT := hid (show xs.take (k + 1) = xs.take k ++ [xs.getD k ([], [])] by rw [List.take_add_one, List.getD_eq_getElem?_getD, List.getElem?_eq_getElem hlt]; rfl)
      have HD := hid (show xs.drop k = xs.getD k ([], []) :: xs.drop (k + 1) by rw [List.drop_eq_getElem_cons hlt, List.getD_eq_getElem?_getD, List.getElem?_eq_getElem hlt]; rfl)
      have HLT := hid (show (xs.take k).length = k by rw [List.length_take]; exact Nat.min_eq_left hk)
      unfold aN at c0
      unfold aV at c1
      generalize xs.getD k ([], []) = x at *
      have ga' := World.grownBy_alloc wr (.cells #[.string ⟨x.1.toArray⟩, .string ⟨x.2.toArray⟩] tArg) none
      have na := heap_alloc_new wr (.cells #[.string ⟨x.1.toArray⟩, .string ⟨x.2.toArray⟩] tArg)
      obtain ⟨wa, hwa⟩ : ∃ y, y = wr.alloc (.cells #[.string ⟨x.1.toArray⟩, .string ⟨x.2.toArray⟩] tArg) := ⟨_, rfl⟩
      obtain ⟨ab, hab⟩ : ∃ y, y = wr.heap.size := ⟨_, rfl⟩
      rw [← hwa] at ga' na
      rw [← hab] at na
      have NA := hid na
      have CA := hid (gr_keep ga' CR.out (by simp))
      have EA := hid (gr_keep ga' hE.out (by simp))
      have OA := hid (own_growG hO.out ga')
      have GA := hid (gr_trans GR.out ga')
      have RA := hid (gr_trans gr.out (gr_none ga'))
      obtain ⟨fv, hfv⟩ : ∃ y : ByteArray, y = ⟨((fndA (xs.take k) x.1).getD []).toArray⟩ := ⟨_, rfl⟩
      obtain ⟨hb, hhb⟩ : ∃ y, y = hasN (xs.take k) x.1 := ⟨_, rfl⟩
      have HFI := hid (fun W (g : wa.grownBy W none) => (show Calls Tryz.prog 31 #[.slice (some ⟨kb, ko, none⟩) k gc, .string ⟨x.1.toArray⟩] W (fun e w' => e = .returned (.tuple #[.string fv, .bool hb]) ∧ W.grownBy w' none) from by
        rw [hfv, hhb]
        exact find_args W _ (xs.take k) x.1 (pairs_take ((PR.out.grown ga').grown g) hk) (by rw [HLT.out]; have := HL40.out; omega)))
      have HHB := hid hhb
      have HWA := hid hwa
      have HAB := hid hab
      have hk0 : (0 : Int) ≤ (k : Int) := by omega
      have hk1 : (k : Int) < (xs.length : Int) := by omega
      have hkc : (k : Int) ≤ (gc : Int) := by have := HCAP.out; omega
      have hk2 : (k : Int) + 1 ≤ 41 := by have := HL40.out; omega
      clear ga' na hwa hab hfv hhb hp CR GR PR hO hE gr
      go_upto_region 5 with fail
      rw [← HWA.out, ← HAB.out]
      clear HWA HAB c0 c1
      have p2 : wa.cell? ⟨pb, 2, none⟩ = some (.slice (some ⟨kb, ko, none⟩) xs.length gc) := cell_of_block CA.out 2
      have q0 : wa.cell? ⟨ab, 0, none⟩ = some (.string ⟨x.1.toArray⟩) := cell_of_block NA.out 0
      refine wp_region_spec2 (by kernel_rfl) (by kernel_rfl) (n := 12) (by kernel_rfl) [some 23, some 24, some 25, some 26, some 27, some 28, some 29, some 22, some 30, some 31, some 7, some 8] (by kernel_rfl) _ (fun u => (by simp only [fill, List.zipIdx_cons, List.zipIdx_nil, List.foldl_cons, List.foldl_nil, Act.put, List.setIfInBounds_toArray, List.set_cons_zero, List.set_cons_succ, Nat.zero_add, Nat.reduceAdd]; exact rfl)) (by kernel_rfl)
        (all_succ (all_succ (all_succ (all_succ (all_succ (all_succ (all_succ (all_succ (all_succ (all_succ (all_succ (all_succ (all_zero _) (fun u v => by kernel_rfl)) (fun u v => by kernel_rfl)) (fun u v => by kernel_rfl)) (fun u v => by kernel_rfl)) (fun u v => by kernel_rfl)) (fun u v => by kernel_rfl)) (fun u v => by kernel_rfl)) (fun u v => by kernel_rfl)) (fun u v => by kernel_rfl)) (fun u v => by kernel_rfl)) (fun u v => by kernel_rfl)) (fun u v => by kernel_rfl))
        (fun ri v w => match ri with | 0 => v = .pointer (some ⟨pb, 2, none⟩) | 1 => v = .slice (some ⟨kb, ko, none⟩) xs.length gc | 2 => v = .int .i64 (k : Int) | 3 => v = .slice (some ⟨kb, ko, none⟩) k gc | 4 => v = .pointer (some ⟨ab, 0, none⟩) | 5 => v = .string ⟨x.1.toArray⟩ | 6 => v = .tuple #[.string fv, .bool hb] | 7 => v = .tuple #[.string fv, .bool hb] | 8 => v = .string fv | 9 => v = .bool hb | 10 => v = .string fv | 11 => v = .bool hb | _ => True)
        (all_succ (all_succ (all_succ (all_succ (all_succ (all_succ (all_succ (all_succ (all_succ (all_succ (all_succ (all_succ (all_zero _) ?m0) ?m1) ?m2) ?m3) ?m4) ?m5) ?m6) ?m7) ?m8) ?m9) ?m10) ?m11)
        [[], [0], [], [1, 2], [], [4], [3, 5], [6], [7], [7], [8], [9]] (by kernel_rfl)
        ⟨?o0, ?o1, ?o2, ?o3, ?o4, ?o5, ?o6, ?o7, ?o8, ?o9, ?o10, ?o11, trivial⟩ ?done
      case m0 => intro v w w' h g; exact h
      case m1 => intro v w w' h g; exact h
      case m2 => intro v w w' h g; exact h
      case m3 => intro v w w' h g; exact h
      case m4 => intro v w w' h g; exact h
      case m5 => intro v w w' h g; exact h
      case m6 => intro v w w' h g; exact h
      case m7 => intro v w w' h g; exact h
      case m8 => intro v w w' h g; exact h
      case m9 => intro v w w' h g; exact h
      case m10 => intro v w w' h g; exact h
      case m11 => intro v w w' h g; exact h
      case o0 =>
        intro u w g hd K hK
        clear hd
        simp only [Act.put, List.setIfInBounds_toArray, List.set_cons_zero, List.set_cons_succ] at hK
        go_simp
        exact hK _ _ rfl (gr_refl _ _)
      case o1 =>
        intro u w g hd K hK
        have h0 : (u 0) = .pointer (some ⟨pb, 2, none⟩) := hd 0 (by simp)
        clear hd
        simp only [Act.put, List.setIfInBounds_toArray, List.set_cons_zero, List.set_cons_succ] at hK
        have c := g.cell p2 (by simp)
        simp only [h0] at hK ⊢
        go_simp
        exact hK _ _ rfl (gr_refl _ _)
      case o2 =>
        intro u w g hd K hK
        clear hd
        simp only [Act.put, List.setIfInBounds_toArray, List.set_cons_zero, List.set_cons_succ] at hK
        go_simp
        exact hK _ _ rfl (gr_refl _ _)
      case o3 =>
        intro u w g hd K hK
        have h1 : (u 1) = .slice (some ⟨kb, ko, none⟩) xs.length gc := hd 1 (by simp)
        have h2 : (u 2) = .int .i64 (k : Int) := hd 2 (by simp)
        clear hd
        simp only [Act.put, List.setIfInBounds_toArray, List.set_cons_zero, List.set_cons_succ] at hK
        simp only [h1, h2] at hK ⊢
        go_simp
        exact hK _ _ rfl (gr_refl _ _)
      case o4 =>
        intro u w g hd K hK
        clear hd
        simp only [Act.put, List.setIfInBounds_toArray, List.set_cons_zero, List.set_cons_succ] at hK
        go_simp
        exact hK _ _ rfl (gr_refl _ _)
      case o5 =>
        intro u w g hd K hK
        have h4 : (u 4) = .pointer (some ⟨ab, 0, none⟩) := hd 4 (by simp)
        clear hd
        simp only [Act.put, List.setIfInBounds_toArray, List.set_cons_zero, List.set_cons_succ] at hK
        have c := g.cell q0 (by simp)
        simp only [h4] at hK ⊢
        go_simp
        exact hK _ _ rfl (gr_refl _ _)
      case o6 =>
        intro u w g hd K hK
        have h3 : (u 3) = .slice (some ⟨kb, ko, none⟩) k gc := hd 3 (by simp)
        have h5 : (u 5) = .string ⟨x.1.toArray⟩ := hd 5 (by simp)
        clear hd
        simp only [Act.put, List.setIfInBounds_toArray, List.set_cons_zero, List.set_cons_succ] at hK
        simp only [h3, h5] at hK ⊢
        go_simp
        refine (HFI.out w g).mono ?_
        rintro e w' ⟨rfl, g'⟩
        exact hK _ _ rfl g'
      case o7 =>
        intro u w g hd K hK
        have h6 : (u 6) = .tuple #[.string fv, .bool hb] := hd 6 (by simp)
        clear hd
        simp only [Act.put, List.setIfInBounds_toArray, List.set_cons_zero, List.set_cons_succ] at hK
        simp only [h6] at hK ⊢
        go_simp
        exact hK _ _ rfl (gr_refl _ _)
      case o8 =>
        intro u w g hd K hK
        have h7 : (u 7) = .tuple #[.string fv, .bool hb] := hd 7 (by simp)
        clear hd
        simp only [Act.put, List.setIfInBounds_toArray, List.set_cons_zero, List.set_cons_succ] at hK
        simp only [h7] at hK ⊢
        go_simp
        exact hK _ _ rfl (gr_refl _ _)
      case o9 =>
        intro u w g hd K hK
        have h7 : (u 7) = .tuple #[.string fv, .bool hb] := hd 7 (by simp)
        clear hd
        simp only [Act.put, List.setIfInBounds_toArray, List.set_cons_zero, List.set_cons_succ] at hK
        simp only [h7] at hK ⊢
        go_simp
        exact hK _ _ rfl (gr_refl _ _)
      case o10 =>
        intro u w g hd K hK
        have h8 : (u 8) = .string fv := hd 8 (by simp)
        clear hd
        simp only [Act.put, List.setIfInBounds_toArray, List.set_cons_zero, List.set_cons_succ] at hK
        simp only [h8] at hK ⊢
        go_simp
        exact hK _ _ rfl (gr_refl _ _)
      case o11 =>
        intro u w g hd K hK
        have h9 : (u 9) = .bool hb := hd 9 (by simp)
        clear hd
        simp only [Act.put, List.setIfInBounds_toArray, List.set_cons_zero, List.set_cons_succ] at hK
        simp only [h9] at hK ⊢
        go_simp
        exact hK _ _ rfl (gr_refl _ _)
      intro u w hS g
      have s0 : (u 0) = .pointer (some ⟨pb, 2, none⟩) := hS 0 (by decide)
      have s1 : (u 1) = .slice (some ⟨kb, ko, none⟩) xs.length gc := hS 1 (by decide)
      have s2 : (u 2) = .int .i64 (k : Int) := hS 2 (by decide)
      have s3 : (u 3) = .slice (some ⟨kb, ko, none⟩) k gc := hS 3 (by decide)
      have s4 : (u 4) = .pointer (some ⟨ab, 0, none⟩) := hS 4 (by decide)
      have s5 : (u 5) = .string ⟨x.1.toArray⟩ := hS 5 (by decide)
      have s6 : (u 6) = .tuple #[.string fv, .bool hb] := hS 6 (by decide)
      have s7 : (u 7) = .tuple #[.string fv, .bool hb] := hS 7 (by decide)
      have s8 : (u 8) = .string fv := hS 8 (by decide)
      have s9 : (u 9) = .bool hb := hS 9 (by decide)
      have s10 : (u 10) = .string fv := hS 10 (by decide)
      have s11 : (u 11) = .bool hb := hS 11 (by decide)
      clear hS
      have T11 := hid s11
      have T10 := hid s10
      have GY := hid g
      clear s0 s1 s2 s3 s4 s5 s6 s7 s8 s9 s10 s11 g
      generalize u 0 = y0 at *
      generalize u 1 = y1 at *
      generalize u 2 = y2 at *
      generalize u 3 = y3 at *
      generalize u 4 = y4 at *
      generalize u 5 = y5 at *
      generalize u 6 = y6 at *
      generalize u 7 = y7 at *
      generalize u 8 = y8 at *
      generalize u 9 = y9 at *
      generalize u 10 = y10 at *
      generalize u 11 = y11 at *
      obtain rfl := T11.out
      obtain rfl := T10.out
      clear T10 T11
      have NW := hid (gr_keep GY.out NA.out (by simp))
      have CW := hid (gr_keep GY.out CA.out (by simp))
      have EW := hid (gr_keep GY.out EA.out (by simp))
      have OW := hid (own_growG OA.out GY.out)
      have GW := hid (gr_trans GA.out GY.out)
      have RW := hid (gr_trans RA.out (gr_none GY.out))
      clear GY NA CA EA OA GA RA p2 q0 HFI
      cases hb with
      | true =>
        go_wp2_with fail
        go_ret2
        exact ⟨GW.out, .slice none 0 0, 1, rfl, .inl ⟨by decide, rfl⟩⟩
      | false =>
        obtain ⟨va', vc', rfl⟩ := own_shapeG OW.out
        have p4 : w.cell? ⟨eb, 4, none⟩ = some (.slice va' k vc') := cell_of_block EW.out 4
        have c0 : w.cell? ⟨ab, 0, none⟩ = some (.string ⟨x.1.toArray⟩) := cell_of_block NW.out 0
        have c1 : w.cell? ⟨ab, 1, none⟩ = some (.string ⟨x.2.toArray⟩) := cell_of_block NW.out 1
        have gb := World.grownBy_alloc w (.cells #[.string ⟨#[]⟩, .string ⟨x.1.toArray⟩, .slice none 0 0, .string ⟨x.2.toArray⟩, .slice none 0 0] 25) none
        have OB := hid (own_growG OW.out gb)
        have EB := hid (gr_keep gb EW.out (by simp))
        have RB := hid (gr_trans RW.out (gr_none gb))
        have HLB := hid (show w2.heap.size ≤ (w.alloc (.cells #[.string ⟨#[]⟩, .string ⟨x.1.toArray⟩, .slice none 0 0, .string ⟨x.2.toArray⟩, .slice none 0 0] 25)).heap.size from RB.out.size)
        have SB := hid (ec_src (w := w) (a := x) (t := 25))
        have HA2 := hid (show oneN [] xs = oneN (xs.take (k + 1)) (xs.drop (k + 1)) by
          rw [hA.out, HD.out, HT.out]
          show (!hasN (xs.take k) x.1 && oneN (xs.take k ++ [x]) (xs.drop (k + 1))) = _
          rw [← HHB.out]
          rfl)
        clear gb hA HD NW CW EW OW RW
        go_wp2_with (at_builtin; refine wpl_appG rfl _ _ 23 rfl (size := 5) (bytes := 96) Tryz.underlying23 hi hz0 hz1 hz2 rfl (by decide) rfl OB.out rfl (m := 1) (news := ecV [x]) rfl SB.out (ecV_one _) (by unfold maxLen; omega) (by omega) HLB.out ?_; intro v3 w6 h3 g3 _; obtain ⟨a3, c3, rfl⟩ := own_shapeG h3; have E6 := hid (gr_keep g3 EB.out (by intro e; have h1 := (OB.out.lt eb e.symm).1; have h2 := HEB.out.2.2; omega)); have q4 : w6.cell? ⟨eb, 4, none⟩ = some (.slice va' k vc') := cell_of_block E6.out 4; have y4 := free_of_block E6.out 4; have R6 := hid (gr_own RB.out OB.out (Nat.le_refl _) g3); have O6 := hid h3; clear g3 h3)
        go_roundw
        case rel =>
          refine ⟨k + 1, .slice a3 (k + 1) c3, by go_num, by omega, hid (gr_set R6.out), hid (heap_set (o := 4) (v := .slice a3 (k + 1) c3) E6.out), ?_, HA2⟩
          have := own_setB (b := eb) (i := 4) (x := .slice a3 (k + 1) c3) O6.out HEB.out.2.2
          rw [← ecV_app, ← HT.out] at this
          exact hid this
        case measure => simp [intOf]; omega
    · obtain rfl : k = xs.length := by omega
      rw [List.take_length] at hO
      rw [List.take_length, List.drop_length] at hA
      have HA := hid (show oneN [] xs = true from hA.out)
      have HKI := hid (kid_enc hO.out)
      obtain ⟨va', vc', rfl⟩ := own_shapeG hO.out
      have p0 : wr.cell? ⟨pb, 0, none⟩ = some (.string ⟨ss.toArray⟩) := cell_of_block CR.out 0
      have p2 : wr.cell? ⟨pb, 2, none⟩ = some (.slice ga xs.length gc) := cell_of_block CR.out 2
      have e0 : wr.cell? ⟨eb, 0, none⟩ = some (.string ⟨ss.toArray⟩) := cell_of_block hE.out 0
      have e1 : wr.cell? ⟨eb, 1, none⟩ = some (.string ⟨sa.toArray⟩) := cell_of_block hE.out 1
      have e2 : wr.cell? ⟨eb, 2, none⟩ = some (.slice none 0 0) := cell_of_block hE.out 2
      have e3 : wr.cell? ⟨eb, 3, none⟩ = some (.string ⟨#[]⟩) := cell_of_block hE.out 3
      have e4 : wr.cell? ⟨eb, 4, none⟩ = some (.slice va' xs.length vc') := cell_of_block hE.out 4
      have SL := hid (seal_any wr (.agg #[.string ⟨ss.toArray⟩, .string ⟨sa.toArray⟩, .slice none 0 0, .string ⟨#[]⟩, .slice va' xs.length vc']) (encE (ss, sa, xs)) m ⟨_, _, rfl, ⟨none, 0, rfl, fun i hi => by simp [encE] at hi⟩, HKI.out⟩ (GR.out.cell HM.out (by simp)) HSE.out HSC.out)
      clear hA hO hE HKI gr PR CR hk hlt
      by_cases he : ss = []
      · subst he
        go_wp2_with fail
        go_ret2
        exact ⟨GR.out, .slice none 0 0, 1, rfl, .inl ⟨by decide, rfl⟩⟩
      · have f1 : ss.isEmpty = false := by cases ss with
          | nil => exact absurd rfl he
          | cons => rfl
        by_cases h16 : 16 < xs.length
        · have h16' : (16 : Int) < (xs.length : Int) := by omega
          clear he h16
          go_wp2_with fail
          go_ret2
          exact ⟨GR.out, .slice none 0 0, 1, rfl, .inl ⟨by decide, rfl⟩⟩
        · have h16' : ¬ (16 : Int) < (xs.length : Int) := by omega
          have HNE := hid he
          have H16 := hid (show xs.length ≤ 16 by omega)
          clear he h16
          go_wp2_with fail
          refine SL.out.mono ?_
          rintro e9 w9 ⟨g9, v9, k9, rfl, h9⟩
          have G9 := hid (gr_trans GR.out g9)
          have H9 := hid h9
          clear h9 g9 GR SL e0 e1 e2 e3 e4 p0 p2
          rcases H9.out with ⟨hk, rfl⟩ | ⟨-, hby, -⟩
          · have HK := hid hk
            clear hk
            go_wp2_with fail
            go_ret2
            exact ⟨G9.out, .slice none 0 0, k9, rfl, .inl ⟨HK.out, rfl⟩⟩
          · obtain ⟨a9, c9, rfl, -⟩ := hby
            go_wp2_with fail
            go_ret2
            refine ⟨G9.out, _, _, rfl, ?_⟩
            rcases H9.out with ⟨h1, h2⟩ | ⟨h1, h2⟩
            · exact .inl ⟨h1, h2⟩
            · exact .inr ⟨h1, HNE.out, HA.out, H16.out, h2⟩
end Go.Proofs.YtmofnoconhgjmaaGreatDoor
