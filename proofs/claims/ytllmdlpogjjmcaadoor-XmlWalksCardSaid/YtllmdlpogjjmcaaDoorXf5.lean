/- hearthlaw17.XmlWalks: the walk. -/
import Derived.Test.YtllmdlpogjjmcaaDoorXf4
import Derived.Test.YtllmdlpogjjmcaaDoorMG
import Derived.Test.YtllmdlpogjjmcaaDoorML
import Derived.Deep.DeepCutAuto
namespace Go.Proofs.YtllmdlpogjjmcaaDoor
open Go.RowKit
set_option linter.unusedVariables false
set_option linter.unusedSimpArgs false

theorem cf_walks : ∀ (args : Array Value) (w : World), (callFunc 13 args).run Tryd.prog w = .ok (.enter 13 args) w := by
  intro args w
  go_simp
theorem sm_all : ∀ (f : Fo), SmF f → ∀ d, ∀ x ∈ flatF d f, x.2.ats.length + x.2.kids.sz ≤ 40 + f.cnt * 41 := by
  intro f
  induction f with
  | nil => intro _ d x hx; cases hx
  | cons s n ats tx kids next ih1 ih2 =>
    rintro ⟨h0, h1, h2⟩ d x hx
    simp only [flatF, List.mem_cons, List.mem_append] at hx
    simp only [Fo.cnt]
    rcases hx with rfl | hx | hx
    · have := sm_sz kids h1
      have := h0.2.1
      simp only at this ⊢
      omega
    · have := ih1 h1 _ x hx; omega
    · have := ih2 h2 _ x hx; omega
theorem own_lt {w : World} {base size n : Nat} {e : TypeId} {v : Value} {xs : List Value} (h : w.ownsRow base e size v n xs) {g : Nat} (hg : v.ownBlock = some g) : g < w.heap.size := by
  rcases h.2 with ⟨rfl, -⟩ | ⟨b, cap, cur, rfl, hb, hh, -⟩
  · simp [Value.ownBlock] at hg
  · obtain rfl : b = g := by simpa [Value.ownBlock] using hg
    exact lt_of_block hh
set_option maxRecDepth 20000 in
set_option maxHeartbeats 20000000 in
theorem xml_walks_walk (v : Value) (e : El) (most : Int) (m : Int) (w : World) (he : ElAt w noX v e) (hm : w.cell? ⟨0, 0, none⟩ = some (.int .i64 m)) :
    Calls Tryd.prog 4 #[v, .int .i64 most] w fun e w' => e = .returned (.bool true) ∧ w.grownBy w' none := by
  have hmf : ∀ (fn : Fn) (first cap : Array Value) (w : World), (Instr.makeFunc fn first cap).run Tryd.prog w = .ok (.func fn first cap) w := fun _ _ _ _ => rfl
  have HE := hid he
  obtain ⟨av, kv, rfl, ha, hk⟩ := he
  have HA := hid ha
  have HK := hid hk
  obtain ⟨aa, ac, rfl, -⟩ := ha
  obtain ⟨ka, kc, rfl, -⟩ := hk
  unfold elV str at HE ⊢
  have G1 := hid (gr_alloc (gr_refl w none) (.cells #[.string ⟨e.s.toArray⟩, .string ⟨e.n.toArray⟩, .slice aa e.ats.length ac, .string ⟨e.tx.toArray⟩, .slice ka e.kids.len kc] 27))
  have G2 := hid (gr_alloc G1.out (.cells #[.int .i64 most] 3))
  have n1 := heap_alloc_new w (.cells #[.string ⟨e.s.toArray⟩, .string ⟨e.n.toArray⟩, .slice aa e.ats.length ac, .string ⟨e.tx.toArray⟩, .slice ka e.kids.len kc] 27)
  have n2 := heap_alloc_new (w.alloc (.cells #[.string ⟨e.s.toArray⟩, .string ⟨e.n.toArray⟩, .slice aa e.ats.length ac, .string ⟨e.tx.toArray⟩, .slice ka e.kids.len kc] 27)) (.cells #[.int .i64 most] 3)
  have n1' := gr_keep (World.grownBy_alloc (w.alloc (.cells #[.string ⟨e.s.toArray⟩, .string ⟨e.n.toArray⟩, .slice aa e.ats.length ac, .string ⟨e.tx.toArray⟩, .slice ka e.kids.len kc] 27)) (.cells #[.int .i64 most] 3) none) n1 (by simp)
  rw [World.size_alloc] at n2
  obtain ⟨w2, hw2⟩ : ∃ w2, w2 = (w.alloc (.cells #[.string ⟨e.s.toArray⟩, .string ⟨e.n.toArray⟩, .slice aa e.ats.length ac, .string ⟨e.tx.toArray⟩, .slice ka e.kids.len kc] 27)).alloc (.cells #[.int .i64 most] 3) := ⟨_, rfl⟩
  rw [← hw2] at G2 n1' n2
  have N1 := hid n1'
  have N2 := hid n2
  have HS := hid (speaks_true w2 m (G2.out.cell hm (by simp)))
  have HW2 := hid hw2
  clear hm n1 n1' n2 hw2 G1
  go_enter Tryd.func4, Tryd.ntmps4
  go_upto_region 1 with fail
  rw [← HW2.out]
  clear HW2
  go_wp2_with fail
  refine HS.out.mono ?_
  rintro e' w3 ⟨rfl, g3⟩
  have G3 := hid (gr_trans G2.out g3)
  have E3 := hid (gr_keep g3 N1.out (by simp))
  have M3 := hid (gr_keep g3 N2.out (by simp))
  obtain ⟨s0, s1, s2, s3, s4⟩ := ElB.cells (show ElB w3 w.heap.size e.s e.n (.slice aa e.ats.length ac) e.tx (.slice ka e.kids.len kc) from E3.out)
  have GR := hid (great_any w3 _ e (HE.out.kx (KX.of_none G3.out)))
  clear HS N1 N2 g3 G2
  go_wp2_with fail
  refine GR.out.mono ?_
  rintro e' w4 ⟨b, rfl, g4, hb⟩
  have G4 := hid (gr_trans G3.out g4)
  have E4 := hid (gr_keep g4 E3.out (by simp))
  have M4 := hid (gr_keep g4 M3.out (by simp))
  clear GR s0 s1 s2 s3 s4 g4 E3 M3 G3
  cases b
  rotate_left
  · go_wp2
    go_ret
    exact ⟨rfl, G4.out⟩
  have HSM := hid (hb rfl)
  clear hb
  obtain ⟨s0, s1, s2, s3, s4⟩ := ElB.cells (show ElB w4 w.heap.size e.s e.n (.slice aa e.ats.length ac) e.tx (.slice ka e.kids.len kc) from E4.out)
  have HSZ := hid (show e.kids.sz ≤ 20000 by have := sm_sz e.kids HSM.out.1.2; have := HSM.out.2; unfold El.cnt at this; omega)
  have FL := hid (flat_el w4.heap.size (e.kids.sz + 1) e 0 _ w4 (Nat.lt_succ_self _) (by have := HSZ.out; omega) (by have := HSM.out.2; omega) (Nat.le_refl _) ((HE.out.kx (KX.of_none G4.out)).less (fun b h1 h2 => absurd h1 (Nat.not_lt.2 h2))))
  go_wp2_with fail
  refine FL.out.mono ?_
  rintro e' w5 ⟨v1, v2, rfl, hfl⟩
  obtain ⟨a1, c1, a2, c2, rfl, rfl⟩ := hfl.shape
  have HFL := hid hfl
  have HFB := hid (show (∀ g, (Value.slice a1 (flatE 0 e).length c1).ownBlock = some g → g < w5.heap.size) ∧ ∀ g, (Value.slice a2 (flatE 0 e).length c2).ownBlock = some g → g < w5.heap.size from
    ⟨fun g hg => own_lt hfl.1.choose_spec.1 hg, fun g hg => own_lt hfl.2.1 hg⟩)
  have G5 := hid (gr_trans G4.out hfl.2.2)
  have E5 := hid (gr_keep hfl.2.2 E4.out (by simp))
  have M5 := hid (gr_keep hfl.2.2 M4.out (by simp))
  have H45 := hid hfl.2.2.size
  have HM4 := hid (lt_of_block M4.out)
  clear FL hfl s0 s1 s2 s3 s4
  go_upto_region 7 with fail
  obtain ⟨wA, hA⟩ : ∃ wA, wA = w5.alloc (.cells #[.slice a1 (flatE 0 e).length c1] 25) := ⟨_, rfl⟩
  obtain ⟨wB, hB⟩ : ∃ wB, wB = wA.alloc (.cells #[.slice a2 (flatE 0 e).length c2] 36) := ⟨_, rfl⟩
  obtain ⟨wC, hC⟩ : ∃ wC, wC = wB.alloc (.cells #[.int .i64 0] 3) := ⟨_, rfl⟩
  obtain ⟨wD, hD⟩ : ∃ wD, wD = wC.alloc (.cells #[.bool true] 4) := ⟨_, rfl⟩
  have nA := heap_alloc_new w5 (.cells #[.slice a1 (flatE 0 e).length c1] 25)
  have nB := heap_alloc_new wA (.cells #[.slice a2 (flatE 0 e).length c2] 36)
  have nC := heap_alloc_new wB (.cells #[.int .i64 0] 3)
  have nD := heap_alloc_new wC (.cells #[.bool true] 4)
  have gA := World.grownBy_alloc w5 (.cells #[.slice a1 (flatE 0 e).length c1] 25) none
  have gB := World.grownBy_alloc wA (.cells #[.slice a2 (flatE 0 e).length c2] 36) none
  have gC := World.grownBy_alloc wB (.cells #[.int .i64 0] 3) none
  have gD := World.grownBy_alloc wC (.cells #[.bool true] 4) none
  have zA : wA.heap.size = w5.heap.size + 1 := by rw [hA]; simp
  have zB : wB.heap.size = w5.heap.size + 1 + 1 := by rw [hB]; simp [zA]
  have zC : wC.heap.size = w5.heap.size + 1 + 1 + 1 := by rw [hC]; simp [zB]
  have zD : wD.heap.size = w5.heap.size + 1 + 1 + 1 + 1 := by rw [hD]; simp [zC]
  rw [← hA, ← hB, ← hC, ← hD]
  rw [← hA] at nA gA
  rw [← hB] at nB gB
  rw [← hC] at nC gC
  rw [← hD] at nD gD
  rw [zA] at nB
  rw [zB] at nC
  rw [zC] at nD
  have gBD := gr_trans gC gD
  have gAD := gr_trans gB gBD
  have g5D := gr_trans gA gAD
  obtain ⟨wb, hwb⟩ : ∃ wb, wb = w5.heap.size := ⟨_, rfl⟩
  obtain ⟨db, hdb⟩ : ∃ db, db = w5.heap.size + 1 := ⟨_, rfl⟩
  obtain ⟨ib, hib⟩ : ∃ ib, ib = w5.heap.size + 1 + 1 := ⟨_, rfl⟩
  obtain ⟨ob, hob⟩ : ∃ ob, ob = w5.heap.size + 1 + 1 + 1 := ⟨_, rfl⟩
  have HZ := hid (show wb = w5.heap.size ∧ db = wb + 1 ∧ ib = wb + 2 ∧ ob = wb + 3 ∧ wD.heap.size = wb + 4 by omega)
  rw [← hob, ← hib, ← hdb, ← hwb]
  have HWC := hid (show WkC wD ob ib wb db (w.heap.size + 1) most 0 a1 a2 (flatE 0 e).length c1 c2 from ⟨by rw [hob]; exact nD, by rw [hib]; exact gr_keep gD nC (by simp), by rw [hwb]; exact gr_keep gAD nA (by simp), by rw [hdb]; exact gr_keep gBD nB (by simp), gr_keep g5D M5.out (by simp)⟩)
  have GD := hid (gr_trans G5.out g5D)
  have HFD := hid (HFL.out.grow g5D)
  have ED := hid (gr_keep g5D E5.out (by simp))
  clear hA hB hC hD nA nB nC nD gA gB gC gD zA zB zC zD gBD gAD g5D hwb hdb hib hob E5 M5 HFL
  obtain ⟨s0, s1, s2, s3, s4⟩ := ElB.cells (show ElB wD w.heap.size e.s e.n (.slice aa e.ats.length ac) e.tx (.slice ka e.kids.len kc) from ED.out)
  go_wp2_with fail
  refine (all_any wD _ _ _ _ _ _ _ _ _).mono ?_
  rintro e' w6 ⟨rfl, h6⟩
  have g6 := World.grownBy_alloc wD (.cells #[.string ⟨e.s.toArray⟩, .string ⟨e.n.toArray⟩, .slice aa e.ats.length ac, .string ⟨e.tx.toArray⟩, .slice ka e.kids.len kc] 27) none
  have n6 := heap_alloc_new wD (.cells #[.string ⟨e.s.toArray⟩, .string ⟨e.n.toArray⟩, .slice aa e.ats.length ac, .string ⟨e.tx.toArray⟩, .slice ka e.kids.len kc] 27)
  rw [h6] at g6 n6
  have G6 := hid (gr_trans GD.out g6)
  have N6 := hid n6
  have HWC6 := hid (show WkC w6 ob ib wb db (w.heap.size + 1) most 0 a1 a2 (flatE 0 e).length c1 c2 from ⟨gr_keep g6 HWC.out.ok (by simp), gr_keep g6 HWC.out.at' (by simp), gr_keep g6 HWC.out.want (by simp), gr_keep g6 HWC.out.deep (by simp), gr_keep g6 HWC.out.most (by simp)⟩)
  have HF6 := hid (HFD.out.grow g6)
  have HS6 := hid g6.size
  clear h6 g6 n6 s0 s1 s2 s3 s4 HWC HFD ED
  have HLN := hid (flatE_cnt 0 e)
  have CALL := hid (all1_any 13 cf_walks #[.pointer (some ⟨ob, 0, none⟩), .pointer (some ⟨ib, 0, none⟩), .pointer (some ⟨wb, 0, none⟩), .pointer (some ⟨db, 0, none⟩), .pointer (some ⟨w.heap.size + 1, 0, none⟩)] (fun b => b = ob ∨ b = ib) e (WkJ w4.heap.size (w4.heap.size + 1) ob ib wb db (w.heap.size + 1) most a1 a2 (flatE 0 e).length c1 c2 (flatE 0 e)) (WkX ib most (flatE 0 e).length ob)
    (walks1_any w4.heap.size (w4.heap.size + 1) ob ib wb db (w.heap.size + 1) most a1 a2 (flatE 0 e).length c1 c2 (flatE 0 e) rfl (by rw [HLN.out]; have := HSM.out.2; omega) (fun x hx => by
        have h2 := HSM.out.2
        unfold El.cnt at h2
        unfold flatE at hx
        rcases List.mem_cons.1 hx with rfl | hx
        · have := sm_sz e.kids HSM.out.1.2
          have := HSM.out.1.1.2.1
          simp only
          omega
        · have := sm_all e.kids HSM.out.1.2 _ x hx
          omega) (Nat.le_succ _) (by have := HZ.out; have := H45.out; omega) (by have := HZ.out; have := H45.out; have := HM4.out; omega) ⟨fun g hg => by have := HFB.out.1 g hg; have := HZ.out; omega, fun g hg => by have := HFB.out.2 g hg; have := HZ.out; omega⟩)
    (fun pre W W' h k => ⟨⟨gr_keep k h.1.ok (by simp), gr_keep k h.1.at' (by simp), gr_keep k h.1.want (by simp), gr_keep k h.1.deep (by simp), gr_keep k h.1.most (by simp)⟩, h.2.1.grow k, own_growG h.2.2.1 k, h.2.2.2⟩)
    w6 wD.heap.size _ _ (by have := HSZ.out; omega) (fun b hb => by have := HZ.out; have := HS6.out; omega) ⟨HWC6.out, HF6.out.1, HF6.out.2.1, .inl rfl⟩ N6.out ((HA.out.less (fun b h1 h2 => by have := HZ.out; have := H45.out; have := HM4.out; omega)).grow G6.out) ((HK.out.less (fun b h1 h2 => by have := HZ.out; have := H45.out; have := HM4.out; omega)).grow G6.out))
  go_wp2_with fail
  refine CALL.out.mono ?_
  rintro e' w7 ⟨rfl, k7, hr⟩
  have GF := hid (((KX.of_none G6.out).trans k7).gr (fun i hi => by have := HZ.out; have := H45.out; have := HM4.out; omega))
  have MS := hid (k7.keep HWC6.out.most (by have := HZ.out; have := H45.out; have := HM4.out; rintro (h | h) <;> omega))
  have WS := hid (k7.keep HWC6.out.want (by have := HZ.out; rintro (h | h) <;> omega))
  have mc := cell_of_block MS.out 0
  have wc := cell_of_block WS.out 0
  obtain ⟨M, hM⟩ : ∃ M, M = (flatE 0 e).length := ⟨_, rfl⟩
  have HM1 := hid (show 1 ≤ M by rw [hM]; simp [flatE])
  rw [← hM] at hr wc ⊢
  clear CALL k7
  rcases hr with hj | hx
  · obtain ⟨hC, -, -, hmo⟩ := hj
    have oc := cell_of_block hC.ok 0
    have ic := cell_of_block hC.at' 0
    have hlt : (M : Int) < most := by
      rcases hmo with h | h
      · exact absurd h (by simp [flatE])
      · rw [← hM] at h; exact h
    rw [← hM] at ic
    have hm1 := HM1.out
    have hq : ((M : Int) == max (min (M : Int) most) 1) = true := by rw [beq_iff_eq]; omega
    clear hC hmo hM hm1 hlt
    go_wp2_with fail
    go_ret
    exact ⟨rfl, GF.out⟩
  · obtain ⟨j, h1, h2, h3, h4, h5, h6⟩ := hx
    have oc := cell_of_block h5 0
    have ic := cell_of_block h6 0
    have hm1 := HM1.out
    have hq : ((j : Int) == max (min (M : Int) most) 1) = true := by rw [beq_iff_eq]; omega
    clear h1 h2 h3 h4 h5 h6 hM hm1
    go_wp2_with fail
    go_ret
    exact ⟨rfl, GF.out⟩
end Go.Proofs.YtllmdlpogjjmcaaDoor
