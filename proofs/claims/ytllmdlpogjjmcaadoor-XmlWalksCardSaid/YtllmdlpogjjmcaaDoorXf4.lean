/- The closure of XmlWalks. -/
import Derived.Test.YtllmdlpogjjmcaaDoorMF
import Derived.RegionTactic
import Derived.Deep.QuietTactic
import Derived.BigQuiet
import Derived.Deep.DeepCutAuto
namespace Go.Proofs.YtllmdlpogjjmcaaDoor
open Go.RowKit
set_option linter.unusedVariables false
set_option linter.unusedSimpArgs false

/-- What the closure has. -/
structure WkC (w : World) (ob ib wb db mb : Nat) (most : Int) (n : Nat) (a1 a2 : Option Addr) (M c1 c2 : Nat) : Prop where
  ok : w.heap[ob]? = some (.cells #[.bool true] 4 (0, 0))
  at' : w.heap[ib]? = some (.cells #[.int .i64 (n : Int)] 3 (0, 0))
  want : w.heap[wb]? = some (.cells #[.slice a1 M c1] 25 (0, 0))
  deep : w.heap[db]? = some (.cells #[.slice a2 M c2] 36 (0, 0))
  most : w.heap[mb]? = some (.cells #[.int .i64 most] 3 (0, 0))
def WkJ (B0 base ob ib wb db mb : Nat) (most : Int) (a1 a2 : Option Addr) (M c1 c2 : Nat) (L pre : List (Nat × El)) (w : World) : Prop :=
  WkC w ob ib wb db mb most pre.length a1 a2 M c1 c2 ∧ OwnE w (B0 ≤ ·) base (.slice a1 M c1) (L.map (·.2)) ∧ w.ownsRow base 3 1 (.slice a2 M c2) M (depV L) ∧ (pre = [] ∨ (pre.length : Int) < most)
def WkX (ib : Nat) (most : Int) (M : Nat) (ob : Nat) (w : World) : Prop := ∃ j : Nat, 1 ≤ j ∧ j ≤ M ∧ most ≤ (j : Int) ∧ (j = 1 ∨ (j : Int) - 1 < most) ∧ w.heap[ob]? = some (.cells #[.bool true] 4 (0, 0)) ∧ w.heap[ib]? = some (.cells #[.int .i64 (j : Int)] 3 (0, 0))
theorem ElAt.less {w : World} {X X' : Nat → Prop} {v : Value} {e : El} (h : ElAt w X v e) (k : ∀ b, b < w.heap.size → X' b → X b) : ElAt w X' v e := by
  obtain ⟨av, kv, rfl, ha, hk⟩ := h
  exact ⟨av, kv, rfl, ha.less k, hk.less k⟩
theorem own_kx {X : Nat → Prop} {w w' : World} {base size n : Nat} {e : TypeId} {v : Value} {xs : List Value} (h : w.ownsRow base e size v n xs) (k : KX X w w') (hx : ∀ g, v.ownBlock = some g → ¬ X g) : w'.ownsRow base e size v n xs := by
  refine ⟨h.1, ?_⟩
  rcases h.2 with h0 | ⟨b, cap, cur, rfl, hb, hh, r⟩
  · exact .inl h0
  · exact .inr ⟨b, cap, cur, rfl, hb, k.keep hh (hx b rfl), r⟩
set_option maxRecDepth 20000 in
set_option maxHeartbeats 20000000 in
theorem walks1_any (B0 base ob ib wb db mb : Nat) (most : Int) (a1 a2 : Option Addr) (M c1 c2 : Nat) (L : List (Nat × El)) (hM : M = L.length) (hM2 : M ≤ 1000) (hL : ∀ x ∈ L, x.2.ats.length + x.2.kids.sz ≤ 100000) (hb : B0 ≤ base) (hob : B0 ≤ ob ∧ B0 ≤ ib ∧ ob ≠ ib) (hmne : mb ≠ ob ∧ mb ≠ ib ∧ wb ≠ ob ∧ wb ≠ ib ∧ db ≠ ob ∧ db ≠ ib) (hrow : (∀ g, (Value.slice a1 M c1).ownBlock = some g → g ≠ ob ∧ g ≠ ib) ∧ ∀ g, (Value.slice a2 M c2).ownBlock = some g → g ≠ ob ∧ g ≠ ib) :
    Yields 13 #[.pointer (some ⟨ob, 0, none⟩), .pointer (some ⟨ib, 0, none⟩), .pointer (some ⟨wb, 0, none⟩), .pointer (some ⟨db, 0, none⟩), .pointer (some ⟨mb, 0, none⟩)] (fun b => b = ob ∨ b = ib) L (WkJ B0 base ob ib wb db mb most a1 a2 M c1 c2 L) (WkX ib most M ob) := by
  intro pre d e v w hp hj he
  obtain ⟨hC, hE, hD, hmo⟩ := hj
  have HE := hid he
  obtain ⟨q, hq⟩ : ∃ q, q = pre.length := ⟨_, rfl⟩
  have hqM : q < M := by
    have := hp.length_le
    rw [List.length_append, List.length_cons, List.length_nil] at this
    omega
  have hget : L[q]? = some (d, e) := by
    obtain ⟨t, ht⟩ := hp
    rw [← ht, hq, List.append_assoc, List.getElem?_append_right (Nat.le_refl _), Nat.sub_self]
    rfl
  have HSM := hid (same_r e (hL _ (List.mem_of_getElem? hget)))
  obtain ⟨cs, hE1, hE2⟩ := hE
  obtain ⟨av, kv, k0, k1, k2, k3, k4, ha, hk⟩ := hE2.get q e (by rw [List.getElem?_map, hget]; rfl)
  have HA2 := hid ha
  have HK2 := hid hk
  obtain ⟨g1, rfl, hc1⟩ : ∃ g1, a1 = some ⟨g1, 0, none⟩ ∧ ∀ j u, cs[j]? = some u → w.cell? ⟨g1, j, none⟩ = some u := by
    rcases hE1.2 with ⟨e1, h0⟩ | ⟨g, cap, cur, e1, -⟩
    · simp only [Value.slice.injEq] at e1
      omega
    · simp only [Value.slice.injEq] at e1
      obtain ⟨rfl, -, -⟩ := e1
      exact ⟨g, rfl, fun j u hj => by have := hE1.cells (g := g) rfl j u hj; rw [Go.WideShapes.add_plain, Nat.zero_add] at this; exact this⟩
  obtain ⟨g2, rfl, hc2⟩ : ∃ g2, a2 = some ⟨g2, 0, none⟩ ∧ w.cell? ⟨g2, q, none⟩ = some (.int .i64 (d : Int)) := by
    rcases hD.2 with ⟨e1, h0⟩ | ⟨g, cap, cur, e1, -⟩
    · omega
    · simp only [Value.slice.injEq] at e1
      obtain ⟨rfl, -, -⟩ := e1
      exact ⟨g, rfl, by
        have := hD.cells (g := g) rfl q (.int .i64 (d : Int)) (by unfold depV; rw [List.getElem?_map, hget]; rfl)
        rw [Go.WideShapes.add_plain, Nat.zero_add] at this; exact this⟩
  have m0 := hc1 _ _ k0
  have m1 := hc1 _ _ k1
  have m2 := hc1 _ _ k2
  have m3 := hc1 _ _ k3
  have m4 := hc1 _ _ k4
  have HJ := hid (And.intro hE1 (And.intro hE2 hD))
  rw [← hq] at hC hmo
  have HC := hid hC
  have HQ := hid hq
  have HMO := hid hmo
  have HMM := hid hM
  have hqi : (q : Int) < (M : Int) := by omega
  have hq0 : (0 : Int) ≤ (q : Int) := by omega
  have hq1 : (q : Int) + 1 ≤ 1001 := by omega
  obtain ⟨y1, y2, y3, y4, y5⟩ := e
  obtain ⟨i1, i2, rfl, -⟩ := ha
  obtain ⟨i3, i4, rfl, -⟩ := hk
  obtain ⟨av, kv, rfl, hxa, hxk⟩ := he
  obtain ⟨i5, i6, rfl, -⟩ := hxa
  obtain ⟨i7, i8, rfl, -⟩ := hxk
  have G1 := hid (gr_alloc (gr_refl w none) (.cells #[.string ⟨y1.toArray⟩, .string ⟨y2.toArray⟩, .slice i5 y3.length i6, .string ⟨y4.toArray⟩, .slice i7 y5.len i8] 27))
  have N1 := heap_alloc_new w (.cells #[.string ⟨y1.toArray⟩, .string ⟨y2.toArray⟩, .slice i5 y3.length i6, .string ⟨y4.toArray⟩, .slice i7 y5.len i8] 27)
  obtain ⟨w1, hw1⟩ : ∃ w1, w1 = w.alloc (.cells #[.string ⟨y1.toArray⟩, .string ⟨y2.toArray⟩, .slice i5 y3.length i6, .string ⟨y4.toArray⟩, .slice i7 y5.len i8] 27) := ⟨_, rfl⟩
  rw [← hw1] at G1 N1
  obtain ⟨s0, s1, s2, s3, s4⟩ := ElB.cells (show ElB w1 w.heap.size y1 y2 (.slice i5 y3.length i6) y4 (.slice i7 y5.len i8) from N1)
  simp only at m0 m1 m2 m3 m4
  replace m0 := G1.out.cell m0 (by simp)
  replace m1 := G1.out.cell m1 (by simp)
  replace m2 := G1.out.cell m2 (by simp)
  replace m3 := G1.out.cell m3 (by simp)
  replace m4 := G1.out.cell m4 (by simp)
  replace hc2 := G1.out.cell hc2 (by simp)
  have c_ok := cell_of_block (gr_keep G1.out HC.out.ok (by simp)) 0
  have c_i := cell_of_block (gr_keep G1.out HC.out.at' (by simp)) 0
  have c_w := cell_of_block (gr_keep G1.out HC.out.want (by simp)) 0
  have c_d := cell_of_block (gr_keep G1.out HC.out.deep (by simp)) 0
  have c_m := cell_of_block (gr_keep G1.out HC.out.most (by simp)) 0
  have CALL := hid (fun (W : World) (g : w1.grownBy W none) => HSM.out W (elV ⟨y1, y2, y3, y4, y5⟩ (.slice i5 y3.length i6) (.slice i7 y5.len i8)) (elV ⟨y1, y2, y3, y4, y5⟩ (.slice i1 y3.length i2) (.slice i3 y5.len i4)) ((HE.out.less (fun _ _ h => h.elim)).kx (KX.of_none (gr_trans G1.out g))) ⟨_, _, rfl, (HA2.out.less (fun _ _ h => h.elim)).grow (gr_trans G1.out g), (HK2.out.less (fun _ _ h => h.elim)).grow (gr_trans G1.out g)⟩)
  unfold elV str at CALL ⊢
  simp only at CALL
  have HW1 := hid hw1
  clear hp hC hE1 hE2 hD hmo k0 k1 k2 k3 k4 hc1 HA2 HK2 hM hM2 hq N1 hw1 hget hL
  go_enter Tryd.func13, Tryd.ntmps13
  go_upto_region 1 with fail
  rw [← HW1.out]
  have EOK := hid (gr_keep G1.out HC.out.ok (by simp))
  go_cut [9] from 10 to 32 (fun v9 wx => v9 = .bool false ∧ Hid (w1.grownBy wx (some ob) ∧ wx.heap[ob]? = some (.cells #[.bool true] 4 (0, 0))))
  case first =>
    go_region_with (go_at_call 9; refine (CALL.out _ (by first | exact gr_refl _ _ | exact gr_drew (gr_refl _ _))).mono ?_; rintro e w8 ⟨rfl, g8⟩; have g28 : w1.grownBy w8 none := gr_trans (gr_drew (gr_refl w1 none)) g8; have e8 := gr_keep g28 EOK.out (by simp); have c8 := cell_of_block e8 0; have f8 := free_of_block e8 0; have HEND := hid (And.intro (gr_set (o := 0) (v := .bool true) (gr_none (row := some ob) g28)) (show (w8.setCell ⟨ob, 0, none⟩ (.bool true)).heap[ob]? = some (.cells #[.bool true] 4 (0, 0)) from heap_set (o := 0) e8)))
    all_goals
      go_wp2_with fail
      go_meet
      exact ⟨rfl, HEND⟩
  case rest =>
    obtain ⟨rfl, hr⟩ := hcut
    have HR := hid hr.out
    clear hr s0 s1 s2 s3 s4 m0 m1 m2 m3 m4 hc2 c_ok c_i c_w c_d c_m CALL
    have HF1 := hid (HR.out.1)
    have hoi := hob.2.2
    have hI := gr_keep HR.out.1 (gr_keep G1.out HC.out.at' (by simp)) (by simp; exact fun e => hoi e.symm)
    have hIc := cell_of_block hI 0
    have hIf := free_of_block hI 0
    have hMm := gr_keep HR.out.1 (gr_keep G1.out HC.out.most (by simp)) (by simp; exact hmne.1)
    have hMc := cell_of_block hMm 0
    have hIs := hid (heap_set (o := 0) (v := .int .i64 ((q : Int) + 1)) hI)
    have hMs := cell_of_block (show (wc.setCell ⟨ib, 0, none⟩ (.int .i64 ((q : Int) + 1))).heap[mb]? = _ from (heap_set_other hmne.2.1).trans hMm) 0
    have K2 := hid (show KX (fun b => b = ob ∨ b = ib) w (wc.setCell ⟨ib, 0, none⟩ (.int .i64 ((q : Int) + 1))) from (KX.of_none G1.out).trans (KX.trans ⟨HF1.out.os, HF1.out.tape, HF1.out.output, HF1.out.size, fun i hi hx => HF1.out.block i hi (fun e => hx (.inl (by simpa using e)))⟩ ⟨rfl, rfl, rfl, by simp [World.setCell], fun i hi hx => heap_set_other (fun e => hx (.inr e))⟩))
    have hOKs := hid (show (wc.setCell ⟨ib, 0, none⟩ (.int .i64 ((q : Int) + 1))).heap[ob]? = some (.cells #[.bool true] 4 (0, 0)) from (heap_set_other hoi).trans HR.out.2)
    clear hI hMm
    by_cases hlt : (q : Int) + 1 < most
    · go_wp2
      go_ret
      refine ⟨K2.out, .inl ⟨rfl, ⟨hOKs.out, ?_, K2.out.keep HC.out.want (by rintro (e | e) <;> omega), K2.out.keep HC.out.deep (by rintro (e | e) <;> omega), K2.out.keep HC.out.most (by rintro (e | e) <;> omega)⟩, ?_, ?_, ?_⟩⟩
      · rw [List.length_append, ← HQ.out]
        exact hIs.out
      · obtain ⟨h1, h2, -⟩ := HJ.out
        exact ⟨cs, own_kx h1 K2.out (fun g hg hx => by have := hrow.1 g hg; rcases hx with e | e <;> omega), h2.same fun b hb hx => K2.out.2.2.2.2 b hb (fun h => hx (by rcases h with e | e <;> (show B0 ≤ b; omega)))⟩
      · exact own_kx HJ.out.2.2 K2.out (fun g hg hx => by have := hrow.2 g hg; rcases hx with e | e <;> omega)
      · refine .inr ?_
        rw [List.length_append, ← HQ.out]
        exact hlt
    · go_wp2
      go_ret
      refine ⟨K2.out, .inr ⟨rfl, q + 1, by omega, by omega, by omega, ?_, hOKs.out, hIs.out⟩⟩
      rcases HMO.out with h | h
      · left; rw [h] at HQ; have := HQ.out; simp at this; omega
      · right; omega
end Go.Proofs.YtllmdlpogjjmcaaDoor
