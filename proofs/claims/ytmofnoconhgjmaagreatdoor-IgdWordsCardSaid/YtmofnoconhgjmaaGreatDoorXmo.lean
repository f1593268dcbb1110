/- The parser's pop: its walk. -/
import Derived.Test.YtmofnoconhgjmaaGreatDoorMK
namespace Go.Proofs.YtmofnoconhgjmaaGreatDoor
open Go.RowKit
set_option linter.unusedVariables false
set_option linter.unusedSimpArgs false

theorem MP.popd {w0 w : World} {X : Nat → Prop} {b : Nat} {x : Nat × Value} {l : List (Nat × Value)} {r : Bs} {f : Fr} {S : List Fr} {cnt : Nat} {full : Bool} {g cap : Nat}
    (h : MP w0 w X b (.slice (some ⟨g, 0, none⟩) (S.length + 1) cap) (x :: l) ⟨r, f :: S, cnt, full⟩) :
    MP w0 (w.setCell ⟨b, 1, none⟩ (.slice (some ⟨g, 0, none⟩) S.length cap)) (fun k => X k ∧ x.2.ownBlock ≠ some k) b (.slice (some ⟨g, 0, none⟩) S.length cap) l ⟨r, S, cnt, full⟩ ∧ FrAt (w.setCell ⟨b, 1, none⟩ (.slice (some ⟨g, 0, none⟩) S.length cap)) X w0.heap.size x.1 x.2 f := by
  have hl := h.frs.len
  simp only [List.length_cons] at hl
  have hw := h.frs.write h.pr h.inB (gr_set (o := 1) (v := .slice (some ⟨g, 0, none⟩) S.length cap) (gr_refl w (some b))) (by decide) (by decide) (by decide)
  have hm := h.frs.mem
  have hmx := hm x List.mem_cons_self
  have g1 := gr_set (o := 1) (v := .slice (some ⟨g, 0, none⟩) S.length cap) (gr_refl w (some b))
  have hp : PrAt (w.setCell ⟨b, 1, none⟩ (.slice (some ⟨g, 0, none⟩) S.length cap)) b r (.slice (some ⟨g, 0, none⟩) S.length cap) (cnt : Int) full := heap_set (o := 1) h.pr
  have hr := row_pr h.row g1 h.pr (by decide)
  refine ⟨⟨gr_p h.gr h.lo g1, h.lo, hp, ?_, ?_, ⟨h.inB, fun e => ?_⟩, (fun k hk => ⟨h.inS k hk, fun e => ?_⟩), fun k hk => ⟨h.old k hk, fun e => ?_⟩⟩, hw.1⟩
  · refine ⟨by simp [ptrs]; omega, ?_⟩
    rcases hr.2 with ⟨e, h0⟩ | ⟨g', cap', cur, e, hg, hh, hc, hmx', hs, ht⟩
    · cases e
    · cases e
      refine .inr ⟨g, cap, cur, rfl, hg, hh, ?_, hmx', hs, ?_⟩
      · have : S.length + 1 ≤ cap := hc
        show S.length ≤ cap; omega
      · have e1 : cur.toList.take (S.length * 1) = (cur.toList.take ((S.length + 1) * 1)).take S.length := by
          rw [List.take_take]; congr 1; omega
        show cur.toList.take (S.length * 1) = _
        rw [e1]
        have ht' : cur.toList.take ((S.length + 1) * 1) = ptrs (x :: l) := ht
        rw [ht']
        unfold ptrs
        rw [List.map_cons, List.reverse_cons, List.take_append_of_le_length (by simp; omega)]
        exact List.take_of_length_le (by simp; omega)
  · refine hw.2.2.less (fun k _ hk => hk.1) (fun y hy => ⟨⟨(hm y (List.mem_cons_of_mem _ hy)).1, fun e => ?_⟩, fun k hk => ⟨(hm y (List.mem_cons_of_mem _ hy)).2.1 k hk, fun e => (h.frs.2.1 y hy).2 k e hk⟩⟩)
    obtain ⟨c1, e1⟩ := (hm y (List.mem_cons_of_mem _ hy)).2.2.1
    obtain ⟨c2, e2⟩ := hmx.2.2.2 y.1 e
    exact blk_ne e1 e2 (by decide) rfl
  · obtain ⟨c2, e2⟩ := hmx.2.2.2 b e
    exact blk_ne h.pr e2 (by decide) rfl
  · obtain ⟨c2, e2⟩ := hmx.2.2.2 k e
    rcases h.row.2 with ⟨e3, _⟩ | ⟨g', cap', cur, e3, hg, hh, _⟩
    · cases e3
    · cases e3
      obtain rfl : g = k := by simpa [Value.ownBlock] using hk
      exact blk_ne hh e2 (by decide) rfl
  · obtain ⟨cs, hr5, -⟩ := h.frs.1.row
    have := (hr5.lt k e).1
    omega
theorem FrAt.blkrow {w : World} {X : Nat → Prop} {base fb : Nat} {kv : Value} {f : Fr} (h : FrAt w X base fb kv f) : ∃ av sp, FrB w.drew fb f.p f.n f.s f.n av f.tx kv sp ∧ AtsAt w.drew X av f.ats ∧ OwnFo w.drew X base kv f.kids := by
  obtain ⟨⟨av, sp, h1, h2, h3⟩, h4, -⟩ := h
  exact ⟨av, sp, h1, h2.same (fun _ _ _ => rfl), h4.same (fun _ _ _ => rfl) (fun _ _ => rfl)⟩
/-- The element that was the document's, in the block of its frame. -/
def RootAt (w0 w : World) (b fb : Nat) (e : El) : Prop := ∃ p n av kv sp, FrB w fb p n e.s e.n av e.tx kv sp ∧ AtsAt w (fun k => k = b ∨ k < w0.heap.size) av e.ats ∧ KidV w (fun k => k = b ∨ k < w0.heap.size) kv e.kids ∧ w0.heap.size ≤ fb
theorem put5_keep {w W w8 : World} {base gb n g c : Nat} {kv2 : Value} {cs : List Value} {cs' : Array Value} (hB : w.heap[gb]? = some (.cells cs' 247 (0, 0))) (hrow : w.ownsRow base 25 5 kv2 n cs) (g0 : w.grownBy W none) (hE : AppE W w8 base kv2 n cs g c) (c0 c1 c2 c3 c4 : Value) :
    ((put5 w8 g (n * 5) c0 c1 c2 c3 c4).cell? ⟨gb, 6, none⟩ = w.cell? ⟨gb, 6, none⟩ ∧ (put5 w8 g (n * 5) c0 c1 c2 c3 c4).frozen? ⟨gb, 6, none⟩ = false) ∧ w8.cell? ⟨gb, 6, none⟩ = w.cell? ⟨gb, 6, none⟩ ∧ w8.frozen? ⟨gb, 6, none⟩ = false ∧ gb ≠ g ∧ g ≠ gb := by
  have hBW := gr_keep g0 hB (by simp)
  have hne : gb ≠ g := fun e => by
    subst e
    rcases hE.at' with e3 | e3
    · rcases hrow.2 with ⟨e4, _⟩ | ⟨g', cap', cur, e4, hg, hh, _⟩
      · rw [e4] at e3; cases e3
      · rw [e4] at e3
        obtain rfl : gb = g' := by simpa [Value.ownBlock] using e3
        exact blk_ne hB hh (by decide) rfl
    · have := lt_of_block hBW; omega
  have h8 := keep_own (row_none hrow g0) hE.gr hBW (by decide)
  have h9 := gr_keep (put5_gr (w := w8) (g := g) (o := n * 5) (c0 := c0) (c1 := c1) (c2 := c2) (c3 := c3) (c4 := c4)) h8 (by simpa using hne)
  exact ⟨⟨(cell_of_block h9 6).trans (cell_of_block hB 6).symm, free_of_block h9 6⟩, (cell_of_block h8 6).trans (cell_of_block hB 6).symm, free_of_block h8 6, hne, Ne.symm hne⟩
theorem FrB.app8 {w W w8 : World} {base fb n g c : Nat} {kv2 : Value} {cs : List Value} {p nm s2 n2 : Bs} {av : Value} {tx : Bs} {kv sp : Value} (hB : FrB w fb p nm s2 n2 av tx kv sp) (hrow : w.ownsRow base 25 5 kv2 n cs) (g0 : w.grownBy W none) (hE : AppE W w8 base kv2 n cs g c) : FrB w8 fb p nm s2 n2 av tx kv sp :=
  keep_own (row_none hrow g0) hE.gr (gr_keep g0 hB (by simp)) (by decide)
theorem set_comm (w : World) {a b o p : Nat} (u v : Value) (h : a ≠ b) : (w.setCell ⟨a, o, none⟩ u).setCell ⟨b, p, none⟩ v = (w.setCell ⟨b, p, none⟩ v).setCell ⟨a, o, none⟩ u := by
  unfold World.setCell
  congr 1
  refine Array.ext (by simp) fun i h1 h2 => ?_
  simp only [Array.getElem_modify]
  by_cases ha : a = i
  · by_cases hb : b = i
    · exact absurd (ha.trans hb.symm) h
    · simp [ha, hb]
  · simp [ha]
theorem put5_comm (w : World) {g gb o : Nat} (c0 c1 c2 c3 c4 v : Value) (h : gb ≠ g) : put5 (w.setCell ⟨gb, 6, none⟩ v) g o c0 c1 c2 c3 c4 = (put5 w g o c0 c1 c2 c3 c4).setCell ⟨gb, 6, none⟩ v := by
  unfold put5
  rw [set_comm w v c0 h, set_comm _ v c1 h, set_comm _ v c2 h, set_comm _ v c3 h, set_comm _ v c4 h]
theorem kid_fin2 {w0 w W W8 : World} {X : Nat → Prop} {b : Nat} {sv : Value} {gb : Nat} {kv2 : Value} {l : List (Nat × Value)} {r : Bs} {G f : Fr} {S : List Fr} {cnt : Nat} {full : Bool} {aa ka : Option Addr} {ac kc : Nat} {cs : List Value} {g c : Nat}
    (h : MP w0 w X b sv ((gb, kv2) :: l) ⟨r, G :: S, cnt, full⟩) (hrow : w.ownsRow w0.heap.size 25 5 kv2 G.kids.len cs) (hcs : cs.length = G.kids.len * 5) (hfo : ∀ k o n c, kv2 = .slice (some ⟨k, o, none⟩) n c → FoAt w X G.kids k o)
    (ha : AtsAt w X (.slice aa f.ats.length ac) f.ats) (hk : KidV w X (.slice ka f.kids.len kc) f.kids) (g0 : w.grownBy W none) (hE : AppE W W8 w0.heap.size kv2 G.kids.len cs g c) (ne : gb ≠ g) :
    Hid (MAt w0 ((((((W8.setCell ⟨g, G.kids.len * 5, none⟩ (.string ⟨f.s.toArray⟩)).setCell ⟨g, G.kids.len * 5 + 1, none⟩ (.string ⟨f.n.toArray⟩)).setCell ⟨g, G.kids.len * 5 + 2, none⟩ (.slice aa f.ats.length ac)).setCell ⟨g, G.kids.len * 5 + 3, none⟩ (.string ⟨f.tx.toArray⟩)).setCell ⟨g, G.kids.len * 5 + 4, none⟩ (.slice ka f.kids.len kc)).setCell ⟨gb, 6, none⟩ (.slice (some ⟨g, 0, none⟩) (G.kids.len + 1) c)) b ⟨r, G.kid f.el :: S, cnt, full⟩) ∧
    Hid (MAt w0 ((((((W8.setCell ⟨gb, 6, none⟩ (.slice (some ⟨g, 0, none⟩) (G.kids.len + 1) c)).setCell ⟨g, G.kids.len * 5, none⟩ (.string ⟨f.s.toArray⟩)).setCell ⟨g, G.kids.len * 5 + 1, none⟩ (.string ⟨f.n.toArray⟩)).setCell ⟨g, G.kids.len * 5 + 2, none⟩ (.slice aa f.ats.length ac)).setCell ⟨g, G.kids.len * 5 + 3, none⟩ (.string ⟨f.tx.toArray⟩)).setCell ⟨g, G.kids.len * 5 + 4, none⟩ (.slice ka f.kids.len kc)) b ⟨r, G.kid f.el :: S, cnt, full⟩) := by
  have KF := (kid_fin (e := f.el) h hrow hcs hfo ha hk g0 hE).mat
  have KF2 := KF
  rw [← put5_comm _ _ _ _ _ _ _ ne] at KF2
  exact ⟨hid KF, hid KF2⟩
/-- What a step leaves. -/
def OutP (w0 : World) (b : Nat) (x : Ma ⊕ Res) (v : Value) (w' : World) : Prop := match x with
  | .inl m => v = .pointer none ∧ MAt w0 w' b m
  | .inr y => ∃ fb sv, v = .pointer (some ⟨fb, 2, none⟩) ∧ w0.grownBy w' none ∧ w0.heap.size ≤ b ∧ PrAt w' b y.2.1 sv (y.2.2.1 : Int) y.2.2.2 ∧ RootAt w0 w' b fb y.1
def PopPost (w0 : World) (b : Nat) (x : Ma ⊕ Res) (e : Ending) (w' : World) : Prop := ∃ v, e = .returned v ∧ OutP w0 b x v w'
set_option maxRecDepth 20000 in
set_option maxHeartbeats 8000000 in
theorem pop_x (w0 w : World) (b : Nat) (r : Bs) (f : Fr) (S : List Fr) (cnt : Nat) (full : Bool) (h : MAt w0 w b ⟨r, f :: S, cnt, full⟩) (hn : S.length ≤ 90000) (hkl : ∀ g ∈ S, g.kids.len ≤ 100000) :
    Calls Tryz.prog 161 #[.pointer (some ⟨b, 0, none⟩)] w (PopPost w0 b (popL f.el r S cnt full)) := by
  obtain ⟨X, sv, l, hp⟩ := h.parts
  obtain ⟨x, l, rfl⟩ : ∃ x l', l = x :: l' := by
    cases l with
    | nil => exact hp.frs.elim
    | cons x l => exact ⟨x, l, rfl⟩
  have hl := hp.frs.len
  simp only [List.length_cons] at hl
  obtain ⟨g, cap, rfl, hg, hc, hcell⟩ := own_cell hp.row (by simp)
  have hc' : S.length + 1 ≤ cap := hc
  have HP : Hid (MP w0 w X b (.slice (some ⟨g, 0, none⟩) (S.length + 1) cap) (x :: l) ⟨r, f :: S, cnt, full⟩) := hid hp
  have HKL := hid hkl
  have HT1 := hid (top_x w0 w X b _ x l ⟨r, f :: S, cnt, full⟩ hp (by simp only [List.length_cons]; omega))
  have HX := hid hp.inB
  have HOLD := hid hp.old
  have HLO := hid hp.frs.1.lo
  clear hp hcell hkl hc h
  go_enter Tryz.func161, Tryz.ntmps161
  go_wp2_with fail
  refine HT1.out.mono ?_
  rintro e w1 ⟨rfl, n1, rfl⟩
  have HP1 := hid (HP.out.grow (gr_drewN n1 (gr_refl _ _)))
  clear HP HT1
  generalize w.drewN n1 = w1 at *
  have c1 : w1.cell? ⟨b, 1, none⟩ = some (.slice (some ⟨g, 0, none⟩) (S.length + 1) cap) := HP1.out.pr.cells.2.1
  have f1 := HP1.out.pr.cells.2.2.2.2.2.1
  have HP2 := hid HP1.out.popd
  clear hl
  generalize hk : S.length = k at *
  have HK := hid hk
  clear hk
  have hb1 : (0 : Int) ≤ (k : Int) := by omega
  have hb2 : (k : Int) < (k : Int) + 1 := by omega
  have hb3 : (k : Int) ≤ (cap : Int) := by omega
  have hw2 : IntKind.i64.wrap ((k : Int) + 1 - 1) = (k : Int) := by rw [IntWalk.i64_in _ (by omega)]; omega
  go_upto_region 2 with fail
  go_region
  obtain ⟨HQ, HF⟩ := HP2.out
  have HQ2 := hid (HQ.grow (gr_drew (gr_refl _ _)))
  have HF2 : Hid (∃ av sp, FrB (w1.setCell ⟨b, 1, none⟩ (.slice (some ⟨g, 0, none⟩) k cap)).drew x.1 f.p f.n f.s f.n av f.tx x.2 sp ∧ AtsAt (w1.setCell ⟨b, 1, none⟩ (.slice (some ⟨g, 0, none⟩) k cap)).drew X av f.ats ∧ OwnFo (w1.setCell ⟨b, 1, none⟩ (.slice (some ⟨g, 0, none⟩) k cap)).drew X w0.heap.size x.2 f.kids) := hid HF.blkrow
  clear HQ HF HP2 HP1 c1 f1
  generalize (w1.setCell ⟨b, 1, none⟩ (.slice (some ⟨g, 0, none⟩) k cap)).drew = w2 at *
  clear hb1 hb2 hb3 hw2
  have c1 := HQ2.out.pr.cells.2.1
  cases S with
  | nil =>
    obtain rfl : k = 0 := HK.out.symm
    obtain ⟨av, sp, hB, hA, hO⟩ := HF2.out
    have HR := hid (show RootAt w0 w2 b x.1 f.el from ⟨f.p, f.n, av, x.2, sp, hB, hA.less (fun k' _ hk' => by rcases hk' with rfl | hk'; exact HX.out; exact HOLD.out k' hk'), hO.kid (fun k' _ hk' => by rcases hk' with rfl | hk'; exact HX.out; exact HOLD.out k' hk') (fun k' hk' e => by rcases e with rfl | e; exact HQ2.out.inB.2 hk'; exact (HQ2.out.old k' e).2 hk'), HLO.out⟩)
    go_wp2
    go_ret
    exact ⟨_, rfl, x.1, _, rfl, HQ2.out.gr, HQ2.out.lo, HQ2.out.pr, HR.out⟩
  | cons G S =>
    obtain ⟨y, l, rfl⟩ : ∃ y l', l = y :: l' := by
      cases l with
      | nil => exact HQ2.out.frs.elim
      | cons y l => exact ⟨y, l, rfl⟩
    have HT2 := hid (top_x w0 w2 _ b _ y l ⟨r, G :: S, cnt, full⟩ HQ2.out (by have := HK.out; simp only [List.length_cons] at this ⊢; omega))
    have hkk : (0 : Int) < (k : Int) := by have := HK.out; simp only [List.length_cons] at this; omega
    have hk0 : ((k : Int) == 0) = false := by simp; omega
    clear hkk
    go_wp2_with fail
    refine HT2.out.mono ?_
    rintro e w3 ⟨rfl, n3, rfl⟩
    have HQ3 := hid (HQ2.out.grow (gr_drewN n3 (gr_refl _ _)))
    have HF3 : Hid (∃ av sp, FrB (w2.drewN n3) x.1 f.p f.n f.s f.n av f.tx x.2 sp ∧ AtsAt (w2.drewN n3) (fun k => X k ∧ x.2.ownBlock ≠ some k) av f.ats ∧ KidV (w2.drewN n3) (fun k => X k ∧ x.2.ownBlock ≠ some k) x.2 f.kids) := by
      obtain ⟨av, sp, hB, hA, hO⟩ := HF2.out
      exact hid ⟨av, sp, hB, (hA.less (fun k' _ hk' => hk'.1)).same (fun _ _ _ => rfl), (hO.kid (fun k' _ hk' => hk'.1) (fun k' hk' e => e.2 hk')).same (fun _ _ _ => rfl)⟩
    have HKG := HKL.out G List.mem_cons_self
    clear HQ2 HF2 HT2 c1 HKL
    generalize w2.drewN n3 = w3 at *
    obtain ⟨fb, kv⟩ := x
    obtain ⟨gb, kv2⟩ := y
    simp only at HF3 HQ3 ⊢
    obtain ⟨av, sp, hB, hA, hKV⟩ := HF3.out
    obtain ⟨⟨av2, sp2, hB2, -, -⟩, ⟨cs, hrow, hfo⟩, -⟩ := HQ3.out.frs.1
    have hcs := hrow.1
    obtain ⟨va2, vc2, hs2, -⟩ := row_shape hrow
    simp only at hs2 hB2 hrow hfo
    subst hs2
    obtain ⟨-, -, s2, s3, s4, s5, s6, -⟩ := hB.cells
    obtain ⟨-, -, -, -, -, -, t6, -⟩ := hB2.cells
    have u6 := hB2.free 6
    have HA := hid hA
    have HKV := hid hKV
    have HROW := hid hrow
    have HFO := hid hfo
    have HCS := hid hcs
    have hlb := lt_of_block hB2
    have hbase := HQ3.out.gr.size
    have HB2 := hid hB2
    have HB := hid hB
    have ga := gr_alloc (gr_refl w3 none) (.cells #[.string ⟨#[]⟩, .string ⟨#[]⟩, .slice none 0 0, .string ⟨#[]⟩, .slice none 0 0] 25)
    obtain ⟨-, -, v2, v3, v4, v5, v6, -⟩ := (hB.grow ga).cells
    obtain ⟨-, -, -, -, -, -, x6, -⟩ := (hB2.grow ga).cells
    clear ga
    clear hA hKV hrow hfo hcs hB hB2 HF3
    obtain ⟨aa, ac, hav, -⟩ := HA.out
    obtain ⟨ka, kc, hkv, -⟩ := HKV.out
    subst hav hkv
    generalize hlk : G.kids.len = nk at *
    have HLK := hid hlk
    clear hlk
    have hb1 : (0 : Int) ≤ (nk : Int) := by omega
    have hb2 : (nk : Int) < (nk : Int) + 1 := by omega
    go_upto_region 6 with fail
    go_region_law
      (first | (refine step_appE (by rfl) (.tmp 36) (.tmp 42) (by rfl) (by rfl) (by rfl) (row_none HROW.out (by (repeat (first | exact gr_refl _ _ | assumption | refine gr_drew ?_ | refine gr_drewN _ ?_ | refine gr_alloc ?_ _ | refine gr_set ?_ | refine gr_set_new ?_ (by first | omega | (simp; omega)))))) (by first | exact heap_alloc_new _ _ | (rw [heap_drew]; exact heap_alloc_new _ _)) HKG (by simp; omega) ?_; intro g8 vc8 w8 hE; obtain ⟨⟨z0, z1, z2, z3, z4⟩, y0, y1, y2, y3, y4⟩ := hE.cells HCS.out; obtain ⟨⟨q6, q7⟩, p6, p7, ne1, ne2⟩ := put5_keep HB2.out HROW.out (by (repeat (first | exact gr_refl _ _ | assumption | refine gr_drew ?_ | refine gr_drewN _ ?_ | refine gr_alloc ?_ _ | refine gr_set ?_ | refine gr_set_new ?_ (by first | omega | (simp; omega))))) hE (.string ⟨f.s.toArray⟩) (.string ⟨f.n.toArray⟩) (.slice aa f.ats.length ac) (.string ⟨f.tx.toArray⟩) (.slice ka f.kids.len kc); unfold put5 at q6 q7; rw [t6] at q6 p6; obtain ⟨-, -, r2, r3, r4, r5, r6, -⟩ := (HB.out.app8 HROW.out (by (repeat (first | exact gr_refl _ _ | assumption | refine gr_drew ?_ | refine gr_drewN _ ?_ | refine gr_alloc ?_ _ | refine gr_set ?_ | refine gr_set_new ?_ (by first | omega | (simp; omega))))) hE).cells))
    all_goals
      have hlk := HLK.out
      subst hlk
      obtain ⟨H1, H2⟩ := kid_fin2 HQ3.out HROW.out HCS.out HFO.out HA.out HKV.out (by (repeat (first | exact gr_refl _ _ | assumption | refine gr_drew ?_ | refine gr_drewN _ ?_ | refine gr_alloc ?_ _ | refine gr_set ?_ | refine gr_set_new ?_ (by first | omega | (simp; omega))))) hE ne1
      clear hE z0 z1 z2 z3 z4 y0 y1 y2 y3 y4 q6 q7 p6 p7 r2 r3 r4 r5 r6 HQ3 HROW HCS HFO HA HKV s2 s3 s4 s5 s6 t6 u6 v2 v3 v4 v5 v6 x6 HB HB2 HK HLK ne1 ne2
      go_wp2
      go_ret
      refine ⟨_, rfl, rfl, ?_⟩
      first
        | (with_reducible exact H1.out)
        | (with_reducible exact H2.out)
end Go.Proofs.YtmofnoconhgjmaaGreatDoor
