/- Texts of one proof, put together: Ig2, Ig3, Ig4. -/
import Derived.Test.YtmofnoconhgjmaaGreatDoorSl
import Derived.Test.YtmofnoconhgjmaaGreatDoorApG
import Derived.Test.YtmofnoconhgjmaaGreatDoorPl1
import Derived.Test.YtmofnoconhgjmaaGreatDoorKt
import Derived.Test.YtmofnoconhgjmaaGreatDoorMR
/- A configuration in memory; conf.Copy. -/
namespace Go.Proofs.YtmofnoconhgjmaaGreatDoor
open Go.RowKit
set_option linter.unusedVariables false
set_option linter.unusedSimpArgs false

/-- A forward: its protocol, port, inner port, host. -/
abbrev Fw := Nat × Nat × Nat × Nat
def fwV (l : List Fw) : List Value := l.flatMap fun f => [.int .u8 (f.1 : Int), .int .u16 (f.2.1 : Int), .int .u16 (f.2.2.1 : Int), .int .u32 (f.2.2.2 : Int)]
/-- A configuration: its cells as they came in (but for its forwards' slice), its forwards. -/
structure Cfg where
  cs : Array Value
  fw : List Fw
/-- Forwards in memory. -/
def FwAt (w : World) (a : Option Addr) (l : List Fw) : Prop := (a = none ∧ l = []) ∨ ∃ b o, a = some ⟨b, o, none⟩ ∧ ∀ j u, (fwV l)[j]? = some u → w.cell? ⟨b, o + j, none⟩ = some u
theorem FwAt.grow {w w' : World} {a : Option Addr} {l : List Fw} (h : FwAt w a l) (g : w.grownBy w' none) : FwAt w' a l := by
  rcases h with h | ⟨b, o, e, h⟩
  · exact .inl h
  · exact .inr ⟨b, o, e, fun j u hj => g.cell (h j u hj) (by simp)⟩
structure CfAt (w : World) (cs : Array Value) (C : Cfg) : Prop where
  sz : cs.size = 28
  one : cs.all (·.oneCell') = true
  same : ∀ i, i ≠ 25 → cs[i]? = C.cs[i]?
  fw : ∃ a c, cs[25]? = some (.slice a C.fw.length c) ∧ FwAt w a C.fw
theorem CfAt.grow {w w' : World} {cs : Array Value} {C : Cfg} (h : CfAt w cs C) (g : w.grownBy w' none) : CfAt w' cs C := by
  obtain ⟨a, c, h1, h2⟩ := h.fw
  exact ⟨h.sz, h.one, h.same, a, c, h1, h2.grow g⟩
theorem fwV_len (l : List Fw) : (fwV l).length = l.length * 4 := by
  induction l with
  | nil => rfl
  | cons a l ih => unfold fwV at ih ⊢; rw [List.flatMap_cons, List.length_append, ih]; simp; omega
theorem fwV_one (l : List Fw) : ∀ u ∈ fwV l, u.oneCell' = true := by
  intro u hu
  unfold fwV at hu
  obtain ⟨x, -, hx⟩ := List.mem_flatMap.1 hu
  simp only [List.mem_cons, List.not_mem_nil, or_false] at hx
  rcases hx with rfl | rfl | rfl | rfl <;> rfl
theorem all_set {cs : Array Value} {i : Nat} {v : Value} (h : cs.all (·.oneCell') = true) (hv : v.oneCell' = true) : (cs.setIfInBounds i v).all (·.oneCell') = true := by
  rw [Array.all_eq_true] at h ⊢
  intro j hj
  have hj' : j < cs.size := by simpa using hj
  rw [Array.getElem_setIfInBounds]
  split
  · exact hv
  · exact h j hj'
def plainF : Cfg := ⟨plainC, []⟩
theorem plain_at (w : World) : CfAt w plainC plainF := ⟨rfl, by kernel_rfl, fun _ _ => rfl, none, 0, rfl, .inl ⟨rfl, rfl⟩⟩
theorem infoFw : (Tryz.prog.info? 148).map (fun i => (i.zero, i.size, i.bytes)) = some (some (.agg #[.int .u8 0, .int .u16 0, .int .u16 0, .int .u32 0]), 4, 12) := by kernel_rfl
theorem sizeFw : ∀ w, (Go.sizeOf 148).run Tryz.prog w = .ok 4 w := fun w => by kernel_rfl
/-- slices.Clone of forwards. -/
theorem clone_fw (w : World) (a : Option Addr) (l : List Fw) (c : Nat) (h : FwAt w a l) (hl : l.length ≤ 1000) :
    Calls Tryz.prog 100 #[.slice a l.length c] w fun e w' => w.grownBy w' none ∧ ∃ a' c', e = .returned (.slice a' l.length c') ∧ FwAt w' a' l ∧ ∀ g o, a' = some ⟨g, o, none⟩ → w.heap.size ≤ g := by
  rcases h with ⟨rfl, rfl⟩ | ⟨b, o, rfl, h⟩
  · refine (Tryz.slices_Clone_nil _ _ w).mono ?_
    rintro e w' ⟨rfl, rfl⟩
    exact ⟨gr_refl _ _, none, 0, rfl, .inl ⟨rfl, rfl⟩, fun g o e => by cases e⟩
  · obtain ⟨i0, hi, hz0, hz1, hz2⟩ := info_parts infoFw
    refine (Tryz.slices_Clone i0 _ 4 12 hi hz0 hz1 hz2 rfl (by omega) sizeFw b o l.length c (fwV l) w (fwV_len l) (by unfold maxLen; omega) (by omega) h (fwV_one l)).mono ?_
    rintro e w' ⟨v', rfl, ho, hn, hb⟩
    refine ⟨gr_of_below hb, ?_⟩
    rcases ho.2 with ⟨rfl, -⟩ | ⟨g, cap, cur, rfl, hg, hh, hc, hm, hs, ht⟩
    · exact absurd rfl hn
    · exact ⟨_, cap, rfl, .inr ⟨g, 0, rfl, fun j u hj => by
        have := ho.cells (g := g) rfl j u hj
        rwa [Go.WideShapes.add_plain] at this⟩, fun g' o' e => by cases e; exact hg⟩
end Go.Proofs.YtmofnoconhgjmaaGreatDoor
/- conf.Copy, keyed.New. -/
namespace Go.Proofs.YtmofnoconhgjmaaGreatDoor
open Go.RowKit
set_option linter.unusedVariables false
set_option linter.unusedSimpArgs false

def CopyPost (w : World) (C : Cfg) (e : Ending) (w' : World) : Prop := w.grownBy w' none ∧ ∃ cs', e = .returned (.agg cs') ∧ CfAt w' cs' C
theorem CfAt.put {w w' : World} {cs : Array Value} {C : Cfg} (h : CfAt w cs C) {a : Option Addr} {c : Nat} (hf : FwAt w' a C.fw) : CfAt w' (cs.setIfInBounds 25 (.slice a C.fw.length c)) C := by
  refine ⟨by rw [Array.size_setIfInBounds]; exact h.sz, all_set h.one rfl, fun i hi => ?_, a, c, ?_, hf⟩
  · rw [Array.getElem?_setIfInBounds, if_neg (fun e => hi e.symm)]
    exact h.same i hi
  · rw [Array.getElem?_setIfInBounds, if_pos rfl, if_pos (by rw [h.sz]; decide)]
theorem FwAt.block {w w' : World} {a : Option Addr} {l : List Fw} (h : FwAt w a l) (k : ∀ g o, a = some ⟨g, o, none⟩ → w'.heap[g]? = w.heap[g]?) : FwAt w' a l := by
  rcases h with h | ⟨g, o, rfl, h⟩
  · exact .inl h
  · exact .inr ⟨g, o, rfl, fun j u hj => (World.cell?_of_block (a := ⟨g, o + j, none⟩) (k g o rfl)).trans (h j u hj)⟩
set_option maxRecDepth 100000 in
set_option maxHeartbeats 4000000 in
theorem copy_any (w : World) (cs : Array Value) (C : Cfg) (h : CfAt w cs C) (hl : C.fw.length ≤ 1000) :
    Calls Tryz.prog 55 #[.agg cs] w (CopyPost w C) := by
  have hs28 := h.sz
  have n1 := heap_alloc_new w (.cells cs 51)
  have g1 := gr_alloc (gr_refl w none) (.cells cs 51)
  have n2 := heap_alloc_new (w.alloc (.cells cs 51)) (.cells zeroC 51)
  have g2 := World.grownBy_alloc (w.alloc (.cells cs 51)) (.cells zeroC 51) none
  rw [World.size_alloc] at n2
  obtain ⟨w2, hw2⟩ : ∃ w2, w2 = (w.alloc (.cells cs 51)).alloc (.cells zeroC 51) := ⟨_, rfl⟩
  obtain ⟨b, hb⟩ : ∃ b, b = w.heap.size := ⟨_, rfl⟩
  rw [← hw2] at n2 g2
  rw [← hb] at n1 n2
  obtain ⟨a, c, h25, hfw⟩ := h.fw
  have N1 := hid (gr_keep g2 n1 (by simp))
  have N2 := hid n2
  have G2 := hid (gr_trans g1 g2)
  have c25 : w2.cell? ⟨b, 25, none⟩ = some (.slice a C.fw.length c) := (cell_of_block N1.out 25).trans h25
  have HC := hid (clone_fw w2 a C.fw c (hfw.grow G2.out) hl)
  have HCF := hid h
  have HB := hid hb
  have HW := hid hw2
  have HS := hid hs28
  clear n1 n2 g1 g2 hb hw2 hs28 h h25 hfw
  go_enter Tryz.func55, Tryz.ntmps55
  go_upto_region 1 with fail
  rw [show (Obj.cells #[.int .u8 0, .int .u8 0, .int .u8 0, .int .u8 0, .int .u8 0, .int .u8 0, .int .u8 0, .int .u8 0, .int .u8 0, .int .u8 0, .int .u8 0, .int .u8 0, .int .u8 0, .int .u8 0, .int .u8 0, .int .u8 0, .int .u8 0, .int .u8 0, .int .u32 0, .int .u32 0, .int .i64 0, .int .i64 0, .int .i64 0, .int .i64 0, .int .i64 0, .slice none 0 0, .int .u32 0, .string ⟨#[]⟩] 51) = .cells zeroC 51 from rfl]
  rw [← HW.out, ← HB.out]
  go_wp2_with fail
  refine HC.out.mono ?_
  rintro e w3 ⟨g3, a', c', rfl, hf', hnew⟩
  have N13 := hid (gr_keep g3 N1.out (by simp))
  have N23 := hid (gr_keep g3 N2.out (by simp))
  have z25 := free_of_block N13.out 25
  have G3 := hid (gr_trans G2.out g3)
  have HF := hid hf'
  have q25 := g3.cell c25 (by simp)
  have M1 := hid (heap_set (o := 25) (v := .slice a' C.fw.length c') N13.out)
  have M2 := hid ((heap_set_other (b := b) (o := 25) (v := .slice a' C.fw.length c') (show b + 1 ≠ b by omega)).trans N23.out)
  have HFB := hid (show FwAt ((w3.setCell ⟨b, 25, none⟩ (.slice a' C.fw.length c')).setRow (b + 1) (cs.setIfInBounds 25 (.slice a' C.fw.length c'))) a' C.fw from HF.out.block fun g o e => by
    have h1 := hnew g o e
    have h2 := lt_of_block N2.out
    exact (setRow_other _ (b + 1) g _ (by omega)).trans (heap_set_other (by omega)))
  clear g3 hf' c25 HC N1 N2 G2 HW hnew
  have HS2 := hid (show (cs.setIfInBounds 25 (.slice a' C.fw.length c')).size = 28 by rw [Array.size_setIfInBounds]; exact HS.out)
  have G4 := hid (gr_set_new (o := 25) (v := .slice a' C.fw.length c') G3.out (by rw [HB.out]; exact Nat.le_refl _) : w.grownBy (w3.setCell ⟨b, 25, none⟩ (.slice a' C.fw.length c')) none)
  have HR := hid (CfAt.put (c := c') HCF.out HFB.out)
  generalize cs.setIfInBounds 25 (.slice a' C.fw.length c') = cs2 at *
  go_wp2_with (first
    | (with_reducible refine wpList_load_row (o := ⟨some 7, _, _, _, _, _⟩) rfl 51 _ rfl b rfl 51 cs2 (0, 0) _ M1.out Tryz.underlying51 rfl (by rw [HS2.out]; kernel_rfl) ?_)
    | ((with_reducible refine wpList_store_row (o := ⟨none, _, _, _, _, _⟩) rfl 51 (.tmp 2) (.tmp 7) rfl (b + 1) cs2 ?h1 ?h2 51 zeroC M2.out ?hi ?ho ?hone ?hm); (case h1 => rfl); (case h2 => rfl); (case hi => rw [HS2.out]; kernel_rfl); (case ho => rw [HS2.out]; rfl); (case hone => exact HR.out.one)))
  refine bodyPost_ret (v := .agg cs2) ?_ ?_ ?_
  rotate_left
  · rfl
  rotate_left
  · exact results_cell_row rfl _ _ (b + 1) 51 cs2 (0, 0) _ rfl (setRow_heap _ (b + 1) zeroC cs2 _ _ M2.out) Tryz.underlying51 rfl (by rw [HS2.out]; kernel_rfl)
  · have GF : w.grownBy ((w3.setCell ⟨b, 25, none⟩ (.slice a' C.fw.length c')).setRow (b + 1) cs2) none := gr_of_below (below_setRow (gr_below G4.out) (by rw [HB.out]; omega) _)
    exact ⟨GF, cs2, rfl, HR.out⟩
end Go.Proofs.YtmofnoconhgjmaaGreatDoor
/- The mappings in memory; keyed.New, maps.New. -/
namespace Go.Proofs.YtmofnoconhgjmaaGreatDoor
open Go.RowKit
set_option linter.unusedVariables false
set_option linter.unusedSimpArgs false

/-- A mapping as it is kept. -/
structure En where
  p : Nat
  e : Nat
  t : Nat
  r : Nat
  h : Nat
  on : Bool
  wd : List UInt8
  ends : Nat
def enV (x : En) : List Value := [.int .u8 (x.p : Int), .int .u16 (x.e : Int), .int .u16 (x.t : Int), .int .u32 (x.r : Int), .int .u32 (x.h : Int), .bool x.on, .string ⟨x.wd.toArray⟩, .int .u64 (x.ends : Int)]
def keV (x : En) : List Value := [.int .u8 (x.p : Int), .int .u16 (x.e : Int), .int .u32 (x.r : Int)]
def paV (l : List En) : List Value := l.flatMap fun x => keV x ++ enV x
/-- The mappings: the configuration, them, how many there may be, how often they have changed. -/
structure Ms where
  C : Cfg
  L : List En
  most : Int
  upd : Nat
abbrev tSet : TypeId := 130
abbrev tTab : TypeId := 182
abbrev tPair : TypeId := 292
abbrev ordV : Value := .func (.func 57) #[] #[]
theorem newk_any (w : World) (m : Int) : Calls Tryz.prog 56 #[.int .i64 m, ordV] w fun e w' => e = .returned (.pointer (some ⟨w.heap.size, 0, none⟩)) ∧ w' = w.alloc (.cells #[.slice none 0 0, .int .i64 (max m 0), ordV] tTab) := by
  go_enter Tryz.func56, Tryz.ntmps56
  go_wp2_with fail
  go_ret
  exact ⟨rfl, rfl⟩
/-- The mappings in memory, in blocks from N on. -/
def SetAt (w : World) (N b : Nat) (S : Ms) : Prop :=
  N ≤ b ∧ ∃ cs tb lv, w.heap[b]? = some (.cells (cs ++ #[.pointer (some ⟨tb, 0, none⟩), .int .u32 (S.upd : Int)]) tSet (0, 0)) ∧ CfAt w cs S.C ∧ N ≤ tb ∧ w.heap[tb]? = some (.cells #[lv, .int .i64 S.most, ordV] tTab (0, 0)) ∧ w.ownsRow N tPair 11 lv S.L.length (paV S.L)
theorem own_none (w : World) (N : Nat) (t : TypeId) (k : Nat) : w.ownsRow N t k (.slice none 0 0) 0 [] := ⟨by simp, .inl ⟨rfl, rfl⟩⟩
theorem SetAt.grow {w w' : World} {N b : Nat} {S : Ms} (h : SetAt w N b S) (g : w.grownBy w' none) : SetAt w' N b S := by
  obtain ⟨h0, cs, tb, lv, h1, h2, h3, h4, h5⟩ := h
  exact ⟨h0, cs, tb, lv, gr_keep g h1 (by simp), h2.grow g, h3, gr_keep g h4 (by simp), own_growG h5 g⟩
theorem wp_buildC {P : Program} {o : Oper} {a : Act} {w : World} {K : Act → World → Prop} {Q : Exit → Act → World → Prop} (t : TypeId) (parts : Array (Nat × Operand)) (ho : o.op = .build t parts) (cs : Array Value) (l : List (Nat × Value))
    (hl : (parts.map fun (i, x) => (i, a.eval x)).toList = l) (hb : P.built t l = some cs) (h : K (a.put o.dst (.agg cs)) w) : o.wp P a w K Q :=
  wp_build t parts ho (by rw [hl, hb]; rfl) (by rw [hl, hb]; exact h)
def MNewPost (w : World) (C : Cfg) (m : Int) (e : Ending) (w' : World) : Prop := w.grownBy w' none ∧ ∃ b, e = .returned (.pointer (some ⟨b, 0, none⟩)) ∧ SetAt w' w.heap.size b ⟨C, [], max m 0, 0⟩
theorem arr28 (cs : Array Value) (h : cs.size = 28) : cs = #[cs[0], cs[1], cs[2], cs[3], cs[4], cs[5], cs[6], cs[7], cs[8], cs[9], cs[10], cs[11], cs[12], cs[13], cs[14], cs[15], cs[16], cs[17], cs[18], cs[19], cs[20], cs[21], cs[22], cs[23], cs[24], cs[25], cs[26], cs[27]] := by
  refine Array.ext (by simpa using h) fun i h1 h2 => ?_
  have hi : i < 28 := by omega
  match i, hi with
  | 0, _ => exact rfl
  | 1, _ => exact rfl
  | 2, _ => exact rfl
  | 3, _ => exact rfl
  | 4, _ => exact rfl
  | 5, _ => exact rfl
  | 6, _ => exact rfl
  | 7, _ => exact rfl
  | 8, _ => exact rfl
  | 9, _ => exact rfl
  | 10, _ => exact rfl
  | 11, _ => exact rfl
  | 12, _ => exact rfl
  | 13, _ => exact rfl
  | 14, _ => exact rfl
  | 15, _ => exact rfl
  | 16, _ => exact rfl
  | 17, _ => exact rfl
  | 18, _ => exact rfl
  | 19, _ => exact rfl
  | 20, _ => exact rfl
  | 21, _ => exact rfl
  | 22, _ => exact rfl
  | 23, _ => exact rfl
  | 24, _ => exact rfl
  | 25, _ => exact rfl
  | 26, _ => exact rfl
  | 27, _ => exact rfl
  | n + 28, h => exact absurd h (by omega)
set_option maxRecDepth 100000 in
theorem built_set (cs : Array Value) (h : cs.size = 28) (p : Addr) : Tryz.prog.built tSet [(0, .agg cs), (1, .pointer (some p))] = some (cs ++ #[.pointer (some p), .int .u32 0]) := by
  rw [arr28 cs h]
  kernel_rfl
set_option maxRecDepth 100000 in
set_option maxHeartbeats 4000000 in
theorem mnew_any (w : World) (cs : Array Value) (C : Cfg) (m : Int) (h : CfAt w cs C) (hl : C.fw.length ≤ 1000) (hm : C.cs[22]? = some (.int .i64 m)) :
    Calls Tryz.prog 20 #[.agg cs] w (MNewPost w C m) := by
  have hs28 := h.sz
  have n1 := heap_alloc_new w (.cells cs 51)
  have g1 := gr_alloc (gr_refl w none) (.cells cs 51)
  obtain ⟨w1, hw1⟩ : ∃ w1, w1 = w.alloc (.cells cs 51) := ⟨_, rfl⟩
  obtain ⟨b, hb⟩ : ∃ b, b = w.heap.size := ⟨_, rfl⟩
  rw [← hw1] at n1 g1
  rw [← hb] at n1
  have N1 := hid n1
  have G1 := hid g1
  have HCF := hid (h.grow g1)
  have HL := hid hl
  have c22 : w1.cell? ⟨b, 22, none⟩ = some (.int .i64 m) := (cell_of_block N1.out 22).trans ((h.same 22 (by decide)).trans hm)
  have HB := hid hb
  have HW := hid hw1
  have HSZ := hid (show (Tryz.prog.info? 51).map (·.size) = some cs.size by rw [hs28]; kernel_rfl)
  obtain ⟨N, hN⟩ : ∃ N, N = w.heap.size := ⟨_, rfl⟩
  have HN := hid (show N ≤ w1.heap.size by rw [hN]; exact g1.size)
  rw [show MNewPost w C m = fun e w' => w.grownBy w' none ∧ ∃ q, e = .returned (.pointer (some ⟨q, 0, none⟩)) ∧ SetAt w' N q ⟨C, [], max m 0, 0⟩ from by rw [hN]; rfl]
  clear hs28 h hl hm hb hw1 hN n1 g1
  go_enter Tryz.func20, Tryz.ntmps20
  go_upto_region 1 with fail
  rw [← HW.out, ← HB.out]
  clear HW
  refine wp_region_spec2 (by kernel_rfl) (by kernel_rfl) (n := 8) (by kernel_rfl) [some 3, some 4, some 5, some 6, some 7, some 8, some 9, some 2] (by kernel_rfl) _ (fun u => (by simp only [fill, List.zipIdx_cons, List.zipIdx_nil, List.foldl_cons, List.foldl_nil, Act.put, List.setIfInBounds_toArray, List.set_cons_zero, List.set_cons_succ, Nat.zero_add, Nat.reduceAdd]; exact rfl)) (by kernel_rfl)
    (all_succ (all_succ (all_succ (all_succ (all_succ (all_succ (all_succ (all_succ (all_zero _) (fun u v => by kernel_rfl)) (fun u v => by kernel_rfl)) (fun u v => by kernel_rfl)) (fun u v => by kernel_rfl)) (fun u v => by kernel_rfl)) (fun u v => by kernel_rfl)) (fun u v => by kernel_rfl)) (fun u v => by kernel_rfl))
    (fun ri v w => match ri with | 0 => v = .agg cs | 1 => ∃ cs', v = .agg cs' ∧ CfAt w cs' C | 2 => v = .pointer (some ⟨b, 22, none⟩) | 3 => v = .int .i64 m | 4 => ∃ tb, v = .pointer (some ⟨tb, 0, none⟩) ∧ N ≤ tb ∧ w.heap[tb]? = some (.cells #[.slice none 0 0, .int .i64 (max m 0), ordV] tTab (0, 0)) | 5 => ∃ cs' tb, v = .agg (cs' ++ #[.pointer (some ⟨tb, 0, none⟩), .int .u32 0]) ∧ CfAt w cs' C ∧ N ≤ tb ∧ w.heap[tb]? = some (.cells #[.slice none 0 0, .int .i64 (max m 0), ordV] tTab (0, 0)) | 6 => ∃ q, v = .pointer (some ⟨q, 0, none⟩) ∧ SetAt w N q ⟨C, [], max m 0, 0⟩ | 7 => ∃ q, v = .pointer (some ⟨q, 0, none⟩) ∧ SetAt w N q ⟨C, [], max m 0, 0⟩ | _ => True)
    (all_succ (all_succ (all_succ (all_succ (all_succ (all_succ (all_succ (all_succ (all_zero _) ?m0) ?m1) ?m2) ?m3) ?m4) ?m5) ?m6) ?m7)
    [[], [0], [], [2], [3], [1, 4], [5], [6]] (by kernel_rfl)
    ⟨?o0, ?o1, ?o2, ?o3, ?o4, ?o5, ?o6, ?o7, trivial⟩ ?done
  case m0 => intro v w w' h g; exact h
  case m1 => intro v w w' h g; obtain ⟨cs', e, hc⟩ := h; exact ⟨cs', e, hc.grow g⟩
  case m2 => intro v w w' h g; exact h
  case m3 => intro v w w' h g; exact h
  case m4 => intro v w w' h g; obtain ⟨tb, e, h1, h2⟩ := h; exact ⟨tb, e, h1, gr_keep g h2 (by simp)⟩
  case m5 => intro v w w' h g; obtain ⟨cs', tb, e, hc, h1, h2⟩ := h; exact ⟨cs', tb, e, hc.grow g, h1, gr_keep g h2 (by simp)⟩
  case m6 => intro v w w' h g; obtain ⟨q, e, h1⟩ := h; exact ⟨q, e, h1.grow g⟩
  case m7 => intro v w w' h g; obtain ⟨q, e, h1⟩ := h; exact ⟨q, e, h1.grow g⟩
  case o0 =>
    intro u w g hd K hK
    clear hd
    simp only [Act.put, List.setIfInBounds_toArray, List.set_cons_zero, List.set_cons_succ] at hK
    refine wp_load_row 51 (.tmp 1) rfl b (by rfl) 51 cs (0, 0) _ (gr_keep g N1.out (by simp)) Tryz.underlying51 rfl HSZ.out ?_
    exact hK _ _ rfl (gr_refl _ _)
  case o1 =>
    intro u w g hd K hK
    have h0 : (u 0) = .agg cs := hd 0 (by simp)
    clear hd
    simp only [Act.put, List.setIfInBounds_toArray, List.set_cons_zero, List.set_cons_succ] at hK
    simp only [h0] at hK ⊢
    go_simp
    refine (copy_any w cs C (HCF.out.grow g) HL.out).mono ?_
    rintro e w' ⟨g', cs', rfl, hc⟩
    exact hK _ _ ⟨cs', rfl, hc⟩ g'
  case o2 =>
    intro u w g hd K hK
    clear hd
    simp only [Act.put, List.setIfInBounds_toArray, List.set_cons_zero, List.set_cons_succ] at hK
    go_simp
    exact hK _ _ rfl (gr_refl _ _)
  case o3 =>
    intro u w g hd K hK
    have h2 : (u 2) = .pointer (some ⟨b, 22, none⟩) := hd 2 (by simp)
    clear hd
    simp only [Act.put, List.setIfInBounds_toArray, List.set_cons_zero, List.set_cons_succ] at hK
    have c := g.cell c22 (by simp)
    simp only [h2] at hK ⊢
    go_simp
    exact hK _ _ rfl (gr_refl _ _)
  case o4 =>
    intro u w g hd K hK
    have h3 : (u 3) = .int .i64 m := hd 3 (by simp)
    clear hd
    simp only [Act.put, List.setIfInBounds_toArray, List.set_cons_zero, List.set_cons_succ] at hK
    simp only [h3] at hK ⊢
    go_simp
    refine (newk_any w m).mono ?_
    rintro e w' ⟨rfl, rfl⟩
    exact hK _ _ ⟨_, rfl, Nat.le_trans HN.out g.size, heap_alloc_new w _⟩ (gr_alloc (gr_refl _ _) _)
  case o5 =>
    intro u w g hd K hK
    have h1 : ∃ cs', (u 1) = .agg cs' ∧ CfAt w cs' C := hd 1 (by simp)
    have h4 : ∃ tb, (u 4) = .pointer (some ⟨tb, 0, none⟩) ∧ N ≤ tb ∧ w.heap[tb]? = some (.cells #[.slice none 0 0, .int .i64 (max m 0), ordV] tTab (0, 0)) := hd 4 (by simp)
    clear hd
    simp only [Act.put, List.setIfInBounds_toArray, List.set_cons_zero, List.set_cons_succ] at hK
    obtain ⟨cs', e1, hc⟩ := h1
    obtain ⟨tb, e4, h5, h6⟩ := h4
    simp only [e1, e4] at hK ⊢
    refine wp_buildC tSet _ rfl (cs' ++ #[.pointer (some ⟨tb, 0, none⟩), .int .u32 0]) [(0, .agg cs'), (1, .pointer (some ⟨tb, 0, none⟩))] (by kernel_rfl) (built_set cs' hc.sz ⟨tb, 0, none⟩) ?_
    exact hK _ _ ⟨cs', tb, rfl, hc, h5, h6⟩ (gr_refl _ _)
  case o6 =>
    intro u w g hd K hK
    have h5 : ∃ cs' tb, (u 5) = .agg (cs' ++ #[.pointer (some ⟨tb, 0, none⟩), .int .u32 0]) ∧ CfAt w cs' C ∧ N ≤ tb ∧ w.heap[tb]? = some (.cells #[.slice none 0 0, .int .i64 (max m 0), ordV] tTab (0, 0)) := hd 5 (by simp)
    clear hd
    simp only [Act.put, List.setIfInBounds_toArray, List.set_cons_zero, List.set_cons_succ] at hK
    obtain ⟨cs', tb, e5, hc, h5', h6⟩ := h5
    simp only [e5] at hK ⊢
    go_simp
    exact hK _ _ ⟨_, rfl, by have := g.size; have := HN.out; omega, cs', tb, .slice none 0 0, heap_alloc_new w _, hc.grow (gr_alloc (gr_refl _ _) _), h5', gr_keep (World.grownBy_alloc w _ none) h6 (by simp), own_none _ _ _ _⟩ (gr_alloc (gr_refl _ _) _)
  case o7 =>
    intro u w g hd K hK
    have h6 : ∃ q, (u 6) = .pointer (some ⟨q, 0, none⟩) ∧ SetAt w N q ⟨C, [], max m 0, 0⟩ := hd 6 (by simp)
    clear hd
    simp only [Act.put, List.setIfInBounds_toArray, List.set_cons_zero, List.set_cons_succ] at hK
    obtain ⟨q, e6, h7⟩ := h6
    simp only [e6] at hK ⊢
    go_simp
    exact hK _ _ ⟨q, rfl, h7⟩ (gr_refl _ _)
  intro u w hS g
  have s0 : (u 0) = .agg cs := hS 0 (by decide)
  have s1 : ∃ cs', (u 1) = .agg cs' ∧ CfAt w cs' C := hS 1 (by decide)
  have s2 : (u 2) = .pointer (some ⟨b, 22, none⟩) := hS 2 (by decide)
  have s3 : (u 3) = .int .i64 m := hS 3 (by decide)
  have s4 : ∃ tb, (u 4) = .pointer (some ⟨tb, 0, none⟩) ∧ N ≤ tb ∧ w.heap[tb]? = some (.cells #[.slice none 0 0, .int .i64 (max m 0), ordV] tTab (0, 0)) := hS 4 (by decide)
  have s5 : ∃ cs' tb, (u 5) = .agg (cs' ++ #[.pointer (some ⟨tb, 0, none⟩), .int .u32 0]) ∧ CfAt w cs' C ∧ N ≤ tb ∧ w.heap[tb]? = some (.cells #[.slice none 0 0, .int .i64 (max m 0), ordV] tTab (0, 0)) := hS 5 (by decide)
  have s6 : ∃ q, (u 6) = .pointer (some ⟨q, 0, none⟩) ∧ SetAt w N q ⟨C, [], max m 0, 0⟩ := hS 6 (by decide)
  have s7 : ∃ q, (u 7) = .pointer (some ⟨q, 0, none⟩) ∧ SetAt w N q ⟨C, [], max m 0, 0⟩ := hS 7 (by decide)
  clear hS
  obtain ⟨q, e7, h8⟩ := s7
  have GY := hid g
  have HQ := hid h8
  clear s0 s1 s2 s3 s4 s5 s6 g h8
  generalize u 0 = y0 at *
  generalize u 1 = y1 at *
  generalize u 2 = y2 at *
  generalize u 3 = y3 at *
  generalize u 4 = y4 at *
  generalize u 5 = y5 at *
  generalize u 6 = y6 at *
  generalize u 7 = y7 at *
  obtain rfl := e7
  go_wp2_with fail
  go_ret
  exact ⟨gr_trans G1.out GY.out, q, rfl, HQ.out⟩
end Go.Proofs.YtmofnoconhgjmaaGreatDoor
