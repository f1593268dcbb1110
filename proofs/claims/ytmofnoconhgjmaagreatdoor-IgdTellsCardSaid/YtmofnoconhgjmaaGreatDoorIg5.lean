/- The table of actions: igd.key, whole, span, actions. -/
import Derived.Test.YtmofnoconhgjmaaGreatDoorStrs
import Derived.Test.YtmofnoconhgjmaaGreatDoorApG
import Derived.Test.YtmofnoconhgjmaaGreatDoorMA
namespace Go.Proofs.YtmofnoconhgjmaaGreatDoor
open Go.RowKit
set_option linter.unusedVariables false
set_option linter.unusedSimpArgs false

/-- Texts in memory. -/
def TxsAt (w : World) (v : Value) (l : List ByteArray) : Prop := ∃ a c, v = .slice a l.length c ∧ (l = [] ∨ ∃ b o, a = some ⟨b, o, none⟩ ∧ ∀ i, i < l.length → w.cell? ⟨b, o + i, none⟩ = some (.string (l.getD i ByteArray.empty)))
theorem TxsAt.grow {w w' : World} {v : Value} {l : List ByteArray} (h : TxsAt w v l) (g : w.grownBy w' none) : TxsAt w' v l := by
  obtain ⟨a, c, e, h⟩ := h
  refine ⟨a, c, e, ?_⟩
  rcases h with h | ⟨b, o, e, h⟩
  · exact .inl h
  · exact .inr ⟨b, o, e, fun i hi => g.cell (h i hi) (by simp)⟩
theorem txs_own {w : World} {N : Nat} {v : Value} {l : List ByteArray} (h : w.ownsRow N 9 1 v l.length (l.map .string)) : TxsAt w v l := by
  rcases h.2 with ⟨rfl, h0⟩ | ⟨g, cap, cur, rfl, hg, hh, hc, hm, hs, ht⟩
  · exact ⟨none, 0, by rw [h0], .inl (List.eq_nil_of_length_eq_zero h0)⟩
  · refine ⟨_, cap, rfl, .inr ⟨g, 0, rfl, fun i hi => ?_⟩⟩
    have := h.cells (g := g) rfl i (.string (l.getD i ByteArray.empty)) (by
      rw [List.getElem?_map, List.getD_eq_getElem?_getD, List.getElem?_eq_getElem hi]
      rfl)
    rwa [Go.WideShapes.add_plain] at this
theorem txs_new {w : World} {b : Nat} {cs : Array Value} {t : TypeId} {l : List ByteArray} {c : Nat} (h : w.heap[b]? = some (.cells cs t (0, 0))) (hc : cs = (l.map Value.string).toArray) : TxsAt w (.slice (some ⟨b, 0, none⟩) l.length c) l := by
  refine ⟨_, c, rfl, .inr ⟨b, 0, rfl, fun i hi => ?_⟩⟩
  rw [cell_of_block h, hc, Nat.zero_add, List.getElem?_toArray, List.getElem?_map, List.getD_eq_getElem?_getD, List.getElem?_eq_getElem hi]
  rfl
def nRem : ByteArray := ⟨#[78, 101, 119, 82, 101, 109, 111, 116, 101, 72, 111, 115, 116]⟩
def nExt : ByteArray := ⟨#[78, 101, 119, 69, 120, 116, 101, 114, 110, 97, 108, 80, 111, 114, 116]⟩
def nPro : ByteArray := ⟨#[78, 101, 119, 80, 114, 111, 116, 111, 99, 111, 108]⟩
def keyN : List ByteArray := [⟨#[78, 101, 119, 82, 101, 109, 111, 116, 101, 72, 111, 115, 116]⟩, ⟨#[78, 101, 119, 69, 120, 116, 101, 114, 110, 97, 108, 80, 111, 114, 116]⟩, ⟨#[78, 101, 119, 80, 114, 111, 116, 111, 99, 111, 108]⟩]
def restN : List ByteArray := [⟨#[78, 101, 119, 73, 110, 116, 101, 114, 110, 97, 108, 80, 111, 114, 116]⟩, ⟨#[78, 101, 119, 73, 110, 116, 101, 114, 110, 97, 108, 67, 108, 105, 101, 110, 116]⟩, ⟨#[78, 101, 119, 69, 110, 97, 98, 108, 101, 100]⟩, ⟨#[78, 101, 119, 80, 111, 114, 116, 77, 97, 112, 112, 105, 110, 103, 68, 101, 115, 99, 114, 105, 112, 116, 105, 111, 110]⟩, ⟨#[78, 101, 119, 76, 101, 97, 115, 101, 68, 117, 114, 97, 116, 105, 111, 110]⟩]
def spanN : List ByteArray := [⟨#[78, 101, 119, 83, 116, 97, 114, 116, 80, 111, 114, 116]⟩, ⟨#[78, 101, 119, 69, 110, 100, 80, 111, 114, 116]⟩, ⟨#[78, 101, 119, 80, 114, 111, 116, 111, 99, 111, 108]⟩, ⟨#[78, 101, 119, 77, 97, 110, 97, 103, 101]⟩]
def numN : List ByteArray := [⟨#[78, 101, 119, 78, 117, 109, 98, 101, 114, 79, 102, 80, 111, 114, 116, 115]⟩]
/-- The actions: their names, and their arguments' names. -/
def actsN : List (ByteArray × List ByteArray) := [(⟨#[83, 101, 116, 67, 111, 110, 110, 101, 99, 116, 105, 111, 110, 84, 121, 112, 101]⟩, [⟨#[78, 101, 119, 67, 111, 110, 110, 101, 99, 116, 105, 111, 110, 84, 121, 112, 101]⟩]), (⟨#[71, 101, 116, 67, 111, 110, 110, 101, 99, 116, 105, 111, 110, 84, 121, 112, 101, 73, 110, 102, 111]⟩, []), (⟨#[82, 101, 113, 117, 101, 115, 116, 67, 111, 110, 110, 101, 99, 116, 105, 111, 110]⟩, []), (⟨#[82, 101, 113, 117, 101, 115, 116, 84, 101, 114, 109, 105, 110, 97, 116, 105, 111, 110]⟩, []), (⟨#[70, 111, 114, 99, 101, 84, 101, 114, 109, 105, 110, 97, 116, 105, 111, 110]⟩, []), (⟨#[71, 101, 116, 83, 116, 97, 116, 117, 115, 73, 110, 102, 111]⟩, []), (⟨#[71, 101, 116, 78, 65, 84, 82, 83, 73, 80, 83, 116, 97, 116, 117, 115]⟩, []), (⟨#[71, 101, 116, 69, 120, 116, 101, 114, 110, 97, 108, 73, 80, 65, 100, 100, 114, 101, 115, 115]⟩, []),
  (⟨#[71, 101, 116, 71, 101, 110, 101, 114, 105, 99, 80, 111, 114, 116, 77, 97, 112, 112, 105, 110, 103, 69, 110, 116, 114, 121]⟩, [⟨#[78, 101, 119, 80, 111, 114, 116, 77, 97, 112, 112, 105, 110, 103, 73, 110, 100, 101, 120]⟩]), (⟨#[71, 101, 116, 83, 112, 101, 99, 105, 102, 105, 99, 80, 111, 114, 116, 77, 97, 112, 112, 105, 110, 103, 69, 110, 116, 114, 121]⟩, keyN), (⟨#[65, 100, 100, 80, 111, 114, 116, 77, 97, 112, 112, 105, 110, 103]⟩, keyN ++ restN), (⟨#[65, 100, 100, 65, 110, 121, 80, 111, 114, 116, 77, 97, 112, 112, 105, 110, 103]⟩, keyN ++ restN), (⟨#[68, 101, 108, 101, 116, 101, 80, 111, 114, 116, 77, 97, 112, 112, 105, 110, 103]⟩, keyN), (⟨#[68, 101, 108, 101, 116, 101, 80, 111, 114, 116, 77, 97, 112, 112, 105, 110, 103, 82, 97, 110, 103, 101]⟩, spanN), (⟨#[71, 101, 116, 76, 105, 115, 116, 79, 102, 80, 111, 114, 116, 77, 97, 112, 112, 105, 110, 103, 115]⟩, spanN ++ numN)]
theorem infoTx : (Tryz.prog.info? 9).map (fun i => (i.zero, i.size, i.bytes)) = some (some (.string ⟨#[]⟩), 1, 16) := by kernel_rfl
def TxPost (w : World) (l : List ByteArray) (e : Ending) (w' : World) : Prop := w.grownBy w' none ∧ ∃ v, e = .returned v ∧ TxsAt w' v l ∧ w'.ownsRow w.heap.size 9 1 v l.length (l.map .string)
theorem own_new {w : World} {N b : Nat} {cs : Array Value} {l : List Value} {t : TypeId} (h : w.heap[b]? = some (.cells cs t (0, 0))) (hc : cs = l.toArray) (hN : N ≤ b) (h0 : 0 < l.length) (hm : l.length ≤ maxLen) : w.ownsRow N t 1 (.slice (some ⟨b, 0, none⟩) l.length l.length) l.length l := by
  refine ⟨by simp, .inr ⟨b, l.length, l.toArray, rfl, hN, by rw [h, hc], Nat.le_refl _, hm, by simp, by simp⟩⟩
theorem src_new {w : World} {b : Nat} {cs : Array Value} {t : TypeId} {l : List Value} (h : w.heap[b]? = some (.cells cs t (0, 0))) (hc : cs = l.toArray) : SrcAt w (some ⟨b, 0, none⟩) l :=
  .inr ⟨_, rfl, fun j u hj => by
    rw [Go.WideShapes.add_plain, cell_of_block h, hc, Nat.zero_add, List.getElem?_toArray]
    exact hj⟩
theorem txs_src {w : World} {v : Value} {l : List ByteArray} (h : TxsAt w v l) : ∃ a c, v = .slice a l.length c ∧ SrcAt w a (l.map .string) := by
  obtain ⟨a, c, e, h⟩ := h
  refine ⟨a, c, e, ?_⟩
  rcases h with rfl | ⟨b, o, rfl, h⟩
  · exact .inl rfl
  · refine .inr ⟨_, rfl, fun j u hj => ?_⟩
    rw [List.getElem?_map] at hj
    obtain ⟨x, hx, rfl⟩ := Option.map_eq_some_iff.1 hj
    have hlt := (List.getElem?_eq_some_iff.1 hx).1
    have := h j hlt
    rw [List.getD_eq_getElem?_getD, hx] at this
    rw [Go.WideShapes.add_plain]
    exact this
theorem key_any (w : World) : Calls Tryz.prog 105 #[] w (TxPost w keyN) := by
  go_enter Tryz.func105, Tryz.ntmps105
  go_wp2
  go_ret
  have h1 := heap_alloc_new w (.cells #[.string ⟨#[78, 101, 119, 82, 101, 109, 111, 116, 101, 72, 111, 115, 116]⟩, .string ⟨#[78, 101, 119, 69, 120, 116, 101, 114, 110, 97, 108, 80, 111, 114, 116]⟩, .string ⟨#[78, 101, 119, 80, 114, 111, 116, 111, 99, 111, 108]⟩] 9)
  exact ⟨by (repeat (first | exact gr_refl _ _ | assumption | refine gr_drew ?_ | refine gr_drewN _ ?_ | refine gr_alloc ?_ _ | refine gr_set ?_ | refine gr_set_new ?_ (by first | omega | (simp; omega)))), _, rfl, txs_new (l := keyN) h1 rfl, own_new (l := keyN.map .string) h1 rfl (Nat.le_refl _) (by decide) (by decide)⟩
theorem txs_one (l : List ByteArray) : ∀ u ∈ l.map Value.string, u.oneCell' = true := by
  intro u hu
  obtain ⟨x, -, rfl⟩ := List.mem_map.1 hu
  rfl
set_option maxHeartbeats 4000000 in
theorem whole_any (w : World) : Calls Tryz.prog 106 #[] w (TxPost w (keyN ++ restN)) := by
  obtain ⟨i0, hi, hz0, hz1, hz2⟩ := info_parts infoTx
  go_enter Tryz.func106, Tryz.ntmps106
  go_wp2_with fail
  refine (key_any w).mono ?_
  rintro e w1 ⟨g1, v1, rfl, -, ho⟩
  have n2 := heap_alloc_new w1 (.cells #[.string ⟨#[78, 101, 119, 73, 110, 116, 101, 114, 110, 97, 108, 80, 111, 114, 116]⟩, .string ⟨#[78, 101, 119, 73, 110, 116, 101, 114, 110, 97, 108, 67, 108, 105, 101, 110, 116]⟩, .string ⟨#[78, 101, 119, 69, 110, 97, 98, 108, 101, 100]⟩, .string ⟨#[78, 101, 119, 80, 111, 114, 116, 77, 97, 112, 112, 105, 110, 103, 68, 101, 115, 99, 114, 105, 112, 116, 105, 111, 110]⟩, .string ⟨#[78, 101, 119, 76, 101, 97, 115, 101, 68, 117, 114, 97, 116, 105, 111, 110]⟩] 9)
  have g2 := World.grownBy_alloc w1 (.cells #[.string ⟨#[78, 101, 119, 73, 110, 116, 101, 114, 110, 97, 108, 80, 111, 114, 116]⟩, .string ⟨#[78, 101, 119, 73, 110, 116, 101, 114, 110, 97, 108, 67, 108, 105, 101, 110, 116]⟩, .string ⟨#[78, 101, 119, 69, 110, 97, 98, 108, 101, 100]⟩, .string ⟨#[78, 101, 119, 80, 111, 114, 116, 77, 97, 112, 112, 105, 110, 103, 68, 101, 115, 99, 114, 105, 112, 116, 105, 111, 110]⟩, .string ⟨#[78, 101, 119, 76, 101, 97, 115, 101, 68, 117, 114, 97, 116, 105, 111, 110]⟩] 9) none
  have HS := hid (src_new (l := restN.map .string) n2 rfl)
  have HO := hid (own_growG ho g2)
  have G2 := hid (gr_trans g1 g2)
  have HLE := hid (show w.heap.size ≤ (w1.alloc (.cells #[.string ⟨#[78, 101, 119, 73, 110, 116, 101, 114, 110, 97, 108, 80, 111, 114, 116]⟩, .string ⟨#[78, 101, 119, 73, 110, 116, 101, 114, 110, 97, 108, 67, 108, 105, 101, 110, 116]⟩, .string ⟨#[78, 101, 119, 69, 110, 97, 98, 108, 101, 100]⟩, .string ⟨#[78, 101, 119, 80, 111, 114, 116, 77, 97, 112, 112, 105, 110, 103, 68, 101, 115, 99, 114, 105, 112, 116, 105, 111, 110]⟩, .string ⟨#[78, 101, 119, 76, 101, 97, 115, 101, 68, 117, 114, 97, 116, 105, 111, 110]⟩] 9)).heap.size from G2.out.size)
  clear n2 g2 ho g1
  go_wp2_with (at_builtin; refine wpl_appG rfl _ _ 41 rfl (size := 1) (bytes := 16) Tryz.underlying41 hi hz0 hz1 hz2 rfl (by decide) rfl HO.out rfl (news := restN.map .string) rfl HS.out (txs_one _) (by decide) (by decide) HLE.out ?_; intro v3 w3 h3 g3 _)
  go_ret
  have g3' : w.grownBy w3 none := gr_own G2.out HO.out (Nat.le_refl _) g3
  exact ⟨g3', v3, rfl, txs_own h3, h3⟩
set_option maxHeartbeats 4000000 in
theorem span_any (w : World) (v : Value) (l : List ByteArray) (hv : TxsAt w v l) (hl : l.length ≤ 100) : Calls Tryz.prog 107 #[v] w (TxPost w (spanN ++ l)) := by
  obtain ⟨i0, hi, hz0, hz1, hz2⟩ := info_parts infoTx
  obtain ⟨a, c, rfl, hs⟩ := txs_src hv
  have n2 := heap_alloc_new w (.cells #[.string ⟨#[78, 101, 119, 83, 116, 97, 114, 116, 80, 111, 114, 116]⟩, .string ⟨#[78, 101, 119, 69, 110, 100, 80, 111, 114, 116]⟩, .string ⟨#[78, 101, 119, 80, 114, 111, 116, 111, 99, 111, 108]⟩, .string ⟨#[78, 101, 119, 77, 97, 110, 97, 103, 101]⟩] 9)
  have g2 := gr_alloc (gr_refl w none) (.cells #[.string ⟨#[78, 101, 119, 83, 116, 97, 114, 116, 80, 111, 114, 116]⟩, .string ⟨#[78, 101, 119, 69, 110, 100, 80, 111, 114, 116]⟩, .string ⟨#[78, 101, 119, 80, 114, 111, 116, 111, 99, 111, 108]⟩, .string ⟨#[78, 101, 119, 77, 97, 110, 97, 103, 101]⟩] 9)
  have HO := hid (own_new (N := w.heap.size) (l := spanN.map .string) n2 rfl (Nat.le_refl _) (by decide) (by decide))
  have HS := hid (show SrcAt (w.alloc (.cells #[.string ⟨#[78, 101, 119, 83, 116, 97, 114, 116, 80, 111, 114, 116]⟩, .string ⟨#[78, 101, 119, 69, 110, 100, 80, 111, 114, 116]⟩, .string ⟨#[78, 101, 119, 80, 114, 111, 116, 111, 99, 111, 108]⟩, .string ⟨#[78, 101, 119, 77, 97, 110, 97, 103, 101]⟩] 9)) a (l.map .string) from by
    rcases hs with h | ⟨ad, e, h⟩
    · exact .inl h
    · exact .inr ⟨ad, e, fun j u hj => g2.cell (h j u hj) (by simp)⟩)
  have G2 := hid g2
  have HLE := hid (show w.heap.size ≤ (w.alloc (.cells #[.string ⟨#[78, 101, 119, 83, 116, 97, 114, 116, 80, 111, 114, 116]⟩, .string ⟨#[78, 101, 119, 69, 110, 100, 80, 111, 114, 116]⟩, .string ⟨#[78, 101, 119, 80, 114, 111, 116, 111, 99, 111, 108]⟩, .string ⟨#[78, 101, 119, 77, 97, 110, 97, 103, 101]⟩] 9)).heap.size from g2.size)
  clear n2 g2 hv hs
  go_enter Tryz.func107, Tryz.ntmps107
  go_wp2_with (at_builtin; refine wpl_appG rfl _ _ 41 rfl (size := 1) (bytes := 16) Tryz.underlying41 hi hz0 hz1 hz2 rfl (by decide) rfl HO.out rfl (news := l.map .string) (by simp) HS.out (txs_one _) (by unfold maxLen; show 4 + _ ≤ _; omega) (by show (4 + _) * _ ≤ _; omega) HLE.out ?_; intro v3 w3 h3 g3 _)
  go_ret
  have g3' : w.grownBy w3 none := gr_own G2.out HO.out (Nat.le_refl _) g3
  have h3' : w3.ownsRow w.heap.size 9 1 v3 (spanN ++ l).length ((spanN ++ l).map .string) := by
    rw [List.map_append, List.length_append]
    exact h3
  exact ⟨g3', v3, rfl, txs_own h3', h3'⟩
/-- The table in memory. -/
def ActsAt (w : World) (v : Value) : Prop := ∃ b, v = .slice (some ⟨b, 0, none⟩) 15 15 ∧ ∀ i, i < 15 → w.cell? ⟨b, i * 2, none⟩ = some (.string (actsN.getD i (ByteArray.empty, [])).1) ∧ ∃ av, w.cell? ⟨b, i * 2 + 1, none⟩ = some av ∧ TxsAt w av (actsN.getD i (ByteArray.empty, [])).2
theorem ActsAt.grow {w w' : World} {v : Value} (h : ActsAt w v) (g : w.grownBy w' none) : ActsAt w' v := by
  obtain ⟨b, e, h⟩ := h
  refine ⟨b, e, fun i hi => ?_⟩
  obtain ⟨h1, av, h2, h3⟩ := h i hi
  exact ⟨g.cell h1 (by simp), av, g.cell h2 (by simp), h3.grow g⟩
def ActsPost (w : World) (e : Ending) (w' : World) : Prop := w.grownBy w' none ∧ ∃ v, e = .returned v ∧ ActsAt w' v
set_option maxRecDepth 100000 in
set_option maxHeartbeats 4000000 in
theorem actions_any (w : World) : Calls Tryz.prog 58 #[] w (ActsPost w) := by
  have nA := heap_alloc_new w (.cells #[.string ⟨#[78, 101, 119, 67, 111, 110, 110, 101, 99, 116, 105, 111, 110, 84, 121, 112, 101]⟩] 9)
  have gA := gr_alloc (gr_refl w none) (.cells #[.string ⟨#[78, 101, 119, 67, 111, 110, 110, 101, 99, 116, 105, 111, 110, 84, 121, 112, 101]⟩] 9)
  have nB := heap_alloc_new (w.alloc (.cells #[.string ⟨#[78, 101, 119, 67, 111, 110, 110, 101, 99, 116, 105, 111, 110, 84, 121, 112, 101]⟩] 9)) (.cells #[.string ⟨#[78, 101, 119, 80, 111, 114, 116, 77, 97, 112, 112, 105, 110, 103, 73, 110, 100, 101, 120]⟩] 9)
  have gB := World.grownBy_alloc (w.alloc (.cells #[.string ⟨#[78, 101, 119, 67, 111, 110, 110, 101, 99, 116, 105, 111, 110, 84, 121, 112, 101]⟩] 9)) (.cells #[.string ⟨#[78, 101, 119, 80, 111, 114, 116, 77, 97, 112, 112, 105, 110, 103, 73, 110, 100, 101, 120]⟩] 9) none
  rw [World.size_alloc] at nB
  have GA := hid (gr_trans gA gB)
  have TA := hid (txs_new (l := [⟨#[78, 101, 119, 67, 111, 110, 110, 101, 99, 116, 105, 111, 110, 84, 121, 112, 101]⟩]) (c := 1) (gr_keep gB nA (by simp)) rfl)
  have TB := hid (txs_new (l := [⟨#[78, 101, 119, 80, 111, 114, 116, 77, 97, 112, 112, 105, 110, 103, 73, 110, 100, 101, 120]⟩]) (c := 1) nB rfl)
  obtain ⟨wA, hwA⟩ : ∃ x, x = (w.alloc (.cells #[.string ⟨#[78, 101, 119, 67, 111, 110, 110, 101, 99, 116, 105, 111, 110, 84, 121, 112, 101]⟩] 9)).alloc (.cells #[.string ⟨#[78, 101, 119, 80, 111, 114, 116, 77, 97, 112, 112, 105, 110, 103, 73, 110, 100, 101, 120]⟩] 9) := ⟨_, rfl⟩
  rw [← hwA] at GA TA TB
  have HW := hid hwA
  clear nA gA nB gB hwA
  go_enter Tryz.func58, Tryz.ntmps58
  go_wp2_with fail
  rw [← HW.out]
  clear HW
  refine (key_any wA).mono ?_
  rintro e w1 ⟨g1, v1, rfl, t1, -⟩
  have T1 := hid t1
  obtain ⟨a1, c1, rfl, -⟩ := t1
  have G1 := hid (gr_trans GA.out g1)
  have E1 := hid g1
  clear g1
  go_wp2_with fail
  refine (whole_any w1).mono ?_
  rintro e w2 ⟨g2, v2, rfl, t2, -⟩
  have T2 := hid t2
  obtain ⟨a2, c2, rfl, -⟩ := t2
  have G2 := hid (gr_trans G1.out g2)
  have E2 := hid g2
  clear g2
  go_wp2_with fail
  refine (whole_any w2).mono ?_
  rintro e w3 ⟨g3, v3, rfl, t3, -⟩
  have T3 := hid t3
  obtain ⟨a3, c3, rfl, -⟩ := t3
  have G3 := hid (gr_trans G2.out g3)
  have E3 := hid g3
  clear g3
  go_wp2_with fail
  refine (key_any w3).mono ?_
  rintro e w4 ⟨g4, v4, rfl, t4, -⟩
  have T4 := hid t4
  obtain ⟨a4, c4, rfl, -⟩ := t4
  have G4 := hid (gr_trans G3.out g4)
  have E4 := hid g4
  clear g4
  go_wp2_with fail
  refine (span_any w4 (.slice none 0 0) [] ⟨none, 0, rfl, .inl rfl⟩ (by simp)).mono ?_
  rintro e w5 ⟨g5, v5, rfl, t5, -⟩
  have T5 := hid t5
  obtain ⟨a5, c5, rfl, -⟩ := t5
  have G5 := hid (gr_trans G4.out g5)
  have E5 := hid g5
  have n6 := heap_alloc_new w5 (.cells #[.string ⟨#[78, 101, 119, 78, 117, 109, 98, 101, 114, 79, 102, 80, 111, 114, 116, 115]⟩] 9)
  have g6 := World.grownBy_alloc w5 (.cells #[.string ⟨#[78, 101, 119, 78, 117, 109, 98, 101, 114, 79, 102, 80, 111, 114, 116, 115]⟩] 9) none
  have TN := hid (txs_new (l := numN) (c := 1) n6 rfl)
  have E6 := hid g6
  clear g5 n6 g6
  go_wp2_with fail
  refine (span_any _ _ numN TN.out (by decide)).mono ?_
  rintro e w7 ⟨g7, v7, rfl, t7, -⟩
  have T7 := hid t7
  obtain ⟨a7, c7, rfl, -⟩ := t7
  have E7 := hid (gr_trans E6.out g7)
  have G7 := hid (gr_trans G5.out E7.out)
  clear g7 TN
  go_wp2_with fail
  go_ret
  have nF := heap_alloc_new w7 (.cells #[.string ⟨#[83, 101, 116, 67, 111, 110, 110, 101, 99, 116, 105, 111, 110, 84, 121, 112, 101]⟩, .slice (some ⟨w.heap.size, 0, none⟩) 1 1, .string ⟨#[71, 101, 116, 67, 111, 110, 110, 101, 99, 116, 105, 111, 110, 84, 121, 112, 101, 73, 110, 102, 111]⟩, .slice none 0 0, .string ⟨#[82, 101, 113, 117, 101, 115, 116, 67, 111, 110, 110, 101, 99, 116, 105, 111, 110]⟩, .slice none 0 0, .string ⟨#[82, 101, 113, 117, 101, 115, 116, 84, 101, 114, 109, 105, 110, 97, 116, 105, 111, 110]⟩, .slice none 0 0, .string ⟨#[70, 111, 114, 99, 101, 84, 101, 114, 109, 105, 110, 97, 116, 105, 111, 110]⟩, .slice none 0 0, .string ⟨#[71, 101, 116, 83, 116, 97, 116, 117, 115, 73, 110, 102, 111]⟩, .slice none 0 0, .string ⟨#[71, 101, 116, 78, 65, 84, 82, 83, 73, 80, 83, 116, 97, 116, 117, 115]⟩, .slice none 0 0, .string ⟨#[71, 101, 116, 69, 120, 116, 101, 114, 110, 97, 108, 73, 80, 65, 100, 100, 114, 101, 115, 115]⟩, .slice none 0 0,
    .string ⟨#[71, 101, 116, 71, 101, 110, 101, 114, 105, 99, 80, 111, 114, 116, 77, 97, 112, 112, 105, 110, 103, 69, 110, 116, 114, 121]⟩, .slice (some ⟨w.heap.size + 1, 0, none⟩) 1 1, .string ⟨#[71, 101, 116, 83, 112, 101, 99, 105, 102, 105, 99, 80, 111, 114, 116, 77, 97, 112, 112, 105, 110, 103, 69, 110, 116, 114, 121]⟩, .slice a1 keyN.length c1, .string ⟨#[65, 100, 100, 80, 111, 114, 116, 77, 97, 112, 112, 105, 110, 103]⟩, .slice a2 (keyN.length + restN.length) c2, .string ⟨#[65, 100, 100, 65, 110, 121, 80, 111, 114, 116, 77, 97, 112, 112, 105, 110, 103]⟩, .slice a3 (keyN.length + restN.length) c3, .string ⟨#[68, 101, 108, 101, 116, 101, 80, 111, 114, 116, 77, 97, 112, 112, 105, 110, 103]⟩, .slice a4 keyN.length c4, .string ⟨#[68, 101, 108, 101, 116, 101, 80, 111, 114, 116, 77, 97, 112, 112, 105, 110, 103, 82, 97, 110, 103, 101]⟩, .slice a5 spanN.length c5, .string ⟨#[71, 101, 116, 76, 105, 115, 116, 79, 102, 80, 111, 114, 116, 77, 97, 112, 112, 105, 110, 103, 115]⟩, .slice a7 (spanN.length + numN.length) c7] 134)
  have gF := World.grownBy_alloc w7 (.cells #[.string ⟨#[83, 101, 116, 67, 111, 110, 110, 101, 99, 116, 105, 111, 110, 84, 121, 112, 101]⟩, .slice (some ⟨w.heap.size, 0, none⟩) 1 1, .string ⟨#[71, 101, 116, 67, 111, 110, 110, 101, 99, 116, 105, 111, 110, 84, 121, 112, 101, 73, 110, 102, 111]⟩, .slice none 0 0, .string ⟨#[82, 101, 113, 117, 101, 115, 116, 67, 111, 110, 110, 101, 99, 116, 105, 111, 110]⟩, .slice none 0 0, .string ⟨#[82, 101, 113, 117, 101, 115, 116, 84, 101, 114, 109, 105, 110, 97, 116, 105, 111, 110]⟩, .slice none 0 0, .string ⟨#[70, 111, 114, 99, 101, 84, 101, 114, 109, 105, 110, 97, 116, 105, 111, 110]⟩, .slice none 0 0, .string ⟨#[71, 101, 116, 83, 116, 97, 116, 117, 115, 73, 110, 102, 111]⟩, .slice none 0 0, .string ⟨#[71, 101, 116, 78, 65, 84, 82, 83, 73, 80, 83, 116, 97, 116, 117, 115]⟩, .slice none 0 0, .string ⟨#[71, 101, 116, 69, 120, 116, 101, 114, 110, 97, 108, 73, 80, 65, 100, 100, 114, 101, 115, 115]⟩, .slice none 0 0,
    .string ⟨#[71, 101, 116, 71, 101, 110, 101, 114, 105, 99, 80, 111, 114, 116, 77, 97, 112, 112, 105, 110, 103, 69, 110, 116, 114, 121]⟩, .slice (some ⟨w.heap.size + 1, 0, none⟩) 1 1, .string ⟨#[71, 101, 116, 83, 112, 101, 99, 105, 102, 105, 99, 80, 111, 114, 116, 77, 97, 112, 112, 105, 110, 103, 69, 110, 116, 114, 121]⟩, .slice a1 keyN.length c1, .string ⟨#[65, 100, 100, 80, 111, 114, 116, 77, 97, 112, 112, 105, 110, 103]⟩, .slice a2 (keyN.length + restN.length) c2, .string ⟨#[65, 100, 100, 65, 110, 121, 80, 111, 114, 116, 77, 97, 112, 112, 105, 110, 103]⟩, .slice a3 (keyN.length + restN.length) c3, .string ⟨#[68, 101, 108, 101, 116, 101, 80, 111, 114, 116, 77, 97, 112, 112, 105, 110, 103]⟩, .slice a4 keyN.length c4, .string ⟨#[68, 101, 108, 101, 116, 101, 80, 111, 114, 116, 77, 97, 112, 112, 105, 110, 103, 82, 97, 110, 103, 101]⟩, .slice a5 spanN.length c5, .string ⟨#[71, 101, 116, 76, 105, 115, 116, 79, 102, 80, 111, 114, 116, 77, 97, 112, 112, 105, 110, 103, 115]⟩, .slice a7 (spanN.length + numN.length) c7] 134) none
  have k7 := gr_trans E7.out gF
  have k5 := gr_trans E5.out k7
  have k4 := gr_trans E4.out k5
  have k3 := gr_trans E3.out k4
  have k2 := gr_trans E2.out k3
  have k1 := gr_trans E1.out k2
  have tA := TA.out.grow k1
  have tB := TB.out.grow k1
  have t1 := T1.out.grow k2
  have t2 := T2.out.grow k3
  have t3 := T3.out.grow k4
  have t4 := T4.out.grow k5
  have t5 := T5.out.grow k7
  have t7 := T7.out.grow gF
  refine ⟨gr_trans G7.out gF, _, rfl, w7.heap.size, rfl, fun i hi => ?_⟩
  rw [cell_of_block nF, cell_of_block nF]
  have z : ∀ W, TxsAt W (.slice none 0 0) [] := fun W => ⟨none, 0, rfl, .inl rfl⟩
  match i, hi with
  | 0, _ => exact ⟨rfl, _, rfl, tA⟩
  | 1, _ => exact ⟨rfl, _, rfl, z _⟩
  | 2, _ => exact ⟨rfl, _, rfl, z _⟩
  | 3, _ => exact ⟨rfl, _, rfl, z _⟩
  | 4, _ => exact ⟨rfl, _, rfl, z _⟩
  | 5, _ => exact ⟨rfl, _, rfl, z _⟩
  | 6, _ => exact ⟨rfl, _, rfl, z _⟩
  | 7, _ => exact ⟨rfl, _, rfl, z _⟩
  | 8, _ => exact ⟨rfl, _, rfl, tB⟩
  | 9, _ => exact ⟨rfl, _, rfl, t1⟩
  | 10, _ => exact ⟨rfl, _, rfl, t2⟩
  | 11, _ => exact ⟨rfl, _, rfl, t3⟩
  | 12, _ => exact ⟨rfl, _, rfl, t4⟩
  | 13, _ => exact ⟨rfl, _, rfl, t5⟩
  | 14, _ => exact ⟨rfl, _, rfl, t7⟩
end Go.Proofs.YtmofnoconhgjmaaGreatDoor
