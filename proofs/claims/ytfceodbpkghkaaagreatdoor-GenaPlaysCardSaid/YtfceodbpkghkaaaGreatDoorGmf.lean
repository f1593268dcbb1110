/- slices.DeleteFunc of variables with (*gena.sub).knows. -/
import Derived.Test.YtfceodbpkghkaaaGreatDoorMD
import Derived.Test.YtfceodbpkghkaaaGreatDoorMO
import Derived.Lib.SliceRun
namespace Go.Proofs.YtfceodbpkghkaaaGreatDoor
open Go.RowKit
set_option linter.unusedVariables false
set_option linter.unusedSimpArgs false

/-- 'clear(s)', elements of k cells: the cells are written, from the first one on. -/
theorem run_clear_any {P : Program} (w : World) (t e ty : TypeId) (z : Value) (ht : P.underlying t = some (.slice e)) (hv : ∀ w, (zeroValue e).run P w = .ok z w) (k : Nat) (hk : 0 < k) (hz : z.cells.size = k) (h1 : ∀ i, i < k → (z.cells[i]!).oneCell' = true) (b o n c : Nat) (hn : 0 < n)
    (hc : ∀ j, j < n * k → (w.cell? ⟨b, o + j, none⟩).isSome = true) (hf : ∀ j, j < n * k → w.frozen? ⟨b, o + j, none⟩ = false) :
    ∃ Z, (Builtin.clear_ #[t] ty #[.slice (some ⟨b, o, none⟩) n c]).run P w = .ok (.tuple #[]) (w.setCells b o Z) := by
  refine ⟨(Builtin.zeroCells z.cells n).toList, ?_⟩
  have hlen : (Builtin.zeroCells z.cells n).toList.length = n * k := by simp [Builtin.zeroCells, hz]
  have hst := run_storeCells_cells (P := P) b o (Builtin.zeroCells z.cells n).toList 0 w (by rw [hlen]; simpa using hc) (by rw [hlen]; simpa using hf) (by
    intro v hv'
    simp only [Builtin.zeroCells, Array.toList_map, List.mem_map, hz] at hv'
    obtain ⟨i, -, rfl⟩ := hv'
    exact h1 _ (Nat.mod_lt _ hk))
  simp only [Nat.add_zero] at hst
  obtain ⟨m, rfl⟩ : ∃ m, n = m + 1 := ⟨n - 1, by omega⟩
  simp [Builtin.clear_, run_underlying ht, hv, hst]
/-- The round of DeleteFunc: i are kept, j are seen. -/
structure DaR (x : Sb) (L : Gp) (g cap : Nat) (w wr : World) (i j : Nat) : Prop where
  lt : i < j
  le : j ≤ L.length
  gw : w.grownBy wr (some g)
  row : ∃ cur, wr.heap[g]? = some (.cells cur 58 (0, 0)) ∧ cur.size = cap * 2 ∧ cur.toList.take (i * 2) = flatA ((L.take j).filter fun y => !PK x y) ∧ i = ((L.take j).filter fun y => !PK x y).length ∧ ∀ k y, j ≤ k → L[k]? = some y → cur[k * 2]? = some (.string ⟨y.1.toArray⟩) ∧ cur[k * 2 + 1]? = some (.string ⟨y.2.toArray⟩)
theorem hitA_no (p : Sb) : ∀ (L : Gp) (j : Nat) (x), j < hitA p L → L[j]? = some x → PK p x = false := by
  intro L
  induction L with
  | nil => intro j x h; simp [hitA] at h
  | cons y l ih =>
    intro j x h hx
    unfold hitA at h
    cases hy : PK p y with
    | true => rw [List.takeWhile_cons_of_neg (by simp [hy])] at h; simp at h
    | false =>
      rw [List.takeWhile_cons_of_pos (by simp [hy]), List.length_cons] at h
      cases j with
      | zero => obtain rfl : y = x := by simpa using hx
                exact hy
      | succ j => exact ih j x (by unfold hitA; omega) (by simpa using hx)
theorem hitA_yes (p : Sb) : ∀ (L : Gp) (x), L[hitA p L]? = some x → PK p x = true := by
  intro L
  induction L with
  | nil => intro x h; simp [hitA] at h
  | cons y l ih =>
    intro x h
    unfold hitA at h
    cases hy : PK p y with
    | true => rw [List.takeWhile_cons_of_neg (by simp [hy])] at h
              obtain rfl : y = x := by simpa using h
              exact hy
    | false => rw [List.takeWhile_cons_of_pos (by simp [hy]), List.length_cons] at h
               exact ih x (by unfold hitA; simpa using h)
theorem hitA_le (p : Sb) (L : Gp) : hitA p L ≤ L.length := (List.takeWhile_sublist _).length_le
theorem filterA_all {L : Gp} {p : Sb} (k : Nat) (hk : k ≤ L.length) (h : ∀ j x, j < k → L[j]? = some x → PK p x = false) : (L.take k).filter (fun e => !PK p e) = L.take k := by
  rw [List.filter_eq_self]
  intro e he
  obtain ⟨j, hj, rfl⟩ := List.getElem_of_mem he
  have hjk : j < k := by rw [List.length_take] at hj; omega
  have := h j (L[j]'(by omega)) hjk (List.getElem?_eq_getElem (by omega))
  simp [this]
theorem flatA_app (a b : Gp) : flatA (a ++ b) = flatA a ++ flatA b := by unfold flatA; rw [List.flatMap_append]
theorem flatA_take (L : Gp) : ∀ k, (flatA L).take (k * 2) = flatA (L.take k) := by
  unfold flatA
  induction L with
  | nil => intro k; simp
  | cons x L ih =>
    intro k
    cases k with
    | zero => simp
    | succ k =>
      rw [show (k + 1) * 2 = k * 2 + 2 by omega, List.flatMap_cons, List.take_succ_cons, List.flatMap_cons, ← ih k]
      rfl
theorem set_two {cur : Array Value} {i : Nat} (h : i * 2 + 1 < cur.size) (u v : Value) : ((cur.setIfInBounds (i * 2) u).setIfInBounds (i * 2 + 1) v).toList.take ((i + 1) * 2) = cur.toList.take (i * 2) ++ [u, v] := by
  apply List.ext_getElem?
  intro j
  rw [show (i + 1) * 2 = i * 2 + 2 by omega]
  by_cases hj : j < i * 2 + 2
  · rw [List.getElem?_take_of_lt hj, Array.getElem?_toList, Array.getElem?_setIfInBounds, Array.getElem?_setIfInBounds]
    by_cases h1 : j < i * 2
    · rw [if_neg (by omega), if_neg (by omega), List.getElem?_append_left (by simp; omega), List.getElem?_take_of_lt h1, Array.getElem?_toList]
    · rw [List.getElem?_append_right (by simp; omega)]
      simp only [List.length_take, Array.length_toList, Nat.min_eq_left (show i * 2 ≤ cur.size by omega)]
      rcases (show j = i * 2 ∨ j = i * 2 + 1 by omega) with rfl | rfl
      · rw [if_neg (by omega), if_pos rfl, if_pos (by omega), Nat.sub_self]; rfl
      · rw [if_pos rfl, Array.size_setIfInBounds, if_pos (by omega), show i * 2 + 1 - i * 2 = 1 by omega]; rfl
  · rw [List.getElem?_eq_none (by simp; omega), List.getElem?_eq_none (by simp; omega)]
set_option maxRecDepth 20000 in
set_option maxHeartbeats 4000000 in
theorem deletea_x (N base : Nat) (d : Nat) (x : Sb) (L : Gp) (v : Value) (w : World) (h : PSub w N (fun b => b < base) d x) (hdb : d < base) (hL : OwnA w base v L) (hn : L.length ≤ 1000000) :
    Calls Tryz.prog 46 #[v, .func (Fn.func 48) #[.pointer (some ⟨d, 0, none⟩)] #[]] w fun e w' => ∃ v', e = .returned v' ∧ OwnA w' base v' (newsL x L) ∧ w.grownBy w' v.ownBlock := by
  have hnews : newsL x L = L.filter fun y => !PK x y := by
    unfold newsL PK
    congr 1
    funext y
    by_cases hy : y ∈ x.last <;> simp [hy]
  have HI := hid (indexa_x N (fun b => b < base) d x L v w h ((hL.keep N (fun _ => True) (fun _ _ => trivial)).at) (by omega))
  have HR := hid hL
  have HP := hid h
  obtain ⟨a, cap0, rfl⟩ := own_shapeG hL
  rw [hnews]
  clear hL h hnews
  go_enter Tryz.func46, Tryz.ntmps46
  go_wp2_with fail
  refine HI.out.mono ?_
  rintro e w1 ⟨rfl, g1⟩
  have G1 := hid g1
  clear HI g1
  by_cases hlt : hitA x L < L.length
  rotate_left
  · have e1 : hitAI x L = -1 := by unfold hitAI; rw [if_neg (by omega)]
    rw [e1]
    have hall : L.filter (fun e => !PK x e) = L := by
      have := filterA_all (L := L) (p := x) L.length (Nat.le_refl _) (fun j y hj hy => hitA_no x _ j y (by omega) hy)
      rwa [List.take_length] at this
    have HALL := hid hall
    clear e1 hlt hall
    go_wp2_with fail
    go_ret
    exact ⟨_, rfl, by rw [HALL.out]; exact own_growG HR.out G1.out, gr_none G1.out⟩
  obtain ⟨i0, hi0⟩ : ∃ i, i = hitA x L := ⟨_, rfl⟩
  have e1 : hitAI x L = (i0 : Int) := by unfold hitAI; rw [if_pos (by omega), hi0]
  rw [e1]
  have hne1 : ((i0 : Int) == -1) = false := beq_eq_false_iff_ne.2 (by omega)
  have hno := fun j y (hj : j < i0) hy => hitA_no x L j y (by omega) hy
  have hyes : ∀ y, L[i0]? = some y → PK x y = true := fun y hy => hitA_yes x L y (by rw [← hi0]; exact hy)
  have hi0l : i0 < L.length := by omega
  rcases HR.out.2 with ⟨e2, h0⟩ | ⟨g, cap, cur, e2, hN, hb, hc, hm, hs, ht⟩
  · omega
  obtain ⟨rfl, -, rfl⟩ : a = some ⟨g, 0, none⟩ ∧ L.length = L.length ∧ cap0 = cap := by simpa using e2
  have hat : ∀ (k : Nat) y, L[k]? = some y → cur[k * 2]? = some (.string ⟨y.1.toArray⟩) ∧ cur[k * 2 + 1]? = some (.string ⟨y.2.toArray⟩) := by
    intro k y hy
    have hk := (List.getElem?_eq_some_iff.1 hy).1
    obtain ⟨q0, q1⟩ := flatA_at L k hk
    have hyD : L.getD k ([], []) = y := by rw [List.getD_eq_getElem?_getD, hy]; rfl
    unfold gN at q0
    unfold gV at q1
    rw [hyD] at q0 q1
    rw [← ht, List.getElem?_take_of_lt (by omega), Array.getElem?_toList] at q0 q1
    exact ⟨q0, q1⟩
  have START := hid (show DaR x L g cap0 w w1 i0 (i0 + 1) from ⟨by omega, by omega, gr_none G1.out, cur, gr_keep G1.out hb (by simp), by omega, by
    have hfa := filterA_all (L := L) (p := x) i0 (by omega) hno
    obtain ⟨e, he⟩ : ∃ e, L[i0]? = some e := ⟨_, List.getElem?_eq_getElem hi0l⟩
    rw [List.take_add_one, he, List.filter_append, hfa]
    simp only [Option.toList_some]
    rw [List.filter_cons_of_neg (by simp [hyes e he]), List.filter_nil, List.append_nil, ← flatA_take, ← ht, List.take_take, Nat.min_eq_left (by omega)], by
    have hfa := filterA_all (L := L) (p := x) i0 (by omega) hno
    obtain ⟨e, he⟩ : ∃ e, L[i0]? = some e := ⟨_, List.getElem?_eq_getElem hi0l⟩
    rw [List.take_add_one, he, List.filter_append, hfa]
    simp only [Option.toList_some]
    rw [List.filter_cons_of_neg (by simp [hyes e he]), List.filter_nil, List.append_nil, List.length_take]; omega, fun k e _ he => hat k e he⟩)
  have HB := hid (And.intro hN (And.intro hc hm))
  clear hno hyes hat hi0 e1 e2 ht hb hs hN hlt
  go_wp2_with fail
  go_loopw [5, 6, 7] (fun v5 v6 _ wr => ∃ i j : Nat, v5 = .int .i64 (i : Int) ∧ v6 = .int .i64 (j : Int) ∧ Hid (DaR x L g cap0 w wr i j)) (fun _ v6 _ _ => L.length - (intOf v6).toNat)
  case atStart => exact ⟨i0, i0 + 1, rfl, by go_num, START⟩
  case round =>
    obtain ⟨i, j, rfl, rfl, hD⟩ := hrel
    have hij := hD.out.lt
    have hjn := hD.out.le
    by_cases hjl : j < L.length
    · obtain ⟨y, he⟩ : ∃ e, L[j]? = some e := ⟨_, List.getElem?_eq_getElem hjl⟩
      obtain ⟨cur1, hb1, hs1, ht1, hi1, hr1⟩ := hD.out.row
      have q0 : wr.cell? ⟨g, j * 2, none⟩ = some (.string ⟨y.1.toArray⟩) := by rw [cell_of_block hb1]; exact (hr1 j y (Nat.le_refl _) he).1
      have q1 : wr.cell? ⟨g, j * 2 + 1, none⟩ = some (.string ⟨y.2.toArray⟩) := by rw [cell_of_block hb1]; exact (hr1 j y (Nat.le_refl _) he).2
      have nA := heap_alloc_new wr (.cells #[.string ⟨y.1.toArray⟩, .string ⟨y.2.toArray⟩] 58)
      have gA := hid (World.grownBy_alloc wr (.cells #[.string ⟨y.1.toArray⟩, .string ⟨y.2.toArray⟩] 58) none)
      have NA := hid nA
      have PSA := (HP.out.row hD.out.gw (by simp; have := HB.out.1; omega) (fun b e => by cases e; exact .inl (by have := HB.out.1; omega))).row gA.out (by simp) (by simp)
      have HF := hid (knows_x N (fun b => b < base) d x y _ PSA)
      unfold encA at HF
      have hjz : (j : Int) < (L.length : Int) := by omega
      have HE := hid he
      clear he hb1 ht1 hi1 hr1 nA PSA
      go_wp2_with fail
      refine HF.out.mono ?_
      rintro e2 w2 ⟨rfl, g2⟩
      have G2 := hid (gr_trans gA.out g2)
      obtain ⟨cur1, hb1, hs1, ht1, hi1, hr1⟩ := hD.out.row
      have hb2 := gr_keep G2.out hb1 (by simp)
      have htk : L.take (j + 1) = L.take j ++ [y] := by rw [List.take_add_one, HE.out]; rfl
      have p0 := g2.cell ((cell_of_block NA.out 0).trans (show _ = some (Value.string ⟨y.1.toArray⟩) from rfl)) (by simp)
      have p1 := g2.cell ((cell_of_block NA.out 1).trans (show _ = some (Value.string ⟨y.2.toArray⟩) from rfl)) (by simp)
      by_cases hpe : y ∈ x.last
      rotate_left
      · have hil : i * 2 + 1 < cur1.size := by have := HB.out.2.1; omega
        have hpk : PK x y = false := decide_eq_false hpe
        rw [decide_eq_false hpe]
        have c0 : w2.cell? ⟨g, i * 2, none⟩ = some (cur1[i * 2]'(by omega)) := by rw [cell_of_block hb2]; exact Array.getElem?_eq_getElem (by omega)
        have c1 : w2.cell? ⟨g, i * 2 + 1, none⟩ = some (cur1[i * 2 + 1]'hil) := by rw [cell_of_block hb2]; exact Array.getElem?_eq_getElem hil
        have f0 := free_of_block hb2 (i * 2)
        have f1 := free_of_block hb2 (i * 2 + 1)
        generalize cur1[i * 2]'(by omega) = o0 at c0
        generalize cur1[i * 2 + 1]'hil = o1 at c1
        have hiz : (i : Int) < (L.length : Int) := by omega
        have NEXT := hid (show DaR x L g cap0 w ((w2.setCell ⟨g, i * 2, none⟩ (.string ⟨y.1.toArray⟩)).setCell ⟨g, i * 2 + 1, none⟩ (.string ⟨y.2.toArray⟩)) (i + 1) (j + 1) from ⟨by omega, by omega, gr_trans hD.out.gw (gr_trans (gr_none G2.out) (gr_set (gr_set (gr_refl _ _)))), _, heap_set (heap_set hb2), by simpa using hs1, by
          rw [htk, List.filter_append, List.filter_cons_of_pos (by simp [hpk]), List.filter_nil, flatA_app, ← ht1, set_two hil]; rfl, by rw [htk, List.filter_append, List.filter_cons_of_pos (by simp [hpk]), List.filter_nil, List.length_append, ← hi1]; rfl, fun k e' hk he' => by
          rw [Array.getElem?_setIfInBounds, if_neg (by omega), Array.getElem?_setIfInBounds, if_neg (by omega), Array.getElem?_setIfInBounds, if_neg (by omega), Array.getElem?_setIfInBounds, if_neg (by omega)]
          exact hr1 k e' (by omega) he'⟩)
        clear hpe hpk hb1 hb2 ht1 hi1 hr1 htk g2 q0 q1
        go_wp2_with fail
        go_roundw
        case rel => exact ⟨i + 1, j + 1, by go_num, by go_num, NEXT⟩
        case measure => simp [intOf]; omega
      · have hpk : PK x y = true := decide_eq_true hpe
        rw [decide_eq_true hpe]
        have NEXT := hid (show DaR x L g cap0 w w2 i (j + 1) from ⟨by omega, by omega, gr_trans hD.out.gw (gr_none G2.out), cur1, hb2, hs1, by
          rw [htk, List.filter_append, List.filter_cons_of_neg (by simp [hpk]), List.filter_nil, List.append_nil]; exact ht1, by
          rw [htk, List.filter_append, List.filter_cons_of_neg (by simp [hpk]), List.filter_nil, List.append_nil]; exact hi1, fun k e' hk he' => hr1 k e' (by omega) he'⟩)
        clear hpe hpk hb1 hb2 ht1 hi1 hr1 htk g2 q0 q1 p0 p1
        go_wp2_with fail
        go_roundw
        case rel => exact ⟨i, j + 1, rfl, by go_num, NEXT⟩
        case measure => simp [intOf]; omega
    · obtain rfl : j = L.length := by omega
      obtain ⟨cur1, hb1, hs1, ht1, hi1, hr1⟩ := hD.out.row
      rw [List.take_length] at ht1 hi1
      obtain ⟨Z, hZ⟩ : ∃ Z, ∀ ty, (Builtin.clear_ #[22] ty #[.slice (some ⟨g, i * 2, none⟩) (L.length - i) (cap0 - i)]).run Tryz.prog wr = .ok (.tuple #[]) (wr.setCells g (i * 2) Z) := by
        obtain ⟨Z, h⟩ := run_clear_any wr 22 58 22 (.agg #[.string ⟨#[]⟩, .string ⟨#[]⟩]) Tryz.underlying22 (fun w => by first | exact Tryz.zeroValue58 w | kernel_rfl) 2 (by omega) rfl (fun i hi => by match i, hi with | 0, _ => rfl | 1, _ => rfl) g (i * 2) (L.length - i) (cap0 - i) (by omega) (fun t ht => by rw [cell_of_block hb1, Array.getElem?_eq_getElem (by have := HB.out.2.1; omega)]; rfl) (fun t ht => free_of_block hb1 _)
        exact ⟨Z, fun ty => h⟩
      obtain ⟨cur2, hb2, hs2, hk2, hg2⟩ := setCells_block g Z (i * 2) wr cur1 _ hb1
      have FIN := hid (show OwnA (wr.setCells g (i * 2) Z) base (.slice (some ⟨g, 0, none⟩) i cap0) (L.filter fun e => !PK x e) from ⟨flatA_len _, .inr ⟨g, cap0, cur2, by rw [← hi1], HB.out.1, hb2, by have := HB.out.2.1; omega, HB.out.2.2, by omega, by
        rw [← hi1, ← ht1]
        apply List.ext_getElem?
        intro k
        by_cases hk : k < i * 2
        · rw [List.getElem?_take_of_lt hk, List.getElem?_take_of_lt hk, Array.getElem?_toList, Array.getElem?_toList, hk2 k hk]
        · rw [List.getElem?_eq_none (by simp; omega), List.getElem?_eq_none (by simp; omega)]⟩⟩)
      have GF := hid (gr_trans hD.out.gw hg2)
      have hic : (i : Int) ≤ (L.length : Int) := by omega
      have hic2 : (L.length : Int) ≤ (cap0 : Int) := by have := HB.out.2.1; omega
      clear hb1 hs1 ht1 hi1 hr1 hb2 hs2 hk2 hg2 cur2 cur1 hjl
      go_wp2_with fail
      go_ret
      exact ⟨_, rfl, FIN.out, GF.out⟩
end Go.Proofs.YtfceodbpkghkaaaGreatDoor
