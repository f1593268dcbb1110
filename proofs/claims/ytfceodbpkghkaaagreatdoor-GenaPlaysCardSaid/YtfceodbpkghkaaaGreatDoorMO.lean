/- Texts of one proof, put together: Gm6, Gm7, Gm8, Gm9. -/
import Derived.Test.YtfceodbpkghkaaaGreatDoorGm4
import Derived.Test.YtfceodbpkghkaaaGreatDoorSl
import Derived.Lib.SliceRun
import Derived.BigQuiet
/- Rows of subscriptions: Delete, IndexFunc, DeleteFunc, Clone. -/
namespace Go.Proofs.YtfceodbpkghkaaaGreatDoor
open Go.RowKit
set_option linter.unusedVariables false
set_option linter.unusedSimpArgs false

theorem setCells_block (b : Nat) : ∀ (vs : List Value) (o : Nat) (w : World) (cur : Array Value) (e : TypeId), w.heap[b]? = some (.cells cur e (0, 0)) → ∃ cur', (w.setCells b o vs).heap[b]? = some (.cells cur' e (0, 0)) ∧ cur'.size = cur.size ∧ (∀ k, k < o → cur'[k]? = cur[k]?) ∧ w.grownBy (w.setCells b o vs) (some b)
  | [], o, w, cur, e, h => ⟨cur, h, rfl, fun _ _ => rfl, gr_refl _ _⟩
  | v :: vs, o, w, cur, e, h => by
    obtain ⟨cur', h1, h2, h3, h4⟩ := setCells_block b vs (o + 1) (w.setCell ⟨b, o, none⟩ v) (cur.setIfInBounds o v) e (heap_set h)
    refine ⟨cur', h1, by rw [h2, Array.size_setIfInBounds], fun k hk => ?_, gr_trans (gr_set (gr_refl w _)) h4⟩
    rw [h3 k (by omega), Array.getElem?_setIfInBounds, if_neg (by omega)]
theorem putRow_block {α : Type} [Inhabited α] (enc : α → Value) {w : World} {g q : Nat} {cur : Array Value} {e : TypeId} {fr : Nat × Nat} (d : Array α) (hb : w.heap[g]? = some (.cells cur e fr)) :
    (Sort.putRow enc (Sort.ahead w q) g 0 d).heap[g]? = some (.cells (Sort.putCells enc 0 d cur) e fr) ∧ w.grownBy (Sort.putRow enc (Sort.ahead w q) g 0 d) (some g) := by
  constructor
  · simp [Sort.putRow, Sort.mapBlock, Sort.ahead, Array.getElem?_modify, hb, Sort.onCells]
  · refine ⟨rfl, rfl, rfl, by simp, fun k hk hne => ?_⟩
    have : g ≠ k := fun e => hne (by rw [e])
    simp [Sort.putRow, Sort.mapBlock, Sort.ahead, Array.getElem?_modify, this]
def encD : Option Nat → Value
  | none => .pointer none
  | some d => .pointer (some ⟨d, 0, none⟩)
theorem encD_one : OneCell encD := fun x => by cases x <;> rfl
theorem infoPt : (Tryz.prog.info? 95).map (fun i => (i.zero, i.size, i.bytes)) = some (some (.pointer none), 1, 8) := by kernel_rfl
theorem ptV_enc (E : List (Nat × Sb)) : E.map ptV = (E.map fun e => some e.1).map encD := by rw [List.map_map]; rfl
set_option maxRecDepth 20000 in
set_option maxHeartbeats 1000000 in
theorem delete_x (N : Nat) (E : List (Nat × Sb)) (i : Nat) (hi : i < E.length) (v : Value) (w : World) (h : w.ownsRow N 95 1 v E.length (E.map ptV)) :
    Calls Tryz.prog 49 #[v, .int .i64 (i : Int), .int .i64 ((i : Int) + 1)] w fun e w' => ∃ v', e = .returned v' ∧ w'.ownsRow N 95 1 v' (E.eraseIdx i).length ((E.eraseIdx i).map ptV) ∧ w.grownBy w' v.ownBlock := by
  obtain ⟨i0, hi0, hz0, hz1, hz2⟩ := info_parts infoPt
  rcases h.2 with ⟨rfl, h0⟩ | ⟨g, cap, cur, rfl, hN, hb, hc, hm, hs, ht⟩
  · omega
  obtain ⟨D, hD⟩ : ∃ D : List (Option Nat), D = E.map fun e => some e.1 := ⟨_, rfl⟩
  have hDl : D.length = E.length := by rw [hD]; simp
  have hDe : E.map ptV = D.map encD := by rw [hD]; exact ptV_enc E
  rw [Nat.mul_one, hDe] at ht
  have hgt : ∀ j, j < D.length → cur[j]? = some (encD (D.getD j none)) := by
    intro j hj
    have h1 : (cur.toList.take E.length)[j]? = (D.map encD)[j]? := by rw [ht]
    rw [List.getElem?_take_of_lt (by omega), Array.getElem?_toList] at h1
    rw [h1, List.getElem?_map, List.getElem?_eq_getElem hj, List.getD_eq_getElem?_getD, List.getElem?_eq_getElem hj]; rfl
  have hH : Sort.Holds encD w g 0 D.toArray := by
    intro j hj
    have hj' : j < D.length := by simpa using hj
    refine ⟨?_, by simp [World.frozen?, hb]⟩
    rw [cell_of_block hb, Nat.zero_add, hgt j hj', List.getD_eq_getElem?_getD, List.getElem?_eq_getElem hj']
    simp [hj']
  have hcall := Tryz.slices_Delete encD encD_one none (fun w => by first | exact Tryz.zeroValue95 w | kernel_rfl) i0 hi0 hz1 g 0 cap i (i + 1) D.toArray w hH (by simpa [hDl] using hc) (by unfold maxLen at hm; omega) (by omega) (by simp; omega)
  rw [show D.toArray.size = E.length by simp [hDl]] at hcall
  refine hcall.mono ?_
  rintro e w' ⟨rfl, q, rfl⟩
  obtain ⟨hb', hg'⟩ := putRow_block encD (q := q) (D.toArray.toList.take i ++ D.toArray.toList.drop (i + 1) ++ List.replicate (i + 1 - i) none).toArray hb
  refine ⟨_, rfl, ⟨?_, .inr ⟨g, cap, _, ?_, hN, hb', ?_, hm, ?_, ?_⟩⟩, hg'⟩
  · simp
  · rw [List.length_eraseIdx, if_pos hi]; congr 1; omega
  · rw [List.length_eraseIdx, if_pos hi]; omega
  · simpa [Sort.putCells] using hs
  · have hel : (E.eraseIdx i).length = E.length - 1 := by rw [List.length_eraseIdx, if_pos hi]
    rw [Nat.mul_one, ptV_enc, show (E.eraseIdx i).map (fun e => some e.1) = D.eraseIdx i by rw [hD, List.eraseIdx_eq_take_drop_succ, List.eraseIdx_eq_take_drop_succ, List.map_append, List.map_take, List.map_drop]]
    apply List.ext_getElem?
    intro j
    by_cases hj : j < (E.eraseIdx i).length
    · rw [List.getElem?_take_of_lt hj, Array.getElem?_toList]
      unfold Sort.putCells
      have hjc : j < cur.size := by omega
      rw [Array.getElem?_mapIdx, Array.getElem?_eq_getElem hjc, Option.map_some]
      have hlen : (D.toArray.toList.take i ++ D.toArray.toList.drop (i + 1) ++ List.replicate (i + 1 - i) (none : Option Nat)).length = E.length := by simp [hDl]; omega
      rw [if_pos ⟨Nat.zero_le _, by simp only [List.size_toArray, hlen]; omega⟩, Nat.sub_zero]
      rw [List.getElem?_map, List.eraseIdx_eq_take_drop_succ]
      have hjl : j < (D.take i ++ D.drop (i + 1)).length := by simp [hDl]; omega
      rw [List.getElem?_eq_getElem hjl]
      simp only [List.toList_toArray]
      rw [getElem!_pos _ j (by simp [hDl]; omega)]
      simp only [List.getElem_toArray]
      rw [List.getElem_append_left hjl]
      rfl
    · rw [List.getElem?_eq_none (by simp; omega), List.getElem?_eq_none (by rw [List.length_map, List.length_eraseIdx, hDl, if_pos hi]; omega)]
end Go.Proofs.YtfceodbpkghkaaaGreatDoor
/- slices.IndexFunc and DeleteFunc of subscriptions, whatever the test. -/
namespace Go.Proofs.YtfceodbpkghkaaaGreatDoor
open Go.RowKit
set_option linter.unusedVariables false
set_option linter.unusedSimpArgs false

/-- A test that tells p of each subscription, in whatever world where but the row R is as it was. -/
def PredE (w : World) (R : Option Nat) (g : FuncId) (lb : Array Value) (E : List (Nat × Sb)) (p : Sb → Bool) : Prop :=
  ∀ W e, w.grownBy W R → e ∈ E → Calls Tryz.prog g (#[ptV e] ++ lb) W fun r w' => r = .returned (.bool (p e.2)) ∧ W.grownBy w' none
theorem gr_ge {w w' w2 : World} {R : Option Nat} (h : w.grownBy w' none) (k : w'.grownBy w2 R) : w.grownBy w2 R := gr_trans (gr_none h) k
def hit (p : Sb → Bool) (L : List Sb) : Nat := (L.takeWhile fun x => !p x).length
theorem hit_is (p : Sb → Bool) : ∀ (L : List Sb) (k : Nat) (hk : k ≤ L.length), (∀ j x, j < k → L[j]? = some x → p x = false) → (k = L.length ∨ ∃ x, L[k]? = some x ∧ p x = true) → hit p L = k := by
  intro L
  induction L with
  | nil => intro k hk _ _; simp at hk; subst hk; rfl
  | cons y l ih =>
    intro k hk ha h
    unfold hit
    cases k with
    | zero =>
      rcases h with h | ⟨x, hx, hp⟩
      · simp at h
      · obtain rfl : y = x := by simpa using hx
        rw [List.takeWhile_cons_of_neg (by simp [hp])]; rfl
    | succ k =>
      have hy := ha 0 y (by omega) rfl
      rw [List.takeWhile_cons_of_pos (by simp [hy]), List.length_cons]
      have := ih k (by simpa using hk) (fun j x hj hx => ha (j + 1) x (by omega) (by simpa using hx)) (by
        rcases h with h | ⟨x, hx, hp⟩
        · left; simpa using h
        · right; exact ⟨x, by simpa using hx, hp⟩)
      unfold hit at this
      rw [this]
def hitI (p : Sb → Bool) (L : List Sb) : Int := if hit p L < L.length then (hit p L : Int) else -1
def IxR (p : Sb → Bool) (L : List Sb) (w : World) (vk : Value) (wr : World) : Prop :=
  ∃ k : Nat, vk = .int .i64 k ∧ k ≤ L.length ∧ w.grownBy wr none ∧ ∀ j x, j < k → L[j]? = some x → p x = false
set_option maxRecDepth 20000 in
set_option maxHeartbeats 2000000 in
theorem indexf_x (N : Nat) (R : Option Nat) (E : List (Nat × Sb)) (p : Sb → Bool) (g : FuncId) (lb : Array Value) (eg : ∀ args w, (callFunc g args).run Tryz.prog w = .ok (.enter g args) w) (v : Value) (w : World) (hr : w.ownsRow N 95 1 v E.length (E.map ptV)) (hp : PredE w R g lb E p) (hn : E.length ≤ 9223372036854775807) :
    Calls Tryz.prog 76 #[v, .func (Fn.func g) #[] lb] w fun e w' => e = .returned (.int .i64 (hitI p (E.map (·.2)))) ∧ w.grownBy w' none := by
  obtain ⟨a, cap, rfl, hcap, hc⟩ := PAt.ptr (B := 0) (most := 0) (F := fun _ => True) hr
  have HC := hid hc
  have HP := hid hp
  clear hc hp hr
  have hl : (E.map (·.2)).length = E.length := List.length_map ..
  go_enter Tryz.func76, Tryz.ntmps76
  go_wp2_with fail
  go_loopw [8] (fun vk wr => IxR p (E.map (·.2)) w vk wr) (fun vk _ => E.length - (intOf vk).toNat)
  case atStart => exact ⟨0, rfl, Nat.zero_le _, gr_refl _ _, fun j x h _ => absurd h (Nat.not_lt_zero _)⟩
  case round =>
    obtain ⟨k, rfl, hk, gw, hno⟩ := hrel
    rw [hl] at hk
    have HNO := hid hno
    clear hno
    by_cases hkl : k < E.length
    · obtain ⟨e, hek⟩ : ∃ e, E[k]? = some e := ⟨_, List.getElem?_eq_getElem hkl⟩
      obtain ⟨b, rfl, hcell⟩ := HC.out k e hek
      have hcell2 := gw.cell hcell (by simp)
      have HEK := hid (show (E.map (·.2))[k]? = some e.2 by rw [List.getElem?_map, hek]; rfl)
      have HF := hid (HP.out wr e (gr_none gw) (List.mem_of_getElem? hek))
      unfold ptV at HF
      clear hek hcell
      go_wp2_with fail
      refine HF.out.mono ?_
      rintro e2 w2 ⟨rfl, g2⟩
      have GW := hid (gr_trans gw g2)
      cases hsm : p e.2
      · have HSM := hid hsm
        clear hsm
        go_wp2_with fail
        go_roundw
        case rel =>
          refine ⟨k + 1, by go_num, by omega, GW.out, fun j x' hlt hj => ?_⟩
          rcases Nat.lt_succ_iff_lt_or_eq.1 hlt with h1 | rfl
          · exact HNO.out j x' h1 hj
          · rw [HEK.out] at hj
            obtain rfl := Option.some.inj hj
            exact HSM.out
        case measure => simp [intOf]; omega
      · have HA := hid (show hitI p (E.map (·.2)) = (k : Int) by
          have := hit_is p (E.map (·.2)) k (by omega) HNO.out (.inr ⟨_, HEK.out, hsm⟩)
          unfold hitI
          rw [this, if_pos (by omega)])
        clear hsm
        go_wp2_with fail
        go_ret
        exact ⟨by rw [HA.out]; rfl, GW.out⟩
    · have HA := hid (show hitI p (E.map (·.2)) = -1 by
        obtain rfl : k = E.length := by omega
        have := hit_is p (E.map (·.2)) E.length (by omega) HNO.out (.inl hl.symm)
        unfold hitI
        rw [this, if_neg (by omega)])
      go_wp2_with fail
      go_ret
      exact ⟨by rw [HA.out]; rfl, gw⟩
/-- The round of DeleteFunc: i are kept, j are seen. -/
structure DfR (p : Sb → Bool) (E : List (Nat × Sb)) (g cap : Nat) (w wr : World) (i j : Nat) : Prop where
  lt : i < j
  le : j ≤ E.length
  gw : w.grownBy wr (some g)
  row : ∃ cur, wr.heap[g]? = some (.cells cur 95 (0, 0)) ∧ cur.size = cap ∧ cur.toList.take i = ((E.take j).filter fun e => !p e.2).map ptV ∧ i = ((E.take j).filter fun e => !p e.2).length ∧ ∀ k e, j ≤ k → E[k]? = some e → cur[k]? = some (ptV e)
theorem filter_all {E : List (Nat × Sb)} {p : Sb → Bool} (k : Nat) (hk : k ≤ E.length) (h : ∀ j x, j < k → (E.map (·.2))[j]? = some x → p x = false) : (E.take k).filter (fun e => !p e.2) = E.take k := by
  rw [List.filter_eq_self]
  intro e he
  obtain ⟨j, hj, rfl⟩ := List.getElem_of_mem he
  have hjk : j < k := by rw [List.length_take] at hj; omega
  have := h j (E[j]'(by omega)).2 hjk (by rw [List.getElem?_map, List.getElem?_eq_getElem (by omega)]; rfl)
  simp [this]
theorem hit_no (p : Sb → Bool) : ∀ (L : List Sb) (j : Nat) (x : Sb), j < hit p L → L[j]? = some x → p x = false := by
  intro L
  induction L with
  | nil => intro j x h; simp [hit] at h
  | cons y l ih =>
    intro j x h hx
    unfold hit at h
    cases hy : p y with
    | true => rw [List.takeWhile_cons_of_neg (by simp [hy])] at h; simp at h
    | false =>
      rw [List.takeWhile_cons_of_pos (by simp [hy]), List.length_cons] at h
      cases j with
      | zero => obtain rfl : y = x := by simpa using hx
                exact hy
      | succ j => exact ih j x (by unfold hit; omega) (by simpa using hx)
theorem hit_yes (p : Sb → Bool) : ∀ (L : List Sb) (x : Sb), L[hit p L]? = some x → p x = true := by
  intro L
  induction L with
  | nil => intro x h; simp [hit] at h
  | cons y l ih =>
    intro x h
    unfold hit at h
    cases hy : p y with
    | true => rw [List.takeWhile_cons_of_neg (by simp [hy])] at h
              obtain rfl : y = x := by simpa using h
              exact hy
    | false => rw [List.takeWhile_cons_of_pos (by simp [hy]), List.length_cons] at h
               exact ih x (by unfold hit; simpa using h)
theorem hit_le (p : Sb → Bool) (L : List Sb) : hit p L ≤ L.length := (List.takeWhile_sublist _).length_le
set_option maxRecDepth 20000 in
set_option maxHeartbeats 4000000 in
theorem deletef_x (N : Nat) (E : List (Nat × Sb)) (p : Sb → Bool) (f : FuncId) (lb : Array Value) (eg : ∀ args w, (callFunc f args).run Tryz.prog w = .ok (.enter f args) w) (v : Value) (w : World) (hr : w.ownsRow N 95 1 v E.length (E.map ptV)) (hp : PredE w v.ownBlock f lb E p) (hn : E.length ≤ 9223372036854775807) :
    Calls Tryz.prog 82 #[v, .func (Fn.func f) #[] lb] w fun e w' => ∃ v', e = .returned v' ∧ w'.ownsRow N 95 1 v' (E.filter fun e => !p e.2).length ((E.filter fun e => !p e.2).map ptV) ∧ w.grownBy w' v.ownBlock := by
  have HI := hid (indexf_x N v.ownBlock E p f lb eg v w hr hp hn)
  have HR := hid hr
  have HP := hid hp
  have hl : (E.map (·.2)).length = E.length := List.length_map ..
  obtain ⟨a, cap0, rfl, -⟩ := PAt.ptr (B := 0) (most := 0) (F := fun _ => True) hr
  clear hr hp
  go_enter Tryz.func82, Tryz.ntmps82
  go_wp2_with fail
  refine HI.out.mono ?_
  rintro e w1 ⟨rfl, g1⟩
  have G1 := hid g1
  clear HI g1
  by_cases hlt : hit p (E.map (·.2)) < E.length
  rotate_left
  · have e1 : hitI p (E.map (·.2)) = -1 := by unfold hitI; rw [if_neg (by omega)]
    rw [e1]
    have hall : E.filter (fun e => !p e.2) = E := by
      have := filter_all (E := E) (p := p) E.length (Nat.le_refl _) (fun j x hj hx => hit_no p _ j x (by omega) hx)
      rwa [List.take_length] at this
    have HALL := hid hall
    clear e1 hlt hall
    go_wp2_with fail
    go_ret
    exact ⟨_, rfl, by rw [HALL.out]; exact own_growG HR.out G1.out, gr_none G1.out⟩
  obtain ⟨i0, hi0⟩ : ∃ i, i = hit p (E.map (·.2)) := ⟨_, rfl⟩
  have e1 : hitI p (E.map (·.2)) = (i0 : Int) := by unfold hitI; rw [if_pos (by omega), hi0]
  rw [e1]
  have hne1 : ((i0 : Int) == -1) = false := beq_eq_false_iff_ne.2 (by omega)
  have hno := fun j x (hj : j < i0) hx => hit_no p (E.map (·.2)) j x (by omega) hx
  have hyes : ∀ e, E[i0]? = some e → p e.2 = true := fun e he => hit_yes p (E.map (·.2)) e.2 (by rw [← hi0, List.getElem?_map, he]; rfl)
  have hi0l : i0 < E.length := by omega
  rcases HR.out.2 with ⟨e2, h0⟩ | ⟨g, cap, cur, e2, hN, hb, hc, hm, hs, ht⟩
  · omega
  obtain ⟨rfl, -, rfl⟩ : a = some ⟨g, 0, none⟩ ∧ E.length = E.length ∧ cap0 = cap := by simpa using e2
  have hat : ∀ (k : Nat) e, E[k]? = some e → cur[k]? = some (ptV e) := by
    intro k e he
    have hk := (List.getElem?_eq_some_iff.1 he).1
    have h1 : (cur.toList.take (E.length * 1))[k]? = (E.map ptV)[k]? := by rw [ht]
    rw [List.getElem?_take_of_lt (by omega), Array.getElem?_toList, List.getElem?_map, he] at h1
    exact h1
  have START := hid (show DfR p E g cap0 w w1 i0 (i0 + 1) from ⟨by omega, by omega, gr_none G1.out, cur, gr_keep G1.out hb (by simp), by omega, by
    have hfa := filter_all (E := E) (p := p) i0 (by omega) hno
    obtain ⟨e, he⟩ : ∃ e, E[i0]? = some e := ⟨_, List.getElem?_eq_getElem hi0l⟩
    rw [List.take_add_one, he, List.filter_append, hfa]
    simp only [Option.toList_some]
    rw [List.filter_cons_of_neg (by simp [hyes e he]), List.filter_nil, List.append_nil, List.map_take, ← ht, List.take_take, Nat.min_eq_left (by omega)], by
    have hfa := filter_all (E := E) (p := p) i0 (by omega) hno
    obtain ⟨e, he⟩ : ∃ e, E[i0]? = some e := ⟨_, List.getElem?_eq_getElem hi0l⟩
    rw [List.take_add_one, he, List.filter_append, hfa]
    simp only [Option.toList_some]
    rw [List.filter_cons_of_neg (by simp [hyes e he]), List.filter_nil, List.append_nil, List.length_take]; omega, fun k e _ he => hat k e he⟩)
  have HB := hid (And.intro hN (And.intro hc hm))
  have HPR := hid (show PredE w (some g) f lb E p from HP.out)
  clear hno hyes hat hi0 e1 e2 ht hb hs hN hlt HP
  go_wp2_with fail
  go_loopw [5, 6, 7] (fun v5 v6 _ wr => ∃ i j : Nat, v5 = .int .i64 (i : Int) ∧ v6 = .int .i64 (j : Int) ∧ Hid (DfR p E g cap0 w wr i j)) (fun _ v6 _ _ => E.length - (intOf v6).toNat)
  case atStart => exact ⟨i0, i0 + 1, rfl, by go_num, START⟩
  case round =>
    obtain ⟨i, j, rfl, rfl, hD⟩ := hrel
    have hij := hD.out.lt
    have hjn := hD.out.le
    by_cases hjl : j < E.length
    · obtain ⟨e, he⟩ : ∃ e, E[j]? = some e := ⟨_, List.getElem?_eq_getElem hjl⟩
      obtain ⟨cur1, hb1, hs1, ht1, hi1, hr1⟩ := hD.out.row
      have hcell : wr.cell? ⟨g, j, none⟩ = some (.pointer (some ⟨e.1, 0, none⟩)) := by rw [cell_of_block hb1]; exact hr1 j e (Nat.le_refl _) he
      have HF := hid (HPR.out wr e hD.out.gw (List.mem_of_getElem? he))
      unfold ptV at HF
      have hjz : (j : Int) < (E.length : Int) := by omega
      have HE := hid he
      clear he hb1 ht1 hi1 hr1
      go_wp2_with fail
      refine HF.out.mono ?_
      rintro e2 w2 ⟨rfl, g2⟩
      have G2 := hid g2
      obtain ⟨cur1, hb1, hs1, ht1, hi1, hr1⟩ := hD.out.row
      have hb2 := gr_keep g2 hb1 (by simp)
      have htk : E.take (j + 1) = E.take j ++ [e] := by rw [List.take_add_one, HE.out]; rfl
      cases hpe : p e.2
      · have hil : i < cur1.size := by have := HB.out.2.1; omega
        have hcell2 : w2.cell? ⟨g, i, none⟩ = some (cur1[i]'hil) := by rw [cell_of_block hb2]; exact Array.getElem?_eq_getElem hil
        have hfr := free_of_block hb2 i
        obtain ⟨old, hold⟩ : ∃ old, old = cur1[i]'hil := ⟨_, rfl⟩
        rw [← hold] at hcell2
        have hiz : (i : Int) < (E.length : Int) := by omega
        have NEXT := hid (show DfR p E g cap0 w (w2.setCell ⟨g, i, none⟩ (.pointer (some ⟨e.1, 0, none⟩))) (i + 1) (j + 1) from ⟨by omega, by omega, gr_trans hD.out.gw (gr_trans (gr_none G2.out) (gr_set (gr_refl _ _))), _, heap_set hb2, by simpa using hs1, by
          rw [htk, List.filter_append, List.filter_cons_of_pos (by simp [hpe]), List.filter_nil, List.map_append, ← ht1]
          rw [Array.toList_setIfInBounds, List.take_set, List.take_add_one, List.getElem?_eq_getElem (by simpa using hil)]
          rw [List.set_append, if_neg (by simp; omega)]
          simp only [List.length_take, Array.length_toList, Option.toList_some, List.map_cons, List.map_nil]
          rw [Nat.min_eq_left (by omega), Nat.sub_self]
          rfl, by rw [htk, List.filter_append, List.filter_cons_of_pos (by simp [hpe]), List.filter_nil, List.length_append, ← hi1]; rfl, fun k e' hk he' => by
          rw [Array.getElem?_setIfInBounds, if_neg (by omega)]
          exact hr1 k e' (by omega) he'⟩)
        clear hpe hb1 hb2 ht1 hi1 hr1 htk hold g2 hcell
        go_wp2_with fail
        go_roundw
        case rel => exact ⟨i + 1, j + 1, by go_num, by go_num, NEXT⟩
        case measure => simp [intOf]; omega
      · have NEXT := hid (show DfR p E g cap0 w w2 i (j + 1) from ⟨by omega, by omega, gr_trans hD.out.gw (gr_none G2.out), cur1, hb2, hs1, by
          rw [htk, List.filter_append, List.filter_cons_of_neg (by simp [hpe]), List.filter_nil, List.append_nil]; exact ht1, by
          rw [htk, List.filter_append, List.filter_cons_of_neg (by simp [hpe]), List.filter_nil, List.append_nil]; exact hi1, fun k e' hk he' => hr1 k e' (by omega) he'⟩)
        clear hpe hb1 hb2 ht1 hi1 hr1 htk g2 hcell
        go_wp2_with fail
        go_roundw
        case rel => exact ⟨i, j + 1, rfl, by go_num, NEXT⟩
        case measure => simp [intOf]; omega
    · obtain rfl : j = E.length := by omega
      obtain ⟨cur1, hb1, hs1, ht1, hi1, hr1⟩ := hD.out.row
      rw [List.take_length] at ht1 hi1
      have hcl : ∀ ty, (Builtin.clear_ #[87] ty #[.slice (some ⟨g, i, none⟩) (E.length - i) (cap0 - i)]).run Tryz.prog wr = .ok (.tuple #[]) (wr.setCells g i (List.replicate (E.length - i) (.pointer none))) :=
        fun ty => Lib.run_clear_slice wr _ 95 ty _ Tryz.underlying87 (fun w => by first | exact Tryz.zeroValue95 w | kernel_rfl) rfl rfl g i _ _ (by omega) (fun t ht => by rw [cell_of_block hb1, Array.getElem?_eq_getElem (by have := HB.out.2.1; omega)]; rfl) (fun t ht => free_of_block hb1 _)
      obtain ⟨cur2, hb2, hs2, hk2, hg2⟩ := setCells_block g (List.replicate (E.length - i) (.pointer none)) i wr cur1 _ hb1
      have FIN := hid (show (wr.setCells g i (List.replicate (E.length - i) (.pointer none))).ownsRow N 95 1 (.slice (some ⟨g, 0, none⟩) i cap0) (E.filter fun e => !p e.2).length ((E.filter fun e => !p e.2).map ptV) from ⟨by simp, .inr ⟨g, cap0, cur2, by rw [← hi1], HB.out.1, hb2, by have := HB.out.2.1; omega, HB.out.2.2, by omega, by
        rw [Nat.mul_one, ← hi1, ← ht1]
        apply List.ext_getElem?
        intro k
        by_cases hk : k < i
        · rw [List.getElem?_take_of_lt hk, List.getElem?_take_of_lt hk, Array.getElem?_toList, Array.getElem?_toList, hk2 k hk]
        · rw [List.getElem?_eq_none (by simp; omega), List.getElem?_eq_none (by simp; omega)]⟩⟩)
      have GF := hid (gr_trans hD.out.gw hg2)
      have hic : (i : Int) ≤ (E.length : Int) := by omega
      have hic2 : (E.length : Int) ≤ (cap0 : Int) := by have := HB.out.2.1; omega
      clear hb1 hs1 ht1 hi1 hr1 hb2 hs2 hk2 hg2 cur2 cur1 hjl
      go_wp2_with fail
      go_ret
      exact ⟨_, rfl, FIN.out, GF.out⟩
end Go.Proofs.YtfceodbpkghkaaaGreatDoor
/- gena.New, (*Subs).Len, keep, Expire; what a store leaves. -/
namespace Go.Proofs.YtfceodbpkghkaaaGreatDoor
open Go.RowKit
set_option linter.unusedVariables false
set_option linter.unusedSimpArgs false

def TL (t : TypeId) : Bool := t == 95 || t == 89
def TS (t : TypeId) : Bool := t == 94
theorem tl_tp (t : TypeId) (h : TL t = true) : TP t = true := by
  unfold TL at h; unfold TP
  simp only [Bool.or_eq_true] at h ⊢
  rcases h with h | h
  · exact .inl (.inl h)
  · exact .inr h
theorem ts_tp (t : TypeId) (h : TS t = true) : TP t = true := by
  unfold TS at h; unfold TP
  simp only [Bool.or_eq_true] at h ⊢
  exact .inl (.inr h)
theorem tl_ta (t : TypeId) (h : TL t = true) : TA t = true := tp_ta t (tl_tp t h)
theorem PSub.kt2 {T : TypeId → Bool} (hT : ∀ t, T t = true → TA t = true) (hs : T 94 = false) {w w' : World} {N : Nat} {F : Nat → Prop} {d : Nat} {x : Sb} (h : PSub w N F d x) (k : KT T N w w') : PSub w' N F d x := by
  obtain ⟨hd, lv, h1, h2⟩ := h
  exact ⟨hd, lv, k.of_type h1 hs, h2.kt hT k⟩
theorem own_KT {T : TypeId → Bool} (hT : T 95 = true) {w w' : World} {N n : Nat} {v : Value} {xs : List Value} (h : w.ownsRow N 95 1 v n xs) (g : w.grownBy w' v.ownBlock) : KT T N w w' := by
  rcases h.2 with ⟨rfl, _⟩ | ⟨b, cap, cur, rfl, hN, hb, -⟩
  · exact KT.of_none g
  · exact KT.of_row g hb hN hT
/-- The list is put in place. -/
theorem PAt.relist {w w1 : World} {N : Nat} {F : Nat → Prop} {B : Nat} {E E' : List (Nat × Sb)} {most : Nat} {lv v' : Value} (h : PAt w N F B E most) (hB : w.heap[B]? = some (.cells #[lv, .int .i64 most] 89 (0, 0))) (hr : w.ownsRow N 95 1 lv E.length (E.map ptV))
    (g : w.grownBy w1 lv.ownBlock) (hr' : w1.ownsRow N 95 1 v' E'.length (E'.map ptV)) (hsub : ∀ e ∈ E', e ∈ E) (hnd : (E'.map (·.1)).Nodup) (hn : E'.length ≤ most) :
    PAt (w1.setCell ⟨B, 0, none⟩ v') N F B E' most ∧ KT TP N w (w1.setCell ⟨B, 0, none⟩ v') := by
  have k1 : KT TL N w w1 := own_KT rfl hr g
  have hB1 : w1.heap[B]? = some (.cells #[lv, .int .i64 most] 89 (0, 0)) := gr_keep g hB (own_ne_fs hr hB (by decide))
  have g2 : w1.grownBy (w1.setCell ⟨B, 0, none⟩ v') (some B) := gr_set (gr_refl _ _)
  have k2 : KT TL N w (w1.setCell ⟨B, 0, none⟩ v') := k1.trans (KT.of_row g2 hB1 h.low rfl)
  refine ⟨⟨h.low, ⟨v', by rw [heap_set hB1]; rfl, ?_⟩, hnd, fun e he => (h.each e (hsub e he)).kt2 tl_ta rfl k2, h.mo, hn⟩, k2.mono tl_tp⟩
  exact hr'.kept g2 (.inr (own_ne_fs hr' hB1 (by decide)).symm)
/-- A subscription is written. -/
theorem PAt.resub {w w1 : World} {N : Nat} {F : Nat → Prop} {B : Nat} {E : List (Nat × Sb)} {most : Nat} {i d : Nat} {x x' : Sb} {lv' : Value} (h : PAt w N F B E most) (hi : E[i]? = some (d, x)) (g : w.grownBy w1 (some d)) (hb : w1.heap[d]? = some (.cells (subC x' lv') 94 (0, 0))) (ha : ArgsK w1 N F lv' x'.last) :
    PAt w1 N F B (E.set i (d, x')) most ∧ KT TP N w w1 := by
  have hmem := List.mem_of_getElem? hi
  have hil := (List.getElem?_eq_some_iff.1 hi).1
  obtain ⟨hd, lv0, hd0, -⟩ := h.each _ hmem
  have k : KT TS N w w1 := KT.of_row g hd0 hd rfl
  obtain ⟨lv, h1, h2⟩ := h.head
  have hne : ∀ {g0 : Nat} {cs0 : Array Value} {t0 : TypeId}, w.heap[g0]? = some (.cells cs0 t0 (0, 0)) → t0 ≠ 94 → w1.heap[g0]? = some (.cells cs0 t0 (0, 0)) := fun h0 ht => gr_keep g h0 (blk_ne h0 hd0 ht)
  have hfst : (E.set i (d, x')).map (·.1) = E.map (·.1) := by
    rw [List.map_set]
    apply List.ext_getElem?
    intro j
    by_cases hj : j = i
    · subst hj
      rw [List.getElem?_set_self (by simpa using hil), List.getElem?_map, hi]; rfl
    · rw [List.getElem?_set_ne (Ne.symm hj)]
  have hpt : (E.set i (d, x')).map ptV = E.map ptV := by
    rw [List.map_set]
    apply List.ext_getElem?
    intro j
    by_cases hj : j = i
    · subst hj
      rw [List.getElem?_set_self (by simpa using hil), List.getElem?_map, hi]; rfl
    · rw [List.getElem?_set_ne (Ne.symm hj)]
  refine ⟨⟨h.low, ⟨lv, hne h1 (by decide), ?_⟩, by rw [hfst]; exact h.nodup, fun e he => ?_, h.mo, by rw [List.length_set]; exact h.n⟩, k.mono ts_tp⟩
  · rw [List.length_set, hpt]
    refine ⟨h2.1, ?_⟩
    rcases h2.2 with h2 | ⟨g0, cap, cur, e1, e2, e3, e4⟩
    · exact .inl h2
    · exact .inr ⟨g0, cap, cur, e1, e2, hne e3 (by decide), e4⟩
  · obtain ⟨j, hj⟩ := List.getElem?_of_mem he
    by_cases hji : j = i
    · subst hji
      rw [List.getElem?_set_self hil] at hj
      obtain rfl := Option.some.inj hj
      exact ⟨hd, lv', hb, ha⟩
    · rw [List.getElem?_set_ne (Ne.symm hji)] at hj
      have hm := List.mem_of_getElem? hj
      have hned : e.1 ≠ d := by
        intro e'
        have hjl := (List.getElem?_eq_some_iff.1 hj).1
        have hpw := List.pairwise_iff_getElem.1 h.nodup
        have e1 : (E.map (·.1))[j]'(by simpa using hjl) = d := by rw [List.getElem_map, (List.getElem?_eq_some_iff.1 hj).2, e']
        have e2 : (E.map (·.1))[i]'(by simpa using hil) = d := by rw [List.getElem_map, (List.getElem?_eq_some_iff.1 hi).2]
        rcases Nat.lt_or_gt_of_ne hji with hlt | hlt
        · exact hpw j i _ _ hlt (e1.trans e2.symm)
        · exact hpw i j _ _ hlt (e2.trans e1.symm)
      obtain ⟨hd2, lv2, hb2, ha2⟩ := h.each e hm
      exact ⟨hd2, lv2, gr_keep g hb2 (by simpa using hned), ha2.kt (fun t ht => tp_ta t (ts_tp t ht)) k⟩
set_option maxRecDepth 20000 in
theorem new_x (N : Nat) (F : Nat → Prop) (most : Int) (h1 : -9223372036854775808 ≤ most) (h2 : most ≤ 9223372036854775807) (w : World) (hN : N ≤ w.heap.size) :
    Calls Tryz.prog 14 #[.int .i64 most] w fun e w' => e = .returned (.pointer (some ⟨w.heap.size, 0, none⟩)) ∧ PAt w' N F w.heap.size [] most.toNat ∧ w.grownBy w' none := by
  have HM := hid (show (max most 0 : Int) = (most.toNat : Int) by omega)
  have h3 : most.toNat ≤ 9223372036854775807 := by omega
  go_enter Tryz.func14, Tryz.ntmps14
  go_wp2
  go_ret
  refine ⟨rfl, ⟨hN, ⟨.slice none 0 0, ?_, World.ownsRow_nil _ _ _ _⟩, List.nodup_nil, fun e he => (by cases he), h3, Nat.zero_le _⟩, gr_alloc (gr_refl _ _) _⟩
  rw [← HM.out]
  exact heap_alloc_new w _
set_option maxHeartbeats 1000000 in
theorem len_x (N : Nat) (F : Nat → Prop) (B : Nat) (E : List (Nat × Sb)) (most : Nat) (w : World) (h : PAt w N F B E most) :
    Calls Tryz.prog 20 #[.pointer (some ⟨B, 0, none⟩)] w fun e w' => e = .returned (.int .i64 (E.length : Int)) ∧ w = w' := by
  obtain ⟨lv, h1, h2⟩ := h.head
  obtain ⟨a, cap, rfl, -⟩ := PAt.ptr (B := 0) (most := 0) (F := fun _ => True) h2
  have c1 := (cell_of_block h1 0).trans (show _ = some (Value.slice a E.length cap) from rfl)
  clear h1 h2 h
  go_enter Tryz.func20, Tryz.ntmps20
  go_wp2
  go_ret
  exact ⟨rfl, rfl⟩
end Go.Proofs.YtfceodbpkghkaaaGreatDoor
/- gena.(*Subs).keep, Expire, Unsubscribe, Done. -/
namespace Go.Proofs.YtfceodbpkghkaaaGreatDoor
open Go.RowKit
set_option linter.unusedVariables false
set_option linter.unusedSimpArgs false

theorem nodup_erase {E : List (Nat × Sb)} (h : (E.map (·.1)).Nodup) (i : Nat) : ((E.eraseIdx i).map (·.1)).Nodup := by
  have : (E.eraseIdx i).map (·.1) = (E.map (·.1)).eraseIdx i := by rw [List.eraseIdx_eq_take_drop_succ, List.eraseIdx_eq_take_drop_succ, List.map_append, List.map_take, List.map_drop]
  rw [this]
  exact h.sublist (List.eraseIdx_sublist ..)
theorem nodup_filter {E : List (Nat × Sb)} (h : (E.map (·.1)).Nodup) (p : Nat × Sb → Bool) : ((E.filter p).map (·.1)).Nodup := h.sublist ((List.filter_sublist (l := E)).map _)
theorem map_erase (E : List (Nat × Sb)) (i : Nat) : (E.eraseIdx i).map (·.2) = (E.map (·.2)).eraseIdx i := by
  rw [List.eraseIdx_eq_take_drop_succ, List.eraseIdx_eq_take_drop_succ, List.map_append, List.map_take, List.map_drop]
theorem map_filter2 (E : List (Nat × Sb)) (p : Sb → Bool) : (E.filter fun e => p e.2).map (·.2) = (E.map (·.2)).filter p := by
  rw [List.filter_map]; rfl
theorem own_blk {w : World} {N n : Nat} {v : Value} {xs : List Value} (h : w.ownsRow N 95 1 v n xs) : ∀ b, v.ownBlock = some b → N ≤ b ∧ ∃ cs rr, w.heap[b]? = some (.cells cs 95 rr) := by
  intro b hb
  rcases h.2 with ⟨rfl, _⟩ | ⟨g, cap, cur, rfl, hN, hg, -⟩
  · cases hb
  · obtain rfl : g = b := by simpa [Value.ownBlock] using hb
    exact ⟨hN, _, _, hg⟩
theorem PSub.own {w w' : World} {N n : Nat} {F : Nat → Prop} {d : Nat} {x : Sb} {v : Value} {xs : List Value} (h : PSub w N F d x) (hr : w.ownsRow N 95 1 v n xs) (g : w.grownBy w' v.ownBlock) : PSub w' N F d x :=
  h.kt2 tl_ta rfl (own_KT rfl hr g)
/-- What keep's function is told through. -/
theorem keepc_x (f : FuncId) (lb : Array Value) (eg : ∀ args w, (callFunc f args).run Tryz.prog w = .ok (.enter f args) w) (q : Nat) (e : Nat × Sb) (b : Bool) (w : World) (hq : w.cell? ⟨q, 0, none⟩ = some (.func (.func f) #[] lb))
    (h : Calls Tryz.prog f (#[ptV e] ++ lb) w fun r w' => r = .returned (.bool b) ∧ w.grownBy w' none) :
    Calls Tryz.prog 83 (#[ptV e] ++ #[.pointer (some ⟨q, 0, none⟩)]) w fun r w' => r = .returned (.bool (!b)) ∧ w.grownBy w' none := by
  have H := hid h
  clear h
  unfold ptV at H ⊢
  go_enter Tryz.func83, Tryz.ntmps83
  go_wp2_with fail
  refine H.out.mono ?_
  rintro r w' ⟨rfl, g⟩
  go_wp2_with fail
  go_ret
  exact ⟨rfl, g⟩
set_option maxRecDepth 20000 in
set_option maxHeartbeats 2000000 in
theorem keep_x (N : Nat) (F : Nat → Prop) (B : Nat) (E : List (Nat × Sb)) (most : Nat) (p : Sb → Bool) (f : FuncId) (lb : Array Value) (eg : ∀ args w, (callFunc f args).run Tryz.prog w = .ok (.enter f args) w) (w : World) (h : PAt w N F B E most)
    (hp : ∀ lv, w.heap[B]? = some (.cells #[lv, .int .i64 most] 89 (0, 0)) → PredE w lv.ownBlock f lb E p) :
    Calls Tryz.prog 43 #[.pointer (some ⟨B, 0, none⟩), .func (.func f) #[] lb] w fun e w' => e = .returned (.tuple #[]) ∧ PAt w' N F B (E.filter fun e => p e.2) most ∧ KT TP N w w' := by
  have hmf : ∀ (fn : Fn) (first cap : Array Value) (w : World), (Instr.makeFunc fn first cap).run Tryz.prog w = .ok (.func fn first cap) w := fun _ _ _ _ => rfl
  obtain ⟨lv, h1, h2⟩ := h.head
  have HP := hp lv h1
  have nb := heap_alloc_new w (.cells #[.func (.func f) #[] lb] 100)
  have g1 := World.grownBy_alloc w (.cells #[.func (.func f) #[] lb] 100) none
  have PR : PredE (w.alloc (.cells #[.func (.func f) #[] lb] 100)) lv.ownBlock 83 #[.pointer (some ⟨w.heap.size, 0, none⟩)] E (fun x => !p x) := by
    intro W e g he
    refine keepc_x f lb eg w.heap.size e (p e.2) W ?_ (HP W e (gr_ge g1 g) he)
    refine g.cell ((cell_of_block nb 0).trans rfl) (own_ne_fs (own_growG h2 g1) nb (by decide))
  have HD := hid (deletef_x N E (fun x => !p x) 83 #[.pointer (some ⟨w.heap.size, 0, none⟩)] (fun _ _ => rfl) lv _ (own_growG h2 g1) PR (by have := h.n; have := h.mo; omega))
  have c1 := g1.cell ((cell_of_block h1 0).trans (show _ = some lv from rfl)) (by simp)
  have HH := hid h
  have H1 := hid h1
  have H2 := hid h2
  clear nb PR HP hp h h1 h2
  obtain ⟨a, cap, rfl, -⟩ := PAt.ptr (B := 0) (most := 0) (F := fun _ => True) H2.out
  go_enter Tryz.func43, Tryz.ntmps43
  go_wp2_with fail
  refine HD.out.mono ?_
  rintro e w2 ⟨v', rfl, hr', g2⟩
  have hfl : (E.filter fun e => !(!p e.2)) = E.filter fun e => p e.2 := by simp
  rw [hfl] at hr'
  have G2 := hid (gr_ge g1 g2)
  have REL := hid (HH.out.relist H1.out H2.out G2.out hr' (fun e he => (List.mem_filter.1 he).1) (nodup_filter HH.out.nodup _) (Nat.le_trans (List.length_filter_le _ _) HH.out.n))
  have hB2 := gr_keep G2.out H1.out (own_ne_fs H2.out H1.out (by decide))
  have c2 := (cell_of_block hB2 0).trans (show _ = some (Value.slice a E.length cap) from rfl)
  have f2 := free_of_block hB2 0
  obtain ⟨a', cap', rfl, -⟩ := PAt.ptr (B := 0) (most := 0) (F := fun _ => True) hr'
  clear hr' g2 hB2 c1 HD hfl g1
  go_wp2_with fail
  refine bodyPost_end (results_none rfl _ _ _) rfl ?_
  exact ⟨rfl, REL.out⟩
theorem expirec_x (N : Nat) (F : Nat → Prop) (d : Nat) (x : Sb) (now : Nat) (q : Nat) (w : World) (h : PSub w N F d x) (hq : w.cell? ⟨q, 0, none⟩ = some (.int .u64 (now : Int))) :
    Calls Tryz.prog 44 (#[ptV (d, x)] ++ #[.pointer (some ⟨q, 0, none⟩)]) w fun e w' => e = .returned (.bool (decide (now < x.ends))) ∧ w.grownBy w' none := by
  have c5 := h.cells.2.2.2.2.2.1
  clear h
  obtain ⟨X, hX⟩ : ∃ X, X = x.ends := ⟨_, rfl⟩
  rw [← hX] at c5 ⊢
  clear hX
  unfold ptV
  go_enter Tryz.func44, Tryz.ntmps44
  go_wp2_with fail
  go_quiet (fail)
  go_wp2
  go_ret
  exact ⟨rfl, by (repeat (first | exact gr_refl _ _ | assumption | refine gr_drew ?_ | refine gr_drewN _ ?_ | refine gr_alloc ?_ _ | refine gr_set ?_ | refine gr_set_new ?_ (by first | omega | (simp; omega))))⟩
set_option maxRecDepth 20000 in
set_option maxHeartbeats 1000000 in
theorem expire_x (N : Nat) (F : Nat → Prop) (B : Nat) (E : List (Nat × Sb)) (most : Nat) (now : Nat) (w : World) (h : PAt w N F B E most) :
    Calls Tryz.prog 17 #[.pointer (some ⟨B, 0, none⟩), .int .u64 (now : Int)] w fun e w' => e = .returned (.tuple #[]) ∧ PAt w' N F B (E.filter fun e => decide (now < e.2.ends)) most ∧ KT TP N w w' := by
  have hmf : ∀ (fn : Fn) (first cap : Array Value) (w : World), (Instr.makeFunc fn first cap).run Tryz.prog w = .ok (.func fn first cap) w := fun _ _ _ _ => rfl
  have nb := heap_alloc_new w (.cells #[.int .u64 (now : Int)] 25)
  have g1 := World.grownBy_alloc w (.cells #[.int .u64 (now : Int)] 25) none
  have hP := h.grow g1
  have HK := hid (keep_x N F B E most (fun x => decide (now < x.ends)) 44 #[.pointer (some ⟨w.heap.size, 0, none⟩)] (fun _ _ => rfl) _ hP (by
    intro lv h1 W e g he
    obtain ⟨lv', h1', h2'⟩ := hP.head
    obtain rfl : lv = lv' := by rw [h1] at h1'; simpa using h1'
    exact expirec_x N F e.1 e.2 now w.heap.size W ((hP.each e he).own h2' g) (g.cell ((cell_of_block nb 0).trans rfl) (own_ne_fs h2' nb (by decide)))))
  clear nb hP h
  have G1 := hid g1
  clear g1
  go_enter Tryz.func17, Tryz.ntmps17
  go_wp2_with fail
  refine HK.out.mono ?_
  rintro e w2 ⟨rfl, hP, hk⟩
  have HF := hid (And.intro hP ((KT.of_none G1.out).trans hk))
  clear hP hk HK
  go_wp2
  refine bodyPost_end (results_none rfl _ _ _) rfl ?_
  exact ⟨rfl, HF.out⟩
end Go.Proofs.YtfceodbpkghkaaaGreatDoor
