/- ssdp.Search. -/
import Derived.Test.YtnapfecalckajaaDoorSs4
import Derived.Test.YtnapfecalckajaaDoorJl
import Derived.Test.YtnapfecalckajaaDoorRegI
namespace Go.Proofs.YtnapfecalckajaaDoor
open Go.RowKit Go.Shelf
attribute [local go_sem] Oper.semAt_some

def allT : List UInt8 := [115, 115, 100, 112, 58, 97, 108, 108]
/-- The names that are answered. -/
def selS (st : List UInt8) (ps : List (List UInt8 × List UInt8)) : List (List UInt8 × List UInt8) := ps.filter fun x => st == allT || st == x.1
def ansA (lan : Nat) (st : List UInt8) (ps : List (List UInt8 × List UInt8)) : List (List UInt8) := (selS st ps).map fun x => ansL lan x.1 x.2
/-- The answers to a search. -/
def ansS (lan : Nat) (u : List UInt8) : Option (List UInt8) → List (List UInt8)
  | none => []
  | some st => ansA lan st (prsU u)
/-- A slice's elements are fresh rows of bytes. -/
def RowsOk (W : World) (n0 : Nat) (vs : List Value) (L : List (List UInt8)) : Prop := vs.length = L.length ∧ ∀ (i : Nat) (x : List UInt8), L[i]? = some x → ∃ g c, vs[i]? = some (.slice (some ⟨g, 0, none⟩) x.length c) ∧ n0 ≤ g ∧ Row8 W 5 g c x
theorem RowsOk.nil (W : World) (n0 : Nat) : RowsOk W n0 [] [] := ⟨rfl, fun i x h => by simp at h⟩
theorem Row8.keep8 {w w' : World} {row : Option Nat} {g c : Nat} {l : List UInt8} (h : Row8 w 5 g c l) (k : w.grownBy w' row) (hr : ∀ r, row = some r → ∀ cs fr, w.heap[r]? ≠ some (.cells cs 5 fr)) : Row8 w' 5 g c l := by
  refine h.keep k (fun e => ?_)
  obtain ⟨cs, lo, hi, hg, _⟩ := h
  exact hr g e.symm cs (lo, hi) hg
theorem RowsOk.keep {W W' : World} {n0 : Nat} {vs : List Value} {L : List (List UInt8)} {row : Option Nat} (h : RowsOk W n0 vs L) (k : W.grownBy W' row) (hr : ∀ r, row = some r → ∀ cs fr, W.heap[r]? ≠ some (.cells cs 5 fr)) : RowsOk W' n0 vs L := by
  refine ⟨h.1, fun i x hx => ?_⟩
  obtain ⟨g, c, e, hg, h8⟩ := h.2 i x hx
  exact ⟨g, c, e, hg, h8.keep8 k hr⟩
theorem RowsOk.snoc {W : World} {n0 g c : Nat} {vs : List Value} {L : List (List UInt8)} {x : List UInt8} (h : RowsOk W n0 vs L) (h8 : Row8 W 5 g c x) (hg : n0 ≤ g) : RowsOk W n0 (vs ++ [.slice (some ⟨g, 0, none⟩) x.length c]) (L ++ [x]) := by
  refine ⟨by simp [h.1], fun i y hy => ?_⟩
  rcases Nat.lt_or_ge i L.length with hl | hl
  · rw [List.getElem?_append_left hl] at hy
    obtain ⟨g', c', e, hg', h'⟩ := h.2 i y hy
    exact ⟨g', c', by rw [List.getElem?_append_left (by rw [h.1]; exact hl)]; exact e, hg', h'⟩
  · rw [List.getElem?_append_right hl] at hy
    have hi : i = L.length := by
      have := (List.getElem?_eq_some_iff.1 hy).1
      simp at this; omega
    subst hi
    simp at hy
    subst hy
    exact ⟨g, c, by rw [List.getElem?_append_right (by rw [h.1]; exact Nat.le_refl _), h.1]; simp, hg, h8⟩
def SearchPost (w : World) (L : List (List UInt8)) (e : Ending) (w' : World) : Prop :=
  ∃ v vs, e = .returned v ∧ w'.ownsRow w.heap.size 29 1 v L.length vs ∧ RowsOk w' w.heap.size vs L ∧ w.grownBy w' none
theorem askL_no {o : Option (List (List UInt8 × List UInt8))} (h : o = none ∨ ∃ fs, o = some fs ∧ ((oneL fs manT).1 ≠ discT ∨ (oneL fs stT).2 = false ∨ (numR 10 9999999 (oneL fs mxT).1).2 = false ∨ (numR 10 9999999 (oneL fs mxT).1).1 = 0)) : askL o = none := by
  rcases h with rfl | ⟨fs, rfl, h⟩
  · rfl
  · unfold askL
    dsimp only
    rw [if_neg]
    rintro ⟨a, b, c, d⟩
    rcases h with h | h | h | h
    · exact h a
    · rw [h] at b; cases b
    · rw [h] at c; cases c
    · exact d h
theorem ssF_len (t : List UInt8) : ((ssF t).getD []).length ≤ t.length + 1 := by
  unfold ssF
  split
  · unfold ofPieces
    split
    · cases hf : fieldsL (lns (Lib.trimSuffix t crlf4)).tail with
      | none => simp
      | some fs =>
        have h1 := fieldsL_len _ _ hf
        have h2 := lns_len (Lib.trimSuffix t crlf4)
        have h3 := trimSuffix_len t crlf4
        rw [List.length_tail] at h1
        simp only [Option.getD_some]; omega
    · simp
  · simp
theorem calls_of_wp_m {P : Program} {f : FuncId} {fn : Func} {c : Code} {args : Array Value} {w : World} {R : Ending → World → Prop}
    (hf : P.funcs[f]? = some fn) (hb : fn.body = some c)
    (h : c.wp P (bodyPostM Fence.wide 3 P fn R) { tmps := args ++ Array.replicate (fn.ntmps - args.size) undef, defers := [] } w) : Calls P f args w R :=
  callsIn_wide.1 (callsIn_of_wp_marks hf hb trivial (wpIn_wide.2 h) rfl)
/-- What holds between two rounds over the names. -/
def SeI (w : World) (bo bc bs : Nat) (cs : Array Value) (lan : Nat) (st : List UInt8) (pre : List Pr) (W : World) : Prop :=
  (∃ v vs, W.heap[bo]? = some (.cells #[v] 32 (0, 0)) ∧ W.ownsRow w.heap.size 29 1 v (ansA lan st (pre.map (·.1))).length vs ∧ RowsOk W w.heap.size vs (ansA lan st (pre.map (·.1)))) ∧
  W.heap[bc]? = some (.cells cs 28 (0, 0)) ∧ W.heap[bs]? = some (.cells #[.string ⟨st.toArray⟩] 9 (0, 0)) ∧ Below w.heap.size w W
theorem ansA_yes (lan : Nat) (st : List UInt8) (ps : List (List UInt8 × List UInt8)) (x : List UInt8 × List UInt8) (h : st = allT ∨ st = x.1) : ansA lan st (ps ++ [x]) = ansA lan st ps ++ [ansL lan x.1 x.2] := by
  unfold ansA selS
  rw [List.filter_append, List.map_append, List.filter_cons_of_pos (by simpa using h)]; rfl
theorem ansA_no (lan : Nat) (st : List UInt8) (ps : List (List UInt8 × List UInt8)) (x : List UInt8 × List UInt8) (h : ¬ (st = allT ∨ st = x.1)) : ansA lan st (ps ++ [x]) = ansA lan st ps := by
  unfold ansA selS
  rw [List.filter_append, List.map_append, List.filter_cons_of_neg (by simpa using h)]; simp
theorem ansA_len (lan : Nat) (st : List UInt8) (ps : List (List UInt8 × List UInt8)) : (ansA lan st ps).length ≤ ps.length := by
  unfold ansA selS
  rw [List.length_map]; exact List.length_filter_le _ _
theorem infoBys : (Tryd.prog.info? 29).map (fun i => (i.zero, i.size, i.bytes)) = some (some (.slice none 0 0), 1, 24) := by kernel_rfl
theorem ansLines_len (lan : Nat) (a b : List UInt8) (ha : a.length ≤ 305) (hb : b.length ≤ 700) : (Lib.join (ansLines lan a b) [13, 10]).length ≤ 100000 := by
  have htl : (textL lan).length ≤ 15 := join4_len _ (beL_len 4 lan)
  have h := join_len [13, 10] 2000 (ansLines lan a b) (fun y hy => by
    unfold ansLines placeL locT descT at hy
    simp only [List.mem_cons, List.not_mem_nil, or_false] at hy
    rcases hy with rfl | rfl | rfl | rfl | rfl | rfl | rfl <;> simp only [List.length_cons, List.length_nil, List.length_append] <;> omega)
  have h7 : (ansLines lan a b).length = 7 := rfl
  rw [h7] at h
  exact Nat.le_trans h (by decide)
/-- What the operations of the last region give. -/
def Fx7 (w0 : World) (lan : Nat) (a b : List UInt8) (v : Value) (w : World) : Prop := ∃ g, v = .slice (some ⟨g, 0, none⟩) 7 7 ∧ w.heap[g]? = some (.cells ((ansLines lan a b).map str).toArray 9 (0, 0)) ∧ w0.heap.size ≤ g
def Fx8 (w0 : World) (L : List UInt8) (v : Value) (w : World) : Prop := ∃ g c, v = .slice (some ⟨g, 0, none⟩) L.length c ∧ Row8 w 5 g c L ∧ w0.heap.size ≤ g
def Fx9 (w0 : World) (L : List UInt8) (v : Value) (w : World) : Prop := ∃ gg g c, v = .slice (some ⟨gg, 0, none⟩) 1 1 ∧ w.heap[gg]? = some (.cells #[.slice (some ⟨g, 0, none⟩) L.length c] 29 (0, 0)) ∧ Row8 w 5 g c L ∧ w0.heap.size ≤ g ∧ w0.heap.size ≤ gg
def Fx10 (w0 : World) (N0 : Nat) (L : List UInt8) (k : Nat) (vs : List Value) (v : Value) (w : World) : Prop := ∃ g c, w.ownsRow N0 29 1 v (k + 1) (vs ++ [.slice (some ⟨g, 0, none⟩) L.length c]) ∧ Row8 w 5 g c L ∧ w0.heap.size ≤ g
theorem ne_row {w0 : World} {row : Option Nat} {g : Nat} (hr : ∀ r, row = some r → r < w0.heap.size) (hg : w0.heap.size ≤ g) : some g ≠ row := fun e => by have := hr g e.symm; omega
theorem Fx7.kept {w0 w w' : World} {lan : Nat} {a b : List UInt8} {v : Value} {row : Option Nat} (h : Fx7 w0 lan a b v w) (g : w.grownBy w' row) (hr : ∀ r, row = some r → r < w0.heap.size) : Fx7 w0 lan a b v w' := by
  obtain ⟨g1, rfl, h1, h2⟩ := h
  exact ⟨g1, rfl, gr_keep g h1 (ne_row hr h2), h2⟩
theorem fx7_new {w0 w : World} {lan : Nat} {a b : List UInt8} (h : w0.heap.size ≤ w.heap.size) : Fx7 w0 lan a b (.slice (some ⟨w.heap.size, 0, none⟩) 7 7) (w.alloc (.cells ((ansLines lan a b).map str).toArray 9)) := ⟨_, rfl, heap_alloc_new w _, h⟩
theorem Fx8.kept {w0 w w' : World} {L : List UInt8} {v : Value} {row : Option Nat} (h : Fx8 w0 L v w) (g : w.grownBy w' row) (hr : ∀ r, row = some r → r < w0.heap.size) : Fx8 w0 L v w' := by
  obtain ⟨g1, c, rfl, h1, h2⟩ := h
  exact ⟨g1, c, rfl, h1.keep g (ne_row hr h2), h2⟩
theorem Fx9.kept {w0 w w' : World} {L : List UInt8} {v : Value} {row : Option Nat} (h : Fx9 w0 L v w) (g : w.grownBy w' row) (hr : ∀ r, row = some r → r < w0.heap.size) : Fx9 w0 L v w' := by
  obtain ⟨gg, g1, c, rfl, h0, h1, h2, h3⟩ := h
  exact ⟨gg, g1, c, rfl, gr_keep g h0 (ne_row hr h3), h1.keep g (ne_row hr h2), h2, h3⟩
theorem Fx10.kept {w0 w w' : World} {N0 k : Nat} {L : List UInt8} {vs : List Value} {v : Value} (h : Fx10 w0 N0 L k vs v w) (g : w.grownBy w' none) : Fx10 w0 N0 L k vs v w' := by
  obtain ⟨g1, c, h0, h1, h2⟩ := h
  exact ⟨g1, c, row_none h0 g, h1.keep g (by simp), h2⟩
theorem keep_other {A B : World} {row : Option Nat} {b : Nat} {cs : Array Value} {t : TypeId} {fr : Nat × Nat} (hs : A.heap[b]? = some (.cells cs t fr)) (hg : A.grownBy B row) (hr : ∀ r, row = some r → ∃ o : Obj, A.heap[r]? = some o ∧ o.isCells = false) : B.heap[b]? = some (.cells cs t fr) :=
  gr_keep hg hs (fun e => by obtain ⟨o, ho, hc⟩ := hr b e.symm; rw [hs] at ho; cases ho; cases hc)
theorem seI_own {w w9 : World} {bo bc bs : Nat} {cs : Array Value} {lan : Nat} {st : List UInt8} (h9 : w.heap.size ≤ w9.heap.size) : OwnFrom w9.heap.size (SeI w bo bc bs cs lan st) := by
  rintro s A B row ⟨⟨v, vs, hbo, hown, hrows⟩, hbc, hbs, hB⟩ hg hr
  have hr2 : ∀ r, row = some r → ∃ o : Obj, A.heap[r]? = some o ∧ o.isCells = false := fun r e => (hr r e).2
  refine ⟨⟨v, vs, keep_other hbo hg hr2, hown.kept hg ?_, hrows.keep hg ?_⟩, keep_other hbc hg hr2, keep_other hbs hg hr2, hB.grown hg hB.size (fun k e => Nat.le_trans h9 (hr k e).1)⟩
  · rcases hown.2 with ⟨rfl, _⟩ | ⟨g, cap, cur, rfl, hbg, hh, _⟩
    · exact .inl rfl
    · refine .inr (fun e => ?_)
      obtain ⟨o, ho, hc⟩ := hr2 g e.symm
      rw [hh] at ho; cases ho; cases hc
  · intro r e cs fr h
    obtain ⟨o, ho, hc⟩ := hr2 r e
    rw [h] at ho; cases ho; cases hc
theorem own_row_ty {w : World} {base size n r : Nat} {e : TypeId} {v : Value} {xs : List Value} (h : w.ownsRow base e size v n xs) (hr : v.ownBlock = some r) : ∃ cs, w.heap[r]? = some (.cells cs e (0, 0)) := by
  rcases h.2 with ⟨rfl, _⟩ | ⟨g, cap, cur, rfl, hb, hh, _⟩
  · cases hr
  · have : g = r := by simpa [Value.ownBlock] using hr
    subst this; exact ⟨cur, hh⟩
theorem seI_next {w w0 w1 : World} {bo bc bs N0 k g8 c8 : Nat} {cs : Array Value} {lan : Nat} {st : List UInt8} {pre : List Pr} {x : Pr} {ov v' : Value} {vs : List Value}
    (how0 : w0.ownsRow N0 29 1 ov k vs) (hk : k = (ansA lan st (pre.map (·.1))).length) (hrows : RowsOk w0 N0 vs (ansA lan st (pre.map (·.1)))) (hsn : ansA lan st ((pre ++ [x]).map (·.1)) = ansA lan st (pre.map (·.1)) ++ [ansL lan x.1.1 x.1.2])
    (gg : w0.grownBy w1 ov.ownBlock) (hb4 : w1.heap[bo]? = some (.cells #[ov] 32 (0, 0))) (hc4 : w1.heap[bc]? = some (.cells cs 28 (0, 0))) (hs4 : w1.heap[bs]? = some (.cells #[.string ⟨st.toArray⟩] 9 (0, 0)))
    (how : w1.ownsRow N0 29 1 v' (k + 1) (vs ++ [.slice (some ⟨g8, 0, none⟩) (ansL lan x.1.1 x.1.2).length c8])) (r8 : Row8 w1 5 g8 c8 (ansL lan x.1.1 x.1.2)) (hg8 : w0.heap.size ≤ g8) (hN0 : N0 = w.heap.size) (hB : Below w.heap.size w w0) (hbo : w.heap.size ≤ bo) (h1 : bc ≠ bo) (h2 : bs ≠ bo) :
    KeepsOthers w0 (w1.setCell ⟨bo, 0, none⟩ v') ∧ KS w0 (w1.setCell ⟨bo, 0, none⟩ v') ∧ SeI w bo bc bs cs lan st (pre ++ [x]) (w1.setCell ⟨bo, 0, none⟩ v') := by
  have g5 : w1.grownBy (w1.setCell ⟨bo, 0, none⟩ v') (some bo) := gr_set (gr_refl _ _)
  have hno8 : ∀ r, some bo = some r → ∀ cs fr, w1.heap[r]? ≠ some (.cells cs 5 fr) := fun r e cs fr h => by
    cases e; rw [hb4] at h; cases h
  subst hN0
  refine ⟨(KeepsOthers.of_grownBy gg fun j o e ho => ?_).trans (KeepsOthers.setCell _ _ _), fun i cs' fr hi => ?_, ⟨v', vs ++ [.slice (some ⟨g8, 0, none⟩) (ansL lan x.1.1 x.1.2).length c8], heap_set (o := 0) hb4, ?_, ?_⟩, (heap_set_other h1).trans hc4, (heap_set_other h2).trans hs4, (hB.grown gg hB.size (fun j e => (how0.lt j e).1)).setCell (p := ⟨bo, 0, none⟩) hbo _⟩
  · obtain ⟨cur, hc⟩ := own_row_ty how0 e
    rw [hc] at ho; cases ho; rfl
  · have hi1 := gr_keep gg hi (own_ne how0 hi (by decide))
    exact gr_keep g5 hi1 (fun e => by cases e; rw [hb4] at hi1; cases hi1)
  · have := row_ty how g5 hb4 (by decide)
    rw [hsn, List.length_append, ← hk]
    exact this
  · rw [hsn]
    refine RowsOk.keep ?_ g5 hno8
    refine RowsOk.snoc ?_ r8 (Nat.le_trans hB.size hg8)
    refine hrows.keep gg (fun r e cs fr h => ?_)
    obtain ⟨cur, hc⟩ := own_row_ty how0 e
    rw [hc] at h; cases h
theorem names_any (cs : Array Value) (w : World) : Calls Tryd.prog 17 #[.agg cs] w fun e w' => e = .returned (.func (.func 36) #[] #[.pointer (some ⟨w.heap.size, 0, none⟩)]) ∧ w' = w.alloc (.cells cs 28) := by
  go_enter Tryd.func17, Tryd.ntmps17
  go_wp2
  go_ret
  exact ⟨rfl, rfl⟩
theorem ssF_vlen (t : List UInt8) : ∀ f ∈ (ssF t).getD [], f.2.length ≤ t.length := by
  unfold ssF
  split
  · unfold ofPieces
    split
    · cases hf : fieldsL (lns (Lib.trimSuffix t crlf4)).tail with
      | none => intro f h; simp at h
      | some fs => exact fieldsL_vlen t.length _ _ hf (fun p hp => Nat.le_trans (lns_each _ p (List.mem_of_mem_tail hp)) (trimSuffix_len t crlf4))
    · intro f h; simp at h
  · intro f h; simp at h
theorem one_len {fs : List (List UInt8 × List UInt8)} {nm : List UInt8} {n : Nat} (h : ∀ f ∈ fs, f.2.length ≤ n) : (oneL fs nm).1.length ≤ n := by
  unfold oneL
  split
  · rename_i v hv
    have : v ∈ getL fs nm := by rw [hv]; simp
    unfold getL at this
    obtain ⟨f, hf, rfl⟩ := List.mem_map.1 this
    exact h f (List.mem_filter.1 hf).1
  · simp
set_option maxRecDepth 100000 in
set_option maxHeartbeats 4000000 in
theorem search_any (cs : Array Value) (lan : Nat) (u t : List UInt8) (v : Value) (m : Int) (w : World) (hb : Bytes w v t) (hl : t.length ≤ 90000) (hc : CfOk cs lan u) (hu : u.length ≤ 300) (hm : w.cell? ⟨0, 0, none⟩ = some (.int .i64 m)) (h10 : P10 w) :
    Calls Tryd.prog 7 #[.agg cs, v] w (SearchPost w (ansS lan u (askL (ssF t)))) := by
  have HB := hid hb
  have HC := hid hc
  have HM := hid hm
  have H10 := hid h10
  have HFL := hid (Nat.le_trans (ssF_len t) (show t.length + 1 ≤ 100000 by omega))
  have HVL := hid (fun f hf => Nat.le_trans (ssF_vlen t f hf) (show t.length ≤ 100000 by omega) : ∀ f ∈ (ssF t).getD [], f.2.length ≤ 100000)
  clear hb hc hm h10
  refine calls_of_wp_m Tryd.func7 rfl ?_
  simp only [Tryd.ntmps7, List.size_toArray, List.length_cons, List.length_nil, Nat.reduceAdd, Nat.reduceSub, Array.replicate_succ, Array.replicate_zero, List.push_toArray, List.append_toArray, List.nil_append, List.cons_append]
  go_wp2_with fail
  have hc0 := heap_alloc_new w (.cells cs 28)
  have ho0 := heap_alloc_new (w.alloc (.cells cs 28)) (.cells #[.slice none 0 0] 32)
  have hc1 := gr_keep (World.grownBy_alloc (w.alloc (.cells cs 28)) (.cells #[.slice none 0 0] 32) none) hc0 (by simp)
  have g1 : w.grownBy ((w.alloc (.cells cs 28)).alloc (.cells #[.slice none 0 0] 32)) none := gr_alloc (gr_alloc (gr_refl _ _) _) _
  simp only [World.size_alloc] at ho0
  clear hc0
  obtain ⟨bc, hbc⟩ : ∃ x, x = w.heap.size := ⟨_, rfl⟩
  obtain ⟨bo, hbo⟩ : ∃ x, x = w.heap.size + 1 := ⟨_, rfl⟩
  rw [← hbo] at ho0 ⊢
  rw [← hbc] at hc1 ⊢
  have HBC := hid (show w.heap.size ≤ bc by omega)
  have HBO := hid (show w.heap.size ≤ bo by omega)
  have HNE := hid (show bc ≠ bo by omega)
  clear hbc hbo
  obtain ⟨w1, hw1⟩ : ∃ x, (w.alloc (.cells cs 28)).alloc (.cells #[.slice none 0 0] 32) = x := ⟨_, rfl⟩
  rw [hw1] at hc1 ho0 g1 ⊢
  clear hw1
  have HH1 := hid hc1
  have HO1 := hid ho0
  have G1 := hid g1
  clear hc1 ho0 g1
  refine (fields_any t v m w1 (HB.out.grown G1.out) (by omega) (G1.out.cell HM.out (by simp))).mono ?_
  rintro e w2 ⟨fv, rfl, hfs, g2⟩
  obtain ⟨o, ho⟩ : ∃ o, ssF t = o := ⟨_, rfl⟩
  rw [ho] at hfs HFL HVL ⊢
  have HO := hid ho
  clear ho
  obtain ⟨fs, hfse⟩ : ∃ fs, o.getD [] = fs := ⟨_, rfl⟩
  rw [hfse] at hfs HFL HVL
  have HFS := hid hfse
  clear hfse
  have HF2 := hid hfs
  have HH2 := hid (gr_keep g2 HH1.out (by simp))
  have HO2 := hid (gr_keep g2 HO1.out (by simp))
  have G2 := hid (gr_trans G1.out g2)
  clear hfs g2 HH1 HO1 G1
  go_wp2_with fail
  refine (one_any w2 fv fs manT HF2.out HFL.out).mono ?_
  rintro e w3 ⟨rfl, g3⟩
  have HF3 := hid (HF2.out.grow g3)
  have HH3 := hid (gr_keep g3 HH2.out (by simp))
  have HO3 := hid (gr_keep g3 HO2.out (by simp))
  have G3 := hid (gr_trans G2.out g3)
  clear g3 HF2 HH2 HO2 G2
  go_wp2_with fail
  refine (one_any w3 fv fs stT HF3.out HFL.out).mono ?_
  rintro e w4 ⟨rfl, g4⟩
  have HF4 := hid (HF3.out.grow g4)
  have HH4 := hid (gr_keep g4 HH3.out (by simp))
  have HO4 := hid (gr_keep g4 HO3.out (by simp))
  have G4 := hid (gr_trans G3.out g4)
  clear g4 HF3 HH3 HO3 G3
  obtain ⟨man, manb, hman⟩ : ∃ a b, oneL fs manT = (a, b) := ⟨_, _, rfl⟩
  obtain ⟨st, stb, hst⟩ : ∃ a b, oneL fs stT = (a, b) := ⟨_, _, rfl⟩
  obtain ⟨mx, mxb, hmx⟩ : ∃ a b, oneL fs mxT = (a, b) := ⟨_, _, rfl⟩
  rw [hman, hst]
  have HMAN := hid hman
  have HST := hid hst
  have HMX := hid hmx
  clear hman hst hmx
  dsimp only
  unfold str
  have HSB := hid (heap_alloc_new w4 (.cells #[.string ⟨st.toArray⟩] 9))
  have g5 := World.grownBy_alloc w4 (.cells #[.string ⟨st.toArray⟩] 9) none
  go_wp2_with fail
  have hbs : bc ≠ w4.heap.size ∧ bo ≠ w4.heap.size := by
    have := lt_of_block HH4.out; have := lt_of_block HO4.out; omega
  have HBS := hid (show w.heap.size ≤ w4.heap.size from G4.out.size)
  obtain ⟨bs, hbse⟩ : ∃ x, x = w4.heap.size := ⟨_, rfl⟩
  obtain ⟨w5, hw5⟩ : ∃ x, w4.alloc (.cells #[.string ⟨st.toArray⟩] 9) = x := ⟨_, rfl⟩
  rw [hw5] at HSB g5 ⊢
  rw [← hbse] at HSB HBS hbs ⊢
  have HH5 := hid (gr_keep g5 HH4.out (by simp))
  have HO5 := hid (gr_keep g5 HO4.out (by simp))
  have HF5 := hid (HF4.out.grow g5)
  have G5 := hid (gr_trans G4.out g5)
  have HNB := hid hbs
  clear g5 hbse hw5 hbs HH4 HO4 HF4 G4
  refine (one_any w5 fv fs mxT HF5.out HFL.out).mono ?_
  rintro e w6 ⟨rfl, g6⟩
  have HS6 := hid (gr_keep g6 HSB.out (by simp))
  have HH6 := hid (gr_keep g6 HH5.out (by simp))
  have HO6 := hid (gr_keep g6 HO5.out (by simp))
  have G6 := hid (gr_trans G5.out g6)
  have HML := hid (one_len (nm := mxT) HVL.out)
  rw [HMX.out] at HML ⊢
  clear g6 HSB HH5 HO5 HF5 G5 HFL HVL
  dsimp only at HML ⊢
  unfold str
  go_wp2_with fail
  refine (number_any ⟨mx.toArray⟩ 10 9999999 w6 (by rw [Lib.size_eq]; simp; have := HML.out; omega)).mono ?_
  rintro e w7 ⟨rfl, g7⟩
  rw [show (ByteArray.mk mx.toArray).data.toList = mx from rfl]
  have HS7 := hid (gr_keep g7 HS6.out (by simp))
  have HH7 := hid (gr_keep g7 HH6.out (by simp))
  have HO7 := hid (gr_keep g7 HO6.out (by simp))
  have G7 := hid (gr_trans G6.out g7)
  clear g7 HS6 HH6 HO6 G6 HML
  obtain ⟨nn, nb, hnn⟩ : ∃ a b, numR 10 9999999 mx = (a, b) := ⟨_, _, rfl⟩
  rw [hnn]
  have HNN := hid hnn
  clear hnn
  dsimp only
  have c4 := (cell_of_block HO7.out 0).trans (show _ = some (Value.slice none 0 0) from rfl)
  have f4 := free_of_block HO7.out 0
  have l4 := lt_of_block HO7.out
  obtain ⟨ob, hob⟩ : ∃ ob, o.isSome = ob := ⟨_, rfl⟩
  rw [hob]
  by_cases hyes : ob = true ∧ man = [34, 115, 115, 100, 112, 58, 100, 105, 115, 99, 111, 118, 101, 114, 34] ∧ stb = true ∧ nb = true ∧ (nn == 0) = false
  · obtain ⟨rfl, rfl, rfl, rfl, hn0⟩ := hyes
    have HA := hid (show askL o = some st by
      obtain ⟨x, rfl⟩ := Option.isSome_iff_exists.1 hob
      obtain rfl : x = fs := HFS.out
      unfold askL
      dsimp only
      rw [HMAN.out, HST.out, HMX.out]
      dsimp only
      rw [HNN.out, if_pos ⟨rfl, rfl, rfl, by simpa using hn0⟩])
    clear hob
    go_wp2_with (refine wpList_load_row rfl 28 _ rfl bc rfl 28 cs (0, 0) _ HH7.out Tryd.underlying28 rfl (by rw [HC.out.sz]; kernel_rfl) ?_)
    refine (names_any cs w7).mono ?_
    rintro e w8 ⟨rfl, rfl⟩
    go_wp2_with fail
    have HQ := hid (show (w7.alloc (.cells cs 28)).heap[w7.heap.size]? = some (.cells cs 28 (0, 0)) from heap_alloc_new w7 _)
    have g8 := World.grownBy_alloc w7 (.cells cs 28) none
    obtain ⟨w9, hw9⟩ : ∃ x, w7.alloc (.cells cs 28) = x := ⟨_, rfl⟩
    rw [hw9] at HQ g8 ⊢
    obtain ⟨bq, hbq⟩ : ∃ x, x = w7.heap.size := ⟨_, rfl⟩
    rw [← hbq] at HQ ⊢
    have hh9 := gr_keep g8 HH7.out (by simp)
    have ho9 := gr_keep g8 HO7.out (by simp)
    have hs9 := gr_keep g8 HS7.out (by simp)
    have g9 := gr_trans G7.out g8
    have HUB := hid (show w9.cell? ⟨bq, 27, none⟩ = some (str u) from (cell_of_block HQ.out 27).trans HC.out.c27)
    have hSE : SeI w bo bc bs cs lan st [] w9 := ⟨⟨.slice none 0 0, [], ho9, World.ownsRow_nil _ _ _ _, RowsOk.nil _ _⟩, hh9, hs9, gr_below g9⟩
    have HSE := hid hSE
    have HG9 := hid g9.size
    have HP10 := hid (fun (W : World) (h : Below w.heap.size w W) => H10.out.grown (gr_of_below h) : ∀ W, Below w.heap.size w W → P10 W)
    clear hw9 hbq hh9 ho9 hs9 g9 g8 hSE HO7 HH7 HS7 G7 c4 f4 l4 HQ hn0 HNN
    refine (wpIn_wide (n := 3)).1 ?_
    refine wpIn_rangeFunc_ownF rfl (by omega) (gf := 36) (lb := #[.pointer (some ⟨bq, 0, none⟩)]) rfl trivial (enters_of Tryd.func36 (by kernel_rfl) rfl)
      (names_stops _ _ trivial rfl (by omega) bq u hu w9 HUB.out) KS.trans (ks_b (n0 := w9.heap.size)) (Below.refl _ _) (fun _ => rfl)
      (SeI w bo bc bs cs lan st) (fun _ _ _ => False) (seI_own HG9.out) (fun _ _ _ _ _ hs _ _ => hs) HSE.out
      (fun x => { tmps := #[Value.agg cs, v, Value.pointer (some { block := bc, off := 0 }), undef, Value.pointer (some { block := bo, off := 0 }), fv, Value.bool true, Value.string { data := #[34, 115, 115, 100, 112, 58, 100, 105, 115, 99, 111, 118, 101, 114, 34] }, Value.bool manb, Value.pointer (some { block := bs, off := 0 }), Value.bool true, Value.string { data := mx.toArray }, Value.bool mxb, Value.int IntKind.i64 nn, Value.bool true, Value.string ⟨x.1.1.toArray⟩, Value.string ⟨x.1.2.toArray⟩, Value.tuple #[fv, Value.bool true], v, Value.tuple #[fv, Value.bool true], fv, Value.bool true, Value.tuple #[Value.string { data := #[34, 115, 115, 100, 112, 58, 100, 105, 115, 99, 111, 118, 101, 114, 34] }, Value.bool manb], fv, Value.tuple #[Value.string { data := #[34, 115, 115, 100, 112, 58, 100, 105, 115, 99, 111, 118, 101, 114, 34] }, Value.bool manb], Value.string { data := #[34, 115, 115, 100, 112, 58, 100, 105, 115, 99, 111, 118, 101, 114, 34] }, Value.bool manb, Value.tuple #[Value.string { data := st.toArray }, Value.bool true], fv, Value.tuple #[Value.string { data := st.toArray }, Value.bool true], Value.string { data := st.toArray }, Value.bool true, Value.tuple #[Value.string { data := mx.toArray }, Value.bool mxb], fv, Value.tuple #[Value.string { data := mx.toArray }, Value.bool mxb], Value.string { data := mx.toArray }, Value.bool mxb, Value.tuple #[Value.int IntKind.i64 nn, Value.bool true], Value.string { data := mx.toArray }, Value.tuple #[Value.int IntKind.i64 nn, Value.bool true], Value.int IntKind.i64 nn, Value.bool true, Value.bool true, Value.bool false, Value.bool false, Value.string { data := #[34, 115, 115, 100, 112, 58, 100, 105, 115, 99, 111, 118, 101, 114, 34] }, Value.bool false, Value.bool false, Value.bool false, Value.bool true, Value.bool false, Value.bool false, Value.bool false, Value.bool true, Value.bool false, Value.bool false, Value.bool false, Value.int IntKind.i64 nn, Value.bool false, Value.bool false, Value.agg cs, Value.func (Fn.func 36) #[] #[Value.pointer (some { block := bq, off := 0 })], Value.string ⟨x.1.1.toArray⟩, Value.string ⟨x.1.2.toArray⟩, undef, undef, undef, undef, undef, undef, undef, undef, undef, undef, undef, undef, undef, undef, undef, undef, undef, undef, undef], defers := [] }) ?assign ?body ?done ?stop
    case assign =>
      intro l x W K hK
      gi_wp2
      exact hK
    case body =>
      rintro l pre x W ⟨⟨ov, vs, hbo, hown, hrows⟩, hbc, hbs, hB⟩ hlen
      have cS := (cell_of_block hbs 0).trans (show _ = some (Value.string ⟨st.toArray⟩) from rfl)
      have HROWS := hid hrows
      have HB := hid hB
      have HPE := hid (show ansA lan st ((pre ++ [x]).map (·.1)) = ansA lan st (pre.map (·.1) ++ [x.1]) by rw [List.map_append]; rfl)
      by_cases hsel : st = [115, 115, 100, 112, 58, 97, 108, 108] ∨ st = x.1.1
      · have HSN := hid (HPE.out.trans (ansA_yes lan st (pre.map (·.1)) x.1 hsel))
        have HKL := hid (Nat.le_trans (ansA_len lan st (pre.map (·.1))) (show (pre.map (·.1)).length ≤ 6 by rw [List.length_map]; omega))
        obtain ⟨k, hk⟩ : ∃ k, k = (ansA lan st (pre.map (·.1))).length := ⟨_, rfl⟩
        rw [← hk] at hown HKL
        have HK := hid hk
        obtain ⟨oa, oc, rfl, hkoc⟩ := row_shape hown
        have HOW := hid hown
        have HBOX := hid hbo
        have HBK := hid (own_ne hown hbo (by decide))
        have HCF := hid hbc
        have HCK := hid (own_ne hown hbc (by decide))
        have HST4 := hid hbs
        have HSK := hid (own_ne hown hbs (by decide))
        have HSZ28 := hid (show (Tryd.prog.info? 28).map (·.size) = some cs.size by rw [HC.out.sz]; kernel_rfl)
        obtain ⟨N0, hN0⟩ : ∃ n, n = w.heap.size := ⟨_, rfl⟩
        have HPL := hid (fun (V : World) (g : W.grownBy V (Value.slice oa k oc).ownBlock) => place_any cs lan u V HC.out (HP10.out V (hB.grown g hB.size (fun j e => (hown.lt j e).1))))
        have HRL := hid (fun r e => (hown.lt r e).2 : ∀ r, (Value.slice oa k oc).ownBlock = some r → r < W.heap.size)
        have HRB := hid (fun r e => (hown.lt r e).1 : ∀ r, (Value.slice oa k oc).ownBlock = some r → w.heap.size ≤ r)
        have HN0 := hid (show N0 ≤ W.heap.size by rw [hN0]; exact hB.size)
        have HN0E := hid hN0
        rw [← hN0] at HOW HROWS
        have HLL := hid (ansLines_len lan x.1.1 x.1.2 x.2.1 x.2.2)
        have hx1 := x.2.1
        have hx2 := x.2.2
        have HX4 := hid (show ¬ 9223372036854775807 < 4 + x.1.1.length by omega)
        have HX6 := hid (show ¬ 9223372036854775807 < 5 + x.1.2.length by omega)
        obtain ⟨iB, hi', hz', hs', hb'⟩ := info_parts infoBys
        have hiB := hid hi'
        have hzB := hid hz'
        have hsB := hid hs'
        have hbB := hid hb'
        have hk6 : k ≤ 6 := HKL.out
        clear hi' hz' hs' hb' hN0 hown hbo hbc hrows hkoc hk
        obtain ⟨w0, hw0⟩ : ∃ w0, w0 = W := ⟨_, rfl⟩
        subst hw0
        by_cases h1 : (st == [115, 115, 100, 112, 58, 97, 108, 108]) = true
        · clear hsel
          gi_wp2
          clear h1 cS hbs hB hlen
          refine wpIn_region_spec3 (by kernel_rfl) 11 10 (Value.slice oa k oc).ownBlock (by kernel_rfl) (by kernel_rfl) (by kernel_rfl) (by kernel_rfl) (by kernel_rfl) (by kernel_rfl) [some 71, some 72, some 73, some 74, some 75, some 76, some 77, some 78, some 79, some 80, some 81] (by kernel_rfl) _ (fun u => (by simp only [fill, List.zipIdx_cons, List.zipIdx_nil, List.foldl_cons, List.foldl_nil, Act.put, List.setIfInBounds_toArray, List.set_cons_zero, List.set_cons_succ, Nat.zero_add, Nat.reduceAdd]; exact rfl)) (by kernel_rfl)
            (all_succ (all_succ (all_succ (all_succ (all_succ (all_succ (all_succ (all_succ (all_succ (all_succ (all_succ (all_zero _) (fun u v => by kernel_rfl)) (fun u v => by kernel_rfl)) (fun u v => by kernel_rfl)) (fun u v => by kernel_rfl)) (fun u v => by kernel_rfl)) (fun u v => by kernel_rfl)) (fun u v => by kernel_rfl)) (fun u v => by kernel_rfl)) (fun u v => by kernel_rfl)) (fun u v => by kernel_rfl)) (fun u v => by kernel_rfl))
            (fun ri v w => match ri with | 0 => v = .slice oa k oc | 1 => v = .agg cs | 2 => v = .string ⟨(placeL lan).toArray⟩ | 3 => v = .string ⟨x.1.1.toArray⟩ | 4 => v = .string ((⟨#[83, 84, 58, 32]⟩ : ByteArray) ++ ⟨x.1.1.toArray⟩) | 5 => v = .string ⟨x.1.2.toArray⟩ | 6 => v = .string ((⟨#[85, 83, 78, 58, 32]⟩ : ByteArray) ++ ⟨x.1.2.toArray⟩) | 7 => Fx7 w0 lan x.1.1 x.1.2 v w | 8 => Fx8 w0 (ansL lan x.1.1 x.1.2) v w | 9 => Fx9 w0 (ansL lan x.1.1 x.1.2) v w | 10 => Fx10 w0 N0 (ansL lan x.1.1 x.1.2) k vs v w | _ => True)
            (all_succ (all_succ (all_succ (all_succ (all_succ (all_succ (all_succ (all_succ (all_succ (all_succ (all_succ (all_zero _) ?zm0) ?zm1) ?zm2) ?zm3) ?zm4) ?zm5) ?zm6) ?zm7) ?zm8) ?zm9) ?zm10)
            [[], [], [1], [], [3], [], [5], [2, 4, 6], [7], [8], [0, 9]] (by kernel_rfl)
            ⟨?zo0, ?zo1, ?zo2, ?zo3, ?zo4, ?zo5, ?zo6, ?zo7, ?zo8, ?zo9, ?zo10, trivial⟩ ?zdone
          case zm0 => intro v w w' h g; first | exact h | exact Fx7.kept h g HRL.out | exact Fx8.kept h g HRL.out | exact Fx9.kept h g HRL.out | exact Fx10.kept h g
          case zm1 => intro v w w' h g; first | exact h | exact Fx7.kept h g HRL.out | exact Fx8.kept h g HRL.out | exact Fx9.kept h g HRL.out | exact Fx10.kept h g
          case zm2 => intro v w w' h g; first | exact h | exact Fx7.kept h g HRL.out | exact Fx8.kept h g HRL.out | exact Fx9.kept h g HRL.out | exact Fx10.kept h g
          case zm3 => intro v w w' h g; first | exact h | exact Fx7.kept h g HRL.out | exact Fx8.kept h g HRL.out | exact Fx9.kept h g HRL.out | exact Fx10.kept h g
          case zm4 => intro v w w' h g; first | exact h | exact Fx7.kept h g HRL.out | exact Fx8.kept h g HRL.out | exact Fx9.kept h g HRL.out | exact Fx10.kept h g
          case zm5 => intro v w w' h g; first | exact h | exact Fx7.kept h g HRL.out | exact Fx8.kept h g HRL.out | exact Fx9.kept h g HRL.out | exact Fx10.kept h g
          case zm6 => intro v w w' h g; first | exact h | exact Fx7.kept h g HRL.out | exact Fx8.kept h g HRL.out | exact Fx9.kept h g HRL.out | exact Fx10.kept h g
          case zm7 => intro v w w' h g; first | exact h | exact Fx7.kept h g HRL.out | exact Fx8.kept h g HRL.out | exact Fx9.kept h g HRL.out | exact Fx10.kept h g
          case zm8 => intro v w w' h g; first | exact h | exact Fx7.kept h g HRL.out | exact Fx8.kept h g HRL.out | exact Fx9.kept h g HRL.out | exact Fx10.kept h g
          case zm9 => intro v w w' h g; first | exact h | exact Fx7.kept h g HRL.out | exact Fx8.kept h g HRL.out | exact Fx9.kept h g HRL.out | exact Fx10.kept h g
          case zm10 => intro v w w' h g; first | exact h | exact Fx7.kept h g HRL.out | exact Fx8.kept h g HRL.out | exact Fx9.kept h g HRL.out | exact Fx10.kept h g
          case zo0 =>
            intro u w g hd K hK
            replace g : w0.grownBy w ((Value.slice oa k oc).ownBlock) := g
            clear hd
            simp only [Act.put, List.setIfInBounds_toArray, List.set_cons_zero, List.set_cons_succ] at hK
            have c' := (cell_of_block (gr_keep g HBOX.out HBK.out) 0).trans (show _ = some (Value.slice oa k oc) from rfl)
            go_simp
            exact hK _ _ rfl (gr_refl _ _)
          case zo1 =>
            intro u w g hd K hK
            replace g : w0.grownBy w ((Value.slice oa k oc).ownBlock) := g
            clear hd
            simp only [Act.put, List.setIfInBounds_toArray, List.set_cons_zero, List.set_cons_succ] at hK
            split
            rotate_left
            · rename_i hno; exact absurd rfl hno
            refine wp_load_row 28 (.tmp 2) rfl bc (by rfl) 28 cs (0, 0) _ (gr_keep g HCF.out HCK.out) Tryd.underlying28 rfl HSZ28.out ?_
            exact hK _ _ rfl (gr_refl _ _)
          case zo2 =>
            intro u w g hd K hK
            replace g : w0.grownBy w ((Value.slice oa k oc).ownBlock) := g
            have h1 : (u 1) = .agg cs := hd 1 (by simp)
            clear hd
            simp only [Act.put, List.setIfInBounds_toArray, List.set_cons_zero, List.set_cons_succ] at hK
            simp only [h1] at hK ⊢
            go_simp
            refine (HPL.out w g).mono ?_
            rintro e w' ⟨rfl, g'⟩
            exact hK _ w' rfl g'
          case zo3 =>
            intro u w g hd K hK
            replace g : w0.grownBy w ((Value.slice oa k oc).ownBlock) := g
            clear hd
            simp only [Act.put, List.setIfInBounds_toArray, List.set_cons_zero, List.set_cons_succ] at hK
            go_simp
            exact hK _ _ rfl (gr_refl _ _)
          case zo4 =>
            intro u w g hd K hK
            replace g : w0.grownBy w ((Value.slice oa k oc).ownBlock) := g
            have h3 : (u 3) = .string ⟨x.1.1.toArray⟩ := hd 3 (by simp)
            clear hd
            simp only [Act.put, List.setIfInBounds_toArray, List.set_cons_zero, List.set_cons_succ] at hK
            have hb := HX4.out
            simp only [h3] at hK ⊢
            go_simp
            exact hK _ _ rfl (gr_refl _ _)
          case zo5 =>
            intro u w g hd K hK
            replace g : w0.grownBy w ((Value.slice oa k oc).ownBlock) := g
            clear hd
            simp only [Act.put, List.setIfInBounds_toArray, List.set_cons_zero, List.set_cons_succ] at hK
            go_simp
            exact hK _ _ rfl (gr_refl _ _)
          case zo6 =>
            intro u w g hd K hK
            replace g : w0.grownBy w ((Value.slice oa k oc).ownBlock) := g
            have h5 : (u 5) = .string ⟨x.1.2.toArray⟩ := hd 5 (by simp)
            clear hd
            simp only [Act.put, List.setIfInBounds_toArray, List.set_cons_zero, List.set_cons_succ] at hK
            have hb := HX6.out
            simp only [h5] at hK ⊢
            go_simp
            exact hK _ _ rfl (gr_refl _ _)
          case zo7 =>
            intro u w g hd K hK
            replace g : w0.grownBy w ((Value.slice oa k oc).ownBlock) := g
            have h2 : (u 2) = .string ⟨(placeL lan).toArray⟩ := hd 2 (by simp)
            have h4 : (u 4) = .string ((⟨#[83, 84, 58, 32]⟩ : ByteArray) ++ ⟨x.1.1.toArray⟩) := hd 4 (by simp)
            have h6 : (u 6) = .string ((⟨#[85, 83, 78, 58, 32]⟩ : ByteArray) ++ ⟨x.1.2.toArray⟩) := hd 6 (by simp)
            clear hd
            simp only [Act.put, List.setIfInBounds_toArray, List.set_cons_zero, List.set_cons_succ] at hK
            simp only [h2, h4, h6] at hK ⊢
            go_simp
            exact hK _ _ (fx7_new g.size) (World.grownBy_alloc w _ none)
          case zo8 =>
            intro u w g hd K hK
            replace g : w0.grownBy w ((Value.slice oa k oc).ownBlock) := g
            have h7 : Fx7 w0 lan x.1.1 x.1.2 (u 7) w := hd 7 (by simp)
            clear hd
            simp only [Act.put, List.setIfInBounds_toArray, List.set_cons_zero, List.set_cons_succ] at hK
            obtain ⟨gg, e7, hgg, hge⟩ := h7
            simp only [e7] at hK ⊢
            go_simp
            refine (text_seven (ansLines lan x.1.1 x.1.2) gg w rfl (fun j y hy => by rw [cell_of_block hgg j]; simp [hy]) (lt_of_block hgg) HLL.out).mono ?_
            rintro e w' ⟨g8, c8, rfl, r8, hg8, g'⟩
            exact hK _ w' ⟨g8, c8, rfl, r8, Nat.le_trans g.size hg8⟩ g'
          case zo9 =>
            intro u w g hd K hK
            replace g : w0.grownBy w ((Value.slice oa k oc).ownBlock) := g
            have h8 : Fx8 w0 (ansL lan x.1.1 x.1.2) (u 8) w := hd 8 (by simp)
            clear hd
            simp only [Act.put, List.setIfInBounds_toArray, List.set_cons_zero, List.set_cons_succ] at hK
            obtain ⟨g8, c8, e8, r8, hg8⟩ := h8
            simp only [e8] at hK ⊢
            go_simp
            exact hK _ _ ⟨w.heap.size, g8, c8, rfl, heap_alloc_new w _, r8.keep (World.grownBy_alloc w _ none) (by simp), hg8, g.size⟩ (World.grownBy_alloc w _ none)
          case zo10 =>
            intro u w g hd K hK
            replace g : w0.grownBy w none := g
            have h0 : (u 0) = .slice oa k oc := hd 0 (by simp)
            have h9 : Fx9 w0 (ansL lan x.1.1 x.1.2) (u 9) w := hd 9 (by simp)
            clear hd
            simp only [Act.put, List.setIfInBounds_toArray, List.set_cons_zero, List.set_cons_succ] at hK
            obtain ⟨gg, g8, c8, e9, hgg, r8, hg8, hge⟩ := h9
            simp only [h0, e9] at hK ⊢
            split
            rotate_left
            · rename_i hno; exact absurd rfl hno
            refine wp_append_own w (.tmp 71) (.tmp 80) 32 rfl N0 29 iB _ 1 _ Tryd.underlying32 hiB.out hzB.out hsB.out hbB.out rfl (by decide) (.slice oa k oc) k vs (by rfl) (row_none HOW.out g) ⟨gg, 0, none⟩ 1 1 [.slice (some ⟨g8, 0, none⟩) (ansL lan x.1.1 x.1.2).length c8] (by rfl) rfl (fun j u hu => by rw [Go.WideShapes.add_plain, Nat.zero_add, cell_of_block hgg j]; simpa using hu) (fun u hu => by obtain rfl := List.mem_singleton.1 hu; exact rfl) (by unfold maxLen; omega) (by omega) (Nat.le_trans HN0.out g.size) ?_
            intro v' w' q1 q2 _
            exact hK v' w' ⟨g8, c8, q1, r8.keep q2 (fun e => by have := HRL.out g8 e.symm; omega), hg8⟩ q2
          case zdone =>
            intro u w hS g
            have s0 : (u 0) = .slice oa k oc := hS 0 (by decide)
            have s1 : (u 1) = .agg cs := hS 1 (by decide)
            have s2 : (u 2) = .string ⟨(placeL lan).toArray⟩ := hS 2 (by decide)
            have s3 : (u 3) = .string ⟨x.1.1.toArray⟩ := hS 3 (by decide)
            have s4 : (u 4) = .string ((⟨#[83, 84, 58, 32]⟩ : ByteArray) ++ ⟨x.1.1.toArray⟩) := hS 4 (by decide)
            have s5 : (u 5) = .string ⟨x.1.2.toArray⟩ := hS 5 (by decide)
            have s6 : (u 6) = .string ((⟨#[85, 83, 78, 58, 32]⟩ : ByteArray) ++ ⟨x.1.2.toArray⟩) := hS 6 (by decide)
            have s7 : Fx7 w0 lan x.1.1 x.1.2 (u 7) w := hS 7 (by decide)
            have s8 : Fx8 w0 (ansL lan x.1.1 x.1.2) (u 8) w := hS 8 (by decide)
            have s9 : Fx9 w0 (ansL lan x.1.1 x.1.2) (u 9) w := hS 9 (by decide)
            have s10 : Fx10 w0 N0 (ansL lan x.1.1 x.1.2) k vs (u 10) w := hS 10 (by decide)
            clear hS
            change wpList _ _ _ [_] _ _
            obtain ⟨g8, c8, how, r8, hg8⟩ := s10
            have gg : w0.grownBy w (Value.slice oa k oc).ownBlock := g
            have hb4 := gr_keep gg HBOX.out HBK.out
            have hc4 := gr_keep gg HCF.out HCK.out
            have hs4 := gr_keep gg HST4.out HSK.out
            obtain ⟨ya, yc, ey, -⟩ := row_shape how
            rw [ey] at how ⊢
            have f6 := free_of_block hb4 0
            have c6 := (cell_of_block hb4 0).trans (show _ = some (Value.slice oa k oc) from rfl)
            have lb4 := lt_of_block hb4
            have HH4 := hid hb4
            have HC4 := hid hc4
            have HS4 := hid hs4
            have HOW4 := hid how
            have HR8 := hid r8
            have HG8 := hid hg8
            have HGG := hid gg
            clear s0 s1 s2 s3 s4 s5 s6 s7 s8 s9 g gg hb4 hc4 hs4 ey how r8 hg8
            generalize u 0 = y0, u 1 = y1, u 2 = y2, u 3 = y3, u 4 = y4, u 5 = y5, u 6 = y6, u 7 = y7, u 8 = y8, u 9 = y9
            go_wp2_with fail
            refine ⟨by simp, ?_⟩
            exact seI_next HOW.out HK.out HROWS.out HSN.out HGG.out HH4.out HC4.out HS4.out HOW4.out HR8.out HG8.out HN0E.out HB.out HBO.out HNE.out HNB.out.2.symm
        · have h1' : (st == [115, 115, 100, 112, 58, 97, 108, 108]) = false := by simpa using h1
          have h2 : (st == x.1.1) = true := by
            rcases hsel with h | h
            · exact absurd (by simpa using h) h1
            · simpa using h
          clear hsel h1
          gi_wp2
          clear h1' h2 cS hbs hB hlen
          refine wpIn_region_spec3 (by kernel_rfl) 11 10 (Value.slice oa k oc).ownBlock (by kernel_rfl) (by kernel_rfl) (by kernel_rfl) (by kernel_rfl) (by kernel_rfl) (by kernel_rfl) [some 71, some 72, some 73, some 74, some 75, some 76, some 77, some 78, some 79, some 80, some 81] (by kernel_rfl) _ (fun u => (by simp only [fill, List.zipIdx_cons, List.zipIdx_nil, List.foldl_cons, List.foldl_nil, Act.put, List.setIfInBounds_toArray, List.set_cons_zero, List.set_cons_succ, Nat.zero_add, Nat.reduceAdd]; exact rfl)) (by kernel_rfl)
            (all_succ (all_succ (all_succ (all_succ (all_succ (all_succ (all_succ (all_succ (all_succ (all_succ (all_succ (all_zero _) (fun u v => by kernel_rfl)) (fun u v => by kernel_rfl)) (fun u v => by kernel_rfl)) (fun u v => by kernel_rfl)) (fun u v => by kernel_rfl)) (fun u v => by kernel_rfl)) (fun u v => by kernel_rfl)) (fun u v => by kernel_rfl)) (fun u v => by kernel_rfl)) (fun u v => by kernel_rfl)) (fun u v => by kernel_rfl))
            (fun ri v w => match ri with | 0 => v = .slice oa k oc | 1 => v = .agg cs | 2 => v = .string ⟨(placeL lan).toArray⟩ | 3 => v = .string ⟨x.1.1.toArray⟩ | 4 => v = .string ((⟨#[83, 84, 58, 32]⟩ : ByteArray) ++ ⟨x.1.1.toArray⟩) | 5 => v = .string ⟨x.1.2.toArray⟩ | 6 => v = .string ((⟨#[85, 83, 78, 58, 32]⟩ : ByteArray) ++ ⟨x.1.2.toArray⟩) | 7 => Fx7 w0 lan x.1.1 x.1.2 v w | 8 => Fx8 w0 (ansL lan x.1.1 x.1.2) v w | 9 => Fx9 w0 (ansL lan x.1.1 x.1.2) v w | 10 => Fx10 w0 N0 (ansL lan x.1.1 x.1.2) k vs v w | _ => True)
            (all_succ (all_succ (all_succ (all_succ (all_succ (all_succ (all_succ (all_succ (all_succ (all_succ (all_succ (all_zero _) ?zm0) ?zm1) ?zm2) ?zm3) ?zm4) ?zm5) ?zm6) ?zm7) ?zm8) ?zm9) ?zm10)
            [[], [], [1], [], [3], [], [5], [2, 4, 6], [7], [8], [0, 9]] (by kernel_rfl)
            ⟨?zo0, ?zo1, ?zo2, ?zo3, ?zo4, ?zo5, ?zo6, ?zo7, ?zo8, ?zo9, ?zo10, trivial⟩ ?zdone
          case zm0 => intro v w w' h g; first | exact h | exact Fx7.kept h g HRL.out | exact Fx8.kept h g HRL.out | exact Fx9.kept h g HRL.out | exact Fx10.kept h g
          case zm1 => intro v w w' h g; first | exact h | exact Fx7.kept h g HRL.out | exact Fx8.kept h g HRL.out | exact Fx9.kept h g HRL.out | exact Fx10.kept h g
          case zm2 => intro v w w' h g; first | exact h | exact Fx7.kept h g HRL.out | exact Fx8.kept h g HRL.out | exact Fx9.kept h g HRL.out | exact Fx10.kept h g
          case zm3 => intro v w w' h g; first | exact h | exact Fx7.kept h g HRL.out | exact Fx8.kept h g HRL.out | exact Fx9.kept h g HRL.out | exact Fx10.kept h g
          case zm4 => intro v w w' h g; first | exact h | exact Fx7.kept h g HRL.out | exact Fx8.kept h g HRL.out | exact Fx9.kept h g HRL.out | exact Fx10.kept h g
          case zm5 => intro v w w' h g; first | exact h | exact Fx7.kept h g HRL.out | exact Fx8.kept h g HRL.out | exact Fx9.kept h g HRL.out | exact Fx10.kept h g
          case zm6 => intro v w w' h g; first | exact h | exact Fx7.kept h g HRL.out | exact Fx8.kept h g HRL.out | exact Fx9.kept h g HRL.out | exact Fx10.kept h g
          case zm7 => intro v w w' h g; first | exact h | exact Fx7.kept h g HRL.out | exact Fx8.kept h g HRL.out | exact Fx9.kept h g HRL.out | exact Fx10.kept h g
          case zm8 => intro v w w' h g; first | exact h | exact Fx7.kept h g HRL.out | exact Fx8.kept h g HRL.out | exact Fx9.kept h g HRL.out | exact Fx10.kept h g
          case zm9 => intro v w w' h g; first | exact h | exact Fx7.kept h g HRL.out | exact Fx8.kept h g HRL.out | exact Fx9.kept h g HRL.out | exact Fx10.kept h g
          case zm10 => intro v w w' h g; first | exact h | exact Fx7.kept h g HRL.out | exact Fx8.kept h g HRL.out | exact Fx9.kept h g HRL.out | exact Fx10.kept h g
          case zo0 =>
            intro u w g hd K hK
            replace g : w0.grownBy w ((Value.slice oa k oc).ownBlock) := g
            clear hd
            simp only [Act.put, List.setIfInBounds_toArray, List.set_cons_zero, List.set_cons_succ] at hK
            have c' := (cell_of_block (gr_keep g HBOX.out HBK.out) 0).trans (show _ = some (Value.slice oa k oc) from rfl)
            go_simp
            exact hK _ _ rfl (gr_refl _ _)
          case zo1 =>
            intro u w g hd K hK
            replace g : w0.grownBy w ((Value.slice oa k oc).ownBlock) := g
            clear hd
            simp only [Act.put, List.setIfInBounds_toArray, List.set_cons_zero, List.set_cons_succ] at hK
            split
            rotate_left
            · rename_i hno; exact absurd rfl hno
            refine wp_load_row 28 (.tmp 2) rfl bc (by rfl) 28 cs (0, 0) _ (gr_keep g HCF.out HCK.out) Tryd.underlying28 rfl HSZ28.out ?_
            exact hK _ _ rfl (gr_refl _ _)
          case zo2 =>
            intro u w g hd K hK
            replace g : w0.grownBy w ((Value.slice oa k oc).ownBlock) := g
            have h1 : (u 1) = .agg cs := hd 1 (by simp)
            clear hd
            simp only [Act.put, List.setIfInBounds_toArray, List.set_cons_zero, List.set_cons_succ] at hK
            simp only [h1] at hK ⊢
            go_simp
            refine (HPL.out w g).mono ?_
            rintro e w' ⟨rfl, g'⟩
            exact hK _ w' rfl g'
          case zo3 =>
            intro u w g hd K hK
            replace g : w0.grownBy w ((Value.slice oa k oc).ownBlock) := g
            clear hd
            simp only [Act.put, List.setIfInBounds_toArray, List.set_cons_zero, List.set_cons_succ] at hK
            go_simp
            exact hK _ _ rfl (gr_refl _ _)
          case zo4 =>
            intro u w g hd K hK
            replace g : w0.grownBy w ((Value.slice oa k oc).ownBlock) := g
            have h3 : (u 3) = .string ⟨x.1.1.toArray⟩ := hd 3 (by simp)
            clear hd
            simp only [Act.put, List.setIfInBounds_toArray, List.set_cons_zero, List.set_cons_succ] at hK
            have hb := HX4.out
            simp only [h3] at hK ⊢
            go_simp
            exact hK _ _ rfl (gr_refl _ _)
          case zo5 =>
            intro u w g hd K hK
            replace g : w0.grownBy w ((Value.slice oa k oc).ownBlock) := g
            clear hd
            simp only [Act.put, List.setIfInBounds_toArray, List.set_cons_zero, List.set_cons_succ] at hK
            go_simp
            exact hK _ _ rfl (gr_refl _ _)
          case zo6 =>
            intro u w g hd K hK
            replace g : w0.grownBy w ((Value.slice oa k oc).ownBlock) := g
            have h5 : (u 5) = .string ⟨x.1.2.toArray⟩ := hd 5 (by simp)
            clear hd
            simp only [Act.put, List.setIfInBounds_toArray, List.set_cons_zero, List.set_cons_succ] at hK
            have hb := HX6.out
            simp only [h5] at hK ⊢
            go_simp
            exact hK _ _ rfl (gr_refl _ _)
          case zo7 =>
            intro u w g hd K hK
            replace g : w0.grownBy w ((Value.slice oa k oc).ownBlock) := g
            have h2 : (u 2) = .string ⟨(placeL lan).toArray⟩ := hd 2 (by simp)
            have h4 : (u 4) = .string ((⟨#[83, 84, 58, 32]⟩ : ByteArray) ++ ⟨x.1.1.toArray⟩) := hd 4 (by simp)
            have h6 : (u 6) = .string ((⟨#[85, 83, 78, 58, 32]⟩ : ByteArray) ++ ⟨x.1.2.toArray⟩) := hd 6 (by simp)
            clear hd
            simp only [Act.put, List.setIfInBounds_toArray, List.set_cons_zero, List.set_cons_succ] at hK
            simp only [h2, h4, h6] at hK ⊢
            go_simp
            exact hK _ _ (fx7_new g.size) (World.grownBy_alloc w _ none)
          case zo8 =>
            intro u w g hd K hK
            replace g : w0.grownBy w ((Value.slice oa k oc).ownBlock) := g
            have h7 : Fx7 w0 lan x.1.1 x.1.2 (u 7) w := hd 7 (by simp)
            clear hd
            simp only [Act.put, List.setIfInBounds_toArray, List.set_cons_zero, List.set_cons_succ] at hK
            obtain ⟨gg, e7, hgg, hge⟩ := h7
            simp only [e7] at hK ⊢
            go_simp
            refine (text_seven (ansLines lan x.1.1 x.1.2) gg w rfl (fun j y hy => by rw [cell_of_block hgg j]; simp [hy]) (lt_of_block hgg) HLL.out).mono ?_
            rintro e w' ⟨g8, c8, rfl, r8, hg8, g'⟩
            exact hK _ w' ⟨g8, c8, rfl, r8, Nat.le_trans g.size hg8⟩ g'
          case zo9 =>
            intro u w g hd K hK
            replace g : w0.grownBy w ((Value.slice oa k oc).ownBlock) := g
            have h8 : Fx8 w0 (ansL lan x.1.1 x.1.2) (u 8) w := hd 8 (by simp)
            clear hd
            simp only [Act.put, List.setIfInBounds_toArray, List.set_cons_zero, List.set_cons_succ] at hK
            obtain ⟨g8, c8, e8, r8, hg8⟩ := h8
            simp only [e8] at hK ⊢
            go_simp
            exact hK _ _ ⟨w.heap.size, g8, c8, rfl, heap_alloc_new w _, r8.keep (World.grownBy_alloc w _ none) (by simp), hg8, g.size⟩ (World.grownBy_alloc w _ none)
          case zo10 =>
            intro u w g hd K hK
            replace g : w0.grownBy w none := g
            have h0 : (u 0) = .slice oa k oc := hd 0 (by simp)
            have h9 : Fx9 w0 (ansL lan x.1.1 x.1.2) (u 9) w := hd 9 (by simp)
            clear hd
            simp only [Act.put, List.setIfInBounds_toArray, List.set_cons_zero, List.set_cons_succ] at hK
            obtain ⟨gg, g8, c8, e9, hgg, r8, hg8, hge⟩ := h9
            simp only [h0, e9] at hK ⊢
            split
            rotate_left
            · rename_i hno; exact absurd rfl hno
            refine wp_append_own w (.tmp 71) (.tmp 80) 32 rfl N0 29 iB _ 1 _ Tryd.underlying32 hiB.out hzB.out hsB.out hbB.out rfl (by decide) (.slice oa k oc) k vs (by rfl) (row_none HOW.out g) ⟨gg, 0, none⟩ 1 1 [.slice (some ⟨g8, 0, none⟩) (ansL lan x.1.1 x.1.2).length c8] (by rfl) rfl (fun j u hu => by rw [Go.WideShapes.add_plain, Nat.zero_add, cell_of_block hgg j]; simpa using hu) (fun u hu => by obtain rfl := List.mem_singleton.1 hu; exact rfl) (by unfold maxLen; omega) (by omega) (Nat.le_trans HN0.out g.size) ?_
            intro v' w' q1 q2 _
            exact hK v' w' ⟨g8, c8, q1, r8.keep q2 (fun e => by have := HRL.out g8 e.symm; omega), hg8⟩ q2
          case zdone =>
            intro u w hS g
            have s0 : (u 0) = .slice oa k oc := hS 0 (by decide)
            have s1 : (u 1) = .agg cs := hS 1 (by decide)
            have s2 : (u 2) = .string ⟨(placeL lan).toArray⟩ := hS 2 (by decide)
            have s3 : (u 3) = .string ⟨x.1.1.toArray⟩ := hS 3 (by decide)
            have s4 : (u 4) = .string ((⟨#[83, 84, 58, 32]⟩ : ByteArray) ++ ⟨x.1.1.toArray⟩) := hS 4 (by decide)
            have s5 : (u 5) = .string ⟨x.1.2.toArray⟩ := hS 5 (by decide)
            have s6 : (u 6) = .string ((⟨#[85, 83, 78, 58, 32]⟩ : ByteArray) ++ ⟨x.1.2.toArray⟩) := hS 6 (by decide)
            have s7 : Fx7 w0 lan x.1.1 x.1.2 (u 7) w := hS 7 (by decide)
            have s8 : Fx8 w0 (ansL lan x.1.1 x.1.2) (u 8) w := hS 8 (by decide)
            have s9 : Fx9 w0 (ansL lan x.1.1 x.1.2) (u 9) w := hS 9 (by decide)
            have s10 : Fx10 w0 N0 (ansL lan x.1.1 x.1.2) k vs (u 10) w := hS 10 (by decide)
            clear hS
            change wpList _ _ _ [_] _ _
            obtain ⟨g8, c8, how, r8, hg8⟩ := s10
            have gg : w0.grownBy w (Value.slice oa k oc).ownBlock := g
            have hb4 := gr_keep gg HBOX.out HBK.out
            have hc4 := gr_keep gg HCF.out HCK.out
            have hs4 := gr_keep gg HST4.out HSK.out
            obtain ⟨ya, yc, ey, -⟩ := row_shape how
            rw [ey] at how ⊢
            have f6 := free_of_block hb4 0
            have c6 := (cell_of_block hb4 0).trans (show _ = some (Value.slice oa k oc) from rfl)
            have lb4 := lt_of_block hb4
            have HH4 := hid hb4
            have HC4 := hid hc4
            have HS4 := hid hs4
            have HOW4 := hid how
            have HR8 := hid r8
            have HG8 := hid hg8
            have HGG := hid gg
            clear s0 s1 s2 s3 s4 s5 s6 s7 s8 s9 g gg hb4 hc4 hs4 ey how r8 hg8
            generalize u 0 = y0, u 1 = y1, u 2 = y2, u 3 = y3, u 4 = y4, u 5 = y5, u 6 = y6, u 7 = y7, u 8 = y8, u 9 = y9
            go_wp2_with fail
            refine ⟨by simp, ?_⟩
            exact seI_next HOW.out HK.out HROWS.out HSN.out HGG.out HH4.out HC4.out HS4.out HOW4.out HR8.out HG8.out HN0E.out HB.out HBO.out HNE.out HNB.out.2.symm
      · have HSN := hid (HPE.out.trans (ansA_no lan st (pre.map (·.1)) x.1 hsel))
        have h1 : (st == [115, 115, 100, 112, 58, 97, 108, 108]) = false := by simpa using fun e => hsel (.inl e)
        have h2 : (st == x.1.1) = false := by simpa using fun e => hsel (.inr e)
        clear hsel
        gi_wp2
        exact ⟨KeepsOthers.refl _, KS.refl _, ⟨ov, vs, hbo, by rw [HSN.out]; exact hown, by rw [HSN.out]; exact HROWS.out⟩, hbc, hbs, HB.out⟩
    case done =>
      rintro D ys W hD hys ⟨⟨ov, vs, hbo, hown, hrows⟩, hbc, hbs, hB⟩ hK
      have HE := hid (show ansS lan u (askL (ssF t)) = ansA lan st (ys.map (·.1)) by rw [HO.out, HA.out, hys]; rfl)
      have HOW := hid hown
      have HRW := hid hrows
      have HBX := hid hbo
      have HB2 := hid hB
      have HK2 := hid hK
      have c4 := (cell_of_block hbo 0).trans (show _ = some ov from rfl)
      have f4 := free_of_block hbo 0
      have l4 := lt_of_block hbo
      have hDb : bo ≠ D := fun e => by subst e; rw [hbo] at hK; cases hK
      have HDB := hid hDb
      have HD := hid (Nat.le_trans HG9.out hD)
      obtain ⟨oa, oc, rfl, -⟩ := row_shape hown
      obtain ⟨k, hk⟩ : ∃ k, k = (ansA lan st (ys.map (·.1))).length := ⟨_, rfl⟩
      rw [← hk] at HOW c4 HBX
      have HKE := hid hk
      clear hD hys hown hrows hbo hbc hbs hB hK hDb hk
      gi_wp2
      go_wp2_with fail
      have hk9 : (W.setCell ⟨bo, 0, none⟩ (.slice oa k oc)).heap[D]? = some (.deferred (some [])) := (heap_set_other (Ne.symm HDB.out)).trans HK2.out
      refine ⟨by simp, .inl ⟨_, _, rfl, run_takeDeferred hk9, ?_⟩⟩
      have hb8 := heap_set (o := 0) (v := .slice oa k oc) HBX.out
      have hb9 := (World.putObj_heap_other (o := .deferred none) HDB.out).trans hb8
      have c9 := (cell_of_block hb9 0).trans (show _ = some (Value.slice oa k oc) from rfl)
      have g5 : W.grownBy (W.setCell ⟨bo, 0, none⟩ (.slice oa k oc)) (some bo) := gr_set (gr_refl _ _)
      refine ⟨.slice oa k oc, ?_, ?_⟩
      · simp [results, Tryd.results7, go_sem, c9]
      · rw [HE.out]
        refine ⟨.slice oa k oc, vs, rfl, ?_, ?_, ?_⟩
        · rw [← HKE.out]
          exact ownsRow_putObj (row_ty HOW.out g5 HBX.out (by decide)) _ hk9 rfl
        · refine (HRW.out.keep g5 (fun r e cs fr h => ?_)).keep (grownBy_putObj' _ D _) (fun r e cs fr h => ?_)
          · cases e; rw [HBX.out] at h; cases h
          · cases e; rw [hk9] at h; cases h
        · exact gr_of_below ((HB2.out.setCell (p := ⟨bo, 0, none⟩) HBO.out _).trans (belowK_b (w := w) (Nat.le_refl _) _ D _ _ HD.out hk9 rfl rfl))
    case stop =>
      rintro D c pre W _ _ h _
      exact h.elim
  · have HA := hid (show askL o = none by
      apply askL_no
      cases o with
      | none => exact .inl rfl
      | some x =>
        obtain rfl : x = fs := HFS.out
        refine .inr ⟨x, rfl, ?_⟩
        rw [HMAN.out, HST.out, HMX.out]
        dsimp only
        rw [HNN.out]
        dsimp only
        by_cases h1 : man = discT
        · by_cases h2 : stb = true
          · by_cases h3 : nb = true
            · exact .inr (.inr (.inr (by
                apply Classical.byContradiction
                intro h4
                exact hyes ⟨hob.symm, h1, h2, h3, by simpa using h4⟩)))
            · exact .inr (.inr (.inl (by simpa using h3)))
          · exact .inr (.inl (by simpa using h2))
        · exact .inl h1)
    clear hob
    have HSP := hid (show SearchPost w (ansS lan u (askL o)) (.returned (.slice none 0 0)) (w7.setCell ⟨bo, 0, none⟩ (.slice none 0 0)) from by
      rw [HA.out]
      exact ⟨_, [], rfl, World.ownsRow_nil _ _ _ _, RowsOk.nil _ _, gr_set_new G7.out HBO.out⟩)
    have hHO := HO.out
    have c5 : (w7.setCell ⟨bo, 0, none⟩ (.slice none 0 0)).cell? ⟨bo, 0, none⟩ = some (.slice none 0 0) := World.cell?_setCell_same' _ _ _ (by rw [c4]; rfl)
    by_cases h1 : ob = true
    · by_cases h2 : man = [34, 115, 115, 100, 112, 58, 100, 105, 115, 99, 111, 118, 101, 114, 34]
      · by_cases h3 : stb = true
        · by_cases h4 : nb = true
          · have h5 : (nn == 0) = true := by
              cases h : (nn == 0) with
              | true => rfl
              | false => exact absurd ⟨h1, h2, h3, h4, h⟩ hyes
            clear hyes
            go_wp2
            refine ⟨.slice none 0 0, ?_, ?_⟩
            · simp [results, Tryd.results7, go_sem, c5]
            · rw [hHO]; exact HSP.out
          · have h4' : nb = false := by simpa using h4
            subst h4'
            clear hyes h4
            go_wp2
            refine ⟨.slice none 0 0, ?_, ?_⟩
            · simp [results, Tryd.results7, go_sem, c5]
            · rw [hHO]; exact HSP.out
        · have h3' : stb = false := by simpa using h3
          subst h3'
          clear hyes h3
          go_wp2
          refine ⟨.slice none 0 0, ?_, ?_⟩
          · simp [results, Tryd.results7, go_sem, c5]
          · rw [hHO]; exact HSP.out
      · clear hyes
        go_wp2
        refine ⟨.slice none 0 0, ?_, ?_⟩
        · simp [results, Tryd.results7, go_sem, c5]
        · rw [hHO]; exact HSP.out
    · have h1' : ob = false := by simpa using h1
      subst h1'
      clear hyes h1
      go_wp2
      refine ⟨.slice none 0 0, ?_, ?_⟩
      · simp [results, Tryd.results7, go_sem, c5]
      · rw [hHO]; exact HSP.out
end Go.Proofs.YtnapfecalckajaaDoor
