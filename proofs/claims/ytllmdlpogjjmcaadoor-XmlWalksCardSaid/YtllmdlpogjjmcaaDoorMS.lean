/- Texts of one proof, put together: Xp4, Xn1, Xn2, Xn4. -/
import Derived.Test.YtllmdlpogjjmcaaDoorXp3
import Derived.Test.YtllmdlpogjjmcaaDoorMX
import Derived.Test.YtllmdlpogjjmcaaDoorXmw
import Derived.Test.YtllmdlpogjjmcaaDoorMT
import Derived.Deep.QuietTactic
import Derived.BigQuiet
import Derived.Deep.DeepCutAuto
/- XML, plainly: an element with its beginning; bounds of what is read. It speaks of no program. -/
namespace Go.Proofs.YtllmdlpogjjmcaaDoor
open Go.RowKit
set_option linter.unusedVariables false
set_option linter.unusedSimpArgs false

/-- An element from behind its < on. -/
def elmL (n : Nat) (up : List (Bs × Bs)) (r : Bs) (deep cnt : Nat) (full : Bool) : Option Res := match beginL up r with
  | none => none
  | some (g, emp, r', k) => if emp then some (g.el, r', cnt + 1, fullB full (cnt + 1) deep k) else inL n r' g deep (cnt + 1) (fullB full (cnt + 1) deep k)
theorem inL_lt {n : Nat} {r : Bs} {f : Fr} {deep cnt : Nat} {full : Bool} (h1 : Lib.hasPrefix r noteO = false) (h2 : Lib.hasPrefix r cdO = false) (h3 : Lib.hasPrefix r [60, 47] = false) (h4 : Lib.hasPrefix r [60] = true) :
    inL (n + 1) r f deep cnt full = match elmL n f.bs (Lib.trimPrefix r [60]) (deep + 1) cnt full with
      | none => none
      | some x => inL n x.2.1 (f.kid x.1) deep x.2.2.1 x.2.2.2 := by
  conv => lhs; unfold inL
  rw [h1, h2, h3, h4]
  simp only [Bool.false_eq_true, if_false, if_true]
  unfold elmL
  cases hb : beginL f.bs (Lib.trimPrefix r [60]) with
  | none => rfl
  | some y =>
    obtain ⟨g, emp, r', k⟩ := y
    cases emp
    · simp only [Bool.false_eq_true, if_false]
      cases hi : inL n r' g (deep + 1) (cnt + 1) (fullB full (cnt + 1) (deep + 1) k) with
      | none => rfl
      | some x => rfl
    · rfl
theorem attrsL_sum {n : Nat} {r r' : Bs} {acc l : List At} {b : Bool} (h : attrsL n r acc = some (l, b, r')) : l.length + r'.length ≤ acc.length + r.length := by
  induction n generalizing r acc with
  | zero => cases h
  | succ n ih =>
    unfold attrsL at h
    have h0 := trimS_len r
    split at h
    · rename_i h1
      have := trimP_len h1
      cases h; omega
    · split at h
      · rename_i h1
        have := trimP_len h1
        cases h; omega
      · split at h
        · split at h
          · cases h
          · rename_i a r2 h2
            have := oneL_len h2
            split at h
            · cases h
            · have := ih h; simp only [List.length_append, List.length_cons, List.length_nil] at this; omega
        · cases h
theorem attrsA_sum {r r' : Bs} {l : List At} {b : Bool} (h : attrsA r = some (l, b, r')) : l.length + r'.length ≤ r.length := by
  have := attrsL_sum h
  simp only [List.length_nil] at this; omega
theorem attrsA_len {r r' : Bs} {l : List At} {b : Bool} (h : attrsA r = some (l, b, r')) : r'.length < r.length := attrsL_len h
theorem bindB_len (l : List At) : ∀ bs, (bindB l bs).length ≤ bs.length + l.length := by
  induction l with
  | nil => intro bs; exact Nat.le_refl _
  | cons a l ih =>
    intro bs
    have := ih (if isNs a then (nsOf a, a.2.2) :: bs else bs)
    show (bindB l _).length ≤ _
    refine Nat.le_trans this ?_
    split <;> simp only [List.length_cons] <;> omega
theorem inL_cnt : ∀ (n : Nat) {r : Bs} {f : Fr} {deep cnt : Nat} {full : Bool} {x : Res}, inL n r f deep cnt full = some x → x.2.1.length + x.2.2.1 ≤ r.length + cnt := by
  intro n
  induction n with
  | zero => intro _ _ _ _ _ _ h; cases h
  | succ n ih =>
    intro r f deep cnt full x h
    unfold inL at h
    split at h
    · rename_i h1
      have := trimP_len h1
      have := cut_len (Lib.trimPrefix r noteO) noteC
      split at h
      · have := ih h; omega
      · cases h
    split at h
    · rename_i h1
      have := trimP_len h1
      have := cut_len (Lib.trimPrefix r cdO) cdC
      split at h
      · have := ih h; omega
      · cases h
    split at h
    · rename_i h1
      have := trimP_len h1
      obtain ⟨r', h2, rfl⟩ := Option.map_eq_some_iff.1 h
      have := endL_len h2
      simp only; omega
    split at h
    · rename_i h1
      have := trimP_len h1
      split at h
      · cases h
      · rename_i h2; have := beginL_len h2; have := ih h; omega
      · rename_i h2
        have := beginL_len h2
        split at h
        · cases h
        · rename_i h3; have := ih h3; have := ih h; simp only at *; omega
    rename_i h4
    split at h
    · cases h
    · rename_i h5
      split at h
      · cases h
      · have := ih h
        simp only [List.length_drop] at this; omega
theorem elmL_cnt {n : Nat} {up : List (Bs × Bs)} {r : Bs} {deep cnt : Nat} {full : Bool} {x : Res} (h : elmL n up r deep cnt full = some x) : x.2.1.length < r.length ∧ x.2.1.length + x.2.2.1 ≤ r.length + cnt := by
  unfold elmL at h
  split at h
  · cases h
  · rename_i g emp r' k hb
    have := beginL_len hb
    split at h
    · cases h; exact ⟨this, by simp only; omega⟩
    · have h1 := inL_len n h
      have h2 := inL_cnt n h
      exact ⟨by omega, by omega⟩
/-- The root: from the place behind the first < on. -/
theorem rootL_elm (up : List (Bs × Bs)) (r : Bs) : rootL up r = elmL (r.length + 1) up r 1 0 false := by
  unfold rootL stepBegin elmL
  cases hb : beginL up r with
  | none => rfl
  | some y =>
    obtain ⟨g, emp, r', k⟩ := y
    have hl := beginL_len hb
    cases emp
    · show runL (r'.length + 1) ⟨r', [g], 0 + 1, _⟩ = _
      rw [run_in (r.length + 1) r' g [] _ _ (by omega)]
      simp only [Bool.false_eq_true, if_false, List.length_nil]
      cases inL (r.length + 1) r' g (0 + 1) (0 + 1) (fullB false (0 + 1) (0 + 1) k) with
      | none => rfl
      | some x => rfl
    · rfl
theorem elemL_none {p n : Bs} {l : List At} {up : List (Bs × Bs)} (h : (bindOk l && (spcL (bindB l up) p).2 && (attB (bindB l up) l []).2) = false) : elemL p n l up = none := by
  unfold elemL; rw [h]; rfl
theorem elemL_some {p n : Bs} {l : List At} {up : List (Bs × Bs)} (h : (bindOk l && (spcL (bindB l up) p).2 && (attB (bindB l up) l []).2) = true) : elemL p n l up = some ⟨p, n, (spcL (bindB l up) p).1, (attB (bindB l up) l []).1, [], .nil, bindB l up⟩ := by
  unfold elemL; rw [h]; rfl
theorem attB_at (bs : List (Bs × Bs)) (a : At) (l acc : List At) (h : isNs a = false) : attB bs (a :: l) acc = ((attB bs l (acc ++ [((atSp bs a.1).1, a.2.1, a.2.2)])).1, (atSp bs a.1).2 && !acc.any (sameA (atSp bs a.1).1 a.2.1) && (attB bs l (acc ++ [((atSp bs a.1).1, a.2.1, a.2.2)])).2) := by
  conv => lhs; unfold attB
  rw [h]; rfl
end Go.Proofs.YtllmdlpogjjmcaaDoor
/- The reference's elements in memory: rows of bounds; an element that is read; one more element in it. -/
namespace Go.Proofs.YtllmdlpogjjmcaaDoor
open Go.RowKit
set_option linter.unusedVariables false
set_option linter.unusedSimpArgs false

abbrev xbn : TypeId := 60
abbrev xel : TypeId := 27
/-- The cells of a row of bounds. -/
def duo (l : List (Bs × Bs)) : List Value := l.flatMap fun a => [str a.1, str a.2]
theorem duo_len (l : List (Bs × Bs)) : (duo l).length = l.length * 2 := by
  induction l with
  | nil => rfl
  | cons a l ih => unfold duo at ih ⊢; rw [List.flatMap_cons, List.length_append, ih, List.length_cons]; simp only [List.length_cons, List.length_nil]; omega
theorem duo_snoc (l : List (Bs × Bs)) (a : Bs × Bs) : duo (l ++ [a]) = duo l ++ [str a.1, str a.2] := by
  unfold duo; rw [List.flatMap_append]; rfl
theorem duo_get (l : List (Bs × Bs)) : ∀ (i : Nat), i < l.length → (duo l)[i * 2]? = some (str (l.getD i bn0).1) ∧ (duo l)[i * 2 + 1]? = some (str (l.getD i bn0).2) := by
  induction l with
  | nil => intro i hi; simp at hi
  | cons a l ih =>
    intro i hi
    cases i with
    | zero => exact ⟨rfl, rfl⟩
    | succ i =>
      have := ih i (by simpa using hi)
      rw [show (i + 1) * 2 = i * 2 + 2 by omega, show i * 2 + 2 + 1 = i * 2 + 1 + 2 by omega]
      exact this
theorem duo_one (l : List (Bs × Bs)) : ∀ u ∈ duo l, u.oneCell' = true := by
  intro u hu
  unfold duo at hu
  obtain ⟨a, -, h⟩ := List.mem_flatMap.1 hu
  simp at h
  rcases h with rfl | rfl <;> rfl
theorem bn_of_own {w : World} {base n : Nat} {e : TypeId} {v : Value} {l : List (Bs × Bs)} (h : w.ownsRow base e 2 v n (duo l)) : BnAt w v l := by
  have hl := h.1
  rw [duo_len] at hl
  obtain rfl : n = l.length := by omega
  rcases h.2 with ⟨rfl, h0⟩ | ⟨g, cap, cur, rfl, hg, hh, hc, hm, hs, ht⟩
  · exact ⟨none, 0, by rw [h0], fun i hi => by omega⟩
  · refine ⟨_, cap, rfl, fun i hi => ⟨g, 0, rfl, ?_⟩⟩
    obtain ⟨e0, e1⟩ := duo_get l i hi
    have cl : ∀ k u, k < l.length * 2 → (duo l)[k]? = some u → w.cell? ⟨g, k, none⟩ = some u := fun k u hk hu => by
      rw [← ht, List.getElem?_take, if_pos hk] at hu
      simpa [World.cell?, hh] using hu
    rw [Nat.zero_add]
    exact ⟨cl _ _ (by omega) e0, cl _ _ (by omega) e1⟩
theorem bn_news {w : World} {v : Value} {L : List (Bs × Bs)} (h : BnAt w v L) (hp : 0 < L.length) : ∃ g o c, v = .slice (some ⟨g, o, none⟩) L.length c ∧ ∀ j u, (duo L)[j]? = some u → w.cell? ((⟨g, o, none⟩ : Addr).add j) = some u := by
  obtain ⟨a, c, rfl, h⟩ := h
  obtain ⟨g, o, rfl, -⟩ := h 0 hp
  refine ⟨g, o, c, rfl, fun j u hj => ?_⟩
  have hjl := (List.getElem?_eq_some_iff.1 hj).1
  rw [duo_len] at hjl
  obtain ⟨g', o', e, h1, h2⟩ := h (j / 2) (by omega)
  cases e
  obtain ⟨e0, e1⟩ := duo_get L (j / 2) (by omega)
  rcases Nat.mod_two_eq_zero_or_one j with hm | hm
  · have ej : j / 2 * 2 = j := by omega
    rw [ej] at e0 h1
    rw [hj] at e0
    cases e0
    rw [Go.WideShapes.add_plain]
    exact h1
  · have ej : j / 2 * 2 + 1 = j := by omega
    rw [show o + j / 2 * 2 + 1 = o + j by omega] at h2
    rw [ej] at e1
    rw [hj] at e1
    cases e1
    rw [Go.WideShapes.add_plain]
    exact h2
theorem infoBn : (Tryd.prog.info? xbn).map (fun i => (i.zero, i.size, i.bytes)) = some (some (.agg #[.string ⟨#[]⟩, .string ⟨#[]⟩]), 2, 32) := by kernel_rfl
/-- A row of one type is kept by an append to a row of another. -/
theorem row_own {w w' : World} {base size n base' size' n' : Nat} {e e' : TypeId} {v v' : Value} {xs xs' : List Value} (h : w.ownsRow base e size v n xs) (k : w.grownBy w' v.ownBlock) (h' : w.ownsRow base' e' size' v' n' xs') (hT : e' ≠ e) : w'.ownsRow base' e' size' v' n' xs' := by
  refine ⟨h'.1, ?_⟩
  rcases h'.2 with h0 | ⟨g, cap, cur, rfl, hg, hh, r⟩
  · exact .inl h0
  · exact .inr ⟨g, cap, cur, rfl, hg, keep_own h k hh hT, r⟩
set_option maxHeartbeats 1000000 in
theorem step_app2 {ops : Array Oper} {o : Oper} {a : Act} {w : World} {K : Act → World → Prop} {Q : Exit → Act → World → Prop} {E : Prop} (hgd : o.guard = none) (s x : Operand)
    (ho : o.op = .call { callee := .builtin .append, args := #[s, x], argTypes := #[61, 61] })
    {base k : Nat} {v : Value} {acc : List (Bs × Bs)} {t : Bs × Bs} (hs : a.eval s = v) (hx : a.eval x = .slice (some ⟨k, 0, none⟩) 1 1) (hown : w.ownsRow base 60 2 v acc.length (duo acc)) (hk : w.heap[k]? = some (.cells #[.string ⟨t.1.toArray⟩, .string ⟨t.2.toArray⟩] 60 (0, 0))) (hlen : acc.length ≤ 1000000) (hbase : base ≤ w.heap.size)
    (h : ∀ ad c w', w'.ownsRow base 60 2 (.slice ad (acc ++ [t]).length c) (acc ++ [t]).length (duo (acc ++ [t])) → w.grownBy w' v.ownBlock → K (a.put o.dst (.slice ad (acc ++ [t]).length c)) w') : if Region.wanted o (yielded ops a.tmps) = true then Oper.wp Tryd.prog o a w K Q else E := by
  have hw : Region.wanted o (yielded ops a.tmps) = true := by simp [Region.wanted, hgd]
  rw [if_pos hw]
  obtain ⟨i0, hi, hz0, hz1, hz2⟩ := info_parts infoBn
  obtain ⟨v', w', hrun, h2, h3, -⟩ := run_append_own (P := Tryd.prog) w base 61 o.type 60 i0 _ 2 32 Tryd.underlying61 hi hz0 hz1 hz2 rfl (by decide) v acc.length (duo acc) hown ⟨k, 0, none⟩ 1 1 [str t.1, str t.2] rfl (fun j u hj => by
      have := cell_of_block hk j
      match j, hj with
      | 0, hj => simp at hj; subst hj; simpa [Addr.add, str] using this
      | 1, hj => simp at hj; subst hj; simpa [Addr.add, str] using this) (fun u hu => by simp at hu; rcases hu with rfl | rfl <;> rfl) (by unfold maxLen; omega) (by omega) hbase
  unfold Oper.wp execOp
  simp only [ho, resolve, invoke, builtin, Sem.run_bind, Sem.run_pure, Result.andThen_ok, List.map_toArray, List.map_cons, List.map_nil, hs, hx, hrun]
  obtain ⟨ad, c, rfl, -⟩ := row_shape h2
  have e : acc.length + 1 = (acc ++ [t]).length := by rw [List.length_append]; rfl
  rw [e] at h2 ⊢
  exact h ad c w' (by rw [duo_snoc]; exact h2) h3
theorem duo_app (l l' : List (Bs × Bs)) : duo (l ++ l') = duo l ++ duo l' := by
  unfold duo; rw [List.flatMap_append]
theorem wpl_app2 {ops : Array Oper} {rest : List Oper} {o : Oper} {a : Act} {w : World} {Q : Exit → Act → World → Prop} (hgd : o.guard = none) (s x : Operand)
    (ho : o.op = .call { callee := .builtin .append, args := #[s, x], argTypes := #[61, 61] })
    {base : Nat} {v vx : Value} {xs l : List (Bs × Bs)} (hs : a.eval s = v) (hx : a.eval x = vx) (hown : w.ownsRow base 60 2 v xs.length (duo xs)) (hb : BnAt w vx l) (hp : 0 < l.length) (hlen : xs.length + l.length ≤ 1000000) (hbase : base ≤ w.heap.size)
    (h : ∀ ad c w', w'.ownsRow base 60 2 (.slice ad (xs ++ l).length c) (xs ++ l).length (duo (xs ++ l)) → w.grownBy w' v.ownBlock → wpList Tryd.prog ops Q rest (a.put o.dst (.slice ad (xs ++ l).length c)) w') : wpList Tryd.prog ops Q (o :: rest) a w := by
  obtain ⟨i0, hi, hz0, hz1, hz2⟩ := info_parts infoBn
  obtain ⟨g, off, c, rfl, hn⟩ := bn_news hb hp
  refine wpList_append_own w hgd s x 61 ho base 60 i0 _ 2 32 Tryd.underlying61 hi hz0 hz1 hz2 rfl (by decide) v xs.length (duo xs) hs hown ⟨g, off, none⟩ l.length c (duo l) hx (duo_len l) hn (duo_one l) (by unfold maxLen; omega) (by omega) hbase fun v' w' h2 h3 _ => ?_
  obtain ⟨ad, c', rfl, -⟩ := row_shape h2
  rw [← List.length_append, ← duo_app] at h2
  have := h ad c' w' h2 h3
  rw [List.length_append] at this
  exact this
/-- A row's base may be a lower one. -/
theorem row_low {w : World} {base base' size n : Nat} {e : TypeId} {v : Value} {xs : List Value} (h : w.ownsRow base e size v n xs) (hb : base' ≤ base) : w.ownsRow base' e size v n xs := by
  refine ⟨h.1, ?_⟩
  rcases h.2 with h0 | ⟨g, cap, cur, rfl, hg, r⟩
  · exact .inl h0
  · exact .inr ⟨g, cap, cur, rfl, Nat.le_trans hb hg, r⟩
/-- What an append of an element leaves. -/
structure AppK (w w' : World) (base : Nat) (kv : Value) (n : Nat) (cs new : List Value) (g c : Nat) : Prop where
  row : w'.ownsRow base 27 5 (.slice (some ⟨g, 0, none⟩) (n + 1) c) (n + 1) (cs ++ new)
  gr : w.grownBy w' kv.ownBlock
  at' : some g = kv.ownBlock ∨ g = w.heap.size
set_option maxHeartbeats 1000000 in
theorem step_appK {ops : Array Oper} {o : Oper} {a : Act} {w : World} {K : Act → World → Prop} {Q : Exit → Act → World → Prop} {E : Prop} (hgd : o.guard = none) (s x : Operand)
    (ho : o.op = .call { callee := .builtin .append, args := #[s, x], argTypes := #[25, 25] })
    {base k n : Nat} {kv c0 c1 c2 c3 c4 : Value} {cs : List Value} (hs : a.eval s = kv) (hx : a.eval x = .slice (some ⟨k, 0, none⟩) 1 1) (hown : w.ownsRow base 27 5 kv n cs) (hk : w.heap[k]? = some (.cells #[c0, c1, c2, c3, c4] 27 (0, 0))) (h1 : c0.oneCell' = true ∧ c1.oneCell' = true ∧ c2.oneCell' = true ∧ c3.oneCell' = true ∧ c4.oneCell' = true) (hlen : n ≤ 100000) (hbase : base ≤ w.heap.size)
    (h : ∀ g c w', AppK w w' base kv n cs [c0, c1, c2, c3, c4] g c → K (a.put o.dst (.slice (some ⟨g, 0, none⟩) (n + 1) c)) w') : if Region.wanted o (yielded ops a.tmps) = true then Oper.wp Tryd.prog o a w K Q else E := by
  have hw : Region.wanted o (yielded ops a.tmps) = true := by simp [Region.wanted, hgd]
  rw [if_pos hw]
  obtain ⟨i0, hi, hz0, hz1, hz2⟩ := info_parts infoE
  obtain ⟨v', w', hrun, h2, h3, h4, h5⟩ := run_append_own_at (P := Tryd.prog) w base 25 o.type 27 i0 _ 5 96 Tryd.underlying25 hi hz0 hz1 hz2 rfl (by decide) kv n cs hown ⟨k, 0, none⟩ 1 1 [c0, c1, c2, c3, c4] rfl (fun j u hj => by
      have := cell_of_block hk j
      match j, hj with
      | 0, hj => simp at hj; subst hj; simpa [Addr.add] using this
      | 1, hj => simp at hj; subst hj; simpa [Addr.add] using this
      | 2, hj => simp at hj; subst hj; simpa [Addr.add] using this
      | 3, hj => simp at hj; subst hj; simpa [Addr.add] using this
      | 4, hj => simp at hj; subst hj; simpa [Addr.add] using this) (fun u hu => by
        obtain ⟨q0, q1, q2, q3, q4⟩ := h1
        simp at hu; rcases hu with rfl | rfl | rfl | rfl | rfl <;> assumption) (by unfold maxLen; omega) (by omega) hbase
  unfold Oper.wp execOp
  simp only [ho, resolve, invoke, builtin, Sem.run_bind, Sem.run_pure, Result.andThen_ok, List.map_toArray, List.map_cons, List.map_nil, hs, hx, hrun]
  rcases h2.2 with ⟨e, h0⟩ | ⟨g, cap, cur, rfl, _⟩
  · omega
  · exact h g cap w' ⟨h2, h3, by rcases h5 with h5 | h5
                                 · exact .inl h5
                                 · exact .inr (by simpa [Value.ownBlock] using h5)⟩
/-- An element's block. -/
def ElB (w : World) (eb : Nat) (s n : Bs) (av : Value) (tx : Bs) (kv : Value) : Prop := w.heap[eb]? = some (.cells #[.string ⟨s.toArray⟩, .string ⟨n.toArray⟩, av, .string ⟨tx.toArray⟩, kv] 27 (0, 0))
theorem ElB.cells {w : World} {eb : Nat} {s n tx : Bs} {av kv : Value} (h : ElB w eb s n av tx kv) :
    w.cell? ⟨eb, 0, none⟩ = some (.string ⟨s.toArray⟩) ∧ w.cell? ⟨eb, 1, none⟩ = some (.string ⟨n.toArray⟩) ∧ w.cell? ⟨eb, 2, none⟩ = some av ∧ w.cell? ⟨eb, 3, none⟩ = some (.string ⟨tx.toArray⟩) ∧ w.cell? ⟨eb, 4, none⟩ = some kv :=
  ⟨cell_of_block h 0, cell_of_block h 1, cell_of_block h 2, cell_of_block h 3, cell_of_block h 4⟩
theorem ElB.free {w : World} {eb : Nat} {s n tx : Bs} {av kv : Value} (h : ElB w eb s n av tx kv) (o : Nat) : w.frozen? ⟨eb, o, none⟩ = false := free_of_block h o
theorem ElB.grow {w w' : World} {eb : Nat} {s n tx : Bs} {av kv : Value} (h : ElB w eb s n av tx kv) (g : w.grownBy w' none) : ElB w' eb s n av tx kv := gr_keep g h (by simp)
/-- An element that is read: its block; its elements are a row of its own. -/
structure InAt (w : World) (X : Nat → Prop) (base eb rb : Nat) (s n : Bs) (av : Value) (ats : List At) (tx : Bs) (kv : Value) (kids : Fo) : Prop where
  blk : ElB w eb s n av tx kv
  res : ElB w rb [] [] (.slice none 0 0) [] (.slice none 0 0)
  ats : AtsAt w X av ats
  row : OwnFo w X eb kv kids
  inE : X eb
  inR : X rb
  inK : ∀ k, kv.ownBlock = some k → X k ∧ k ≠ eb ∧ k ≠ rb
  inB : ∀ k, k < base → X k
  lo : base ≤ eb
  lr : base ≤ rb
  ne : eb ≠ rb
theorem InAt.grow {w w' : World} {X : Nat → Prop} {base eb rb : Nat} {s n tx : Bs} {av kv : Value} {ats : List At} {kids : Fo} (h : InAt w X base eb rb s n av ats tx kv kids) (g : w.grownBy w' none) : InAt w' X base eb rb s n av ats tx kv kids :=
  ⟨h.blk.grow g, h.res.grow g, h.ats.same (fun k h1 _ => g.block k h1 (by simp)), h.row.same (fun k h1 _ => g.block k h1 (by simp)) (fun k hk => by
    obtain ⟨cs, h1, -⟩ := h.row
    exact g.block k (h1.lt k hk).2 (by simp)), h.inE, h.inR, h.inK, h.inB, h.lo, h.lr, h.ne⟩
/-- A block that is written, and that is old. -/
theorem InAt.step {w w' : World} {X : Nat → Prop} {base eb rb b : Nat} {s n tx : Bs} {av kv : Value} {ats : List At} {kids : Fo} (h : InAt w X base eb rb s n av ats tx kv kids) (g : w.grownBy w' (some b)) (hb : b < base) : InAt w' X base eb rb s n av ats tx kv kids :=
  ⟨gr_keep g h.blk (by have := h.lo; simp; omega), gr_keep g h.res (by have := h.lr; simp; omega), h.ats.same (fun k h1 h2 => g.block k h1 (by simp; rintro rfl; exact h2 (h.inB _ hb))), h.row.same (fun k h1 h2 => g.block k h1 (by simp; rintro rfl; exact h2 (h.inB _ hb))) (fun k hk => by
    obtain ⟨cs, h1, -⟩ := h.row
    have := h1.lt k hk
    have hlo := h.lo
    exact g.block k this.2 (by simp; omega)), h.inE, h.inR, h.inK, h.inB, h.lo, h.lr, h.ne⟩
/-- Its text is another one. -/
theorem InAt.setT {w : World} {X : Nat → Prop} {base eb rb : Nat} {s n tx : Bs} {av kv : Value} {ats : List At} {kids : Fo} (h : InAt w X base eb rb s n av ats tx kv kids) (t : Bs) : InAt (w.setCell ⟨eb, 3, none⟩ (.string ⟨t.toArray⟩)) X base eb rb s n av ats t kv kids := by
  have g := gr_set (o := 3) (v := .string ⟨t.toArray⟩) (gr_refl w (some eb))
  refine ⟨heap_set (o := 3) (v := .string ⟨t.toArray⟩) h.blk, gr_keep g h.res (by have := h.ne; simp; omega), h.ats.same (fun k h1 h2 => g.block k h1 (by simp; rintro rfl; exact h2 h.inE)), h.row.same (fun k h1 h2 => g.block k h1 (by simp; rintro rfl; exact h2 h.inE)) (fun k hk => ?_), h.inE, h.inR, h.inK, h.inB, h.lo, h.lr, h.ne⟩
  obtain ⟨cs, h1, -⟩ := h.row
  have := h1.lt k hk
  exact g.block k this.2 (by have := (h.inK k hk).2.1; simp; omega)
theorem InAt.less {w : World} {X X' : Nat → Prop} {base eb rb : Nat} {s n tx : Bs} {av kv : Value} {ats : List At} {kids : Fo} (h : InAt w X base eb rb s n av ats tx kv kids) (hx : ∀ b, b < w.heap.size → X' b → X b) (hx' : ∀ b, b < w.heap.size → X b → X' b) (hb : base ≤ w.heap.size) : InAt w X' base eb rb s n av ats tx kv kids :=
  ⟨h.blk, h.res, h.ats.less hx, h.row.less hx, hx' _ (lt_of_block h.blk) h.inE, hx' _ (lt_of_block h.res) h.inR, fun k hk => by
    obtain ⟨cs, h1, -⟩ := h.row
    exact ⟨hx' k (h1.lt k hk).2 (h.inK k hk).1, (h.inK k hk).2⟩, fun k hk => hx' k (by omega) (h.inB k hk), h.lo, h.lr, h.ne⟩
/-- What comes out. -/
theorem InAt.out {w : World} {X : Nat → Prop} {base eb rb : Nat} {s n tx : Bs} {av kv : Value} {ats : List At} {kids : Fo} (h : InAt w X base eb rb s n av ats tx kv kids) : AtsAt w (· < base) av ats ∧ KidV w (· < base) kv kids := by
  refine ⟨h.ats.less fun k _ hk => h.inB k hk, h.row.kid (fun k _ hk => h.inB k hk) fun k hk => ?_⟩
  obtain ⟨cs, h1, -⟩ := h.row
  have := (h1.lt k hk).1
  have hlo := h.lo
  omega
/-- One more element. -/
theorem InAt.kid {w W W8 : World} {X : Nat → Prop} {base eb rb : Nat} {s n tx : Bs} {av kv : Value} {ats : List At} {kids : Fo} (h : InAt w X base eb rb s n av ats tx kv kids) {e : El} {av2 kv2 : Value} {cs : List Value} {g c : Nat}
    (hrow : w.ownsRow eb 27 5 kv kids.len cs) (hcs : cs.length = kids.len * 5) (hfo : ∀ k o n c, kv = .slice (some ⟨k, o, none⟩) n c → FoAt w X kids k o)
    (ha : AtsAt w X av2 e.ats) (hk : KidV w X kv2 e.kids) (g0 : w.grownBy W none) (hE : AppK W W8 eb kv kids.len cs [str e.s, str e.n, av2, str e.tx, kv2] g c) :
    InAt (W8.setCell ⟨eb, 4, none⟩ (.slice (some ⟨g, 0, none⟩) (kids.len + 1) c)) (fun k => X k ∨ k = g) base eb rb s n av ats tx (.slice (some ⟨g, 0, none⟩) (kids.len + 1) c) (kids.snoc e) := by
  have hg1 : eb ≤ g := (hE.row.lt g rfl).1
  have hW := h.grow g0
  have hrowW := row_none hrow g0
  have hXg : (X g ∧ g ≠ eb ∧ g ≠ rb) ∨ W.heap.size ≤ g := by
    rcases hE.at' with e1 | e1
    · exact .inl (hW.inK g e1.symm)
    · exact .inr (Nat.le_of_eq e1.symm)
  have keep : ∀ k, k < W.heap.size → some k ≠ kv.ownBlock → W8.heap[k]? = W.heap[k]? := fun k h1 h2 => hE.gr.block k h1 h2
  have keepX : ∀ k, k < W.heap.size → ¬ X k → W8.heap[k]? = W.heap[k]? := fun k h1 h2 =>
    keep k h1 (fun e1 => h2 (hW.inK k e1.symm).1)
  obtain ⟨WF, hWF⟩ : ∃ WF, WF = W8.setCell ⟨eb, 4, none⟩ (.slice (some ⟨g, 0, none⟩) (kids.len + 1) c) := ⟨_, rfl⟩
  have gF : W8.grownBy WF (some eb) := by rw [hWF]; exact gr_set (gr_refl _ _)
  have hB8 : ElB W8 eb s n av tx kv := (keep eb (lt_of_block hW.blk) (fun e1 => (hW.inK eb e1.symm).2.1 rfl)).trans hW.blk
  have hR8 : ElB W8 rb [] [] (.slice none 0 0) [] (.slice none 0 0) := (keep rb (lt_of_block hW.res) (fun e1 => (hW.inK rb e1.symm).2.2 rfl)).trans hW.res
  have hBF : ElB WF eb s n av tx (.slice (some ⟨g, 0, none⟩) (kids.len + 1) c) := by rw [hWF]; exact heap_set (o := 4) hB8
  have hRF : ElB WF rb [] [] (.slice none 0 0) [] (.slice none 0 0) := gr_keep gF hR8 (by have := h.ne; simp; omega)
  rw [← hWF]
  have hgne : g ≠ eb ∧ g ≠ rb := by
    rcases hXg with h3 | h3
    · exact h3.2
    · have h4 := lt_of_block hW.blk
      have h5 := lt_of_block hW.res
      exact ⟨by omega, by omega⟩
  have sz8 : W.heap.size ≤ W8.heap.size := hE.gr.size
  have keepF : ∀ k, k < W.heap.size → W8.heap[k]? = W.heap[k]? → k ≠ eb → WF.heap[k]? = W.heap[k]? := fun k h1 h2 h3 => (gF.block k (by omega) (by simpa using h3)).trans h2
  have keepFX : ∀ k, k < W.heap.size → ¬ X k → WF.heap[k]? = W.heap[k]? := fun k h1 h2 => keepF k h1 (keepX k h1 h2) (fun e1 => h2 (by rw [e1]; exact hW.inE))
  have hrowF : WF.ownsRow eb 27 5 (.slice (some ⟨g, 0, none⟩) (kids.len + 1) c) (kids.len + 1) (cs ++ [str e.s, str e.n, av2, str e.tx, kv2]) := hE.row.kept gF (.inr (by simp [Value.ownBlock]; exact hgne.1))
  have hup : ∀ k, k < W.heap.size → (X k ∨ k = g) → X k := fun k h1 h2 => by
    rcases h2 with h2 | rfl
    · exact h2
    · rcases hXg with h3 | h3
      · exact h3.1
      · omega
  have hup0 : ∀ k, k < w.heap.size → (X k ∨ k = g) → X k := fun k h1 h2 => hup k (Nat.lt_of_lt_of_le h1 g0.size) h2
  have kw : ∀ k, k < w.heap.size → ¬ (X k ∨ k = g) → WF.heap[k]? = w.heap[k]? := fun k h1 h2 => (keepFX k (Nat.lt_of_lt_of_le h1 g0.size) (fun h3 => h2 (.inl h3))).trans (g0.block k h1 (by simp))
  have hFo : FoAt WF (fun k => X k ∨ k = g) (kids.snoc e) g 0 := by
    have cell : ∀ i u, (cs ++ [str e.s, str e.n, av2, str e.tx, kv2])[i]? = some u → WF.cell? ⟨g, i, none⟩ = some u := own_fo_cell hrowF
    have key : ∀ j u, ([str e.s, str e.n, av2, str e.tx, kv2] : List Value)[j]? = some u → WF.cell? ⟨g, 0 + kids.len * 5 + j, none⟩ = some u := fun j u hj => by
      rw [Nat.zero_add]
      exact cell _ u (by rw [List.getElem?_append_right (by omega), hcs, Nat.add_sub_cancel_left]; exact hj)
    refine FoAt.snoc ?_ (key 0 _ rfl) (key 1 _ rfl) (key 2 _ rfl) (key 3 _ rfl) (key 4 _ rfl) ((ha.less hup0).same kw) ((hk.less hup0).same kw)
    have old : ∀ (f : Fo) (k o : Nat), FoAt w (fun k => X k ∨ k = g) f k o → (∀ i, i < f.len * 5 → ∀ u, w.cell? ⟨k, o + i, none⟩ = some u → WF.cell? ⟨g, o + i, none⟩ = some u) → FoAt WF (fun k => X k ∨ k = g) f g o := by
      intro f
      induction f with
      | nil => intro _ _ _ _; trivial
      | cons s n ats tx kids next _ ih =>
        intro k o hf hc
        obtain ⟨⟨c0, c1, c3⟩, ⟨av', c2, ha'⟩, ⟨a', c', c4, hk'⟩, hn⟩ := hf
        simp only [Fo.len] at hc
        refine ⟨⟨hc 0 (by omega) _ c0, hc 1 (by omega) _ c1, hc 3 (by omega) _ c3⟩, ⟨av', hc 2 (by omega) _ c2, ha'.same kw⟩, ⟨a', c', hc 4 (by omega) _ c4, fun hl => ?_⟩, ih k (o + 5) hn (fun i hi u hu => ?_)⟩
        · obtain ⟨b', o', rfl, hx, hf'⟩ := hk' hl
          refine ⟨b', o', rfl, hx, hf'.same kw (kw b' ?_ hx)⟩
          cases kids with
          | nil => simp [Fo.len] at hl
          | cons => exact lt_of_cell hf'.1.1
        · have := hc (5 + i) (by omega) u (by rw [← Nat.add_assoc]; exact hu)
          rw [← Nat.add_assoc] at this; exact this
    rcases Nat.eq_zero_or_pos kids.len with h0 | hp
    · cases hG : kids with
      | nil => trivial
      | cons => rw [hG] at h0; simp [Fo.len] at h0
    · rcases hrow.2 with ⟨_, h0⟩ | ⟨k2, cap2, cur2, e2, hk2, hh2, hc2, hm2, hs2, ht2⟩
      · omega
      · refine old kids k2 0 ((hfo k2 0 _ _ e2).less hup0) (fun i hi u hu => ?_)
        rw [Nat.zero_add] at hu ⊢
        refine cell i u ?_
        rw [List.getElem?_append_left (by omega), ← ht2, List.getElem?_take, if_pos hi]
        simpa [World.cell?, hh2] using hu
  refine ⟨hBF, hRF, (hW.ats.less hup).same (fun k h1 h2 => keepFX k h1 (fun h3 => h2 (.inl h3))), ⟨cs ++ [str e.s, str e.n, av2, str e.tx, kv2], ?_, fun k o n' c' e1 => ?_⟩, .inl h.inE, .inl h.inR, fun k hk' => ?_, fun k hk' => .inl (h.inB k hk'), h.lo, h.lr, h.ne⟩
  · rw [Fo.len_snoc]; exact hrowF
  · cases e1; exact hFo
  · obtain rfl : g = k := by simpa [Value.ownBlock] using hk'
    exact ⟨.inr rfl, hgne⟩
/-- The element's block behind the append. -/
theorem InAt.eb8 {w W W8 : World} {X : Nat → Prop} {base eb rb : Nat} {s n tx : Bs} {av kv : Value} {ats : List At} {kids : Fo} (h : InAt w X base eb rb s n av ats tx kv kids) {n8 : Nat} {cs new : List Value} {g c : Nat} (g0 : w.grownBy W none) (hE : AppK W W8 eb kv n8 cs new g c) : ElB W8 eb s n av tx kv := by
  have hW := h.grow g0
  exact (hE.gr.block eb (lt_of_block hW.blk) (fun e1 => (hW.inK eb e1.symm).2.1 rfl)).trans hW.blk
/-- The two blocks behind the append and the store. -/
theorem InAt.set8 {w W W8 : World} {X : Nat → Prop} {base eb rb : Nat} {s n tx : Bs} {av kv : Value} {ats : List At} {kids : Fo} (h : InAt w X base eb rb s n av ats tx kv kids) {n8 : Nat} {cs new : List Value} {g c : Nat} (g0 : w.grownBy W none) (hE : AppK W W8 eb kv n8 cs new g c) (u : Value) : ElB (W8.setCell ⟨eb, 4, none⟩ u) eb s n av tx u ∧ ElB (W8.setCell ⟨eb, 4, none⟩ u) rb [] [] (.slice none 0 0) [] (.slice none 0 0) := by
  have hW := h.grow g0
  have h8 := h.eb8 g0 hE
  have hR8 : ElB W8 rb [] [] (.slice none 0 0) [] (.slice none 0 0) := (hE.gr.block rb (lt_of_block hW.res) (fun e1 => (hW.inK rb e1.symm).2.2 rfl)).trans hW.res
  exact ⟨heap_set (o := 4) h8, gr_keep (gr_set (o := 4) (v := u) (gr_refl W8 (some eb))) hR8 (by have := h.ne; simp; omega)⟩
/-- An element written over a block. -/
def ret5 (w : World) (rb : Nat) (s n : Bs) (av : Value) (tx : Bs) (kv : Value) : World := ((((w.setCell ⟨rb, 0, none⟩ (.string ⟨s.toArray⟩)).setCell ⟨rb, 1, none⟩ (.string ⟨n.toArray⟩)).setCell ⟨rb, 2, none⟩ av).setCell ⟨rb, 3, none⟩ (.string ⟨tx.toArray⟩)).setCell ⟨rb, 4, none⟩ kv
theorem ret5_gr {w0 w : World} {rb : Nat} {s n tx : Bs} {av kv : Value} {row : Option Nat} (h : w0.grownBy w row) (hr : w0.heap.size ≤ rb) : w0.grownBy (ret5 w rb s n av tx kv) row :=
  gr_set_new (gr_set_new (gr_set_new (gr_set_new (gr_set_new h hr) hr) hr) hr) hr
theorem ret5_same {w : World} {rb : Nat} {s n tx : Bs} {av kv : Value} (k : Nat) (h1 : k < w.heap.size) (h2 : k ≠ rb) : (ret5 w rb s n av tx kv).heap[k]? = w.heap[k]? :=
  (gr_set (gr_set (gr_set (gr_set (gr_set (gr_refl w (some rb)))))) : w.grownBy (ret5 w rb s n av tx kv) (some rb)).block k h1 (by simpa using h2)
theorem DcR.ret5 {w : World} {b rb : Nat} {S r : Bs} {cnt : Int} {bad full : Bool} (h : DcR w b S r cnt bad full) (hb : b ≠ rb) {s n tx : Bs} {av kv : Value} : DcR (ret5 w rb s n av tx kv) b S r cnt bad full :=
  ((((h.other hb).other hb).other hb).other hb).other hb
/-- The element that comes out, behind the result's store. -/
theorem InAt.fin {w : World} {X : Nat → Prop} {base eb rb : Nat} {s n tx : Bs} {av kv : Value} {ats : List At} {kids : Fo} (h : InAt w X base eb rb s n av ats tx kv kids) {s' n' tx' : Bs} {av' kv' : Value} : AtsAt (ret5 w rb s' n' av' tx' kv') (· < base) av ats ∧ KidV (ret5 w rb s' n' av' tx' kv') (· < base) kv kids := by
  have hk : ∀ k, k < w.heap.size → ¬ X k → (ret5 w rb s' n' av' tx' kv').heap[k]? = w.heap[k]? := fun k h1 h2 => ret5_same k h1 (by rintro rfl; exact h2 h.inR)
  have hr : OwnFo (ret5 w rb s' n' av' tx' kv') X eb kv kids := h.row.same hk (fun k hk' => by
    obtain ⟨cs, h1, -⟩ := h.row
    exact ret5_same k (h1.lt k hk').2 (h.inK k hk').2.2)
  refine ⟨(h.ats.same hk).less fun k _ hk => h.inB k hk, hr.kid (fun k _ hk => h.inB k hk) fun k hk => ?_⟩
  obtain ⟨cs, h1, -⟩ := h.row
  have := (h1.lt k hk).1
  have hlo := h.lo
  omega
/-- What an element's reading leaves. -/
def RePost (w : World) (b base : Nat) (S : Bs) (o : Option Res) (e : Ending) (w' : World) : Prop :=
  w.grownBy w' (some b) ∧ ((∃ x av kv, o = some x ∧ e = .returned (elV x.1 av kv) ∧ DcR w' b S x.2.1 (x.2.2.1 : Int) false x.2.2.2 ∧ AtsAt w' (· < base) av x.1.ats ∧ KidV w' (· < base) kv x.1.kids) ∨
    (o = none ∧ ∃ (s n tx : Bs) (aa ka : Option Addr) (al ac kl kc : Nat) (r : Bs) (cnt : Int) (full : Bool), e = .returned (.agg #[str s, str n, .slice aa al ac, str tx, .slice ka kl kc]) ∧ DcR w' b S r cnt true full))
/-- inside reads right: with fuel up to N. -/
def InsideOk (N : Nat) : Prop := ∀ (m : Nat) (w : World) (b base : Nat) (S r p n s : Bs) (ats : List At) (av : Value) (L : List (Bs × Bs)) (vL : Value) (deep cnt : Nat) (full : Bool), m ≤ N → r.length < m → DcR w b S r cnt false full → b < base → base ≤ w.heap.size → S.length ≤ 20000 → AtsAt w (· < base) av ats → BnAt w vL L → 0 < L.length → L.length + r.length ≤ 40000 → deep + r.length ≤ 40000 → cnt + r.length ≤ 40000 →
    Calls Tryd.prog 34 #[.pointer (some ⟨b, 0, none⟩), .agg #[.string ⟨s.toArray⟩, .string ⟨n.toArray⟩, av, .string ⟨#[]⟩, .slice none 0 0], vL, .int .i64 (deep : Int), .string ⟨p.toArray⟩] w (RePost w b base S (inL m r ⟨p, n, s, ats, [], .nil, L.reverse⟩ deep cnt full))
/-- element reads right: with fuel up to N. -/
def ElementOk (N : Nat) : Prop := ∀ (m : Nat) (w : World) (b : Nat) (S r : Bs) (L : List (Bs × Bs)) (vL : Value) (deep cnt : Nat) (full : Bool), m ≤ N → r.length < m → DcR w b S r cnt false full → S.length ≤ 20000 → BnAt w vL L → 0 < L.length → L.length + r.length ≤ 40000 → deep + r.length ≤ 40000 → cnt + r.length ≤ 40000 →
    Calls Tryd.prog 20 #[.pointer (some ⟨b, 0, none⟩), vL, .int .i64 (deep : Int)] w (RePost w b w.heap.size S (elmL m L.reverse r deep cnt full))
/-- What nobody reads: inside, where all is bad already. -/
def InsideBad : Prop := ∀ (w : World) (b base : Nat) (S r p n s : Bs) (aa : Option Addr) (al ac : Nat) (vL : Value) (deep : Nat) (cnt : Int) (full : Bool), DcR w b S r cnt true full → b < base → base ≤ w.heap.size →
    Calls Tryd.prog 34 #[.pointer (some ⟨b, 0, none⟩), .agg #[.string ⟨s.toArray⟩, .string ⟨n.toArray⟩, .slice aa al ac, .string ⟨#[]⟩, .slice none 0 0], vL, .int .i64 (deep : Int), .string ⟨p.toArray⟩] w (RePost w b base S none)
end Go.Proofs.YtllmdlpogjjmcaaDoor
/- hearthref17.Doc: element's state. -/
namespace Go.Proofs.YtllmdlpogjjmcaaDoor
open Go.RowKit
set_option linter.unusedVariables false
set_option linter.unusedSimpArgs false

/-- An element behind its attributes. -/
def elmR (m : Nat) (p n : Bs) (up : List (Bs × Bs)) (deep cnt : Nat) (full : Bool) : Option (List At × Bool × Bs) → Option Res
  | none => none
  | some (l, emp, r') => match elemL p n l up with
    | none => none
    | some g => if emp then some (g.el, r', cnt + 1, fullB full (cnt + 1) deep l.length) else inL m r' g deep (cnt + 1) (fullB full (cnt + 1) deep l.length)
theorem elmL_at {m : Nat} {up : List (Bs × Bs)} {r : Bs} {deep cnt : Nat} {full : Bool} : elmL m up r deep cnt full = if (fullL r).1.2.2 then elmR m (fullL r).1.1 (fullL r).1.2.1 up deep cnt full (attrsA (fullL r).2) else none := by
  unfold elmL beginL
  by_cases h : (fullL r).1.2.2 = true
  · rw [if_pos h, if_pos h]
    cases attrsA (fullL r).2 with
    | none => rfl
    | some x =>
      obtain ⟨l, emp, r'⟩ := x
      simp only [elmR]
      cases elemL (fullL r).1.1 (fullL r).1.2.1 l up with
      | none => rfl
      | some g => rfl
  · rw [if_neg h, if_neg h]
theorem elmR_no {m : Nat} {p n : Bs} {up OW : List (Bs × Bs)} {deep cnt : Nat} {full emp : Bool} {l : List At} {r' : Bs} (hO : OW = bindB l up) (h : (bindOk l && ((spcL OW p).2 && (attB OW l []).2)) = false) : elmR m p n up deep cnt full (some (l, emp, r')) = none := by
  subst hO
  unfold elmR
  simp only
  rw [elemL_none (by rw [Bool.and_assoc]; exact h)]
theorem elmR_yes {m : Nat} {p n : Bs} {up OW : List (Bs × Bs)} {deep cnt : Nat} {full emp : Bool} {l : List At} {r' : Bs} (hO : OW = bindB l up) (h : (bindOk l && ((spcL OW p).2 && (attB OW l []).2)) = true) : elmR m p n up deep cnt full (some (l, emp, r')) = if emp then some (⟨(spcL OW p).1, n, (attB OW l []).1, [], .nil⟩, r', cnt + 1, fullB full (cnt + 1) deep l.length) else inL m r' ⟨p, n, (spcL OW p).1, (attB OW l []).1, [], .nil, OW⟩ deep (cnt + 1) (fullB full (cnt + 1) deep l.length) := by
  subst hO
  unfold elmR
  simp only
  rw [elemL_some (by rw [Bool.and_assoc]; exact h)]
  rfl
theorem DcR.setCnt {w : World} {b : Nat} {S r : Bs} {cnt : Int} {bad full : Bool} (h : DcR w b S r cnt bad full) (x : Int) : DcR (w.setCell ⟨b, 2, none⟩ (.int .i64 x)) b S r x bad full := by
  obtain ⟨i, h1, h2, h3⟩ := h
  exact ⟨i, h1, h2, heap_set (o := 2) h3⟩
theorem DcR.setFull {w : World} {b : Nat} {S r : Bs} {cnt : Int} {bad full : Bool} (h : DcR w b S r cnt bad full) (x : Bool) : DcR (w.setCell ⟨b, 4, none⟩ (.bool x)) b S r cnt bad x := by
  obtain ⟨i, h1, h2, h3⟩ := h
  exact ⟨i, h1, h2, heap_set (o := 4) h3⟩
theorem DcR.cells {w : World} {b : Nat} {S r : Bs} {cnt : Int} {bad full : Bool} (h : DcR w b S r cnt bad full) : w.cell? ⟨b, 2, none⟩ = some (.int .i64 cnt) ∧ w.cell? ⟨b, 3, none⟩ = some (.bool bad) ∧ w.cell? ⟨b, 4, none⟩ = some (.bool full) ∧ w.frozen? ⟨b, 2, none⟩ = false ∧ w.frozen? ⟨b, 3, none⟩ = false ∧ w.frozen? ⟨b, 4, none⟩ = false := by
  obtain ⟨i, h1, h2, h3⟩ := h
  obtain ⟨-, -, c2, c3, c4, -, f2, f3, f4⟩ := h3.cells
  exact ⟨c2, c3, c4, f2, f3, f4⟩
theorem DcR.lt {w : World} {b : Nat} {S r : Bs} {cnt : Int} {bad full : Bool} (h : DcR w b S r cnt bad full) : b < w.heap.size := by
  obtain ⟨cs, h⟩ := h.blk
  exact lt_of_block h
theorem DcR.own {w w1 : World} {base size n b : Nat} {e : TypeId} {v : Value} {xs : List Value} {S r : Bs} {cnt : Int} {bad full : Bool} (h : w.ownsRow base e size v n xs) (k : w.grownBy w1 v.ownBlock) (hd : DcR w b S r cnt bad full) (hT : 56 ≠ e) : DcR w1 b S r cnt bad full := by
  obtain ⟨i, h1, h2, h3⟩ := hd
  exact ⟨i, h1, h2, keep_own h k h3 hT⟩
/-- A document is no row of bounds. -/
theorem BnAt.step {w w' : World} {v : Value} {L : List (Bs × Bs)} {b : Nat} {S r : Bs} {cnt : Int} {bad full : Bool} (h : BnAt w v L) (hd : DcR w b S r cnt bad full) (g : w.grownBy w' (some b)) : BnAt w' v L := by
  obtain ⟨a, c, rfl, h⟩ := h
  obtain ⟨i0, -, -, hb⟩ := hd
  refine ⟨a, c, rfl, fun i hi => ?_⟩
  obtain ⟨k, o, rfl, h1, h2⟩ := h i hi
  have hne : k ≠ b := by
    rintro rfl
    have hb' : w.heap[k]? = some (.cells #[str S, .int .i64 (i0 : Int), .int .i64 cnt, .bool bad, .bool full] 56 (0, 0)) := hb
    have c1 := cell_of_block hb' (o + i * 2)
    have c2 := cell_of_block hb' (o + i * 2 + 1)
    rw [h1] at c1
    rw [h2] at c2
    generalize o + i * 2 = q at c1 c2
    match q, c1, c2 with
    | 0, c1, c2 => simp at c2
    | 1, c1, c2 => simp at c1
    | 2, c1, c2 => simp at c1
    | 3, c1, c2 => simp at c1
    | 4, c1, c2 => simp at c1
    | n + 5, c1, c2 => simp at c1
  exact ⟨k, o, rfl, g.cell h1 (by simpa using hne), g.cell h2 (by simpa using hne)⟩
theorem bn_new (w : World) (t1 t2 : Bs) : BnAt (w.alloc (.cells #[.string ⟨t1.toArray⟩, .string ⟨t2.toArray⟩] 60)) (.slice (some ⟨w.heap.size, 0, none⟩) 1 1) [(t1, t2)] := by
  have h := heap_alloc_new w (.cells #[.string ⟨t1.toArray⟩, .string ⟨t2.toArray⟩] 60)
  refine ⟨_, 1, rfl, fun i hi => ⟨_, 0, rfl, ?_⟩⟩
  obtain rfl : i = 0 := by simpa using hi
  exact ⟨cell_of_block h 0, cell_of_block h 1⟩
/-- The state while the attributes are gone through. -/
structure ES (w wr : World) (b : Nat) (S r : Bs) (cnt : Int) (bad full : Bool) (vl : Value) (l : List At) (vo : Value) (own : List (Bs × Bs)) : Prop where
  gr : w.grownBy wr (some b)
  dc : DcR wr b S r cnt bad full
  lst : wr.ownsRow w.heap.size xraw 3 vl l.length (tri l)
  own : wr.ownsRow w.heap.size xbn 2 vo own.length (duo own)
  hb : b < w.heap.size
theorem ES.grow {w wr w' : World} {b : Nat} {S r : Bs} {cnt : Int} {bad full : Bool} {vl vo : Value} {l : List At} {own : List (Bs × Bs)} (h : ES w wr b S r cnt bad full vl l vo own) (g : wr.grownBy w' none) : ES w w' b S r cnt bad full vl l vo own :=
  ⟨gr_trans h.gr (gr_none g), h.dc.grow g, row_none h.lst g, row_none h.own g, h.hb⟩
theorem ES.setBad {w wr : World} {b : Nat} {S r : Bs} {cnt : Int} {bad full : Bool} {vl vo : Value} {l : List At} {own : List (Bs × Bs)} (h : ES w wr b S r cnt bad full vl l vo own) (x : Bool) : ES w (wr.setCell ⟨b, 3, none⟩ (.bool x)) b S r cnt x full vl l vo own := by
  obtain ⟨cs, hb⟩ := h.dc.blk
  exact ⟨gr_set h.gr, h.dc.setBad x, row_ty h.lst (gr_set (gr_refl _ (some b))) hb (by decide), row_ty h.own (gr_set (gr_refl _ (some b))) hb (by decide), h.hb⟩
theorem ES.app {w wr W w8 : World} {b : Nat} {S r : Bs} {cnt : Int} {bad full : Bool} {vl vo vo' : Value} {l : List At} {own own' : List (Bs × Bs)} (h : ES w wr b S r cnt bad full vl l vo own) (g0 : wr.grownBy W none) (g : W.grownBy w8 vo.ownBlock) (h8 : w8.ownsRow w.heap.size xbn 2 vo' own'.length (duo own')) : ES w w8 b S r cnt bad full vl l vo' own' := by
  have h2 := h.grow g0
  exact ⟨gr_own h2.gr h2.own (Nat.le_refl _) g, DcR.own h2.own g h2.dc (by decide), row_own h2.own g h2.lst (by decide), h8, h.hb⟩
/-- With the element that is made. -/
structure ET (w wr : World) (b : Nat) (S r : Bs) (cnt : Int) (bad full : Bool) (vl : Value) (l : List At) (vo : Value) (own : List (Bs × Bs)) (eb : Nat) (s n : Bs) (va : Value) (acc : List At) : Prop where
  st : ES w wr b S r cnt bad full vl l vo own
  blk : ElB wr eb s n va [] (.slice none 0 0)
  att : wr.ownsRow w.heap.size 45 3 va acc.length (tri acc)
  lo : w.heap.size ≤ eb
theorem ET.grow {w wr w' : World} {b : Nat} {S r : Bs} {cnt : Int} {bad full : Bool} {vl vo va : Value} {l acc : List At} {own : List (Bs × Bs)} {eb : Nat} {s n : Bs} (h : ET w wr b S r cnt bad full vl l vo own eb s n va acc) (g : wr.grownBy w' none) : ET w w' b S r cnt bad full vl l vo own eb s n va acc :=
  ⟨h.st.grow g, h.blk.grow g, row_none h.att g, h.lo⟩
theorem ET.setBad {w wr : World} {b : Nat} {S r : Bs} {cnt : Int} {bad full : Bool} {vl vo va : Value} {l acc : List At} {own : List (Bs × Bs)} {eb : Nat} {s n : Bs} (h : ET w wr b S r cnt bad full vl l vo own eb s n va acc) (x : Bool) : ET w (wr.setCell ⟨b, 3, none⟩ (.bool x)) b S r cnt x full vl l vo own eb s n va acc := by
  obtain ⟨cs, hb⟩ := h.st.dc.blk
  exact ⟨h.st.setBad x, gr_keep (gr_set (gr_refl _ (some b))) h.blk (blk_ne h.blk hb (by decide)), row_ty h.att (gr_set (gr_refl _ (some b))) hb (by decide), h.lo⟩
theorem ET.setS {w wr : World} {b : Nat} {S r : Bs} {cnt : Int} {bad full : Bool} {vl vo va : Value} {l acc : List At} {own : List (Bs × Bs)} {eb : Nat} {s n : Bs} (h : ET w wr b S r cnt bad full vl l vo own eb s n va acc) (x : Bs) : ET w (wr.setCell ⟨eb, 0, none⟩ (.string ⟨x.toArray⟩)) b S r cnt bad full vl l vo own eb x n va acc := by
  have hb := h.st.hb
  have hlo := h.lo
  exact ⟨⟨gr_set_new h.st.gr h.lo, h.st.dc.other (by omega), row_ty h.st.lst (gr_set (gr_refl _ (some eb))) h.blk (by decide), row_ty h.st.own (gr_set (gr_refl _ (some eb))) h.blk (by decide), hb⟩, heap_set (o := 0) h.blk, row_ty h.att (gr_set (gr_refl _ (some eb))) h.blk (by decide), h.lo⟩
theorem ET.app {w wr W w8 : World} {b : Nat} {S r : Bs} {cnt : Int} {bad full : Bool} {vl vo va va' : Value} {l acc acc' : List At} {own : List (Bs × Bs)} {eb : Nat} {s n : Bs} (h : ET w wr b S r cnt bad full vl l vo own eb s n va acc) (g0 : wr.grownBy W none) (g : W.grownBy w8 va.ownBlock) (h8 : w8.ownsRow w.heap.size 45 3 va' acc'.length (tri acc')) :
    ElB w8 eb s n va [] (.slice none 0 0) ∧ ET w (w8.setCell ⟨eb, 2, none⟩ va') b S r cnt bad full vl l vo own eb s n va' acc' := by
  have h2 := h.grow g0
  have hb := h.st.hb
  have hlo := h.lo
  have e8 : ElB w8 eb s n va [] (.slice none 0 0) := keep_own h2.att g h2.blk (by decide)
  have gs : w8.grownBy (w8.setCell ⟨eb, 2, none⟩ va') (some eb) := gr_set (gr_refl _ _)
  exact ⟨e8, ⟨gr_set_new (gr_own h2.st.gr h2.att (Nat.le_refl _) g) hlo, (DcR.own h2.att g h2.st.dc (by decide)).other (by omega), row_ty (row_own h2.att g h2.st.lst (by decide)) gs e8 (by decide), row_ty (row_own h2.att g h2.st.own (by decide)) gs e8 (by decide), hb⟩, heap_set (o := 2) e8, row_ty h8 gs e8 (by decide), hlo⟩
theorem wpl_app3 {ops : Array Oper} {rest : List Oper} {o : Oper} {a : Act} {w : World} {Q : Exit → Act → World → Prop} (hgd : o.guard = none) (s x : Operand)
    (ho : o.op = .call { callee := .builtin .append, args := #[s, x], argTypes := #[24, 24] })
    {base k : Nat} {v : Value} {acc : List At} {t : At} (hs : a.eval s = v) (hx : a.eval x = .slice (some ⟨k, 0, none⟩) 1 1) (hown : w.ownsRow base 45 3 v acc.length (tri acc)) (hc : TriAt w k 0 t) (hlen : acc.length ≤ 1000000) (hbase : base ≤ w.heap.size)
    (h : ∀ ad c w', w'.ownsRow base 45 3 (.slice ad (acc.length + 1) c) (acc ++ [t]).length (tri (acc ++ [t])) → w.grownBy w' v.ownBlock → wpList Tryd.prog ops Q rest (a.put o.dst (.slice ad (acc.length + 1) c)) w') : wpList Tryd.prog ops Q (o :: rest) a w := by
  obtain ⟨i0, hi, hz0, hz1, hz2⟩ := info_parts infoA
  refine wpList_append_own w hgd s x 24 ho base 45 i0 _ 3 48 Tryd.underlying24 hi hz0 hz1 hz2 rfl (by decide) v acc.length (tri acc) hs hown ⟨k, 0, none⟩ 1 1 [str t.1, str t.2.1, str t.2.2] hx rfl (fun j u hj => by
      match j, hj with
      | 0, hj => simp at hj; subst hj; simpa [Addr.add, str] using hc.c0
      | 1, hj => simp at hj; subst hj; simpa [Addr.add, str] using hc.c1
      | 2, hj => simp at hj; subst hj; simpa [Addr.add, str] using hc.c2) (fun u hu => by simp at hu; rcases hu with rfl | rfl | rfl <;> rfl) (by unfold maxLen; omega) (by omega) hbase fun v' w' h2 h3 _ => ?_
  obtain ⟨ad, c', rfl, -⟩ := row_shape h2
  exact h ad c' w' (by rw [List.length_append, tri_snoc]; exact h2) h3
theorem tri_new (w : World) (t1 t2 t3 : Bs) (T : TypeId) : TriAt (w.alloc (.cells #[.string ⟨t1.toArray⟩, .string ⟨t2.toArray⟩, .string ⟨t3.toArray⟩] T)) w.heap.size 0 (t1, t2, t3) := by
  have h := heap_alloc_new w (.cells #[.string ⟨t1.toArray⟩, .string ⟨t2.toArray⟩, .string ⟨t3.toArray⟩] T)
  exact ⟨cell_of_block h 0, cell_of_block h 1, cell_of_block h 2⟩
/-- The attributes' row as it comes out. -/
theorem ats_of_own {w : World} {base X : Nat} {v : Value} {l : List At} (h : w.ownsRow base 45 3 v l.length (tri l)) (hX : X ≤ base) : AtsAt w (· < X) v l := by
  rcases Nat.eq_zero_or_pos l.length with h0 | hp
  · obtain ⟨a, c, rfl, _⟩ := row_shape h
    exact ⟨a, c, rfl, fun i hi => by omega⟩
  · obtain ⟨g, cap, rfl, hg, _, _, _, hc⟩ := own_tri h hp
    exact ⟨_, cap, rfl, fun i hi => ⟨g, 0, rfl, by omega, by rw [Nat.zero_add]; exact hc i hi⟩⟩
/-- Nothing was read. -/
theorem re_none {w w1 W : World} {b : Nat} {S r s n tx : Bs} {cnt : Int} {full : Bool} {R : Option Res} {aa ka : Option Addr} {al ac kl kc : Nat} (hR : R = none) (g0 : w.grownBy w1 none) (g : w1.grownBy W (some b)) (hd : DcR W b S r cnt true full) (hb : b < w.heap.size) :
    RePost w b w.heap.size S R (.returned (.agg #[str s, str n, .slice aa al ac, str tx, .slice ka kl kc])) (ret5 W w.heap.size s n (.slice aa al ac) tx (.slice ka kl kc)) :=
  ⟨ret5_gr (gr_trans (gr_none g0) g) (Nat.le_refl _), .inr ⟨hR, s, n, tx, aa, ka, al, ac, kl, kc, r, cnt, full, rfl, hd.ret5 (by omega)⟩⟩
theorem five_size (a b c d e : Value) : (Tryd.prog.info? 27).map (·.size) = some (#[a, b, c, d, e] : Array Value).size := by kernel_rfl
theorem five_one (a b c : Bs) (x y : Option Addr) (l1 l2 l3 l4 : Nat) : (#[.string ⟨a.toArray⟩, .string ⟨b.toArray⟩, .slice x l1 l2, .string ⟨c.toArray⟩, .slice y l3 l4] : Array Value).all (·.oneCell') = true := by simp [Value.oneCell']
theorem row5_gr (w : World) (g : Nat) (cs : Array Value) : w.grownBy (w.setRow g cs) (some g) := ⟨rfl, rfl, rfl, by simp, fun k _ hr => setRow_other _ _ _ _ (by simpa using hr)⟩
theorem DcR.row5 {w : World} {b g : Nat} {S r : Bs} {cnt : Int} {bad full : Bool} (h : DcR w b S r cnt bad full) (hb : b ≠ g) (cs : Array Value) : DcR (w.setRow g cs) b S r cnt bad full := by
  obtain ⟨i, h1, h2, h3⟩ := h
  exact ⟨i, h1, h2, gr_keep (row5_gr w g cs) h3 (by simpa using hb)⟩
theorem re_none5 {w w1 W : World} {b : Nat} {S r s n tx : Bs} {cnt : Int} {full : Bool} {R : Option Res} {aa ka : Option Addr} {al ac kl kc : Nat} (hR : R = none) (g0 : w.grownBy w1 none) (g : w1.grownBy W (some b)) (hd : DcR W b S r cnt true full) (hb : b < w.heap.size) (cs : Array Value) :
    RePost w b w.heap.size S R (.returned (.agg #[.string ⟨s.toArray⟩, .string ⟨n.toArray⟩, .slice aa al ac, .string ⟨tx.toArray⟩, .slice ka kl kc])) (W.setRow w.heap.size cs) :=
  ⟨gr_new (gr_trans (gr_none g0) g) (row5_gr _ _ _) (Nat.le_refl _), .inr ⟨hR, s, n, tx, aa, ka, al, ac, kl, kc, r, cnt, full, rfl, hd.row5 (by omega) cs⟩⟩
theorem re_some5 {w w1 W : World} {b : Nat} {S : Bs} {R : Option Res} {x : Res} {aa ka : Option Addr} {al ac kl kc : Nat} (hR : R = some x) (g0 : w.grownBy w1 none) (hsz : w.heap.size + 1 = w1.heap.size) (g : w1.grownBy W (some b)) (hd : DcR W b S x.2.1 (x.2.2.1 : Int) false x.2.2.2) (hb : b < w.heap.size)
    (ha : AtsAt W (· < w1.heap.size) (.slice aa al ac) x.1.ats) (hk : KidV W (· < w1.heap.size) (.slice ka kl kc) x.1.kids) (cs : Array Value) :
    RePost w b w.heap.size S R (.returned (.agg #[.string ⟨x.1.s.toArray⟩, .string ⟨x.1.n.toArray⟩, .slice aa al ac, .string ⟨x.1.tx.toArray⟩, .slice ka kl kc])) (W.setRow w.heap.size cs) := by
  have hs : ∀ k, k < W.heap.size → ¬ (k < w1.heap.size) → (W.setRow w.heap.size cs).heap[k]? = W.heap[k]? := fun k h1 h2 => setRow_other _ _ _ _ (by omega)
  exact ⟨gr_new (gr_trans (gr_none g0) g) (row5_gr _ _ _) (Nat.le_refl _), .inl ⟨x, _, _, hR, rfl, hd.row5 (by omega) cs, (ha.same hs).less (fun k _ h => Nat.lt_of_lt_of_le (show k < w.heap.size from h) (by omega)), (hk.same hs).less (fun k _ h => Nat.lt_of_lt_of_le (show k < w.heap.size from h) (by omega))⟩⟩
end Go.Proofs.YtllmdlpogjjmcaaDoor
/- hearthref17.Doc: inside, where all is bad already; its state. -/
namespace Go.Proofs.YtllmdlpogjjmcaaDoor
open Go.RowKit
set_option linter.unusedVariables false
set_option linter.unusedSimpArgs false

set_option maxRecDepth 20000 in
set_option maxHeartbeats 8000000 in
theorem inside_bad : InsideBad := by
  intro w b base S r p n s aa al ac vL deep cnt full hd hb hbase
  obtain ⟨w1, hw1⟩ : ∃ w1, w1 = (w.alloc (.cells #[.string ⟨s.toArray⟩, .string ⟨n.toArray⟩, .slice aa al ac, .string ⟨#[]⟩, .slice none 0 0] 27)).alloc (.cells #[.string ⟨#[]⟩, .string ⟨#[]⟩, .slice none 0 0, .string ⟨#[]⟩, .slice none 0 0] 27) := ⟨_, rfl⟩
  have ga : (w.alloc (.cells #[.string ⟨s.toArray⟩, .string ⟨n.toArray⟩, .slice aa al ac, .string ⟨#[]⟩, .slice none 0 0] 27)).grownBy w1 none := by rw [hw1]; exact gr_alloc (gr_refl _ _) _
  have G1 := hid (show w.grownBy w1 (some b) from gr_none (gr_trans (gr_alloc (gr_refl _ none) _) ga))
  have E1 := hid (show ElB w1 w.heap.size s n (.slice aa al ac) [] (.slice none 0 0) from gr_keep ga (heap_alloc_new w _) (by simp))
  have R1 := hid (show ElB w1 (w.heap.size + 1) [] [] (.slice none 0 0) [] (.slice none 0 0) by
    have := heap_alloc_new (w.alloc (.cells #[.string ⟨s.toArray⟩, .string ⟨n.toArray⟩, .slice aa al ac, .string ⟨#[]⟩, .slice none 0 0] 27)) (.cells #[.string ⟨#[]⟩, .string ⟨#[]⟩, .slice none 0 0, .string ⟨#[]⟩, .slice none 0 0] 27)
    rw [← hw1, show (w.alloc (.cells #[.string ⟨s.toArray⟩, .string ⟨n.toArray⟩, .slice aa al ac, .string ⟨#[]⟩, .slice none 0 0] 27)).heap.size = w.heap.size + 1 by simp] at this
    exact this)
  have D1 := hid (hd.grow (gr_trans (gr_alloc (gr_refl _ none) _) ga))
  have HW1 := hid hw1
  have HB := hid (show b < w.heap.size by omega)
  clear ga hw1 hd hb hbase
  obtain ⟨rb, hrb⟩ : ∃ rb, rb = w.heap.size + 1 := ⟨_, rfl⟩
  obtain ⟨eb, heb⟩ : ∃ eb, eb = w.heap.size := ⟨_, rfl⟩
  have HRB := hid hrb
  have HEB := hid heb
  rw [← hrb] at R1
  rw [← heb] at E1
  clear hrb heb
  go_enter Tryd.func34, Tryd.ntmps34
  go_wp2_with fail
  rw [← HW1.out]
  go_loopw [11] (fun _ wr => DcR wr b S r cnt true full ∧ w.grownBy wr (some b) ∧ ElB wr w.heap.size s n (.slice aa al ac) [] (.slice none 0 0) ∧ ElB wr (w.heap.size + 1) [] [] (.slice none 0 0) [] (.slice none 0 0)) (fun _ _ => 0)
  case atStart => exact ⟨D1.out, G1.out, by rw [← HEB.out]; exact E1.out, by rw [← HRB.out]; exact R1.out⟩
  case round =>
    obtain ⟨hd, hg, he, hr⟩ := hrel
    have HD := hid hd
    have HG := hid hg
    have HE := hid he
    have HR := hid hr
    clear D1 G1 E1 R1 HW1 hg
    obtain ⟨c2, c3, c4, f2, f3, f4⟩ := hd.cells
    clear hd he hr
    go_wp2_with fail
    go_quiet (fail)
    have gq := gr_drewN nq (gr_refl wr none)
    have HD2 := hid (HD.out.grow gq)
    have HG2 := hid (gr_trans HG.out (gr_none gq))
    have HE2 := hid (HE.out.grow gq)
    have HR2 := hid (HR.out.grow gq)
    clear gq c2 c3 c4 f2 f3 f4
    generalize wr.drewN nq = w2 at *
    obtain ⟨c2, c3, c4, f2, f3, f4⟩ := HD2.out.cells
    have gs := gr_set (o := 3) (v := .bool true) (gr_refl w2 (some b))
    have HD3 := hid (HD2.out.setBad true)
    have HG3 := hid (gr_trans HG2.out gs)
    have hne : some w.heap.size ≠ some b ∧ some (w.heap.size + 1) ≠ some b := by have := HB.out; simp; omega
    have HE3 := hid (show ElB (w2.setCell ⟨b, 3, none⟩ (.bool true)) w.heap.size s n (.slice aa al ac) [] (.slice none 0 0) from gr_keep gs HE2.out hne.1)
    have HR3 := hid (show ElB (w2.setCell ⟨b, 3, none⟩ (.bool true)) (w.heap.size + 1) [] [] (.slice none 0 0) [] (.slice none 0 0) from gr_keep gs HR2.out hne.2)
    clear gs hne HD HG HE HR HD2 HG2 HE2 HR2
    go_upto_region 21 with fail
    generalize w2.setCell ⟨b, 3, none⟩ (.bool true) = w3 at *
    clear c2 c3 c4 f2 f3 f4
    obtain ⟨s0, s1, s2, s3, s4⟩ := ElB.cells HE3.out
    obtain ⟨k0, k1, k2, k3, k4⟩ := ElB.cells HR3.out
    have z0 := ElB.free HR3.out 0
    have z1 := ElB.free HR3.out 1
    have z2 := ElB.free HR3.out 2
    have z3 := ElB.free HR3.out 3
    have z4 := ElB.free HR3.out 4
    go_wp2
    refine bodyPost_ret (v := .agg #[.string ⟨s.toArray⟩, .string ⟨n.toArray⟩, .slice aa al ac, .string ⟨#[]⟩, .slice none 0 0]) (by simp [results, Tryd.results34, go_sem, k0, k1, k2, k3, k4]) rfl ?_
    exact ⟨ret5_gr (s := s) (n := n) (av := .slice aa al ac) (tx := []) (kv := .slice none 0 0) HG3.out (Nat.le_succ _), .inr ⟨rfl, s, n, [], aa, none, al, ac, 0, 0, r, cnt, full, rfl, HD3.out.ret5 (by have := HB.out; omega)⟩⟩
end Go.Proofs.YtllmdlpogjjmcaaDoor
