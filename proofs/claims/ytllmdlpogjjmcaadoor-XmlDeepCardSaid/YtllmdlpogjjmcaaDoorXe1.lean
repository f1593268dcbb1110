/- xml.walk: what goes through a tree, told by what is known of its yield. -/
import Derived.Test.YtllmdlpogjjmcaaDoorML
namespace Go.Proofs.YtllmdlpogjjmcaaDoor
open Go.RowKit
set_option linter.unusedVariables false
set_option linter.unusedSimpArgs false

/-- Nothing old turns but blocks that X has. -/
def KX (X : Nat → Prop) (w w' : World) : Prop := w'.os = w.os ∧ w'.tape = w.tape ∧ w'.output = w.output ∧ w.heap.size ≤ w'.heap.size ∧ ∀ b, b < w.heap.size → ¬ X b → w'.heap[b]? = w.heap[b]?
theorem KX.refl (X : Nat → Prop) (w : World) : KX X w w := ⟨rfl, rfl, rfl, Nat.le_refl _, fun _ _ _ => rfl⟩
theorem KX.trans {X : Nat → Prop} {a b c : World} (h : KX X a b) (k : KX X b c) : KX X a c :=
  ⟨k.1.trans h.1, k.2.1.trans h.2.1, k.2.2.1.trans h.2.2.1, Nat.le_trans h.2.2.2.1 k.2.2.2.1, fun i hi hx => (k.2.2.2.2 i (Nat.lt_of_lt_of_le hi h.2.2.2.1) hx).trans (h.2.2.2.2 i hi hx)⟩
theorem KX.of_none {X : Nat → Prop} {a b : World} (h : a.grownBy b none) : KX X a b := ⟨h.os, h.tape, h.output, h.size, fun i hi _ => h.block i hi (by simp)⟩
theorem KX.gr {X : Nat → Prop} {a b : World} (h : KX X a b) (hX : ∀ i, X i → a.heap.size ≤ i) : a.grownBy b none := ⟨h.1, h.2.1, h.2.2.1, h.2.2.2.1, fun i hi _ => h.2.2.2.2 i hi (fun hx => by have := hX i hx; omega)⟩
theorem KX.keep {X : Nat → Prop} {a b : World} {g : Nat} {x : Obj} (h : KX X a b) (hx : a.heap[g]? = some x) (hg : ¬ X g) : b.heap[g]? = some x := (h.2.2.2.2 g (lt_of_block hx) hg).trans hx
theorem ElAt.kx {X : Nat → Prop} {w w' : World} {v : Value} {e : El} (h : ElAt w X v e) (k : KX X w w') : ElAt w' X v e := by
  obtain ⟨av, kv, rfl, ha, hk⟩ := h
  exact ⟨av, kv, rfl, ha.same k.2.2.2.2, hk.same k.2.2.2.2⟩
/-- The elements of a tree, each ahead of its own ones, and how deep they are. -/
def flatF : Nat → Fo → List (Nat × El)
  | _, .nil => []
  | d, .cons s n ats tx kids next => (d, ⟨s, n, ats, tx, kids⟩) :: (flatF (d + 1) kids ++ flatF d next)
def flatE (d : Nat) (e : El) : List (Nat × El) := (d, e) :: flatF (d + 1) e.kids
def flatK : Nat → Fo → Nat → List (Nat × El)
  | _, .nil, _ => []
  | _, .cons _ _ _ _ _ _, 0 => []
  | d, .cons s n ats tx kids next, i + 1 => flatE d ⟨s, n, ats, tx, kids⟩ ++ flatK d next i
theorem flatK_zero (d : Nat) (f : Fo) : flatK d f 0 = [] := by cases f <;> rfl
theorem flatK_len (d : Nat) (f : Fo) : flatK d f f.len = flatF d f := by
  induction f with
  | nil => rfl
  | cons s n ats tx kids next _ ih => simp only [Fo.len, flatK, ih, flatF, flatE, List.cons_append]
theorem flatK_succ (d : Nat) : ∀ (f : Fo) (i : Nat), i < f.len → flatK d f (i + 1) = flatK d f i ++ flatE d (f.at i) := by
  intro f
  induction f with
  | nil => intro i hi; simp [Fo.len] at hi
  | cons s n ats tx kids next _ ih =>
    intro i hi
    cases i with
    | zero => simp only [flatK, flatK_zero, List.append_nil, List.nil_append, Fo.at]
    | succ i => rw [flatK, ih i (by simp only [Fo.len] at hi; omega), flatK, List.append_assoc]; rfl
theorem flatK_pre (d : Nat) : ∀ (f : Fo) (i : Nat), flatK d f i <+: flatF d f := by
  intro f
  induction f with
  | nil => intro i; cases i <;> exact List.prefix_refl _
  | cons s n ats tx kids next _ ih =>
    intro i
    cases i with
    | zero => exact List.nil_prefix
    | succ i =>
      rw [flatK, flatF, flatE, List.cons_append]
      exact List.cons_prefix_cons.2 ⟨rfl, (List.prefix_append_right_inj _).2 (ih i)⟩
theorem at_sz : ∀ (f : Fo) (i : Nat), i < f.len → (f.at i).kids.sz < f.sz := by
  intro f
  induction f with
  | nil => intro i hi; simp [Fo.len] at hi
  | cons s n ats tx kids next _ ih =>
    intro i hi
    cases i with
    | zero => simp only [Fo.at, Fo.sz]; omega
    | succ i => have := ih i (by simp only [Fo.len] at hi; omega); simp only [Fo.at, Fo.sz]; omega
/-- What is known of a yield: told of the next element it says whether to go on. -/
def Yields (y : FuncId) (caps : Array Value) (X : Nat → Prop) (L : List (Nat × El)) (J : List (Nat × El) → World → Prop) (Jx : World → Prop) : Prop :=
  ∀ (pre : List (Nat × El)) (d : Nat) (e : El) (v : Value) (w : World), pre ++ [(d, e)] <+: L → J pre w → ElAt w X v e → Calls Tryd.prog y (#[.int .i64 (d : Int), v] ++ caps) w fun e' w' => KX X w w' ∧ ((e' = .returned (.bool true) ∧ J (pre ++ [(d, e)]) w') ∨ (e' = .returned (.bool false) ∧ Jx w'))
def WalkPost (X : Nat → Prop) (J : List (Nat × El) → World → Prop) (Jx : World → Prop) (w : World) (q : List (Nat × El)) (e' : Ending) (w' : World) : Prop := KX X w w' ∧ ((e' = .returned (.bool true) ∧ J q w') ∨ (e' = .returned (.bool false) ∧ Jx w'))
set_option maxRecDepth 20000 in
set_option maxHeartbeats 20000000 in
theorem walk_el (y : FuncId) (hcf : ∀ (args : Array Value) (w : World), (callFunc y args).run Tryd.prog w = .ok (.enter y args) w) (caps : Array Value) (X : Nat → Prop) (L : List (Nat × El)) (J : List (Nat × El) → World → Prop) (Jx : World → Prop) (hY : Yields y caps X L J Jx) (hJ : ∀ pre w w', J pre w → w.grownBy w' none → J pre w')
    (N : Nat) : ∀ (e : El) (d : Nat) (pre : List (Nat × El)) (v : Value) (w : World), e.kids.sz < N → d + e.kids.sz ≤ 1000000 → pre ++ flatE d e <+: L → (∀ b, X b → b < w.heap.size) → J pre w → ElAt w X v e →
      Calls Tryd.prog 23 #[v, .int .i64 (d : Int), .func (.func y) #[] caps] w (WalkPost X J Jx w (pre ++ flatE d e)) := by
  induction N with
  | zero => intro e d pre v w h; omega
  | succ N ih =>
    intro e d pre v w hN hd hL hX hj he
    have IH := hid ih
    have HE := hid he
    have HX := hid hX
    have HL := hid hL
    obtain ⟨s, n, ats, tx, kids⟩ := e
    obtain ⟨av, kv, rfl, ha, hk⟩ := he
    obtain ⟨aa, ac, rfl, -⟩ := ha
    have HKID := hid hk
    obtain ⟨ka, kc, rfl, -⟩ := hk
    simp only at hN hd hL HE HL
    have HB := hid (show kids.sz ≤ N ∧ d + kids.sz ≤ 1000000 from ⟨by omega, hd⟩)
    have hdb : (d : Int) + 1 ≤ 1000001 := by omega
    unfold elV str at HE ⊢
    simp only at HE ⊢
    have N1 := hid (heap_alloc_new w (.cells #[.string ⟨s.toArray⟩, .string ⟨n.toArray⟩, .slice aa ats.length ac, .string ⟨tx.toArray⟩, .slice ka kids.len kc] 27))
    have G1 := hid (gr_alloc (gr_refl w none) (.cells #[.string ⟨s.toArray⟩, .string ⟨n.toArray⟩, .slice aa ats.length ac, .string ⟨tx.toArray⟩, .slice ka kids.len kc] 27))
    have CALL := hid (hY pre d ⟨s, n, ats, tx, kids⟩ _ _ ((List.prefix_append_right_inj pre).2 (List.cons_prefix_cons.2 ⟨rfl, List.nil_prefix⟩) |>.trans hL) (hJ _ _ _ hj G1.out) (HE.out.kx (KX.of_none G1.out)))
    clear hN hd hL hj ih hX
    go_enter Tryd.func23, Tryd.ntmps23
    go_wp2_with fail
    refine CALL.out.mono ?_
    rintro e' w2 ⟨k2, hr⟩
    have KW := hid ((KX.of_none G1.out).trans k2)
    rcases hr with ⟨rfl, hj2⟩ | ⟨rfl, hjx⟩
    rotate_left
    · go_wp2
      go_ret
      exact ⟨KW.out, .inr ⟨rfl, hjx⟩⟩
    have E2 := hid (show ElB w2 w.heap.size s n (.slice aa ats.length ac) tx (.slice ka kids.len kc) from k2.keep N1.out (fun hx => by have := HX.out _ hx; omega))
    have HK2 := hid (show KidV w2 X (.slice ka kids.len kc) kids from HKID.out.same KW.out.2.2.2.2)
    have HJ2 := hid hj2
    have HX2 := hid (show ∀ b, X b → b < w2.heap.size from fun b hb => Nat.lt_of_lt_of_le (HX.out b hb) KW.out.2.2.2.1)
    obtain ⟨s0, s1, s2, s3, s4⟩ := ElB.cells E2.out
    clear CALL k2 hj2 N1 G1 HE HKID
    go_wp2_with fail
    clear s0 s1 s2 s3 s4
    go_loopw [17] (fun v17 wr => ∃ i : Nat, v17 = .int .i64 (i : Int) ∧ i ≤ kids.len ∧ KX X w2 wr ∧ J (pre ++ [(d, ⟨s, n, ats, tx, kids⟩)] ++ flatK (d + 1) kids i) wr) (fun v17 _ => kids.len - (intOf v17).toNat)
    case atStart => exact ⟨0, rfl, Nat.zero_le _, KX.refl _ _, by rw [flatK_zero, List.append_nil]; exact HJ2.out⟩
    case round =>
      obtain ⟨i, rfl, hi, hk, hji⟩ := hrel
      have HK := hid hk
      have HJI := hid hji
      clear hk hji
      by_cases hlt : i < kids.len
      · obtain ⟨b', c', e', h'⟩ := HK2.out.same HK.out.2.2.2.2
        simp only [Value.slice.injEq] at e'
        obtain ⟨rfl, -, rfl⟩ := e'
        obtain ⟨k1, o1, rfl, -, hF1⟩ := h' (by omega)
        obtain ⟨av3, kv3, m0, m1, m2, m3, m4, hA3, hK3⟩ := hF1.get hlt
        have hsz := at_sz kids i hlt
        have HA3 := hid hA3
        have HK3 := hid hK3
        have HFS := hid (flatK_succ (d + 1) kids i hlt)
        have HFP := hid (show flatK (d + 1) kids (i + 1) <+: flatF (d + 1) kids from flatK_pre _ _ _)
        generalize kids.at i = y at *
        obtain ⟨y1, y2, y3, y4, y5⟩ := y
        obtain ⟨i1, i2, rfl, -⟩ := hA3
        obtain ⟨i5, i6, rfl, -⟩ := hK3
        simp only at m0 m1 m2 m3 m4 hsz HA3 HK3
        have GA := hid (gr_alloc (gr_refl wr none) (.cells #[.string ⟨y1.toArray⟩, .string ⟨y2.toArray⟩, .slice i1 y3.length i2, .string ⟨y4.toArray⟩, .slice i5 y5.len i6] 27))
        have CALL := hid (IH.out ⟨y1, y2, y3, y4, y5⟩ (d + 1) (pre ++ [(d, ⟨s, n, ats, tx, kids⟩)] ++ flatK (d + 1) kids i) (.agg #[.string ⟨y1.toArray⟩, .string ⟨y2.toArray⟩, .slice i1 y3.length i2, .string ⟨y4.toArray⟩, .slice i5 y5.len i6]) _ (by have := HB.out; show y5.sz < N; omega) (by have := HB.out; show d + 1 + y5.sz ≤ 1000000; omega)
          (by
            rw [List.append_assoc, ← HFS.out]
            refine List.IsPrefix.trans ?_ HL.out
            rw [List.append_assoc, List.singleton_append]
            exact (List.prefix_append_right_inj _).2 (List.cons_prefix_cons.2 ⟨rfl, HFP.out⟩))
          (fun b hb => Nat.lt_of_lt_of_le (HX2.out b hb) (Nat.le_trans HK.out.2.2.2.1 GA.out.size)) (hJ _ _ _ HJI.out GA.out) ⟨_, _, rfl, HA3.out.grow GA.out, HK3.out.grow GA.out⟩)
        rw [List.append_assoc _ (flatK (d + 1) kids i), ← HFS.out, show ((d + 1 : Nat) : Int) = (d : Int) + 1 from rfl] at CALL
        have HKA := hid (HK.out.trans (KX.of_none GA.out))
        have hi0 : (0 : Int) ≤ (i : Int) := by omega
        have hi1 : (i : Int) < (kids.len : Int) := by omega
        have hi2 : (i : Int) + 1 ≤ 1000001 := by have := HB.out; have := kids.len_sz; omega
        clear h' hF1 hsz GA HA3 HK3
        go_wp2_with fail
        refine CALL.out.mono ?_
        rintro e' w3 ⟨k3, hr⟩
        have HK4 := hid (HKA.out.trans k3)
        rcases hr with ⟨rfl, hj3⟩ | ⟨rfl, hjx⟩
        · have HJ3 := hid hj3
          clear CALL k3 hj3 m0 m1 m2 m3 m4
          go_wp2
          go_roundw
          case rel => exact ⟨i + 1, by go_num, by omega, HK4.out, HJ3.out⟩
          case measure => simp [intOf]; omega
        · have HKF := hid (KW.out.trans HK4.out)
          clear CALL k3 m0 m1 m2 m3 m4
          go_wp2
          go_ret
          exact ⟨HKF.out, .inr ⟨rfl, hjx⟩⟩
      · obtain rfl : i = kids.len := by omega
        have HF := hid (show J (pre ++ flatE d ⟨s, n, ats, tx, kids⟩) wr by have := HJI.out; rw [flatK_len, List.append_assoc] at this; exact this)
        have HKF := hid (KW.out.trans HK.out)
        clear hi hlt
        go_wp2
        go_ret
        exact ⟨HKF.out, .inl ⟨rfl, HF.out⟩⟩
end Go.Proofs.YtllmdlpogjjmcaaDoor
