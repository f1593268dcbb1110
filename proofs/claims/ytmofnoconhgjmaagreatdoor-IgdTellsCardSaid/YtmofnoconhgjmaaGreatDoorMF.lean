/- Texts of one proof, put together: Xe1, ArE, Xf1, Xf2. -/
import Derived.Test.YtmofnoconhgjmaaGreatDoorXn7
import Derived.Test.YtmofnoconhgjmaaGreatDoorMA
import Derived.Test.YtmofnoconhgjmaaGreatDoorApG
import Derived.Deep.DeepCutAuto
/- xml.walk: what goes through a tree, told by what is known of its yield. -/
namespace Go.Proofs.YtmofnoconhgjmaaGreatDoor
open Go.RowKit
set_option linter.unusedVariables false
set_option linter.unusedSimpArgs false

/-- Nothing old turns but blocks that X has. -/
def KX (X : Nat → Prop) (w w' : World) : Prop := w'.os = w.os ∧ w'.tape = w.tape ∧ w'.output = w.output ∧ w.heap.size ≤ w'.heap.size ∧ ∀ b, b < w.heap.size → ¬ X b → w'.heap[b]? = w.heap[b]?
theorem KX.refl (X : Nat → Prop) (w : World) : KX X w w := ⟨rfl, rfl, rfl, Nat.le_refl _, fun _ _ _ => rfl⟩
theorem KX.trans {X : Nat → Prop} {a b c : World} (h : KX X a b) (k : KX X b c) : KX X a c :=
  ⟨k.1.trans h.1, k.2.1.trans h.2.1, k.2.2.1.trans h.2.2.1, Nat.le_trans h.2.2.2.1 k.2.2.2.1, fun i hi hx => (k.2.2.2.2 i (Nat.lt_of_lt_of_le hi h.2.2.2.1) hx).trans (h.2.2.2.2 i hi hx)⟩
theorem KX.of_none {X : Nat → Prop} {a b : World} (h : a.grownBy b none) : KX X a b := ⟨h.os, h.tape, h.output, h.size, fun i hi _ => h.block i hi (by simp)⟩
theorem KX.gr {X : Nat → Prop} {a b : World} (h : KX X a b) (hX : ∀ i, X i → a.heap.size ≤ i) : a.grownBy b none := ⟨h.1, h.2.1, h.2.2.1, h.2.2.2.1, fun i hi _ => h.2.2.2.2 i hi (fun hx => by have := hX i hx; omega)⟩
theorem KX.keep {X : Nat → Prop} {a b : World} {g : Nat} {x : Obj} (h : KX X a b) (hx : a.heap[g]? = some x) (hg : ¬ X g) : b.heap[g]? = some x := (h.2.2.2.2 g (lt_of_block hx) hg).trans hx
theorem ElAt.kx {X : Nat → Prop} {w w' : World} {v : Value} {e : El} (h : ElAt w X v e) (k : KX X w w') : ElAt w' X v e := by
  obtain ⟨av, kv, rfl, ha, hk⟩ := h
  exact ⟨av, kv, rfl, ha.same k.2.2.2.2, hk.same k.2.2.2.2⟩
/-- The elements of a tree, each ahead of its own ones, and how deep they are. -/
def flatF : Nat → Fo → List (Nat × El)
  | _, .nil => []
  | d, .cons s n ats tx kids next => (d, ⟨s, n, ats, tx, kids⟩) :: (flatF (d + 1) kids ++ flatF d next)
def flatE (d : Nat) (e : El) : List (Nat × El) := (d, e) :: flatF (d + 1) e.kids
def flatK : Nat → Fo → Nat → List (Nat × El)
  | _, .nil, _ => []
  | _, .cons _ _ _ _ _ _, 0 => []
  | d, .cons s n ats tx kids next, i + 1 => flatE d ⟨s, n, ats, tx, kids⟩ ++ flatK d next i
theorem flatK_zero (d : Nat) (f : Fo) : flatK d f 0 = [] := by cases f <;> rfl
theorem flatK_len (d : Nat) (f : Fo) : flatK d f f.len = flatF d f := by
  induction f with
  | nil => rfl
  | cons s n ats tx kids next _ ih => simp only [Fo.len, flatK, ih, flatF, flatE, List.cons_append]
theorem flatK_succ (d : Nat) : ∀ (f : Fo) (i : Nat), i < f.len → flatK d f (i + 1) = flatK d f i ++ flatE d (f.at i) := by
  intro f
  induction f with
  | nil => intro i hi; simp [Fo.len] at hi
  | cons s n ats tx kids next _ ih =>
    intro i hi
    cases i with
    | zero => simp only [flatK, flatK_zero, List.append_nil, List.nil_append, Fo.at]
    | succ i => rw [flatK, ih i (by simp only [Fo.len] at hi; omega), flatK, List.append_assoc]; rfl
theorem flatK_pre (d : Nat) : ∀ (f : Fo) (i : Nat), flatK d f i <+: flatF d f := by
  intro f
  induction f with
  | nil => intro i; cases i <;> exact List.prefix_refl _
  | cons s n ats tx kids next _ ih =>
    intro i
    cases i with
    | zero => exact List.nil_prefix
    | succ i =>
      rw [flatK, flatF, flatE, List.cons_append]
      exact List.cons_prefix_cons.2 ⟨rfl, (List.prefix_append_right_inj _).2 (ih i)⟩
theorem at_sz : ∀ (f : Fo) (i : Nat), i < f.len → (f.at i).kids.sz < f.sz := by
  intro f
  induction f with
  | nil => intro i hi; simp [Fo.len] at hi
  | cons s n ats tx kids next _ ih =>
    intro i hi
    cases i with
    | zero => simp only [Fo.at, Fo.sz]; omega
    | succ i => have := ih i (by simp only [Fo.len] at hi; omega); simp only [Fo.at, Fo.sz]; omega
/-- What is known of a yield: told of the next element it says whether to go on. -/
def Yields (y : FuncId) (caps : Array Value) (X : Nat → Prop) (L : List (Nat × El)) (J : List (Nat × El) → World → Prop) (Jx : World → Prop) : Prop :=
  ∀ (pre : List (Nat × El)) (d : Nat) (e : El) (v : Value) (w : World), pre ++ [(d, e)] <+: L → J pre w → ElAt w X v e → Calls Tryz.prog y (#[.int .i64 (d : Int), v] ++ caps) w fun e' w' => KX X w w' ∧ ((e' = .returned (.bool true) ∧ J (pre ++ [(d, e)]) w') ∨ (e' = .returned (.bool false) ∧ Jx w'))
def WalkPost (X : Nat → Prop) (J : List (Nat × El) → World → Prop) (Jx : World → Prop) (w : World) (q : List (Nat × El)) (e' : Ending) (w' : World) : Prop := KX X w w' ∧ ((e' = .returned (.bool true) ∧ J q w') ∨ (e' = .returned (.bool false) ∧ Jx w'))
set_option maxRecDepth 20000 in
set_option maxHeartbeats 20000000 in
theorem walk_el (y : FuncId) (hcf : ∀ (args : Array Value) (w : World), (callFunc y args).run Tryz.prog w = .ok (.enter y args) w) (caps : Array Value) (X : Nat → Prop) (L : List (Nat × El)) (J : List (Nat × El) → World → Prop) (Jx : World → Prop) (hY : Yields y caps X L J Jx) (hJ : ∀ pre w w', J pre w → w.grownBy w' none → J pre w')
    (N : Nat) : ∀ (e : El) (d : Nat) (pre : List (Nat × El)) (v : Value) (w : World), e.kids.sz < N → d + e.kids.sz ≤ 1000000 → pre ++ flatE d e <+: L → (∀ b, X b → b < w.heap.size) → J pre w → ElAt w X v e →
      Calls Tryz.prog 90 #[v, .int .i64 (d : Int), .func (.func y) #[] caps] w (WalkPost X J Jx w (pre ++ flatE d e)) := by
  induction N with
  | zero => intro e d pre v w h; omega
  | succ N ih =>
    intro e d pre v w hN hd hL hX hj he
    have IH := hid ih
    have HE := hid he
    have HX := hid hX
    have HL := hid hL
    obtain ⟨s, n, ats, tx, kids⟩ := e
    obtain ⟨av, kv, rfl, ha, hk⟩ := he
    obtain ⟨aa, ac, rfl, -⟩ := ha
    have HKID := hid hk
    obtain ⟨ka, kc, rfl, -⟩ := hk
    simp only at hN hd hL HE HL
    have HB := hid (show kids.sz ≤ N ∧ d + kids.sz ≤ 1000000 from ⟨by omega, hd⟩)
    have hdb : (d : Int) + 1 ≤ 1000001 := by omega
    unfold elV str at HE ⊢
    simp only at HE ⊢
    have N1 := hid (heap_alloc_new w (.cells #[.string ⟨s.toArray⟩, .string ⟨n.toArray⟩, .slice aa ats.length ac, .string ⟨tx.toArray⟩, .slice ka kids.len kc] 25))
    have G1 := hid (gr_alloc (gr_refl w none) (.cells #[.string ⟨s.toArray⟩, .string ⟨n.toArray⟩, .slice aa ats.length ac, .string ⟨tx.toArray⟩, .slice ka kids.len kc] 25))
    have CALL := hid (hY pre d ⟨s, n, ats, tx, kids⟩ _ _ ((List.prefix_append_right_inj pre).2 (List.cons_prefix_cons.2 ⟨rfl, List.nil_prefix⟩) |>.trans hL) (hJ _ _ _ hj G1.out) (HE.out.kx (KX.of_none G1.out)))
    clear hN hd hL hj ih hX
    go_enter Tryz.func90, Tryz.ntmps90
    go_wp2_with fail
    refine CALL.out.mono ?_
    rintro e' w2 ⟨k2, hr⟩
    have KW := hid ((KX.of_none G1.out).trans k2)
    rcases hr with ⟨rfl, hj2⟩ | ⟨rfl, hjx⟩
    rotate_left
    · go_wp2
      go_ret
      exact ⟨KW.out, .inr ⟨rfl, hjx⟩⟩
    have E2 := hid (show ElB w2 w.heap.size s n (.slice aa ats.length ac) tx (.slice ka kids.len kc) from k2.keep N1.out (fun hx => by have := HX.out _ hx; omega))
    have HK2 := hid (show KidV w2 X (.slice ka kids.len kc) kids from HKID.out.same KW.out.2.2.2.2)
    have HJ2 := hid hj2
    have HX2 := hid (show ∀ b, X b → b < w2.heap.size from fun b hb => Nat.lt_of_lt_of_le (HX.out b hb) KW.out.2.2.2.1)
    obtain ⟨s0, s1, s2, s3, s4⟩ := ElB.cells E2.out
    clear CALL k2 hj2 N1 G1 HE HKID
    go_wp2_with fail
    clear s0 s1 s2 s3 s4
    go_loopw [17] (fun v17 wr => ∃ i : Nat, v17 = .int .i64 (i : Int) ∧ i ≤ kids.len ∧ KX X w2 wr ∧ J (pre ++ [(d, ⟨s, n, ats, tx, kids⟩)] ++ flatK (d + 1) kids i) wr) (fun v17 _ => kids.len - (intOf v17).toNat)
    case atStart => exact ⟨0, rfl, Nat.zero_le _, KX.refl _ _, by rw [flatK_zero, List.append_nil]; exact HJ2.out⟩
    case round =>
      obtain ⟨i, rfl, hi, hk, hji⟩ := hrel
      have HK := hid hk
      have HJI := hid hji
      clear hk hji
      by_cases hlt : i < kids.len
      · obtain ⟨b', c', e', h'⟩ := HK2.out.same HK.out.2.2.2.2
        simp only [Value.slice.injEq] at e'
        obtain ⟨rfl, -, rfl⟩ := e'
        obtain ⟨k1, o1, rfl, -, hF1⟩ := h' (by omega)
        obtain ⟨av3, kv3, m0, m1, m2, m3, m4, hA3, hK3⟩ := hF1.get hlt
        have hsz := at_sz kids i hlt
        have HA3 := hid hA3
        have HK3 := hid hK3
        have HFS := hid (flatK_succ (d + 1) kids i hlt)
        have HFP := hid (show flatK (d + 1) kids (i + 1) <+: flatF (d + 1) kids from flatK_pre _ _ _)
        generalize kids.at i = y at *
        obtain ⟨y1, y2, y3, y4, y5⟩ := y
        obtain ⟨i1, i2, rfl, -⟩ := hA3
        obtain ⟨i5, i6, rfl, -⟩ := hK3
        simp only at m0 m1 m2 m3 m4 hsz HA3 HK3
        have GA := hid (gr_alloc (gr_refl wr none) (.cells #[.string ⟨y1.toArray⟩, .string ⟨y2.toArray⟩, .slice i1 y3.length i2, .string ⟨y4.toArray⟩, .slice i5 y5.len i6] 25))
        have CALL := hid (IH.out ⟨y1, y2, y3, y4, y5⟩ (d + 1) (pre ++ [(d, ⟨s, n, ats, tx, kids⟩)] ++ flatK (d + 1) kids i) (.agg #[.string ⟨y1.toArray⟩, .string ⟨y2.toArray⟩, .slice i1 y3.length i2, .string ⟨y4.toArray⟩, .slice i5 y5.len i6]) _ (by have := HB.out; show y5.sz < N; omega) (by have := HB.out; show d + 1 + y5.sz ≤ 1000000; omega)
          (by
            rw [List.append_assoc, ← HFS.out]
            refine List.IsPrefix.trans ?_ HL.out
            rw [List.append_assoc, List.singleton_append]
            exact (List.prefix_append_right_inj _).2 (List.cons_prefix_cons.2 ⟨rfl, HFP.out⟩))
          (fun b hb => Nat.lt_of_lt_of_le (HX2.out b hb) (Nat.le_trans HK.out.2.2.2.1 GA.out.size)) (hJ _ _ _ HJI.out GA.out) ⟨_, _, rfl, HA3.out.grow GA.out, HK3.out.grow GA.out⟩)
        rw [List.append_assoc _ (flatK (d + 1) kids i), ← HFS.out, show ((d + 1 : Nat) : Int) = (d : Int) + 1 from rfl] at CALL
        have HKA := hid (HK.out.trans (KX.of_none GA.out))
        have hi0 : (0 : Int) ≤ (i : Int) := by omega
        have hi1 : (i : Int) < (kids.len : Int) := by omega
        have hi2 : (i : Int) + 1 ≤ 1000001 := by have := HB.out; have := kids.len_sz; omega
        clear h' hF1 hsz GA HA3 HK3
        go_wp2_with fail
        refine CALL.out.mono ?_
        rintro e' w3 ⟨k3, hr⟩
        have HK4 := hid (HKA.out.trans k3)
        rcases hr with ⟨rfl, hj3⟩ | ⟨rfl, hjx⟩
        · have HJ3 := hid hj3
          clear CALL k3 hj3 m0 m1 m2 m3 m4
          go_wp2
          go_roundw
          case rel => exact ⟨i + 1, by go_num, by omega, HK4.out, HJ3.out⟩
          case measure => simp [intOf]; omega
        · have HKF := hid (KW.out.trans HK4.out)
          clear CALL k3 m0 m1 m2 m3 m4
          go_wp2
          go_ret
          exact ⟨HKF.out, .inr ⟨rfl, hjx⟩⟩
      · obtain rfl : i = kids.len := by omega
        have HF := hid (show J (pre ++ flatE d ⟨s, n, ats, tx, kids⟩) wr by have := HJI.out; rw [flatK_len, List.append_assoc] at this; exact this)
        have HKF := hid (KW.out.trans HK.out)
        clear hi hlt
        go_wp2
        go_ret
        exact ⟨HKF.out, .inl ⟨rfl, HF.out⟩⟩
end Go.Proofs.YtmofnoconhgjmaaGreatDoor
/- An argument that is an element: its tree. -/
namespace Go.Proofs.YtmofnoconhgjmaaGreatDoor
open Go.RowKit Go.Deep Go.ChangeShapes Go.WideShapes
set_option linter.unusedVariables false
set_option linter.unusedSimpArgs false

def Fo.ofL : List El → Fo
  | [] => .nil
  | e :: l => .cons e.s e.n e.ats e.tx e.kids (Fo.ofL l)
theorem Fo.ofL_len (l : List El) : (Fo.ofL l).len = l.length := by
  induction l with
  | nil => rfl
  | cons e l ih => simp only [Fo.ofL, Fo.len, ih, List.length_cons]
theorem fo_of_list {w : World} {X : Nat → Prop} {b : Nat} : ∀ (l : List El) (o : Nat),
    (∀ i e, l[i]? = some e → ∃ av kv, w.cell? ⟨b, o + i * 5, none⟩ = some (.string ⟨e.s.toArray⟩) ∧ w.cell? ⟨b, o + i * 5 + 1, none⟩ = some (.string ⟨e.n.toArray⟩) ∧ w.cell? ⟨b, o + i * 5 + 2, none⟩ = some av ∧ w.cell? ⟨b, o + i * 5 + 3, none⟩ = some (.string ⟨e.tx.toArray⟩) ∧ w.cell? ⟨b, o + i * 5 + 4, none⟩ = some kv ∧ AtsAt w X av e.ats ∧ KidV w X kv e.kids) →
    FoAt w X (Fo.ofL l) b o := by
  intro l
  induction l with
  | nil => intro o _; trivial
  | cons e l ih =>
    intro o h
    obtain ⟨av, kv, c0, c1, c2, c3, c4, ha, a, c, rfl, hk⟩ := h 0 e rfl
    simp only [Nat.zero_mul, Nat.add_zero] at c0 c1 c2 c3 c4
    refine ⟨⟨c0, c1, c3⟩, ⟨av, c2, ha⟩, ⟨a, c, c4, hk⟩, ih (o + 5) fun i e' he => ?_⟩
    have := h (i + 1) e' (by simpa using he)
    rw [show o + (i + 1) * 5 = o + 5 + i * 5 by omega] at this
    exact this
theorem str_list (x : ByteArray) : (⟨x.data.toList.toArray⟩ : ByteArray) = x := by
  obtain ⟨d⟩ := x
  simp
theorem struct_fields {H : Type} {enc : TypeId × Value → H} {P : Program} {W : World} {base : Nat} {spare : Nat → Bool} {held : Bool} {t : TypeId} {fs : Array Field} {n : Nat} {cs : List Value} {y : DataW H × List MemPlace}
    (he : P.underlying t = some (.struct fs)) (hone : oneCellFields P fs = true) (hC : P.cellsOf t = fs.size) (h : DataW.trod enc P W base spare held n t cs = some y) :
    ∃ m, n = m + 1 ∧ cs.length = fs.size ∧ ∀ (j : Nat) (f : Field), fs[j]? = some f → ∃ v y', cs[j]? = some v ∧ DataW.trod enc P W base spare held m f.type [v] = some y' := by
  obtain ⟨xs, m, rfl, -, hlen, hxl, hfld⟩ := DataW.trod_struct he h
  refine ⟨m, rfl, by omega, fun j f hj => ?_⟩
  have hjs : j < fs.size := (Array.getElem?_eq_some_iff.1 hj).1
  obtain ⟨ho, h1⟩ := hone_of hone j f hj
  have hjl : j < cs.length := by omega
  have hr := hfld j f hj
  rw [ho, h1, List.drop_eq_getElem_cons hjl, List.take_succ_cons, List.take_zero, List.getElem?_eq_getElem (by omega)] at hr
  exact ⟨cs[j], _, List.getElem?_eq_getElem hjl, hr⟩
section
variable {H : Type} {enc : TypeId × Value → H} {W : World}
theorem ats_of_trod {n : Nat} {v : Value} {y : DataW H × List MemPlace} (h : DataW.trod enc Tryz.prog W 0 (fun _ => true) true n 22 [v] = some y) : ∃ ats, AtsAt W noX v ats := by
  obtain ⟨a, len, cap, rfl, ht⟩ := fld_slice Tryz.underlying22 h
  rcases struct_slice Tryz.underlying22 Tryz.underlying102 (by kernel_rfl) (by kernel_rfl) ht with ⟨rfl, rfl, rfl⟩ | ⟨x, rfl, hl, hm, hc⟩
  · exact ⟨[], none, 0, rfl, fun i hi => by simp at hi⟩
  · have hone : ∀ i, ∃ o : ByteArray × ByteArray × ByteArray, i < len → (W.cell? (x.add (i * 3)) = some (.string o.1) ∧ W.cell? (x.add (i * 3 + 1)) = some (.string o.2.1) ∧ W.cell? (x.add (i * 3 + 2)) = some (.string o.2.2)) := by
      intro i
      by_cases hi : i < len
      · obtain ⟨v0, _, _, _, c0, y0⟩ := hc i hi 0 _ rfl
        obtain ⟨v1, _, _, _, c1, y1⟩ := hc i hi 1 _ rfl
        obtain ⟨v2, _, _, _, c2, y2⟩ := hc i hi 2 _ rfl
        obtain ⟨x0, rfl, _⟩ := fld_string Tryz.underlying9 y0
        obtain ⟨x1, rfl, _⟩ := fld_string Tryz.underlying9 y1
        obtain ⟨x2, rfl, _⟩ := fld_string Tryz.underlying9 y2
        exact ⟨(x0, x1, x2), fun _ => ⟨c0, c1, c2⟩⟩
      · exact ⟨(ByteArray.empty, ByteArray.empty, ByteArray.empty), fun h => absurd h hi⟩
    obtain ⟨ops, hops⟩ := Classical.axiomOfChoice hone
    refine ⟨(List.range len).map fun i => ((ops i).1.data.toList, (ops i).2.1.data.toList, (ops i).2.2.data.toList), some x, cap, by simp, fun i hi => ?_⟩
    have hil : i < len := by simpa using hi
    obtain ⟨c0, c1, c2⟩ := hops i hil
    obtain ⟨b, off, spot⟩ := x
    obtain rfl : spot = none := by simpa [Addr.add] using World.cell?_spot (hops 0 (by omega)).1
    refine ⟨b, off, rfl, ⟨fun h => h, by simpa using hl⟩, ?_⟩
    simp only [Go.WideShapes.add_plain, ← Nat.add_assoc] at c0 c1 c2
    have hg : ((List.range len).map fun i => ((ops i).1.data.toList, (ops i).2.1.data.toList, (ops i).2.2.data.toList)).getD i at0 = ((ops i).1.data.toList, (ops i).2.1.data.toList, (ops i).2.2.data.toList) := by
      rw [List.getD_eq_getElem?_getD, List.getElem?_map, List.getElem?_range hil]
      rfl
    rw [hg]
    exact ⟨by rw [c0, str_list], by rw [c1, str_list], by rw [c2, str_list]⟩
set_option maxRecDepth 100000 in
theorem el_of_trod : ∀ (n : Nat) (cs : List Value) (y : DataW H × List MemPlace), DataW.trod enc Tryz.prog W 0 (fun _ => true) true n 25 cs = some y →
    ∃ (e : El) (av kv : Value), cs = [.string ⟨e.s.toArray⟩, .string ⟨e.n.toArray⟩, av, .string ⟨e.tx.toArray⟩, kv] ∧ AtsAt W noX av e.ats ∧ KidV W noX kv e.kids := by
  intro n
  induction n using Nat.strongRecOn with
  | ind n ih =>
    intro cs y h
    obtain ⟨m, rfl, hlen, hfld⟩ := struct_fields Tryz.underlying25 (by kernel_rfl) (by kernel_rfl) h
    match cs, hlen with
    | [c0, c1, c2, c3, c4], _ =>
      obtain ⟨v0, y0, e0, g0⟩ := hfld 0 _ rfl
      obtain ⟨v1, y1, e1, g1⟩ := hfld 1 _ rfl
      obtain ⟨v2, y2, e2, g2⟩ := hfld 2 _ rfl
      obtain ⟨v3, y3, e3, g3⟩ := hfld 3 _ rfl
      obtain ⟨v4, y4, e4, g4⟩ := hfld 4 _ rfl
      obtain rfl : c0 = v0 := Option.some.inj e0
      obtain rfl : c1 = v1 := Option.some.inj e1
      obtain rfl : c2 = v2 := Option.some.inj e2
      obtain rfl : c3 = v3 := Option.some.inj e3
      obtain rfl : c4 = v4 := Option.some.inj e4
      obtain ⟨x0, rfl, _⟩ := fld_string Tryz.underlying9 g0
      obtain ⟨x1, rfl, _⟩ := fld_string Tryz.underlying9 g1
      obtain ⟨x3, rfl, _⟩ := fld_string Tryz.underlying9 g3
      obtain ⟨ats, hats⟩ := ats_of_trod g2
      have hkid : ∃ l : List El, KidV W noX c4 (Fo.ofL l) := by
        rcases DataW.trod_slice Tryz.underlying23 g4 with ⟨h0, _⟩ | ⟨a, len, cap, elems, rest, m', hm', h0, -, -, hlc, hmx, hel, hall, -, -⟩
        · obtain rfl : c4 = .slice none 0 0 := by simpa using h0
          exact ⟨[], none, 0, rfl, fun h => by simp [Fo.ofL, Fo.len] at h⟩
        · obtain rfl : c4 = .slice (some a) len cap := by simpa using h0
          have hone : ∀ i, ∃ e : El, i < len → ∃ av kv, W.cells? 0 (a.add (i * 5)) 5 = some [.string ⟨e.s.toArray⟩, .string ⟨e.n.toArray⟩, av, .string ⟨e.tx.toArray⟩, kv] ∧ AtsAt W noX av e.ats ∧ KidV W noX kv e.kids := by
            intro i
            by_cases hi : i < len
            · have h1 := hall i hi
              rw [show Tryz.prog.cellsOf 25 = 5 by kernel_rfl, List.getElem?_eq_getElem (by omega)] at h1
              obtain ⟨cs', h2, h3⟩ := Option.bind_eq_some_iff.1 h1
              obtain ⟨e, av, kv, rfl, h4, h5⟩ := ih m' (by omega) cs' _ h3
              exact ⟨e, fun _ => ⟨av, kv, h2, h4, h5⟩⟩
            · exact ⟨El.zero, fun h => absurd h hi⟩
          obtain ⟨ops, hops⟩ := Classical.axiomOfChoice hone
          refine ⟨(List.range len).map ops, some a, cap, by rw [Fo.ofL_len]; simp, fun hl => ?_⟩
          rw [Fo.ofL_len] at hl
          have hl0 : 0 < len := by simpa using hl
          obtain ⟨b, off, spot⟩ := a
          obtain rfl : spot = none := by
            obtain ⟨av, kv, h2, -, -⟩ := hops 0 hl0
            obtain ⟨-, -, hc⟩ := World.cells?_some h2
            simpa [Addr.add] using World.cell?_spot (hc 0 (by omega))
          refine ⟨b, off, rfl, fun h => h, fo_of_list _ _ fun i e he => ?_⟩
          rw [List.getElem?_map] at he
          obtain ⟨j, hj, rfl⟩ := Option.map_eq_some_iff.1 he
          obtain ⟨hj1, rfl⟩ := List.getElem?_eq_some_iff.1 hj
          have hil : i < len := by simpa using hj1
          obtain ⟨av, kv, h2, h4, h5⟩ := hops i hil
          obtain ⟨-, -, hc⟩ := World.cells?_some h2
          have k0 := hc 0 (by omega)
          have k1 := hc 1 (by omega)
          have k2 := hc 2 (by omega)
          have k3 := hc 3 (by omega)
          have k4 := hc 4 (by omega)
          simp only [Go.WideShapes.add_plain, add_add, ← Nat.add_assoc, Nat.add_zero] at k0 k1 k2 k3 k4
          simp only [List.getElem_range]
          exact ⟨av, kv, k0, k1, k2, k3, k4, h4, h5⟩
      obtain ⟨l, hl⟩ := hkid
      exact ⟨⟨x0.data.toList, x1.data.toList, ats, x3.data.toList, Fo.ofL l⟩, c2, c4, by rw [str_list, str_list, str_list], hats, hl⟩
set_option maxRecDepth 100000 in
/-- An element that came in. -/
theorem elAt_of_trod {v : Value} {d : DataW H} {p : List MemPlace} {base : Nat} (hval : Value.okWide Tryz.prog W .any base 25 v) (h : DataW.Trod enc Tryz.prog W 0 (fun _ => true) true 25 v d p) : ∃ e, ElAt W noX v e := by
  obtain ⟨m, hm⟩ := h
  obtain ⟨e, av, kv, hcs, ha, hk⟩ := el_of_trod m _ _ hm
  obtain ⟨cs, rfl, hsz⟩ := okWide_struct Tryz.underlying25 hval
  refine ⟨e, av, kv, ?_, ha, hk⟩
  have : cs.toList = [.string ⟨e.s.toArray⟩, .string ⟨e.n.toArray⟩, av, .string ⟨e.tx.toArray⟩, kv] := hcs
  unfold elV str
  rw [← Array.toArray_toList (xs := cs), this]
end
end Go.Proofs.YtmofnoconhgjmaaGreatDoor
/- Rows of elements, by their cells. -/
namespace Go.Proofs.YtmofnoconhgjmaaGreatDoor
open Go.RowKit
set_option linter.unusedVariables false
set_option linter.unusedSimpArgs false

/-- The cells of elements. -/
def ElsV (w : World) (X : Nat → Prop) : List Value → List El → Prop
  | cs, [] => cs = []
  | cs, e :: l => ∃ c2 c4 r, cs = .string ⟨e.s.toArray⟩ :: .string ⟨e.n.toArray⟩ :: c2 :: .string ⟨e.tx.toArray⟩ :: c4 :: r ∧ AtsAt w X c2 e.ats ∧ KidV w X c4 e.kids ∧ ElsV w X r l
theorem ElsV.cons {w : World} {X : Nat → Prop} {c0 c1 c2 c3 c4 : Value} {r : List Value} {e : El} {l : List El} (a0 : c0 = .string ⟨e.s.toArray⟩) (a1 : c1 = .string ⟨e.n.toArray⟩) (a3 : c3 = .string ⟨e.tx.toArray⟩) (a2 : AtsAt w X c2 e.ats) (a4 : KidV w X c4 e.kids) (h : ElsV w X r l) : ElsV w X (c0 :: c1 :: c2 :: c3 :: c4 :: r) (e :: l) :=
  ⟨c2, c4, r, by rw [a0, a1, a3], a2, a4, h⟩
theorem ElsV.nil {w : World} {X : Nat → Prop} : ElsV w X [] [] := rfl
theorem ElsV.ind {w : World} {X : Nat → Prop} {motive : List Value → List El → Prop} (h0 : motive [] []) (h1 : ∀ c0 c1 c2 c3 c4 r e l, c0 = .string ⟨e.s.toArray⟩ → c1 = .string ⟨e.n.toArray⟩ → c3 = .string ⟨e.tx.toArray⟩ → AtsAt w X c2 e.ats → KidV w X c4 e.kids → ElsV w X r l → motive r l → motive (c0 :: c1 :: c2 :: c3 :: c4 :: r) (e :: l)) :
    ∀ (l : List El) (cs : List Value), ElsV w X cs l → motive cs l := by
  intro l
  induction l with
  | nil =>
    intro cs h
    cases (show cs = [] from h)
    exact h0
  | cons e l ih =>
    intro cs h
    obtain ⟨c2, c4, r, rfl, a2, a4, h⟩ := h
    exact h1 _ _ _ _ _ _ _ _ rfl rfl rfl a2 a4 h (ih r h)
theorem ElsV.len {w : World} {X : Nat → Prop} {cs : List Value} {l : List El} (h : ElsV w X cs l) : cs.length = l.length * 5 :=
  ElsV.ind (motive := fun cs l => cs.length = l.length * 5) rfl (fun _ _ _ _ _ _ _ _ _ _ _ _ _ _ ih => by simp only [List.length_cons, ih]; omega) l cs h
theorem ElsV.app {w : World} {X : Nat → Prop} {cs cs' : List Value} {l l' : List El} (h : ElsV w X cs l) (h' : ElsV w X cs' l') : ElsV w X (cs ++ cs') (l ++ l') :=
  ElsV.ind (motive := fun cs l => ElsV w X (cs ++ cs') (l ++ l')) (by simpa using h') (fun _ _ _ _ _ _ _ _ a0 a1 a3 a2 a4 _ ih => .cons a0 a1 a3 a2 a4 ih) l cs h
theorem ElsV.one {w : World} {X : Nat → Prop} {cs : List Value} {l : List El} (h : ElsV w X cs l) : ∀ u ∈ cs, u.oneCell' = true :=
  ElsV.ind (motive := fun cs l => ∀ u ∈ cs, u.oneCell' = true) (fun _ h => by cases h) (fun _ _ _ _ _ _ _ _ a0 a1 a3 a2 a4 _ ih u hu => by
    obtain ⟨a, c, rfl, -⟩ := a2
    obtain ⟨b, d, rfl, -⟩ := a4
    subst a0 a1 a3
    simp only [List.mem_cons] at hu
    rcases hu with rfl | rfl | rfl | rfl | rfl | hu <;> first | rfl | exact ih u hu) l cs h
theorem ElsV.same {w w' : World} {X : Nat → Prop} {cs : List Value} {l : List El} (h : ElsV w X cs l) (k : ∀ b, b < w.heap.size → ¬ X b → w'.heap[b]? = w.heap[b]?) : ElsV w' X cs l :=
  ElsV.ind (motive := fun cs l => ElsV w' X cs l) .nil (fun _ _ _ _ _ _ _ _ a0 a1 a3 a2 a4 _ ih => .cons a0 a1 a3 (a2.same k) (a4.same k) ih) l cs h
theorem ElsV.less {w : World} {X X' : Nat → Prop} {cs : List Value} {l : List El} (h : ElsV w X cs l) (k : ∀ b, b < w.heap.size → X' b → X b) : ElsV w X' cs l :=
  ElsV.ind (motive := fun cs l => ElsV w X' cs l) .nil (fun _ _ _ _ _ _ _ _ a0 a1 a3 a2 a4 _ ih => .cons a0 a1 a3 (a2.less k) (a4.less k) ih) l cs h
theorem ElsV.take {w : World} {X : Nat → Prop} {cs : List Value} {l : List El} (h : ElsV w X cs l) : ∀ n, ElsV w X (cs.take (n * 5)) (l.take n) :=
  ElsV.ind (motive := fun cs l => ∀ n, ElsV w X (cs.take (n * 5)) (l.take n)) (fun n => by simp only [List.take_nil]; exact .nil) (fun c0 c1 c2 c3 c4 r e l a0 a1 a3 a2 a4 _ ih n => by
    cases n with
    | zero => simp only [Nat.zero_mul, List.take_zero]; exact .nil
    | succ n =>
      rw [show (n + 1) * 5 = n * 5 + 5 by omega]
      simp only [List.take_succ_cons]
      exact .cons a0 a1 a3 a2 a4 (ih n)) l cs h
theorem ElsV.get {w : World} {X : Nat → Prop} {cs : List Value} {l : List El} (h : ElsV w X cs l) : ∀ i e, l[i]? = some e → ∃ av kv, cs[i * 5]? = some (.string ⟨e.s.toArray⟩) ∧ cs[i * 5 + 1]? = some (.string ⟨e.n.toArray⟩) ∧ cs[i * 5 + 2]? = some av ∧ cs[i * 5 + 3]? = some (.string ⟨e.tx.toArray⟩) ∧ cs[i * 5 + 4]? = some kv ∧ AtsAt w X av e.ats ∧ KidV w X kv e.kids :=
  ElsV.ind (motive := fun cs l => ∀ i e, l[i]? = some e → ∃ av kv, cs[i * 5]? = some (.string ⟨e.s.toArray⟩) ∧ cs[i * 5 + 1]? = some (.string ⟨e.n.toArray⟩) ∧ cs[i * 5 + 2]? = some av ∧ cs[i * 5 + 3]? = some (.string ⟨e.tx.toArray⟩) ∧ cs[i * 5 + 4]? = some kv ∧ AtsAt w X av e.ats ∧ KidV w X kv e.kids) (fun i e h => by simp at h) (fun c0 c1 c2 c3 c4 r e l a0 a1 a3 a2 a4 _ ih i e' he => by
    cases i with
    | zero =>
      obtain rfl : e = e' := by simpa using he
      exact ⟨c2, c4, by rw [a0]; rfl, by rw [a1]; rfl, rfl, by rw [a3]; rfl, rfl, a2, a4⟩
    | succ i =>
      obtain ⟨av, kv, h0, h1, h2, h3, h4, h5, h6⟩ := ih i e' (by simpa using he)
      rw [show (i + 1) * 5 = i * 5 + 5 by omega]
      exact ⟨av, kv, h0, h1, h2, h3, h4, h5, h6⟩) l cs h
/-- The elements of a row, as a list. -/
def Fo.toL : Fo → List El
  | .nil => []
  | .cons s n ats tx kids next => ⟨s, n, ats, tx, kids⟩ :: next.toL
theorem Fo.toL_len (f : Fo) : f.toL.length = f.len := by
  induction f with
  | nil => rfl
  | cons s n ats tx kids next _ ih => simp only [Fo.toL, Fo.len, List.length_cons, ih]
theorem FoAt.els {w : World} {X : Nat → Prop} : ∀ {f : Fo} {b o : Nat}, FoAt w X f b o → ∃ cs, ElsV w X cs f.toL ∧ ∀ j u, cs[j]? = some u → w.cell? ⟨b, o + j, none⟩ = some u := by
  intro f
  induction f with
  | nil => intro b o _; exact ⟨[], .nil, fun j u h => by simp at h⟩
  | cons s n ats tx kids next _ ih =>
    intro b o h
    obtain ⟨⟨c0, c1, c3⟩, ⟨av, c2, ha⟩, ⟨a, c, c4, hk⟩, hn⟩ := h
    obtain ⟨cs, h1, h2⟩ := ih hn
    refine ⟨_ :: _ :: _ :: _ :: _ :: cs, ElsV.cons (e := ⟨s, n, ats, tx, kids⟩) rfl rfl rfl ha ⟨a, c, rfl, hk⟩ h1, fun j u hj => ?_⟩
    match j, hj with
    | 0, hj => simp at hj; subst hj; exact c0
    | 1, hj => simp at hj; subst hj; exact c1
    | 2, hj => simp at hj; subst hj; exact c2
    | 3, hj => simp at hj; subst hj; exact c3
    | 4, hj => simp at hj; subst hj; exact c4
    | j + 5, hj =>
      have := h2 j u (by simpa using hj)
      rw [show o + 5 + j = o + (j + 5) by omega] at this
      exact this
theorem KidV.src {w : World} {X : Nat → Prop} {a : Option Addr} {n c : Nat} {f : Fo} (h : KidV w X (.slice a n c) f) : n = f.len ∧ ∃ cs, ElsV w X cs f.toL ∧ SrcAt w a cs := by
  obtain ⟨a', c', e, h⟩ := h
  simp only [Value.slice.injEq] at e
  obtain ⟨rfl, rfl, rfl⟩ := e
  refine ⟨rfl, ?_⟩
  rcases Nat.eq_zero_or_pos f.len with h0 | hp
  · refine ⟨[], ?_, .inl rfl⟩
    cases f with
    | nil => exact .nil
    | cons => simp [Fo.len] at h0
  · obtain ⟨b, o, rfl, -, hf⟩ := h hp
    obtain ⟨cs, h1, h2⟩ := hf.els
    exact ⟨cs, h1, .inr ⟨_, rfl, fun j u hj => by rw [Go.WideShapes.add_plain]; exact h2 j u hj⟩⟩
/-- A row of elements of the call's own. -/
def OwnE (w : World) (X : Nat → Prop) (base : Nat) (v : Value) (l : List El) : Prop := ∃ cs, w.ownsRow base 25 5 v l.length cs ∧ ElsV w X cs l
theorem OwnE.low {w : World} {X : Nat → Prop} {base base' : Nat} {v : Value} {l : List El} (h : OwnE w X base v l) (hb : base' ≤ base) : OwnE w X base' v l := by
  obtain ⟨cs, h1, h2⟩ := h
  exact ⟨cs, row_low h1 hb, h2⟩
theorem OwnE.grow {w w' : World} {X : Nat → Prop} {base : Nat} {v : Value} {l : List El} (h : OwnE w X base v l) (g : w.grownBy w' none) : OwnE w' X base v l := by
  obtain ⟨cs, h1, h2⟩ := h
  exact ⟨cs, own_growG h1 g, h2.same fun b hb _ => g.block b hb (by simp)⟩
theorem OwnE.src {w : World} {X : Nat → Prop} {base : Nat} {v : Value} {l : List El} (h : OwnE w X base v l) : ∃ a c cs, v = .slice a l.length c ∧ ElsV w X cs l ∧ SrcAt w a cs := by
  obtain ⟨cs, h1, h2⟩ := h
  rcases h1.2 with ⟨rfl, h0⟩ | ⟨g, cap, cur, rfl, hg, hh, hc, hm, hs, ht⟩
  · refine ⟨none, 0, cs, by rw [h0], h2, .inl ?_⟩
    exact List.eq_nil_of_length_eq_zero (by rw [h2.len, h0])
  · exact ⟨_, cap, cs, rfl, h2, .inr ⟨_, rfl, fun j u hj => h1.cells (g := g) rfl j u hj⟩⟩
/-- Appending elements. -/
theorem wpl_appE {w : World} {Q : Exit → Act → World → Prop} {ops : Array Oper} {rest : List Oper} {o : Oper} {a : Act} (hgd : o.guard = none) (s x : Operand)
    (ho : o.op = .call { callee := .builtin .append, args := #[s, x], argTypes := #[23, 23] }) {X : Nat → Prop} {base : Nat} {v : Value} {l l' : List El} {ad : Option Addr} {c : Nat} {cs' : List Value} (hs : a.eval s = v) (hx : a.eval x = .slice ad l'.length c) (hown : OwnE w X base v l) (h' : ElsV w X cs' l') (hsr : SrcAt w ad cs') (hlen : l.length + l'.length ≤ 1000000) (hbase : base ≤ w.heap.size) (hX : ∀ b, v.ownBlock = some b → X b)
    (h : ∀ v' w', OwnE w' X base v' (l ++ l') → w.grownBy w' v.ownBlock → (v'.ownBlock = v.ownBlock ∨ v'.ownBlock = some w.heap.size) → wpList Tryz.prog ops Q rest (a.put o.dst v') w') : wpList Tryz.prog ops Q (o :: rest) a w := by
  obtain ⟨i0, hi, hz0, hz1, hz2⟩ := info_parts infoE
  obtain ⟨cs, h1, h2⟩ := hown
  refine wpl_appG hgd s x 23 ho (size := 5) (bytes := 96) Tryz.underlying23 hi hz0 hz1 hz2 rfl (by decide) hs h1 hx h'.len hsr h'.one (by unfold maxLen; omega) (by omega) hbase fun v' w' h3 h4 h5 => h v' w' ⟨cs ++ cs', by rw [List.length_append]; exact h3, ?_⟩ h4 h5
  refine (h2.app h').same fun b hb hx => h4.block b hb (fun e => hx (hX b e.symm))
end Go.Proofs.YtmofnoconhgjmaaGreatDoor
/- hearthlaw17.great: a tree that isn't great has bounds. -/
namespace Go.Proofs.YtmofnoconhgjmaaGreatDoor
open Go.RowKit
set_option linter.unusedVariables false
set_option linter.unusedSimpArgs false

/-- An element within bounds, but for its own ones. -/
def SmB (e : El) : Prop := e.kids.len ≤ 100 ∧ e.ats.length ≤ 40 ∧ e.tx.length ≤ 9000 ∧ e.n.length ≤ 300 ∧ e.s.length ≤ 9000 ∧ ∀ i, i < e.ats.length → (e.ats.getD i at0).2.1.length ≤ 300 ∧ (e.ats.getD i at0).2.2.length ≤ 9000 ∧ (e.ats.getD i at0).1.length ≤ 9000
def SmF : Fo → Prop
  | .nil => True
  | .cons s n ats tx kids next => SmB ⟨s, n, ats, tx, kids⟩ ∧ SmF kids ∧ SmF next
def SmE (e : El) : Prop := SmB e ∧ SmF e.kids
theorem smF_iff (f : Fo) : SmF f ↔ ∀ x ∈ f.toL, SmE x := by
  induction f with
  | nil => simp [SmF, Fo.toL]
  | cons s n ats tx kids next _ ih =>
    simp only [SmF, Fo.toL, List.mem_cons, forall_eq_or_imp, SmE, ih]
    constructor
    · rintro ⟨a, b, c⟩; exact ⟨⟨a, b⟩, c⟩
    · rintro ⟨⟨a, b⟩, c⟩; exact ⟨a, b, c⟩
/-- How many elements there are. -/
def Fo.cnt : Fo → Nat
  | .nil => 0
  | .cons _ _ _ _ kids next => 1 + kids.cnt + next.cnt
def El.cnt (e : El) : Nat := 1 + e.kids.cnt
def cntL (l : List El) : Nat := (l.map El.cnt).sum
theorem cntL_app (l l' : List El) : cntL (l ++ l') = cntL l + cntL l' := by
  unfold cntL; rw [List.map_append, List.sum_append]
theorem cnt_toL (f : Fo) : cntL f.toL = f.cnt := by
  induction f with
  | nil => rfl
  | cons s n ats tx kids next _ ih =>
    unfold cntL at ih ⊢
    simp only [Fo.toL, List.map_cons, List.sum_cons, ih, Fo.cnt, El.cnt]
theorem OwnE.pop {w : World} {X : Nat → Prop} {base : Nat} {a : Option Addr} {n c : Nat} {l : List El} {x : El} (h : OwnE w X base (.slice a n c) (l ++ [x])) : OwnE w X base (.slice a l.length c) l ∧ (n = l.length + 1 ∧ n ≤ c) ∧ ∃ g av kv, a = some ⟨g, 0, none⟩ ∧ w.cell? ⟨g, l.length * 5, none⟩ = some (.string ⟨x.s.toArray⟩) ∧ w.cell? ⟨g, l.length * 5 + 1, none⟩ = some (.string ⟨x.n.toArray⟩) ∧ w.cell? ⟨g, l.length * 5 + 2, none⟩ = some av ∧ w.cell? ⟨g, l.length * 5 + 3, none⟩ = some (.string ⟨x.tx.toArray⟩) ∧ w.cell? ⟨g, l.length * 5 + 4, none⟩ = some kv ∧ AtsAt w X av x.ats ∧ KidV w X kv x.kids := by
  obtain ⟨cs, h1, h2⟩ := h
  have hn : n = l.length + 1 := by
    have := h1.2
    rw [List.length_append] at this
    rcases this with ⟨e, h0⟩ | ⟨g, cap, cur, e, -⟩
    · simp at h0
    · simp only [Value.slice.injEq] at e
      exact e.2.1
  obtain ⟨av, kv, c0, c1, c2, c3, c4, ha, hk⟩ := h2.get l.length x (by simp)
  have htk := h2.take l.length
  rw [List.take_left] at htk
  rcases h1.2 with ⟨e, h0⟩ | ⟨g, cap, cur, e, hg, hh, hc, hm, hs, ht⟩
  · simp at h0
  · simp only [Value.slice.injEq] at e
    obtain ⟨rfl, -, rfl⟩ := e
    have hcell := fun j u (hj : cs[j]? = some u) => h1.cells (g := g) rfl j u hj
    simp only [Go.WideShapes.add_plain, Nat.zero_add] at hcell
    refine ⟨⟨cs.take (l.length * 5), ⟨htk.len, .inr ⟨g, c, cur, rfl, hg, hh, by simp at hc; omega, hm, hs, ?_⟩⟩, htk⟩, ⟨hn, by rw [hn]; simpa using hc⟩, g, av, kv, rfl, hcell _ _ c0, hcell _ _ c1, hcell _ _ c2, hcell _ _ c3, hcell _ _ c4, ha, hk⟩
    rw [← ht, List.take_take]
    congr 1
    simp
theorem OwnE.base {w : World} {X : Nat → Prop} {base : Nat} {v : Value} {l : List El} (h : OwnE w X base v l) : ∀ b, v.ownBlock = some b → base ≤ b := by
  intro b hb
  obtain ⟨cs, h1, -⟩ := h
  rcases h1.2 with ⟨rfl, -⟩ | ⟨g, cap, cur, rfl, hg, -⟩
  · simp [Value.ownBlock] at hb
  · obtain rfl : g = b := by simpa [Value.ownBlock] using hb
    exact hg
def GreatPost (w : World) (e : El) (e' : Ending) (w' : World) : Prop := ∃ b, e' = .returned (.bool b) ∧ w.grownBy w' none ∧ (b = false → SmE e ∧ e.cnt ≤ 300)
def GrJ (w : World) (e : El) (v3 v4 : Value) (wr : World) : Prop := ∃ (T : List El) (n : Nat) (a : Option Addr) (c : Nat), v3 = .slice a T.length c ∧ v4 = .int .i64 (n : Int) ∧ n ≤ 300 ∧ T.length ≤ 1 + 100 * n ∧ OwnE wr (w.heap.size ≤ ·) w.heap.size (.slice a T.length c) T ∧ ((∀ x ∈ T, SmE x) → SmE e) ∧ n + cntL T = e.cnt ∧ w.grownBy wr none
set_option maxRecDepth 20000 in
set_option maxHeartbeats 20000000 in
theorem great_any (w : World) (v : Value) (e : El) (he : ElAt w noX v e) : Calls Tryz.prog 12 #[v] w (GreatPost w e) := by
  have HE := hid he
  obtain ⟨av, kv, rfl, ha, hk⟩ := he
  have HA := hid ha
  have HK := hid hk
  obtain ⟨aa, ac, rfl, -⟩ := ha
  obtain ⟨ka, kc, rfl, -⟩ := hk
  unfold elV str
  have G1 := hid (gr_alloc (gr_refl w none) (.cells #[.string ⟨e.s.toArray⟩, .string ⟨e.n.toArray⟩, .slice aa e.ats.length ac, .string ⟨e.tx.toArray⟩, .slice ka e.kids.len kc] 25))
  have G2 := hid (gr_alloc G1.out (.cells #[.string ⟨e.s.toArray⟩, .string ⟨e.n.toArray⟩, .slice aa e.ats.length ac, .string ⟨e.tx.toArray⟩, .slice ka e.kids.len kc] 25))
  have N2 := heap_alloc_new (w.alloc (.cells #[.string ⟨e.s.toArray⟩, .string ⟨e.n.toArray⟩, .slice aa e.ats.length ac, .string ⟨e.tx.toArray⟩, .slice ka e.kids.len kc] 25)) (.cells #[.string ⟨e.s.toArray⟩, .string ⟨e.n.toArray⟩, .slice aa e.ats.length ac, .string ⟨e.tx.toArray⟩, .slice ka e.kids.len kc] 25)
  rw [World.size_alloc] at N2
  have J0 := hid (show GrJ w e (.slice (some ⟨w.heap.size + 1, 0, none⟩) 1 1) (.int .i64 0) _ from ⟨[e], 0, _, 1, rfl, rfl, by omega, by simp, ⟨_, ⟨rfl, .inr ⟨w.heap.size + 1, 1, _, rfl, by omega, N2, Nat.le_refl _, by decide, rfl, rfl⟩⟩, .cons rfl rfl rfl ((HA.out.less fun b h1 h2 => absurd h1 (Nat.not_lt.2 h2)).grow G2.out) ((HK.out.less fun b h1 h2 => absurd h1 (Nat.not_lt.2 h2)).grow G2.out) .nil⟩, fun h => h e (by simp), by simp [cntL], G2.out⟩)
  clear N2
  go_enter Tryz.func12, Tryz.ntmps12
  go_wp2_with fail
  clear HE HA HK G1 G2
  go_loopw [3, 4] (fun v3 v4 wr => Hid (GrJ w e v3 v4 wr)) (fun _ v4 _ => 301 - (intOf v4).toNat)
  case atStart => exact hid J0.out
  case round =>
    clear J0
    obtain ⟨T, n, a, c, rfl, rfl, hn, hT, hown, hsm, hcnt, hg⟩ := hrel.out
    have HSM := hid hsm
    have HCNT := hid hcnt
    have HG := hid hg
    have HT := hid hT
    rcases List.eq_nil_or_concat T with rfl | ⟨T0, x, rfl⟩
    · have HF := hid (show SmE e ∧ e.cnt ≤ 300 from ⟨hsm (fun x h => by cases h), by rw [← hcnt]; simp [cntL]; omega⟩)
      clear hsm hcnt hown hT hrel hg
      go_wp2_with fail
      go_ret
      exact ⟨false, rfl, HG.out, fun _ => HF.out⟩
    · rw [List.concat_eq_append] at hown HSM HCNT HT hT ⊢
      obtain ⟨hpop, ⟨hlen, hcap⟩, g, av, kv, rfl, m0, m1, m2, m3, m4, hA3, hK3⟩ := hown.pop
      have HPOP := hid hpop
      rw [List.length_append, List.length_cons, List.length_nil, Nat.zero_add] at hT ⊢
      obtain ⟨t0, ht0⟩ : ∃ t0, t0 = T0.length := ⟨_, rfl⟩
      rw [List.length_append, List.length_cons, List.length_nil, Nat.zero_add] at hcap
      rw [← ht0] at m0 m1 m2 m3 m4 hT HPOP hcap ⊢
      have hcap2 : t0 ≤ c := by omega
      have HT0 := hid ht0
      have HA3 := hid hA3
      have HK3 := hid hK3
      obtain ⟨y1, y2, y3, y4, y5⟩ := x
      obtain ⟨i1, i2, rfl, -⟩ := hA3
      obtain ⟨i5, i6, rfl, -⟩ := hK3
      simp only at m0 m1 m2 m3 m4 HA3 HK3
      have q1 : (t0 : Int) + 1 ≤ 30002 := by omega
      have q2 : (n : Int) + 1 ≤ 301 := by omega
      have NB := hid (heap_alloc_new wr (.cells #[.string ⟨y1.toArray⟩, .string ⟨y2.toArray⟩, .slice i1 y3.length i2, .string ⟨y4.toArray⟩, .slice i5 y5.len i6] 25))
      have GB := hid (gr_alloc (gr_refl wr none) (.cells #[.string ⟨y1.toArray⟩, .string ⟨y2.toArray⟩, .slice i1 y3.length i2, .string ⟨y4.toArray⟩, .slice i5 y5.len i6] 25))
      obtain ⟨s0, s1, s2, s3, s4⟩ := ElB.cells (show ElB _ wr.heap.size y1 y2 (.slice i1 y3.length i2) y4 (.slice i5 y5.len i6) from NB.out)
      have hi0 : (0 : Int) ≤ (t0 : Int) := by omega
      clear hsm hcnt hown hT hrel hg hpop hlen ht0
      by_cases b1 : (300 : Int) < (n : Int) + 1
      · go_wp2_with fail
        go_ret
        exact ⟨true, rfl, gr_trans HG.out GB.out, fun h => by cases h⟩
      by_cases b2 : (100 : Int) < (y5.len : Int)
      · go_wp2_with fail
        go_ret
        exact ⟨true, rfl, gr_trans HG.out GB.out, fun h => by cases h⟩
      by_cases b3 : (40 : Int) < (y3.length : Int)
      · go_wp2_with fail
        go_ret
        exact ⟨true, rfl, gr_trans HG.out GB.out, fun h => by cases h⟩
      by_cases b4 : (9000 : Int) < (y4.length : Int)
      · go_wp2_with fail
        go_ret
        exact ⟨true, rfl, gr_trans HG.out GB.out, fun h => by cases h⟩
      by_cases b5 : (300 : Int) < (y2.length : Int)
      · go_wp2_with fail
        go_ret
        exact ⟨true, rfl, gr_trans HG.out GB.out, fun h => by cases h⟩
      by_cases b6 : (9000 : Int) < (y1.length : Int)
      · go_wp2_with fail
        go_ret
        exact ⟨true, rfl, gr_trans HG.out GB.out, fun h => by cases h⟩
      have HB := hid (And.intro b1 (And.intro b2 (And.intro b3 (And.intro b4 (And.intro b5 b6)))))
      go_wp2_with fail
      obtain ⟨w1, hw1⟩ : ∃ w1, w1 = wr.alloc (.cells #[.string ⟨y1.toArray⟩, .string ⟨y2.toArray⟩, .slice i1 y3.length i2, .string ⟨y4.toArray⟩, .slice i5 y5.len i6] 25) := ⟨_, rfl⟩
      rw [← hw1] at NB GB ⊢
      have HA5 := hid (HA3.out.grow GB.out)
      have HK5 := hid (HK3.out.grow GB.out)
      obtain ⟨p5, hp5⟩ : ∃ p5, p5 = wr.heap.size := ⟨_, rfl⟩
      rw [← hp5] at NB ⊢
      clear hw1 s0 s1 s2 s3 s4 m0 m1 m2 m3 m4 b1 b2 b3 b4 b5 b6 hp5
      obtain ⟨wo, rfl⟩ : ∃ wo : World, wo = wr := ⟨_, rfl⟩
      go_loopw [61] (fun v61 wx => ∃ j : Nat, v61 = .int .i64 (j : Int) ∧ j ≤ y3.length ∧ w1.grownBy wx none ∧ Hid (∀ i, i < j → (y3.getD i at0).2.1.length ≤ 300 ∧ (y3.getD i at0).2.2.length ≤ 9000 ∧ (y3.getD i at0).1.length ≤ 9000)) (fun v61 _ => y3.length - (intOf v61).toNat)
      case atStart => exact ⟨0, rfl, Nat.zero_le _, gr_refl _ _, hid (fun i hi => absurd hi (Nat.not_lt_zero i))⟩
      case round =>
        obtain ⟨j, rfl, hj, hg2, hall⟩ := hrel
        have HG2 := hid hg2
        clear hg2
        by_cases hlt : j < y3.length
        · obtain ⟨a', c', e', h'⟩ := HA5.out.grow HG2.out
          simp only [Value.slice.injEq] at e'
          obtain ⟨rfl, -, rfl⟩ := e'
          obtain ⟨g1, o1, rfl, -, hT1⟩ := h' j hlt
          obtain ⟨y, hy⟩ : ∃ y, y = y3.getD j at0 := ⟨_, rfl⟩
          rw [← hy] at hT1
          have HY := hid hy
          obtain ⟨u1, u2, u3⟩ := y
          have p0 := hT1.c0
          have p1 := hT1.c1
          have p2 := hT1.c2
          simp only at p0 p1 p2
          have hj0 : (0 : Int) ≤ (j : Int) := by omega
          have hj1 : (j : Int) < (y3.length : Int) := by omega
          have hj2 : (j : Int) + 1 ≤ 42 := by have := HB.out.2.2.1; omega
          have GC := hid (gr_alloc (gr_refl wr none) (.cells #[.string ⟨u1.toArray⟩, .string ⟨u2.toArray⟩, .string ⟨u3.toArray⟩] 102))
          have GD := hid (gr_trans HG.out (gr_trans GB.out (gr_trans HG2.out GC.out)))
          clear h' hT1 hy
          by_cases d1 : (300 : Int) < (u2.length : Int)
          · go_wp2_with fail
            go_ret
            exact ⟨true, rfl, GD.out, fun h => by cases h⟩
          by_cases d2 : (9000 : Int) < (u3.length : Int)
          · go_wp2_with fail
            go_ret
            exact ⟨true, rfl, GD.out, fun h => by cases h⟩
          by_cases d3 : (9000 : Int) < (u1.length : Int)
          · go_wp2_with fail
            go_ret
            exact ⟨true, rfl, GD.out, fun h => by cases h⟩
          have HN := hid (show ∀ i, i < j + 1 → (y3.getD i at0).2.1.length ≤ 300 ∧ (y3.getD i at0).2.2.length ≤ 9000 ∧ (y3.getD i at0).1.length ≤ 9000 from fun i hi => by
            rcases Nat.lt_succ_iff_lt_or_eq.1 hi with h | rfl
            · exact hall.out i h
            · rw [← HY.out]; exact ⟨by show u2.length ≤ 300; omega, by show u3.length ≤ 9000; omega, by show u1.length ≤ 9000; omega⟩)
          have HG3 := hid (gr_trans HG2.out GC.out)
          go_wp2_with fail
          go_roundw
          case rel => exact ⟨j + 1, by go_num, by omega, HG3.out, HN⟩
          case measure => simp [intOf]; omega
        · obtain rfl : y3.length = j := by omega
          obtain ⟨s0, s1, s2, s3, s4⟩ := ElB.cells (ElB.grow (show ElB w1 p5 y1 y2 (.slice i1 y3.length i2) y4 (.slice i5 y5.len i6) from NB.out) HG2.out)
          have GE := hid (gr_trans GB.out HG2.out)
          have HOW := hid (HPOP.out.grow GE.out)
          have HKX := hid (HK5.out.grow HG2.out)
          have HGB := hid (show w.heap.size ≤ g from HOW.out.base g rfl)
          obtain ⟨-, cs, hels, hsrc⟩ := HKX.out.src
          have HELS := hid hels
          have HSRC := hid hsrc
          have HTL := hid (Fo.toL_len y5)
          have HFULL := hid (gr_trans HG.out GE.out)
          have HNEW := hid (show ((∀ z ∈ T0 ++ y5.toL, SmE z) → SmE e) ∧ n + 1 + cntL (T0 ++ y5.toL) = e.cnt from ⟨fun h => HSM.out fun z hz => by
              rcases List.mem_append.1 hz with hz | hz
              · exact h z (List.mem_append.2 (.inl hz))
              · obtain rfl : z = ⟨y1, y2, y3, y4, y5⟩ := by simpa using hz
                obtain ⟨b1, b2, b3, b4, b5, b6⟩ := HB.out
                exact ⟨⟨by show y5.len ≤ 100; omega, by show y3.length ≤ 40; omega, by show y4.length ≤ 9000; omega, by show y2.length ≤ 300; omega, by show y1.length ≤ 9000; omega, hall.out⟩, (smF_iff y5).2 fun z hz => h z (List.mem_append.2 (.inr hz))⟩, by
            have h1 := HCNT.out
            rw [cntL_app] at h1 ⊢
            rw [cnt_toL]
            simp only [cntL, List.map_cons, List.map_nil, List.sum_cons, List.sum_nil, El.cnt] at h1 ⊢
            omega⟩)
          have HKL := hid (show y5.len ≤ 100 ∧ n ≤ 299 by obtain ⟨b1, b2, -⟩ := HB.out; omega)
          have HTB := hid (show T0.length ≤ 100 * n + 1 by have h0 := HT0.out; have h1 := HT.out; rw [List.length_append, List.length_cons, List.length_nil] at h1; omega)
          clear hels hsrc hj hlt hall
          go_wp2_with (at_builtin; refine wpl_appE rfl _ _ rfl (X := (w.heap.size ≤ ·)) (base := w.heap.size) (l := T0) (l' := y5.toL) rfl (by rw [HTL.out]; rfl) HOW.out HELS.out HSRC.out (by rw [HTL.out]; have := HKL.out; have := HTB.out; omega) HFULL.out.size (HOW.out.base) ?_; intro v3 w3 hown3 g3 hat3; have HOW3 := hid hown3; have HG3 := hid g3; obtain ⟨ta3, tc3, cs3, rfl, -, -⟩ := hown3.src; clear hown3 g3 hat3)
          refine ⟨hid ⟨T0 ++ y5.toL, n + 1, ta3, tc3, by rw [List.length_append], by go_num, by have := HKL.out; omega, by rw [List.length_append, HTL.out]; have := HKL.out; have := HTB.out; omega, HOW3.out, HNEW.out.1, HNEW.out.2, ?_⟩, by simp [intOf]; have := HKL.out; omega⟩
          exact gr_new HFULL.out HG3.out HGB.out
end Go.Proofs.YtmofnoconhgjmaaGreatDoor
