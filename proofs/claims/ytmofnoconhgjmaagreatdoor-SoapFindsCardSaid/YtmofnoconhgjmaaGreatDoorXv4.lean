/- xml.All as an iterator. -/
import Derived.Test.YtmofnoconhgjmaaGreatDoorMF
import Derived.RangeFuncNested
import Derived.RangeFuncBound
import Derived.RangeFuncCalls
import Derived.RangeFuncLeaves
import Derived.RangeFuncFrom
import Derived.Shelf.Abstract
import Derived.Shelf.RegionOpen
import Derived.WalkKit
import Derived.OwnWalkIn
import Derived.TacticsInMore
import Derived.LoopNIn
import Derived.LoopIn
namespace Go.Proofs.YtmofnoconhgjmaaGreatDoor
open Go.RowKit Go.Shelf
attribute [local go_sem] Oper.semAt_some
set_option linter.unusedVariables false
set_option linter.unusedSimpArgs false

theorem room_of_none {F : Fence} (hd : F.depth = none) (k : Nat) : F.room k := fun d h => by rw [hd] at h; cases h
theorem round_any {F : Fence} (hd : F.depth = none) {m m' : Nat} {P : Program} {l : Nat} {f : FuncId} {tmps : Array Value} {assign body : Code} {w : World} {R : Ending → World → Prop}
    (h : RoundIn F m P l f tmps assign body w R) : RoundIn F m' P l f tmps assign body w R := ⟨h.1, fun c cs _ => h.2 c cs (room_of_none hd _)⟩
theorem yield_any {F : Fence} (hd : F.depth = none) {m : Nat} (m' : Nat) {P : Program} {l : Nat} {args : Array Value} {W : World} {R : Ending → World → Prop} (h : YieldAt F m P l args W R) : YieldAt F m' P l args W R := by
  obtain ⟨fn, tmps, assign, body, hy, hR⟩ := h
  exact ⟨fn, tmps, assign, body, hy, round_any hd hR⟩
/-- Nothing below turns, and no block of elements. -/
def KP (n0 : Nat) (W W' : World) : Prop := Below n0 W W' ∧ ∀ (i : Nat) (cs : Array Value) (fr : Nat × Nat), W.heap[i]? = some (.cells cs 25 fr) → W'.heap[i]? = some (.cells cs 25 fr)
theorem KP.refl (n0 : Nat) (W : World) : KP n0 W W := ⟨Below.refl n0 W, fun _ _ _ h => h⟩
theorem KP.trans {n0 : Nat} {A B C : World} (h : KP n0 A B) (k : KP n0 B C) : KP n0 A C := ⟨h.1.trans k.1, fun i cs fr e => k.2 i cs fr (h.2 i cs fr e)⟩
theorem KP.none {n0 : Nat} {A B : World} (hn : n0 ≤ A.heap.size) (h : A.grownBy B none) : KP n0 A B := ⟨(gr_below h).mono hn, fun i _ _ e => gr_keep h e (by simp)⟩
theorem kp_b {n0 n1 : Nat} (hn : n0 ≤ n1) (W : World) (l : Nat) (o o' : Obj) (hl : n1 ≤ l) (h : W.heap[l]? = some o) (hc : o.isCells = false) (hw : o.isWalk = false) : KP n0 W (W.putObj l o') :=
  ⟨(Below.refl n0 W).grown (grownBy_putObj' W l o') (by have := lt_of_block h; omega) (fun k e => by cases e; omega), fun i cs fr e => by
    have hne : i ≠ l := fun h2 => by subst h2; rw [h] at e; cases e; cases hc
    exact (World.putObj_heap_other hne).trans e⟩
/-- What is told of a tree in memory: how deep, the element, its value. -/
abbrev Ex (w0 : World) (n0 : Nat) : Type := { x : Nat × El × Value // ElAt w0 (n0 ≤ ·) x.2.2 x.2.1 ∧ SmE x.2.1 ∧ x.1 ≤ 1000000 }
def keyX {w0 : World} {n0 : Nat} (x : Ex w0 n0) : Nat × El := (x.1.1, x.1.2.1)
theorem smF_at2 : ∀ (f : Fo) (i : Nat), i < f.len → SmF f → SmE (f.at i) := by
  intro f
  induction f with
  | nil => intro i hi; simp [Fo.len] at hi
  | cons s n ats tx kids next _ ih =>
    rintro i hi ⟨h1, h2, h3⟩
    cases i with
    | zero => exact ⟨h1, h2⟩
    | succ i => exact ih i (by simp only [Fo.len] at hi; omega) h3
theorem flatK_len_le (d : Nat) (f : Fo) (i : Nat) : (flatK d f i).length ≤ (flatF d f).length := (flatK_pre d f i).length_le
def WkPost {w0 : World} {n0 : Nat} (J Jx : List (Ex w0 n0) → World → Prop) (pre : List (Ex w0 n0)) (L : List (Nat × El)) (w : World) (e' : Ending) (w' : World) : Prop :=
  (e' = .returned (.bool true) ∧ ∃ ys, ys.map keyX = L ∧ J (pre ++ ys) w' ∧ Below n0 w w') ∨ (e' = .returned (.bool false) ∧ ∃ q, Jx q w')
set_option maxRecDepth 100000 in
set_option maxHeartbeats 20000000 in
theorem walk_in (F : Fence) (hd : F.depth = none) (hw : F.fn 90) (hro : F.round = none) (l n0 M : Nat) (w0 : World) (J Jx : List (Ex w0 n0) → World → Prop) (hJ : ∀ s A B, J s A → A.grownBy B none → J s B)
    (hY : ∀ m pre (x : Ex w0 n0) W, J pre W → pre.length < M → YieldAt F m Tryz.prog l #[.int .i64 (x.1.1 : Int), x.1.2.2] W fun e' W' => (e' = .returned (.bool true) ∧ J (pre ++ [x]) W' ∧ KP n0 W W') ∨ (e' = .returned (.bool false) ∧ Jx (pre ++ [x]) W'))
    (N : Nat) : ∀ (n : Nat) (e : El) (d : Nat) (v : Value) (pre : List (Ex w0 n0)) (w : World), e.kids.sz < N → d + e.kids.sz ≤ 1000000 → SmE e → n0 ≤ w.heap.size → Below n0 w0 w → pre.length + (flatE d e).length ≤ M → J pre w → ElAt w0 (n0 ≤ ·) v e →
      CallsIn F n Tryz.prog 90 #[v, .int .i64 (d : Int), .func (.yield l) #[] #[]] w (WkPost J Jx pre (flatE d e) w) := by
  induction N with
  | zero => intro n e d v pre w h; omega
  | succ N ih =>
    intro n e d v pre w hN hdz hsm hn0 hbw hM hj he
    have hdd : ∀ k : Nat, (F.depth.isSome = true → 1 ≤ k) := fun k h => by rw [hd] at h; cases h
    have IH := hid ih
    have HE := hid he
    have HSM := hid hsm
    have HJ := hid hJ
    have hdl : d ≤ 1000000 := by omega
    obtain ⟨s, nm, ats, tx, kids⟩ := e
    obtain ⟨av, kv, rfl, ha, hk⟩ := he
    have HK := hid hk
    obtain ⟨aa, ac, rfl, -⟩ := ha
    obtain ⟨ka, kc, rfl, -⟩ := hk
    obtain ⟨x, hx⟩ : ∃ x : Ex w0 n0, x = ⟨(d, ⟨s, nm, ats, tx, kids⟩, _), HE.out, HSM.out, hdl⟩ := ⟨_, rfl⟩
    have HKX := hid (show keyX x = (d, ⟨s, nm, ats, tx, kids⟩) by rw [hx]; rfl)
    simp only at hN hdz hM HK
    have HB := hid (show kids.sz ≤ N ∧ d + kids.sz ≤ 1000000 from ⟨by omega, hdz⟩)
    have hdb : (d : Int) + 1 ≤ 1000001 := by omega
    have g1 := gr_alloc (gr_refl w none) (.cells #[.string ⟨s.toArray⟩, .string ⟨nm.toArray⟩, .slice aa ats.length ac, .string ⟨tx.toArray⟩, .slice ka kids.len kc] 25)
    obtain ⟨fn, tmps, assign, body, hy, hR⟩ := hY (n - 1) pre x (w.alloc (.cells #[.string ⟨s.toArray⟩, .string ⟨nm.toArray⟩, .slice aa ats.length ac, .string ⟨tx.toArray⟩, .slice ka kids.len kc] 25)) (hJ _ _ _ hj g1) (by unfold flatE at hM; rw [List.length_cons] at hM; omega)
    have HRR := hid hR
    rw [hx] at hy
    unfold elV str at hy ⊢
    dsimp only at hy ⊢
    have N1 := hid (heap_alloc_new w (.cells #[.string ⟨s.toArray⟩, .string ⟨nm.toArray⟩, .slice aa ats.length ac, .string ⟨tx.toArray⟩, .slice ka kids.len kc] 25))
    have KP1 := hid (KP.none hn0 g1)
    have HN0 := hid hn0
    have HBW := hid (hbw.trans ((gr_below g1).mono hn0))
    have HM := hid hM
    clear hN hdz hM hj ih hbw hJ hR hx hn0 g1
    refine callsIn_of_wp Tryz.func90 rfl hw ?_ hro
    simp only [Tryz.ntmps90, List.size_toArray, List.length_cons, List.length_nil, Nat.reduceAdd, Nat.reduceSub, Array.replicate_succ, Array.replicate_zero, List.push_toArray, List.append_toArray, List.nil_append, List.cons_append]
    gi_wp2
    refine HRR.out.mono ?_
    rintro e' w2 (⟨rfl, hj2, hk2⟩ | ⟨rfl, hjx⟩)
    rotate_left
    · gi_wp2
      go_ret
      exact .inr ⟨rfl, _, hjx⟩
    have E2 := hid (show ElB w2 w.heap.size s nm (.slice aa ats.length ac) tx (.slice ka kids.len kc) from hk2.2 _ _ _ N1.out)
    have HJ2 := hid hj2
    have HB2 := hid (HBW.out.trans hk2.1)
    have HBL := hid (KP1.out.1.trans hk2.1)
    have HS2 := hid (Nat.le_trans HN0.out HBL.out.size)
    obtain ⟨s0, s1, s2, s3, s4⟩ := ElB.cells E2.out
    clear hk2 hj2 N1 KP1 HRR hy HBW
    gi_wp2
    clear s0 s1 s2 s3 s4
    gi_loopw [17] (fun v17 wr => ∃ (i : Nat) (ys : List (Ex w0 n0)), v17 = .int .i64 (i : Int) ∧ i ≤ kids.len ∧ ys.map keyX = flatK (d + 1) kids i ∧ J (pre ++ [x] ++ ys) wr ∧ Below n0 w2 wr) (fun v17 _ => kids.len - (intOf v17).toNat)
    case atStart => exact ⟨0, [], rfl, Nat.zero_le _, by rw [flatK_zero]; rfl, by rw [List.append_nil]; exact HJ2.out, Below.refl _ _⟩
    case round =>
      obtain ⟨i, ys, rfl, hi, hys, hji, hbi⟩ := hrel
      have HJI := hid hji
      have HYS := hid hys
      have HBI := hid hbi
      clear hji hys hbi
      by_cases hlt : i < kids.len
      · obtain ⟨b', c', e', h'⟩ := HK.out
        simp only [Value.slice.injEq] at e'
        obtain ⟨rfl, -, rfl⟩ := e'
        obtain ⟨k1, o1, rfl, hk1, hF1⟩ := h' (by omega)
        have hk1 : k1 < n0 := Nat.lt_of_not_le hk1
        obtain ⟨av3, kv3, m0, m1, m2, m3, m4, hA3, hK3⟩ := hF1.get hlt
        have hsz := at_sz kids i hlt
        have HBR := hid (HB2.out.trans HBI.out)
        replace m0 := (HBR.out.cell (p := ⟨k1, o1 + i * 5, none⟩) hk1).trans m0
        replace m1 := (HBR.out.cell (p := ⟨k1, o1 + i * 5 + 1, none⟩) hk1).trans m1
        replace m2 := (HBR.out.cell (p := ⟨k1, o1 + i * 5 + 2, none⟩) hk1).trans m2
        replace m3 := (HBR.out.cell (p := ⟨k1, o1 + i * 5 + 3, none⟩) hk1).trans m3
        replace m4 := (HBR.out.cell (p := ⟨k1, o1 + i * 5 + 4, none⟩) hk1).trans m4
        have HA3 := hid hA3
        have HK3 := hid hK3
        have HFS := hid (flatK_succ (d + 1) kids i hlt)
        have HFP := hid (flatK_len_le (d + 1) kids (i + 1))
        have HSY := hid (smF_at2 kids i hlt HSM.out.2)
        generalize kids.at i = y at *
        obtain ⟨y1, y2, y3, y4, y5⟩ := y
        obtain ⟨i1, i2, rfl, -⟩ := hA3
        obtain ⟨i5, i6, rfl, -⟩ := hK3
        simp only at m0 m1 m2 m3 m4 hsz HA3 HK3
        have GA := hid (gr_alloc (gr_refl wr none) (.cells #[.string ⟨y1.toArray⟩, .string ⟨y2.toArray⟩, .slice i1 y3.length i2, .string ⟨y4.toArray⟩, .slice i5 y5.len i6] 25))
        have HSR := hid (Nat.le_trans HS2.out HBI.out.size)
        have KA := hid (KP.none HSR.out GA.out)
        have CALL := hid (IH.out (n - 1) ⟨y1, y2, y3, y4, y5⟩ (d + 1) (.agg #[.string ⟨y1.toArray⟩, .string ⟨y2.toArray⟩, .slice i1 y3.length i2, .string ⟨y4.toArray⟩, .slice i5 y5.len i6]) (pre ++ [x] ++ ys) _ (by have := HB.out; show y5.sz < N; omega) (by have := HB.out; show d + 1 + y5.sz ≤ 1000000; omega) HSY.out (Nat.le_trans HSR.out GA.out.size) (HBR.out.trans KA.out.1)
          (by
            have h1 := HM.out
            have h2 := HFP.out
            have h3 := congrArg List.length HYS.out
            rw [HFS.out] at h2
            unfold flatE at h1
            simp only [List.length_append, List.length_cons, List.length_nil, List.length_map] at h1 h2 h3 ⊢
            omega)
          (HJ.out _ _ _ HJI.out GA.out) ⟨_, _, rfl, HA3.out, HK3.out⟩)
        rw [show ((d + 1 : Nat) : Int) = (d : Int) + 1 from rfl] at CALL
        have hi0 : (0 : Int) ≤ (i : Int) := by omega
        have hi1 : (i : Int) < (kids.len : Int) := by omega
        have hi2 : (i : Int) + 1 ≤ 1000001 := by have := HB.out; have := kids.len_sz; omega
        have HKA := hid (HBI.out.trans KA.out.1)
        clear h' hF1 hsz GA HA3 HK3
        gi_wp2_with ((try refine ⟨hdd _, ?_⟩); gi_at_call 90; refine CALL.out.mono ?_; rintro e' w3 (⟨rfl, zs, hz, hj3, hb3⟩ | ⟨rfl, q, hjx⟩))
        · have HJ3 := hid (show J (pre ++ [x] ++ (ys ++ zs)) w3 by rw [← List.append_assoc]; exact hj3)
          have HZ := hid (show (ys ++ zs).map keyX = flatK (d + 1) kids (i + 1) by rw [List.map_append, HYS.out, hz, HFS.out])
          have HB3 := hid (HKA.out.trans hb3)
          clear CALL hj3 hz hb3 m0 m1 m2 m3 m4
          gi_wp2
          go_roundw
          case rel => exact ⟨i + 1, ys ++ zs, by go_num, by omega, HZ.out, HJ3.out, HB3.out⟩
          case measure => simp [intOf]; omega
        · clear CALL m0 m1 m2 m3 m4
          gi_wp2
          go_ret
          exact .inr ⟨rfl, q, hjx⟩
      · obtain rfl : i = kids.len := by omega
        have HF := hid (show J (pre ++ ([x] ++ ys)) wr by rw [← List.append_assoc]; exact HJI.out)
        have HMP := hid (show ([x] ++ ys).map keyX = flatE d ⟨s, nm, ats, tx, kids⟩ by rw [List.map_append, HYS.out, flatK_len, List.map_cons, HKX.out]; rfl)
        have HBF := hid (HBL.out.trans HBI.out)
        clear hi hlt
        gi_wp2
        go_ret
        exact .inl ⟨rfl, _, HMP.out, HF.out, HBF.out⟩
theorem all_any (w : World) (s n tx : Bs) (a b : Option Addr) (la lb c d : Nat) : Calls Tryz.prog 47 #[.agg #[.string ⟨s.toArray⟩, .string ⟨n.toArray⟩, .slice a la c, .string ⟨tx.toArray⟩, .slice b lb d]] w fun e' w' => e' = .returned (.func (Fn.func 89) #[] #[.pointer (some ⟨w.heap.size, 0, none⟩)]) ∧ w.alloc (.cells #[.string ⟨s.toArray⟩, .string ⟨n.toArray⟩, .slice a la c, .string ⟨tx.toArray⟩, .slice b lb d] 25) = w' := by
  have hmf : ∀ (fn : Fn) (first cap : Array Value) (w : World), (Instr.makeFunc fn first cap).run Tryz.prog w = .ok (.func fn first cap) w := fun _ _ _ _ => rfl
  go_enter Tryz.func47, Tryz.ntmps47
  go_wp2
  go_ret
  exact ⟨rfl, rfl⟩
set_option maxRecDepth 100000 in
set_option maxHeartbeats 4000000 in
theorem all_stops (F : Fence) (hd : F.depth = none) (n : Nat) (hA : F.fn 89) (hw : F.fn 90) (hro : F.round = none) (bq n0 : Nat) (e : El) (av kv : Value) (w0 w : World) (hn0 : n0 ≤ w.heap.size) (hb0 : Below n0 w0 w) (hz : e.kids.sz ≤ 1000000) (hsm : SmE e)
    (hbx : ElB w bq e.s e.n av e.tx kv) (ha : AtsAt w0 (n0 ≤ ·) av e.ats) (hk : KidV w0 (n0 ≤ ·) kv e.kids) :
    SeqStopsK F n Tryz.prog 89 #[.pointer (some ⟨bq, 0, none⟩)] (fun x : Ex w0 n0 => #[Value.int .i64 (x.1.1 : Int), x.1.2.2]) (KP n0) (fun ys => ys.map keyX = flatE 0 e) (fun _ => True) (flatE 0 e).length w := fun l J Jx W hW hJ _ hY h0 => by
  have hdd : ∀ k : Nat, (F.depth.isSome = true → 1 ≤ k) := fun k h => by rw [hd] at h; cases h
  have HP := hid (walk_in F hd hw hro l n0 (flatE 0 e).length w0 J Jx (fun s A B hs hg => hJ s A B none hs hg (fun r h => by cases h)) (fun m pre x W1 hj hl => yield_any hd m (hY pre x W1 hj hl)) (e.kids.sz + 1) (n - 1) e 0 _ [] W (Nat.lt_succ_self _) (by omega) hsm (Nat.le_trans hn0 hW.size) (hb0.trans (hW.mono hn0)) (by simp) h0 ⟨av, kv, rfl, ha, hk⟩)
  have hbW : ElB W bq e.s e.n av e.tx kv := (hW.block bq (lt_of_block hbx)).trans hbx
  obtain ⟨a, c, rfl, -⟩ := ha
  obtain ⟨b, d, rfl, -⟩ := hk
  obtain ⟨s0, s1, s2, s3, s4⟩ := ElB.cells hbW
  unfold elV str at HP
  clear hY hJ hbx hbW h0
  refine callsIn_of_wp Tryz.func89 rfl hA ?_ hro
  simp only [Tryz.ntmps89, List.size_toArray, List.length_cons, List.length_nil, Nat.reduceAdd, Nat.reduceSub, Array.replicate_succ, Array.replicate_zero, List.push_toArray, List.append_toArray, List.nil_append, List.cons_append]
  gi_wp2_with ((try refine ⟨hdd _, ?_⟩); gi_at_call 90; refine HP.out.mono ?_; rintro e' w3 (⟨rfl, ys, hys, hj, -⟩ | ⟨rfl, q, hjx⟩))
  · go_end0
    exact ⟨⟨_, rfl⟩, .inl ⟨ys, hys, by simpa using hj⟩⟩
  · go_end0
    exact ⟨⟨_, rfl⟩, .inr ⟨q, trivial, hjx⟩⟩
end Go.Proofs.YtmofnoconhgjmaaGreatDoor
