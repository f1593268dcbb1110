/- gena.(*Subs).Next. -/
import Derived.Test.YtfceodbpkghkaaaGreatDoorMB
import Derived.Test.YtfceodbpkghkaaaGreatDoorGmf
import Derived.Test.YtfceodbpkghkaaaGreatDoorReg3
namespace Go.Proofs.YtfceodbpkghkaaaGreatDoor
open Go.RowKit
set_option linter.unusedVariables false
set_option linter.unusedSimpArgs false

/-- What Next tells, and leaves. -/
def NxPost (w : World) (N : Nat) (F : Nat → Prop) (B most : Nat) (L : List Sb) (now : Nat) (vars : Gp) (e : Ending) (w' : World) : Prop :=
  KT TP N w w' ∧ PAll w' N F B (toldL L now vars) most ∧
  match L[nextL L now vars]? with
  | some x => ∃ bv, e = .returned (.tuple #[.agg #[.string ⟨x.sid.toArray⟩, .int .u32 (x.seq : Int), .int .u32 (x.host : Int), .int .u16 (x.port : Int), .string ⟨x.target.toArray⟩, bv], .bool true]) ∧ Bytes w' bv (bodL (newsL x vars))
  | none => e = .returned (.tuple #[.agg #[.string ⟨#[]⟩, .int .u32 0, .int .u32 0, .int .u16 0, .string ⟨#[]⟩, .slice none 0 0], .bool false])
theorem nextL_hit (L : List Sb) (now : Nat) (vars : Gp) : nextL L now vars = hit (dueB now vars) L := rfl
theorem newsL_sm (x : Sb) (vars : Gp) (h : SmP vars) : SmP (newsL x vars) :=
  ⟨Nat.le_trans (List.length_filter_le _ _) h.n, fun y hy => h.each y (List.mem_filter.1 hy).1⟩
theorem six_set {w : World} {b : Nat} {u0 u1 u2 u3 u4 u5 : Value} {t : TypeId} (h : w.heap[b]? = some (.cells #[u0, u1, u2, u3, u4, u5] t (0, 0))) (v0 v1 v2 v3 v4 v5 : Value) :
    ((((((w.setCell ⟨b, 0, none⟩ v0).setCell ⟨b, 1, none⟩ v1).setCell ⟨b, 2, none⟩ v2).setCell ⟨b, 3, none⟩ v3).setCell ⟨b, 4, none⟩ v4).setCell ⟨b, 5, none⟩ v5).heap[b]? = some (.cells #[v0, v1, v2, v3, v4, v5] t (0, 0)) :=
  heap_set (heap_set (heap_set (heap_set (heap_set (heap_set h)))))
theorem six_gr {w : World} {b : Nat} (v0 v1 v2 v3 v4 v5 : Value) :
    w.grownBy ((((((w.setCell ⟨b, 0, none⟩ v0).setCell ⟨b, 1, none⟩ v1).setCell ⟨b, 2, none⟩ v2).setCell ⟨b, 3, none⟩ v3).setCell ⟨b, 4, none⟩ v4).setCell ⟨b, 5, none⟩ v5) (some b) :=
  gr_set (gr_set (gr_set (gr_set (gr_set (gr_set (gr_refl _ _))))))
theorem modify_set {L : List Sb} {k : Nat} {f : Sb → Sb} {x : Sb} (h : L[k]? = some x) : L.modify k f = L.set k (f x) := by
  have hk := (List.getElem?_eq_some_iff.1 h).1
  apply List.ext_getElem?
  intro j
  rw [List.getElem?_modify, List.getElem?_set]
  by_cases hj : k = j
  · subst hj
    rw [if_pos rfl, if_pos hk, h]
    simp
  · rw [if_neg hj]
    cases L[j]? <;> simp [hj]
theorem Bytes.kept_blk {w w' : World} {v : Value} {l : List UInt8} {A : Nat} {cs : Array Value} {t : TypeId} (h : Bytes w v l) (g : w.grownBy w' (some A)) (hA : w.heap[A]? = some (.cells cs t (0, 0))) (hc : ∀ (j : Nat) (n : Int), cs[j]? ≠ some (Value.int .u8 n)) : Bytes w' v l := by
  obtain ⟨a, c, rfl, h1, h2, h3⟩ := h
  refine ⟨a, c, rfl, h1, h2, fun hl => ?_⟩
  obtain ⟨b, o, rfl, hb⟩ := h3 hl
  refine ⟨b, o, rfl, fun i hi => g.cell (hb i hi) ?_⟩
  intro e
  have := hb i hi
  simp only [Option.some.injEq] at e
  subst e
  rw [cell_of_block hA] at this
  exact hc _ _ this
theorem note_no (a b : ByteArray) (x y z : Int) (u : Option Addr) (n c : Nat) : ∀ (j : Nat) (m : Int), (#[.string a, .int .u32 x, .int .u32 y, .int .u16 z, .string b, .slice u n c] : Array Value)[j]? ≠ some (Value.int .u8 m) := by
  intro j m
  match j with
  | 0 => simp
  | 1 => simp
  | 2 => simp
  | 3 => simp
  | 4 => simp
  | 5 => simp
  | j + 6 => simp
theorem KT.then_new {T : TypeId → Bool} {N : Nat} {a b c : World} {A : Nat} (h : KT T N a b) (g : b.grownBy c (some A)) (hA : a.heap.size ≤ A) : KT T N a c :=
  ⟨g.os.trans h.os, g.tape.trans h.tape, g.output.trans h.output, Nat.le_trans h.size g.size, fun i o hi hs => gr_keep g (h.block i o hi hs) (by have := lt_of_block hi; simp; omega)⟩
def NR (L : List Sb) (now : Nat) (vars : Gp) (w wr : World) (k : Nat) : Prop := k ≤ L.length ∧ w.grownBy wr none ∧ ∀ j x, j < k → L[j]? = some x → dueB now vars x = false
set_option maxRecDepth 20000 in
set_option maxHeartbeats 4000000 in
theorem next_x (N : Nat) (F : Nat → Prop) (B : Nat) (E : List (Nat × Sb)) (most : Nat) (now : Nat) (vars : Gp) (v : Value) (w : World) (h : PAt w N F B E most) (hv : ArgsAt w v vars) (hvs : SmP vars) (hz : ∀ a c, v = .slice a 0 c → ∀ ad, a = some ad → ∃ b o, ad = ⟨b, o, none⟩) (hF : ∀ b, w.heap.size ≤ b → F b) (hEl : E.length ≤ 1000000) :
    Calls Tryz.prog 18 #[.pointer (some ⟨B, 0, none⟩), .int .u64 (now : Int), v] w (NxPost w N F B most (E.map (·.2)) now vars) := by
  have nA := heap_alloc_new w (.cells #[.string ⟨#[]⟩, .int .u32 0, .int .u32 0, .int .u16 0, .string ⟨#[]⟩, .slice none 0 0] 55)
  have gA := World.grownBy_alloc w (.cells #[.string ⟨#[]⟩, .int .u32 0, .int .u32 0, .int .u16 0, .string ⟨#[]⟩, .slice none 0 0] 55) none
  have hl : (E.map (·.2)).length = E.length := List.length_map ..
  obtain ⟨wA, hw0⟩ : ∃ wA, wA = w.alloc (.cells #[.string ⟨#[]⟩, .int .u32 0, .int .u32 0, .int .u16 0, .string ⟨#[]⟩, .slice none 0 0] 55) := ⟨_, rfl⟩
  obtain ⟨A, hA⟩ : ∃ A, A = w.heap.size := ⟨_, rfl⟩
  rw [← hw0] at nA gA
  rw [← hA] at nA
  have HA0 := hid nA
  have GA := hid gA
  have PW := hid h
  have P0 := hid ((h.f (F' := fun b => F b ∧ b ≠ A) (fun b hb hf => ⟨hf, by omega⟩)).grow gA)
  have HV := hid (hv.grown gA)
  have HVS := hid hvs
  have HZ := hid hz
  have HFF := hid (show ∀ b, wA.heap.size ≤ b → F b ∧ b ≠ A from fun b hb => ⟨hF b (Nat.le_trans gA.size hb), by have := lt_of_block nA; omega⟩)
  have HW0 := hid hw0
  have HAA := hid hA
  have hvl : vars.length ≤ 20 := hvs.n
  obtain ⟨va, vc, rfl, -⟩ := hv.shape
  obtain ⟨lv, h1, h2⟩ := P0.out.head
  obtain ⟨a, cap, rfl, hcap, hc⟩ := PAt.ptr (B := 0) (most := 0) (F := fun _ => True) h2
  have HC := hid hc
  have c1 := (cell_of_block h1 0).trans (show _ = some (Value.slice a E.length cap) from rfl)
  clear h hv hvs hz hF nA gA hw0 hA h1 h2 hc hcap
  go_enter Tryz.func18, Tryz.ntmps18
  go_upto_region 1 with fail
  rw [← HW0.out, ← HAA.out]
  clear HW0
  go_wp2_with fail
  go_loopw [9, 10, 16] (fun _ _ v16 wr => ∃ k : Nat, v16 = .int .i64 (k : Int) ∧ Hid (NR (E.map (·.2)) now vars wA wr k)) (fun _ _ v16 _ => E.length - (intOf v16).toNat)
  case atStart => exact ⟨0, rfl, Nat.zero_le _, gr_refl _ _, fun j x h _ => absurd h (Nat.not_lt_zero _)⟩
  case round =>
    obtain ⟨k, rfl, hR⟩ := hrel
    have hk := hR.out.1
    rw [hl] at hk
    by_cases hkl : k < E.length
    rotate_left
    · have hnx : nextL (E.map (·.2)) now vars = E.length := by
        rw [nextL_hit]
        exact hit_is _ _ E.length (by omega) (fun j x hj hx => hR.out.2.2 j x (by omega) hx) (.inl hl.symm)
      have HNX := hid (show (E.map (·.2))[nextL (E.map (·.2)) now vars]? = none by rw [hnx]; exact List.getElem?_eq_none (by omega))
      have HTD := hid (show toldL (E.map (·.2)) now vars = E.map (·.2) by
        unfold toldL
        rw [hnx]
        exact List.modify_eq_self (by omega))
      have HAr := hid (gr_keep hR.out.2.1 HA0.out (by simp))
      have a0 := (cell_of_block HAr.out 0).trans rfl
      have a1 := (cell_of_block HAr.out 1).trans rfl
      have a2 := (cell_of_block HAr.out 2).trans rfl
      have a3 := (cell_of_block HAr.out 3).trans rfl
      have a4 := (cell_of_block HAr.out 4).trans rfl
      have a5 := (cell_of_block HAr.out 5).trans rfl
      have f0 := free_of_block HAr.out 0
      have f1 := free_of_block HAr.out 1
      have f2 := free_of_block HAr.out 2
      have f3 := free_of_block HAr.out 3
      have f4 := free_of_block HAr.out 4
      have f5 := free_of_block HAr.out 5
      have G1 := hid (gr_trans GA.out hR.out.2.1)
      clear hnx
      go_wp2_with fail
      have hF := six_set HAr.out (.string ⟨#[]⟩) (.int .u32 0) (.int .u32 0) (.int .u16 0) (.string ⟨#[]⟩) (.slice none 0 0)
      have gF := six_gr (w := wr) (b := A) (.string ⟨#[]⟩) (.int .u32 0) (.int .u32 0) (.int .u16 0) (.string ⟨#[]⟩) (.slice none 0 0)
      revert hF gF
      generalize ((((((wr.setCell ⟨A, 0, none⟩ (.string ⟨#[]⟩)).setCell ⟨A, 1, none⟩ (.int .u32 0)).setCell ⟨A, 2, none⟩ (.int .u32 0)).setCell ⟨A, 3, none⟩ (.int .u16 0)).setCell ⟨A, 4, none⟩ (.string ⟨#[]⟩)).setCell ⟨A, 5, none⟩ (.slice none 0 0)) = w9
      intro hF gF
      clear a0 a1 a2 a3 a4 a5 f0 f1 f2 f3 f4 f5
      have b0 := (cell_of_block hF 0).trans (show _ = some (Value.string ⟨#[]⟩) from rfl)
      have b1 := (cell_of_block hF 1).trans (show _ = some (Value.int .u32 0) from rfl)
      have b2 := (cell_of_block hF 2).trans (show _ = some (Value.int .u32 0) from rfl)
      have b3 := (cell_of_block hF 3).trans (show _ = some (Value.int .u16 0) from rfl)
      have b4 := (cell_of_block hF 4).trans (show _ = some (Value.string ⟨#[]⟩) from rfl)
      have b5 := (cell_of_block hF 5).trans (show _ = some (Value.slice none 0 0) from rfl)
      have GF := gr_new G1.out gF (by have := HAA.out; omega)
      exact bodyPost_ret (v := .tuple #[.agg #[.string ⟨#[]⟩, .int .u32 0, .int .u32 0, .int .u16 0, .string ⟨#[]⟩, .slice none 0 0], .bool false]) (by simp [results, Tryz.results18, go_sem, b0, b1, b2, b3, b4, b5]) rfl ⟨KT.of_none GF, by rw [HTD.out]; exact (PW.out.grow GF).all, by rw [HNX.out]⟩
    obtain ⟨e, hek⟩ : ∃ e, E[k]? = some e := ⟨_, List.getElem?_eq_getElem hkl⟩
    obtain ⟨g, rfl, c2⟩ := HC.out k e hek
    have c2 := hR.out.2.1.cell c2 (by simp)
    have PS := hid ((P0.out.each e (List.mem_of_getElem? hek)).row hR.out.2.1 (by simp) (by simp))
    have HEK := hid hek
    obtain ⟨d, x⟩ := e
    simp only at c2 PS
    obtain ⟨z0, z1, z2, z3, z4, -, z6, z7⟩ := PS.out.cells
    obtain ⟨hNd, lv, hd, hal⟩ := PS.out
    have HD := hid hd
    have HAL := hid hal
    have hk0 : (0 : Int) ≤ (k : Int) := by omega
    have hk1 : (k : Int) < (E.length : Int) := by omega
    have NO := hid (fun (wr' : World) (g : wr.grownBy wr' none) (hno : dueB now vars x = false) => (show NR (E.map (·.2)) now vars wA wr' (k + 1) from ⟨by rw [hl]; omega, gr_trans hR.out.2.1 g, fun j y hj hy => by
      rcases Nat.lt_succ_iff_lt_or_eq.1 hj with h1 | rfl
      · exact hR.out.2.2 j y h1 hy
      · rw [List.getElem?_map, HEK.out] at hy
        obtain rfl := Option.some.inj hy
        exact hno⟩))
    obtain ⟨la, lc, rfl, -⟩ := hal.at
    have z8 := (cell_of_block hd 8).trans (show _ = some (Value.slice la x.last.length lc) from rfl)
    have hll := hal.len
    clear hek hd hal
    cases hb : x.busy with
    | true =>
      rw [hb] at z6
      have hno := hid (NO.out wr (gr_refl _ _) (by unfold dueB; rw [hb]; rfl))
      clear hb NO
      go_wp2_with fail
      go_roundw
      case rel => exact ⟨k + 1, by go_num, hno⟩
      case measure => simp [intOf]; omega
    | false =>
      rw [hb] at z6
      by_cases hrd : now < x.ready
      · have hno := hid (NO.out wr (gr_refl _ _) (by unfold dueB; rw [decide_eq_false (show ¬ x.ready ≤ now by omega), Bool.and_false, Bool.false_and]))
        have hd1 := decide_eq_true (show (now : Int) < (x.ready : Int) by omega)
        have hd2 := decide_eq_true hrd
        clear hb NO hrd
        go_wp2_with fail
        go_roundw
        case rel => exact ⟨k + 1, by go_num, hno⟩
        case measure => simp [intOf]; omega
      · have hd1 := decide_eq_false (show ¬ (now : Int) < (x.ready : Int) by omega)
        have hd2 := decide_eq_false hrd
        have EQ := hid (equal_x x.last vars (.slice la x.last.length lc) (.slice va vars.length vc) wr (HAL.out.at) (HV.out.grown hR.out.2.1) (by unfold maxLen at hll; omega) (by omega))
        have HRD := hid hrd
        clear hrd
        go_wp2_with fail
        refine EQ.out.mono ?_
        rintro e w3 ⟨rfl, g3⟩
        by_cases heq : x.last = vars
        · rw [decide_eq_true heq]
          have hno := hid (NO.out w3 g3 (by unfold dueB; rw [decide_eq_false (show ¬ x.last ≠ vars from fun h => h heq), Bool.and_false]))
          clear hb NO EQ heq g3
          go_wp2_with fail
          go_roundw
          case rel => exact ⟨k + 1, by go_num, hno⟩
          case measure => simp [intOf]; omega
        · rw [decide_eq_false heq]
          have DUE := hid (show dueB now vars x = true by unfold dueB; rw [hb, decide_eq_true (show x.ready ≤ now by have := HRD.out; omega), decide_eq_true (show x.last ≠ vars from heq)]; rfl)
          clear NO EQ hb
          have hmf : ∀ (fn : Fn) (first cap : Array Value) (w : World), (Instr.makeFunc fn first cap).run Tryz.prog w = .ok (.func fn first cap) w := fun _ _ _ _ => rfl
          have G3 := hid (gr_trans hR.out.2.1 g3)
          have HR2 := hid (show ∀ j y, j < k → (E.map (·.2))[j]? = some y → dueB now vars y = false from hR.out.2.2)
          have PS3 := hid (PS.out.row g3 (by simp) (by simp))
          have CL1 := hid (clone_x vars (.slice va vars.length vc) w3 (HV.out.grown G3.out) (by omega) HZ.out)
          clear hR PS g3 z0 z1 z2 z3 z4 z6 z7 z8 HD HAL
          go_wp2_with fail
          refine CL1.out.mono ?_
          rintro e w4 ⟨v1, rfl, ho1, g4⟩
          obtain ⟨a1, c1', rfl⟩ := own_shapeG ho1
          have DEL := hid (deletea_x N w3.heap.size d x vars _ w4 ((PS3.out.f (fun b hb _ => hb)).row g4 (by simp) (by simp)) (by obtain ⟨-, _, hb, -⟩ := PS3.out; exact lt_of_block hb) ho1 (by omega))
          have HO1 := hid ho1
          have G4 := hid g4
          clear CL1 ho1 g4
          go_wp2_with fail
          refine DEL.out.mono ?_
          rintro e w5 ⟨v2, rfl, ho2, g5⟩
          have G35 := hid (gr_own G4.out HO1.out (Nat.le_refl _) g5)
          obtain ⟨na, nc, rfl⟩ := own_shapeG ho2
          have HO2 := hid ho2
          have G5 := hid (gr_trans G3.out G35.out)
          have CL2 := hid (clone_x vars (.slice va vars.length vc) w5 (HV.out.grown G5.out) (by omega) HZ.out)
          clear DEL g5 ho2 HO1 G4
          go_wp2_with fail
          refine CL2.out.mono ?_
          rintro e w6 ⟨v3, rfl, ho3, g6⟩
          obtain ⟨a3, c3, rfl⟩ := own_shapeG ho3
          have G6 := hid (gr_trans G5.out g6)
          have PS6 := hid ((PS3.out.row G35.out (by simp) (by simp)).row g6 (by simp) (by simp))
          obtain ⟨hNd6, lv6, hd6, ha6⟩ := PS6.out
          obtain ⟨-, -, -, -, -, -, y6, y7⟩ := PS6.out.cells
          have y8 := (cell_of_block hd6 8).trans (show _ = some lv6 from rfl)
          have yf6 := free_of_block hd6 6
          have yf8 := free_of_block hd6 8
          have HD6 := hid hd6
          have HO3 := hid ho3
          have HO2' := hid (show OwnA w6 w3.heap.size (.slice na (newsL x vars).length nc) (newsL x vars) from own_growG HO2.out g6)
          have HSZ := hid (Nat.le_trans G5.out.size (Nat.le_refl _))
          clear CL2 g6 ho3 ha6 hd6 PS3 HO2 G35 G3
          go_upto_region 7 with fail
          obtain ⟨w7, hw7⟩ : ∃ w7, w7 = (w6.setCell ⟨d, 6, none⟩ (.bool true)).setCell ⟨d, 8, none⟩ (.slice a3 vars.length c3) := ⟨_, rfl⟩
          have g7 : w6.grownBy w7 (some d) := by rw [hw7]; exact gr_set (gr_set (gr_refl _ _))
          have k7 : KT TS N w6 w7 := KT.of_row g7 HD6.out hNd6 rfl
          have hb7 : w7.heap[d]? = some (.cells (subC { x with busy := true, last := vars } (.slice a3 vars.length c3)) 94 (0, 0)) := by rw [hw7]; exact heap_set (heap_set HD6.out)
          have HAK := (HO3.out.keep N (fun b => F b ∧ b ≠ A) (fun b hb => HFF.out b (Nat.le_trans G5.out.size hb))).kt (fun t ht => tp_ta t (ts_tp t ht)) k7
          have RS := hid ((P0.out.grow G6.out).resub (x' := { x with busy := true, last := vars }) HEK.out g7 hb7 HAK)
          have NW := hid (((HO2'.out.keep N (fun _ => True) (fun _ _ => trivial)).kt (fun t ht => tp_ta t (ts_tp t ht)) k7).at)
          have BOD := hid (fun (W : World) (g : w7.grownBy W none) => body_x (newsL x vars) _ W (NW.out.grown g) (newsL_sm x vars HVS.out))
          have z0 := (cell_of_block hb7 0).trans (show _ = some (Value.string ⟨x.sid.toArray⟩) from rfl)
          have z1 := (cell_of_block hb7 1).trans (show _ = some (Value.int .u32 (x.host : Int)) from rfl)
          have z2 := (cell_of_block hb7 2).trans (show _ = some (Value.int .u16 (x.port : Int)) from rfl)
          have z3 := (cell_of_block hb7 3).trans (show _ = some (Value.string ⟨x.target.toArray⟩) from rfl)
          have z4 := (cell_of_block hb7 4).trans (show _ = some (Value.int .u32 (x.seq : Int)) from rfl)
          have HA7 := hid (gr_keep g7 (gr_keep G6.out HA0.out (by simp)) (blk_ne (gr_keep G6.out HA0.out (by simp)) HD6.out (by decide)))
          have K7 := hid ((KT.of_none (T := TP) (N := N) (gr_trans GA.out G6.out)).trans (k7.mono ts_tp))
          have hnx : nextL (E.map (·.2)) now vars = k := by
            rw [nextL_hit]
            exact hit_is _ _ k (by omega) HR2.out (.inr ⟨x, by rw [List.getElem?_map, HEK.out]; rfl, DUE.out⟩)
          have HNX := hid (show (E.map (·.2))[nextL (E.map (·.2)) now vars]? = some x by rw [hnx, List.getElem?_map, HEK.out]; rfl)
          have HTD := hid (show toldL (E.map (·.2)) now vars = (E.set k (d, { x with busy := true, last := vars })).map (·.2) by
            unfold toldL
            rw [hnx, map_set2]
            exact modify_set (by rw [List.getElem?_map, HEK.out]; rfl))
          rw [← hw7]
          clear hw7 g7 k7 hb7 HAK hnx y6 y7 y8 yf6 yf8 HD6 HO3 HO2' HR2 DUE P0 HEK
          obtain ⟨nl, hnl⟩ : ∃ nl, nl = (newsL x vars).length := ⟨_, rfl⟩
          rw [← hnl] at BOD ⊢
          clear hnl
          obtain ⟨w0, hw0⟩ : ∃ w0, w0 = w7 := ⟨_, rfl⟩
          rw [← hw0] at z0 z1 z2 z3 z4 BOD RS HA7 K7 ⊢
          clear hw0
          refine wp_region_spec3 23 24 none (by kernel_rfl) (by kernel_rfl) (by kernel_rfl) (by kernel_rfl) (by kernel_rfl) (by kernel_rfl) [some 53, some 54, some 55, some 56, some 57, some 58, some 59, some 60, some 61, some 62, some 63, some 64, some 65, some 66, some 67, some 68, some 69, some 70, some 71, some 72, some 73, some 74, some 75] (by kernel_rfl) _ (fun u => (by simp only [fill, List.zipIdx_cons, List.zipIdx_nil, List.foldl_cons, List.foldl_nil, Act.put, List.setIfInBounds_toArray, List.set_cons_zero, List.set_cons_succ, Nat.zero_add, Nat.reduceAdd]; exact rfl)) (by kernel_rfl)
            (all_succ (all_succ (all_succ (all_succ (all_succ (all_succ (all_succ (all_succ (all_succ (all_succ (all_succ (all_succ (all_succ (all_succ (all_succ (all_succ (all_succ (all_succ (all_succ (all_succ (all_succ (all_succ (all_succ (all_zero _) (fun u v => by kernel_rfl)) (fun u v => by kernel_rfl)) (fun u v => by kernel_rfl)) (fun u v => by kernel_rfl)) (fun u v => by kernel_rfl)) (fun u v => by kernel_rfl)) (fun u v => by kernel_rfl)) (fun u v => by kernel_rfl)) (fun u v => by kernel_rfl)) (fun u v => by kernel_rfl)) (fun u v => by kernel_rfl)) (fun u v => by kernel_rfl)) (fun u v => by kernel_rfl)) (fun u v => by kernel_rfl)) (fun u v => by kernel_rfl)) (fun u v => by kernel_rfl)) (fun u v => by kernel_rfl)) (fun u v => by kernel_rfl)) (fun u v => by kernel_rfl)) (fun u v => by kernel_rfl)) (fun u v => by kernel_rfl)) (fun u v => by kernel_rfl)) (fun u v => by kernel_rfl))
            (fun ri v w => match ri with | 0 => v = .pointer (some ⟨d, 0, none⟩) | 1 => v = .pointer (some ⟨d, 0, none⟩) | 2 => v = .pointer (some ⟨d, 0, none⟩) | 3 => v = .string ⟨x.sid.toArray⟩ | 4 => v = .pointer (some ⟨d, 0, none⟩) | 5 => v = .pointer (some ⟨d, 0, none⟩) | 6 => v = .pointer (some ⟨d, 4, none⟩) | 7 => v = .int .u32 (x.seq : Int) | 8 => v = .pointer (some ⟨d, 0, none⟩) | 9 => v = .pointer (some ⟨d, 0, none⟩) | 10 => v = .pointer (some ⟨d, 1, none⟩) | 11 => v = .int .u32 (x.host : Int) | 12 => v = .pointer (some ⟨d, 0, none⟩) | 13 => v = .pointer (some ⟨d, 0, none⟩) | 14 => v = .pointer (some ⟨d, 2, none⟩) | 15 => v = .int .u16 (x.port : Int) | 16 => v = .pointer (some ⟨d, 0, none⟩) | 17 => v = .pointer (some ⟨d, 0, none⟩) | 18 => v = .pointer (some ⟨d, 3, none⟩) | 19 => v = .string ⟨x.target.toArray⟩ | 20 => v = .slice na nl nc | 21 => Bytes w v (bodL (newsL x vars)) | 22 => ∃ bv, v = .agg #[.string ⟨x.sid.toArray⟩, .int .u32 (x.seq : Int), .int .u32 (x.host : Int), .int .u16 (x.port : Int), .string ⟨x.target.toArray⟩, bv] ∧ Bytes w bv (bodL (newsL x vars)) | _ => True)
            (all_succ (all_succ (all_succ (all_succ (all_succ (all_succ (all_succ (all_succ (all_succ (all_succ (all_succ (all_succ (all_succ (all_succ (all_succ (all_succ (all_succ (all_succ (all_succ (all_succ (all_succ (all_succ (all_succ (all_zero _) ?nm0) ?nm1) ?nm2) ?nm3) ?nm4) ?nm5) ?nm6) ?nm7) ?nm8) ?nm9) ?nm10) ?nm11) ?nm12) ?nm13) ?nm14) ?nm15) ?nm16) ?nm17) ?nm18) ?nm19) ?nm20) ?nm21) ?nm22)
            [[], [0], [1], [2], [], [4], [5], [6], [], [8], [9], [10], [], [12], [13], [14], [], [16], [17], [18], [], [20], [3, 7, 11, 15, 19, 21]] (by kernel_rfl)
            ⟨?no0, ?no1, ?no2, ?no3, ?no4, ?no5, ?no6, ?no7, ?no8, ?no9, ?no10, ?no11, ?no12, ?no13, ?no14, ?no15, ?no16, ?no17, ?no18, ?no19, ?no20, ?no21, ?no22, trivial⟩ ?ndone
          case nm0 => intro v w w' h g; first | exact h | exact Bytes.grown h (by simpa using g) | (obtain ⟨bv, e, hb⟩ := h; exact ⟨bv, e, Bytes.grown hb (by simpa using g)⟩)
          case nm1 => intro v w w' h g; first | exact h | exact Bytes.grown h (by simpa using g) | (obtain ⟨bv, e, hb⟩ := h; exact ⟨bv, e, Bytes.grown hb (by simpa using g)⟩)
          case nm2 => intro v w w' h g; first | exact h | exact Bytes.grown h (by simpa using g) | (obtain ⟨bv, e, hb⟩ := h; exact ⟨bv, e, Bytes.grown hb (by simpa using g)⟩)
          case nm3 => intro v w w' h g; first | exact h | exact Bytes.grown h (by simpa using g) | (obtain ⟨bv, e, hb⟩ := h; exact ⟨bv, e, Bytes.grown hb (by simpa using g)⟩)
          case nm4 => intro v w w' h g; first | exact h | exact Bytes.grown h (by simpa using g) | (obtain ⟨bv, e, hb⟩ := h; exact ⟨bv, e, Bytes.grown hb (by simpa using g)⟩)
          case nm5 => intro v w w' h g; first | exact h | exact Bytes.grown h (by simpa using g) | (obtain ⟨bv, e, hb⟩ := h; exact ⟨bv, e, Bytes.grown hb (by simpa using g)⟩)
          case nm6 => intro v w w' h g; first | exact h | exact Bytes.grown h (by simpa using g) | (obtain ⟨bv, e, hb⟩ := h; exact ⟨bv, e, Bytes.grown hb (by simpa using g)⟩)
          case nm7 => intro v w w' h g; first | exact h | exact Bytes.grown h (by simpa using g) | (obtain ⟨bv, e, hb⟩ := h; exact ⟨bv, e, Bytes.grown hb (by simpa using g)⟩)
          case nm8 => intro v w w' h g; first | exact h | exact Bytes.grown h (by simpa using g) | (obtain ⟨bv, e, hb⟩ := h; exact ⟨bv, e, Bytes.grown hb (by simpa using g)⟩)
          case nm9 => intro v w w' h g; first | exact h | exact Bytes.grown h (by simpa using g) | (obtain ⟨bv, e, hb⟩ := h; exact ⟨bv, e, Bytes.grown hb (by simpa using g)⟩)
          case nm10 => intro v w w' h g; first | exact h | exact Bytes.grown h (by simpa using g) | (obtain ⟨bv, e, hb⟩ := h; exact ⟨bv, e, Bytes.grown hb (by simpa using g)⟩)
          case nm11 => intro v w w' h g; first | exact h | exact Bytes.grown h (by simpa using g) | (obtain ⟨bv, e, hb⟩ := h; exact ⟨bv, e, Bytes.grown hb (by simpa using g)⟩)
          case nm12 => intro v w w' h g; first | exact h | exact Bytes.grown h (by simpa using g) | (obtain ⟨bv, e, hb⟩ := h; exact ⟨bv, e, Bytes.grown hb (by simpa using g)⟩)
          case nm13 => intro v w w' h g; first | exact h | exact Bytes.grown h (by simpa using g) | (obtain ⟨bv, e, hb⟩ := h; exact ⟨bv, e, Bytes.grown hb (by simpa using g)⟩)
          case nm14 => intro v w w' h g; first | exact h | exact Bytes.grown h (by simpa using g) | (obtain ⟨bv, e, hb⟩ := h; exact ⟨bv, e, Bytes.grown hb (by simpa using g)⟩)
          case nm15 => intro v w w' h g; first | exact h | exact Bytes.grown h (by simpa using g) | (obtain ⟨bv, e, hb⟩ := h; exact ⟨bv, e, Bytes.grown hb (by simpa using g)⟩)
          case nm16 => intro v w w' h g; first | exact h | exact Bytes.grown h (by simpa using g) | (obtain ⟨bv, e, hb⟩ := h; exact ⟨bv, e, Bytes.grown hb (by simpa using g)⟩)
          case nm17 => intro v w w' h g; first | exact h | exact Bytes.grown h (by simpa using g) | (obtain ⟨bv, e, hb⟩ := h; exact ⟨bv, e, Bytes.grown hb (by simpa using g)⟩)
          case nm18 => intro v w w' h g; first | exact h | exact Bytes.grown h (by simpa using g) | (obtain ⟨bv, e, hb⟩ := h; exact ⟨bv, e, Bytes.grown hb (by simpa using g)⟩)
          case nm19 => intro v w w' h g; first | exact h | exact Bytes.grown h (by simpa using g) | (obtain ⟨bv, e, hb⟩ := h; exact ⟨bv, e, Bytes.grown hb (by simpa using g)⟩)
          case nm20 => intro v w w' h g; first | exact h | exact Bytes.grown h (by simpa using g) | (obtain ⟨bv, e, hb⟩ := h; exact ⟨bv, e, Bytes.grown hb (by simpa using g)⟩)
          case nm21 => intro v w w' h g; first | exact h | exact Bytes.grown h (by simpa using g) | (obtain ⟨bv, e, hb⟩ := h; exact ⟨bv, e, Bytes.grown hb (by simpa using g)⟩)
          case nm22 => intro v w w' h g; first | exact h | exact Bytes.grown h (by simpa using g) | (obtain ⟨bv, e, hb⟩ := h; exact ⟨bv, e, Bytes.grown hb (by simpa using g)⟩)
          case no0 =>
            intro u w g hd K hK
            replace g : w0.grownBy w (none) := g
            clear hd
            simp only [Act.put, List.setIfInBounds_toArray, List.set_cons_zero, List.set_cons_succ] at hK
            go_simp
            exact hK _ _ rfl (gr_refl _ _)
          case no1 =>
            intro u w g hd K hK
            replace g : w0.grownBy w (none) := g
            have h0 : (u 0) = .pointer (some ⟨d, 0, none⟩) := hd 0 (by simp)
            clear hd
            simp only [Act.put, List.setIfInBounds_toArray, List.set_cons_zero, List.set_cons_succ] at hK
            simp only [h0] at hK ⊢
            go_simp
            exact hK _ _ rfl (gr_refl _ _)
          case no2 =>
            intro u w g hd K hK
            replace g : w0.grownBy w (none) := g
            have h1 : (u 1) = .pointer (some ⟨d, 0, none⟩) := hd 1 (by simp)
            clear hd
            simp only [Act.put, List.setIfInBounds_toArray, List.set_cons_zero, List.set_cons_succ] at hK
            simp only [h1] at hK ⊢
            go_simp
            exact hK _ _ rfl (gr_refl _ _)
          case no3 =>
            intro u w g hd K hK
            replace g : w0.grownBy w (none) := g
            have h2 : (u 2) = .pointer (some ⟨d, 0, none⟩) := hd 2 (by simp)
            clear hd
            simp only [Act.put, List.setIfInBounds_toArray, List.set_cons_zero, List.set_cons_succ] at hK
            have c := g.cell z0 (by simp)
            simp only [h2] at hK ⊢
            go_simp
            exact hK _ _ rfl (gr_refl _ _)
          case no4 =>
            intro u w g hd K hK
            replace g : w0.grownBy w (none) := g
            clear hd
            simp only [Act.put, List.setIfInBounds_toArray, List.set_cons_zero, List.set_cons_succ] at hK
            go_simp
            exact hK _ _ rfl (gr_refl _ _)
          case no5 =>
            intro u w g hd K hK
            replace g : w0.grownBy w (none) := g
            have h4 : (u 4) = .pointer (some ⟨d, 0, none⟩) := hd 4 (by simp)
            clear hd
            simp only [Act.put, List.setIfInBounds_toArray, List.set_cons_zero, List.set_cons_succ] at hK
            simp only [h4] at hK ⊢
            go_simp
            exact hK _ _ rfl (gr_refl _ _)
          case no6 =>
            intro u w g hd K hK
            replace g : w0.grownBy w (none) := g
            have h5 : (u 5) = .pointer (some ⟨d, 0, none⟩) := hd 5 (by simp)
            clear hd
            simp only [Act.put, List.setIfInBounds_toArray, List.set_cons_zero, List.set_cons_succ] at hK
            simp only [h5] at hK ⊢
            go_simp
            exact hK _ _ rfl (gr_refl _ _)
          case no7 =>
            intro u w g hd K hK
            replace g : w0.grownBy w (none) := g
            have h6 : (u 6) = .pointer (some ⟨d, 4, none⟩) := hd 6 (by simp)
            clear hd
            simp only [Act.put, List.setIfInBounds_toArray, List.set_cons_zero, List.set_cons_succ] at hK
            have c := g.cell z4 (by simp)
            simp only [h6] at hK ⊢
            go_simp
            exact hK _ _ rfl (gr_refl _ _)
          case no8 =>
            intro u w g hd K hK
            replace g : w0.grownBy w (none) := g
            clear hd
            simp only [Act.put, List.setIfInBounds_toArray, List.set_cons_zero, List.set_cons_succ] at hK
            go_simp
            exact hK _ _ rfl (gr_refl _ _)
          case no9 =>
            intro u w g hd K hK
            replace g : w0.grownBy w (none) := g
            have h8 : (u 8) = .pointer (some ⟨d, 0, none⟩) := hd 8 (by simp)
            clear hd
            simp only [Act.put, List.setIfInBounds_toArray, List.set_cons_zero, List.set_cons_succ] at hK
            simp only [h8] at hK ⊢
            go_simp
            exact hK _ _ rfl (gr_refl _ _)
          case no10 =>
            intro u w g hd K hK
            replace g : w0.grownBy w (none) := g
            have h9 : (u 9) = .pointer (some ⟨d, 0, none⟩) := hd 9 (by simp)
            clear hd
            simp only [Act.put, List.setIfInBounds_toArray, List.set_cons_zero, List.set_cons_succ] at hK
            simp only [h9] at hK ⊢
            go_simp
            exact hK _ _ rfl (gr_refl _ _)
          case no11 =>
            intro u w g hd K hK
            replace g : w0.grownBy w (none) := g
            have h10 : (u 10) = .pointer (some ⟨d, 1, none⟩) := hd 10 (by simp)
            clear hd
            simp only [Act.put, List.setIfInBounds_toArray, List.set_cons_zero, List.set_cons_succ] at hK
            have c := g.cell z1 (by simp)
            simp only [h10] at hK ⊢
            go_simp
            exact hK _ _ rfl (gr_refl _ _)
          case no12 =>
            intro u w g hd K hK
            replace g : w0.grownBy w (none) := g
            clear hd
            simp only [Act.put, List.setIfInBounds_toArray, List.set_cons_zero, List.set_cons_succ] at hK
            go_simp
            exact hK _ _ rfl (gr_refl _ _)
          case no13 =>
            intro u w g hd K hK
            replace g : w0.grownBy w (none) := g
            have h12 : (u 12) = .pointer (some ⟨d, 0, none⟩) := hd 12 (by simp)
            clear hd
            simp only [Act.put, List.setIfInBounds_toArray, List.set_cons_zero, List.set_cons_succ] at hK
            simp only [h12] at hK ⊢
            go_simp
            exact hK _ _ rfl (gr_refl _ _)
          case no14 =>
            intro u w g hd K hK
            replace g : w0.grownBy w (none) := g
            have h13 : (u 13) = .pointer (some ⟨d, 0, none⟩) := hd 13 (by simp)
            clear hd
            simp only [Act.put, List.setIfInBounds_toArray, List.set_cons_zero, List.set_cons_succ] at hK
            simp only [h13] at hK ⊢
            go_simp
            exact hK _ _ rfl (gr_refl _ _)
          case no15 =>
            intro u w g hd K hK
            replace g : w0.grownBy w (none) := g
            have h14 : (u 14) = .pointer (some ⟨d, 2, none⟩) := hd 14 (by simp)
            clear hd
            simp only [Act.put, List.setIfInBounds_toArray, List.set_cons_zero, List.set_cons_succ] at hK
            have c := g.cell z2 (by simp)
            simp only [h14] at hK ⊢
            go_simp
            exact hK _ _ rfl (gr_refl _ _)
          case no16 =>
            intro u w g hd K hK
            replace g : w0.grownBy w (none) := g
            clear hd
            simp only [Act.put, List.setIfInBounds_toArray, List.set_cons_zero, List.set_cons_succ] at hK
            go_simp
            exact hK _ _ rfl (gr_refl _ _)
          case no17 =>
            intro u w g hd K hK
            replace g : w0.grownBy w (none) := g
            have h16 : (u 16) = .pointer (some ⟨d, 0, none⟩) := hd 16 (by simp)
            clear hd
            simp only [Act.put, List.setIfInBounds_toArray, List.set_cons_zero, List.set_cons_succ] at hK
            simp only [h16] at hK ⊢
            go_simp
            exact hK _ _ rfl (gr_refl _ _)
          case no18 =>
            intro u w g hd K hK
            replace g : w0.grownBy w (none) := g
            have h17 : (u 17) = .pointer (some ⟨d, 0, none⟩) := hd 17 (by simp)
            clear hd
            simp only [Act.put, List.setIfInBounds_toArray, List.set_cons_zero, List.set_cons_succ] at hK
            simp only [h17] at hK ⊢
            go_simp
            exact hK _ _ rfl (gr_refl _ _)
          case no19 =>
            intro u w g hd K hK
            replace g : w0.grownBy w (none) := g
            have h18 : (u 18) = .pointer (some ⟨d, 3, none⟩) := hd 18 (by simp)
            clear hd
            simp only [Act.put, List.setIfInBounds_toArray, List.set_cons_zero, List.set_cons_succ] at hK
            have c := g.cell z3 (by simp)
            simp only [h18] at hK ⊢
            go_simp
            exact hK _ _ rfl (gr_refl _ _)
          case no20 =>
            intro u w g hd K hK
            replace g : w0.grownBy w (none) := g
            clear hd
            simp only [Act.put, List.setIfInBounds_toArray, List.set_cons_zero, List.set_cons_succ] at hK
            go_simp
            exact hK _ _ rfl (gr_refl _ _)
          case no21 =>
            intro u w g hd K hK
            replace g : w0.grownBy w (none) := g
            have h20 : (u 20) = .slice na nl nc := hd 20 (by simp)
            clear hd
            simp only [Act.put, List.setIfInBounds_toArray, List.set_cons_zero, List.set_cons_succ] at hK
            simp only [h20] at hK ⊢
            go_simp
            refine (BOD.out w g).mono ?_
            rintro e w' ⟨v', rfl, hb', g'⟩
            exact hK v' w' hb' g'
          case no22 =>
            intro u w g hd K hK
            replace g : w0.grownBy w (none) := g
            have h3 : (u 3) = .string ⟨x.sid.toArray⟩ := hd 3 (by simp)
            have h7 : (u 7) = .int .u32 (x.seq : Int) := hd 7 (by simp)
            have h11 : (u 11) = .int .u32 (x.host : Int) := hd 11 (by simp)
            have h15 : (u 15) = .int .u16 (x.port : Int) := hd 15 (by simp)
            have h19 : (u 19) = .string ⟨x.target.toArray⟩ := hd 19 (by simp)
            have h21 : Bytes w (u 21) (bodL (newsL x vars)) := hd 21 (by simp)
            clear hd
            simp only [Act.put, List.setIfInBounds_toArray, List.set_cons_zero, List.set_cons_succ] at hK
            have hb' := h21
            obtain ⟨ba, bc, hbe, -⟩ := h21
            simp only [h3, h7, h11, h15, h19, hbe] at hK hb' ⊢
            go_simp
            exact hK _ _ ⟨_, rfl, hb'⟩ (gr_refl _ _)
          intro u w hS g
          have s0 : (u 0) = .pointer (some ⟨d, 0, none⟩) := hS 0 (by decide)
          have s1 : (u 1) = .pointer (some ⟨d, 0, none⟩) := hS 1 (by decide)
          have s2 : (u 2) = .pointer (some ⟨d, 0, none⟩) := hS 2 (by decide)
          have s3 : (u 3) = .string ⟨x.sid.toArray⟩ := hS 3 (by decide)
          have s4 : (u 4) = .pointer (some ⟨d, 0, none⟩) := hS 4 (by decide)
          have s5 : (u 5) = .pointer (some ⟨d, 0, none⟩) := hS 5 (by decide)
          have s6 : (u 6) = .pointer (some ⟨d, 4, none⟩) := hS 6 (by decide)
          have s7 : (u 7) = .int .u32 (x.seq : Int) := hS 7 (by decide)
          have s8 : (u 8) = .pointer (some ⟨d, 0, none⟩) := hS 8 (by decide)
          have s9 : (u 9) = .pointer (some ⟨d, 0, none⟩) := hS 9 (by decide)
          have s10 : (u 10) = .pointer (some ⟨d, 1, none⟩) := hS 10 (by decide)
          have s11 : (u 11) = .int .u32 (x.host : Int) := hS 11 (by decide)
          have s12 : (u 12) = .pointer (some ⟨d, 0, none⟩) := hS 12 (by decide)
          have s13 : (u 13) = .pointer (some ⟨d, 0, none⟩) := hS 13 (by decide)
          have s14 : (u 14) = .pointer (some ⟨d, 2, none⟩) := hS 14 (by decide)
          have s15 : (u 15) = .int .u16 (x.port : Int) := hS 15 (by decide)
          have s16 : (u 16) = .pointer (some ⟨d, 0, none⟩) := hS 16 (by decide)
          have s17 : (u 17) = .pointer (some ⟨d, 0, none⟩) := hS 17 (by decide)
          have s18 : (u 18) = .pointer (some ⟨d, 3, none⟩) := hS 18 (by decide)
          have s19 : (u 19) = .string ⟨x.target.toArray⟩ := hS 19 (by decide)
          have s20 : (u 20) = .slice na nl nc := hS 20 (by decide)
          have s21 : Bytes w (u 21) (bodL (newsL x vars)) := hS 21 (by decide)
          have s22 : ∃ bv, (u 22) = .agg #[.string ⟨x.sid.toArray⟩, .int .u32 (x.seq : Int), .int .u32 (x.host : Int), .int .u16 (x.port : Int), .string ⟨x.target.toArray⟩, bv] ∧ Bytes w bv (bodL (newsL x vars)) := hS 22 (by decide)
          clear hS
          replace g : w0.grownBy w none := g
          change wpList _ _ _ [_, _] _ _
          obtain ⟨bv, e22, hbv⟩ := s22
          have HBV := hid hbv
          have E22 := hid e22
          have GY := hid g
          clear s0 s1 s2 s3 s4 s5 s6 s7 s8 s9 s10 s11 s12 s13 s14 s15 s16 s17 s18 s19 s20 s21 g e22 hbv
          generalize u 0 = y0 at *
          generalize u 1 = y1 at *
          generalize u 2 = y2 at *
          generalize u 3 = y3 at *
          generalize u 4 = y4 at *
          generalize u 5 = y5 at *
          generalize u 6 = y6 at *
          generalize u 7 = y7 at *
          generalize u 8 = y8 at *
          generalize u 9 = y9 at *
          generalize u 10 = y10 at *
          generalize u 11 = y11 at *
          generalize u 12 = y12 at *
          generalize u 13 = y13 at *
          generalize u 14 = y14 at *
          generalize u 15 = y15 at *
          generalize u 16 = y16 at *
          generalize u 17 = y17 at *
          generalize u 18 = y18 at *
          generalize u 19 = y19 at *
          generalize u 20 = y20 at *
          generalize u 21 = y21 at *
          generalize u 22 = y22 at *
          obtain rfl := E22.out
          clear E22
          have HAr := hid (gr_keep GY.out HA7.out (by simp))
          have a0 := (cell_of_block HAr.out 0).trans rfl
          have a1 := (cell_of_block HAr.out 1).trans rfl
          have a2 := (cell_of_block HAr.out 2).trans rfl
          have a3 := (cell_of_block HAr.out 3).trans rfl
          have a4 := (cell_of_block HAr.out 4).trans rfl
          have a5 := (cell_of_block HAr.out 5).trans rfl
          have f0 := free_of_block HAr.out 0
          have f1 := free_of_block HAr.out 1
          have f2 := free_of_block HAr.out 2
          have f3 := free_of_block HAr.out 3
          have f4 := free_of_block HAr.out 4
          have f5 := free_of_block HAr.out 5
          obtain ⟨ba, bc, hbe, -⟩ := HBV.out
          obtain ⟨bl, hbl⟩ : ∃ bl, bl = (bodL (newsL x vars)).length := ⟨_, rfl⟩
          rw [← hbl] at hbe
          subst hbe
          clear hbl z0 z1 z2 z3 z4
          go_wp2_with fail
          have hF := six_set HAr.out (.string ⟨x.sid.toArray⟩) (.int .u32 (x.seq : Int)) (.int .u32 (x.host : Int)) (.int .u16 (x.port : Int)) (.string ⟨x.target.toArray⟩) (.slice ba bl bc)
          have gF := six_gr (w := w) (b := A) (.string ⟨x.sid.toArray⟩) (.int .u32 (x.seq : Int)) (.int .u32 (x.host : Int)) (.int .u16 (x.port : Int)) (.string ⟨x.target.toArray⟩) (.slice ba bl bc)
          have hPA := ((RS.out.1.grow GY.out).row gF HAr.out (by decide) (fun h => h.2 rfl)).f (F' := F) (fun b _ h => h.1)
          have hKK := (K7.out.trans (KT.of_none GY.out)).then_new gF (by have := HAA.out; omega)
          have hBY : Bytes _ (.slice ba bl bc) (bodL (newsL x vars)) := Bytes.kept_blk HBV.out gF HAr.out (note_no _ _ _ _ _ _ _ _)
          revert hF hPA hKK hBY
          generalize ((((((w.setCell ⟨A, 0, none⟩ (.string ⟨x.sid.toArray⟩)).setCell ⟨A, 1, none⟩ (.int .u32 (x.seq : Int))).setCell ⟨A, 2, none⟩ (.int .u32 (x.host : Int))).setCell ⟨A, 3, none⟩ (.int .u16 (x.port : Int))).setCell ⟨A, 4, none⟩ (.string ⟨x.target.toArray⟩)).setCell ⟨A, 5, none⟩ (.slice ba bl bc)) = w9
          intro hF hPA hKK hBY
          clear a0 a1 a2 a3 a4 a5 f0 f1 f2 f3 f4 f5 gF
          have b0 := (cell_of_block hF 0).trans (show _ = some (Value.string ⟨x.sid.toArray⟩) from rfl)
          have b1 := (cell_of_block hF 1).trans (show _ = some (Value.int .u32 (x.seq : Int)) from rfl)
          have b2 := (cell_of_block hF 2).trans (show _ = some (Value.int .u32 (x.host : Int)) from rfl)
          have b3 := (cell_of_block hF 3).trans (show _ = some (Value.int .u16 (x.port : Int)) from rfl)
          have b4 := (cell_of_block hF 4).trans (show _ = some (Value.string ⟨x.target.toArray⟩) from rfl)
          have b5 := (cell_of_block hF 5).trans (show _ = some (Value.slice ba bl bc) from rfl)
          exact bodyPost_ret (v := .tuple #[.agg #[.string ⟨x.sid.toArray⟩, .int .u32 (x.seq : Int), .int .u32 (x.host : Int), .int .u16 (x.port : Int), .string ⟨x.target.toArray⟩, .slice ba bl bc], .bool true]) (by simp [results, Tryz.results18, go_sem, b0, b1, b2, b3, b4, b5]) rfl ⟨hKK, by rw [HTD.out]; exact hPA.all, by rw [HNX.out]; exact ⟨_, rfl, hBY⟩⟩
end Go.Proofs.YtfceodbpkghkaaaGreatDoor
