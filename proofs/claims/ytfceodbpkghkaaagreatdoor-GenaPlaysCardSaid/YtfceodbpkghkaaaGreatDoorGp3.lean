/- The law's request: a call's fields, in which @ stands for a subscription's SID. -/
import Derived.Test.YtfceodbpkghkaaaGreatDoorMQ
import Derived.Test.YtfceodbpkghkaaaGreatDoorMT
namespace Go.Proofs.YtfceodbpkghkaaaGreatDoor
open Go.RowKit
set_option linter.unusedVariables false
set_option linter.unusedSimpArgs false

def sidAt (L : List Sb) (i : Nat) : Gs := match L[i]? with | some x => x.sid | none => []
def pickN (p : Int) (n : Nat) : Nat := (p % 65536).toNat % n
def reqF (p : Int) (L : List Sb) (f : Gs × Gs) : Gs × Gs := if f.1 = kSid ∧ f.2 = [64] ∧ L ≠ [] then (f.1, sidAt L (pickN p L.length)) else f
def reqL (o : Og) (L : List Sb) : Gp := o.fs.map (reqF o.pick L)
theorem i64_andm2 (n : Int) (j m : Nat) (hm : (BitVec.ofInt 64 (m : Int)).toNat = 2 ^ j - 1) (hj : 2 ^ j ≤ 4294967296) : bits .and .i64 n (m : Int) = n % ((2 ^ j : Nat) : Int) := by
  have key : (BitVec.ofInt 64 n &&& BitVec.ofInt 64 (m : Int)).toNat = (n % ((2 ^ 64 : Nat) : Int)).toNat % 2 ^ j := by
    rw [BitVec.toNat_and, BitVec.toNat_ofInt, hm, Nat.and_two_pow_sub_one_eq_mod]
  have hp : 0 < 2 ^ j := Nat.pow_pos (by decide)
  show IntKind.i64.wrap ((BitVec.ofInt 64 n &&& BitVec.ofInt 64 (m : Int)).toNat : Nat) = _
  rw [key, IntKind.wrap_i64]
  have hlt := Nat.mod_lt (n % ((2 ^ 64 : Nat) : Int)).toNat hp
  have hjle : j ≤ 64 := by
    rcases Nat.lt_or_ge 64 j with h | h
    · have := Nat.pow_le_pow_right (show 0 < 2 by decide) (Nat.le_of_lt h)
      omega
    · exact h
  have hdvd : (2 ^ j) ∣ 2 ^ 64 := Nat.pow_dvd_pow 2 hjle
  have e1 : (((n % ((2 ^ 64 : Nat) : Int)).toNat % 2 ^ j : Nat) : Int) = n % ((2 ^ j : Nat) : Int) := by
    rw [Int.natCast_emod, Int.toNat_of_nonneg (Int.emod_nonneg _ (by decide))]
    exact Int.emod_emod_of_dvd n (Int.natCast_dvd_natCast.2 hdvd)
  rw [e1]
  have := Int.emod_nonneg n (show ((2 ^ j : Nat) : Int) ≠ 0 by omega)
  have := Int.emod_lt_of_pos n (show 0 < ((2 ^ j : Nat) : Int) by omega)
  generalize ((2 ^ j : Nat) : Int) = P at *
  omega
theorem i64_and16 (n : Int) : bits .and .i64 n 65535 = (((n % 65536).toNat : Nat) : Int) := by
  have h2 : bits .and .i64 n 65535 = n % 65536 := by simpa using i64_andm2 n 16 65535 (by decide) (by decide)
  rw [h2]; omega
/-- The request, as it is built. -/
structure RqR (A2 A4 A5 : Nat) (oc rc : Array Value) (xs : Gp) (w wr : World) (k : Nat) : Prop where
  g : w.grownBy wr none
  op : wr.heap[A2]? = some (.cells oc 31 (0, 0))
  res : wr.heap[A4]? = some (.cells rc 49 (0, 0))
  row : ∃ v, wr.heap[A5]? = some (.cells #[.string ⟨#[]⟩, .string ⟨#[]⟩, .int .i64 0, v, .slice none 0 0, .bool false] 49 (0, 0)) ∧ wr.ownsRow w.heap.size 47 2 v k (flatF (xs.take k)) ∧ (k = 0 → v = .slice none 0 0)
theorem RqR.grow {A2 A4 A5 : Nat} {oc rc : Array Value} {xs : Gp} {w wr w2 : World} {k : Nat} (h : RqR A2 A4 A5 oc rc xs w wr k) (g : wr.grownBy w2 none) : RqR A2 A4 A5 oc rc xs w w2 k := by
  obtain ⟨v, h1, h2, h3⟩ := h.row
  exact ⟨gr_trans h.g g, gr_keep g h.op (by simp), gr_keep g h.res (by simp), v, gr_keep g h1 (by simp), own_growG h2 g, h3⟩
theorem RqR.step {A2 A4 A5 : Nat} {oc rc : Array Value} {xs : Gp} {w wr w8 : World} {k : Nat} {v v8 : Value} {x : Gs × Gs} (h : RqR A2 A4 A5 oc rc xs w wr k) (hA : w.heap.size ≤ A5) (h24 : A2 ≠ A5) (h45 : A4 ≠ A5)
    (hv : wr.heap[A5]? = some (.cells #[.string ⟨#[]⟩, .string ⟨#[]⟩, .int .i64 0, v, .slice none 0 0, .bool false] 49 (0, 0))) (ho : wr.ownsRow w.heap.size 47 2 v k (flatF (xs.take k)))
    (q2 : w8.ownsRow w.heap.size 47 2 v8 (k + 1) (flatF (xs.take k) ++ [str x.1, str x.2])) (q3 : wr.grownBy w8 v.ownBlock) (hx : xs[k]? = some x) : RqR A2 A4 A5 oc rc xs w (w8.setCell ⟨A5, 3, none⟩ v8) (k + 1) := by
  have hA8 := gr_keep q3 hv (own_ne_fs ho hv (by decide))
  have g9 : w8.grownBy (w8.setCell ⟨A5, 3, none⟩ v8) (some A5) := gr_set (gr_refl _ _)
  refine ⟨gr_set_new (gr_own h.g ho (Nat.le_refl _) q3) hA, gr_keep g9 (gr_keep q3 h.op (own_ne_fs ho h.op (by decide))) (by simpa using h24), gr_keep g9 (gr_keep q3 h.res (own_ne_fs ho h.res (by decide))) (by simpa using h45), v8, by rw [heap_set hA8]; rfl, ?_, fun h => absurd h (Nat.succ_ne_zero _)⟩
  rw [List.take_add_one, hx]
  obtain ⟨x1, x2⟩ := x
  show World.ownsRow _ _ _ _ _ _ (flatF (xs.take k ++ [(x1, x2)]))
  rw [flatF_snoc]
  exact q2.kept g9 (.inr (own_ne_fs q2 hA8 (by decide)).symm)
set_option maxRecDepth 20000 in
set_option maxHeartbeats 4000000 in
theorem request_x (N : Nat) (F : Nat → Prop) (C : Nat) (E : List Sv) (most : Nat) (o : Og) (fv vv hv : Value) (W : World) (h : RAt W N F C E most) (hEl : E.length ≤ 1000000) (ho : OpAt W o fv vv hv) (hs : SmO o) :
    Calls Tryz.prog 50 #[.agg #[.int .i64 o.kind, .int .i64 o.pick, .int .i64 o.most, .int .u64 o.tick, .int .u32 (o.who : Int), fv, vv, hv], .pointer (some ⟨C, 0, none⟩)] W fun e w' => ∃ rv, e = .returned (.agg #[.string ⟨#[]⟩, .string ⟨#[]⟩, .int .i64 0, rv, .slice none 0 0, .bool false]) ∧ FsAt w' rv (reqL o (E.map (·.1))) ∧ W.grownBy w' none := by
  obtain ⟨kd, pk, mo, tk, who, fs, vars, hs'⟩ := o
  have hn30 : fs.length ≤ 30 := hs.fn
  have HFS := hid (show ArgsAt W fv fs from ho.fs)
  obtain ⟨fa, fc, rfl, -⟩ := HFS.out.shape
  obtain ⟨va, vc, rfl, -⟩ := ho.vars
  obtain ⟨ha, hc, rfl, -⟩ := ho.hs
  show Calls _ _ #[.agg #[.int .i64 kd, .int .i64 pk, .int .i64 mo, .int .u64 tk, .int .u32 (who : Int), .slice fa fs.length fc, .slice va vars.length vc, .slice ha hs'.length hc], .pointer (some ⟨C, 0, none⟩)] W _
  have HP := hid h
  obtain ⟨L, hL⟩ : ∃ L, L = E.map (·.1) := ⟨_, rfl⟩
  obtain ⟨XS, hXS⟩ : ∃ XS, XS = fs.map (reqF pk L) := ⟨_, rfl⟩
  have HXS := hid hXS
  have HLL := hid hL
  have HXL := hid (show XS.length = fs.length by rw [hXS, List.length_map])
  have hgoal : reqL ⟨kd, pk, mo, tk, who, fs, vars, hs'⟩ (E.map (·.1)) = XS := by rw [hXS, hL]; rfl
  rw [hgoal]
  have HMA := hid (i64_and16 pk)
  obtain ⟨M, hM⟩ : ∃ M, M = (pk % 65536).toNat := ⟨_, rfl⟩
  rw [← hM] at HMA
  have HMM := hid hM
  clear h ho hs hL hXS hgoal hM
  obtain ⟨OC, hOC⟩ : ∃ OC : Array Value, OC = #[.int .i64 kd, .int .i64 pk, .int .i64 mo, .int .u64 tk, .int .u32 (who : Int), .slice fa fs.length fc, .slice va vars.length vc, .slice ha hs'.length hc] := ⟨_, rfl⟩
  obtain ⟨RC, hRC⟩ : ∃ RC : Array Value, RC = #[.string ⟨#[]⟩, .string ⟨#[]⟩, .int .i64 0, .slice none 0 0, .slice none 0 0, .bool false] := ⟨_, rfl⟩
  obtain ⟨w1, hw1⟩ : ∃ w1, w1 = W.alloc (.cells #[.int .i64 kd, .int .i64 pk, .int .i64 mo, .int .u64 tk, .int .u32 (who : Int), .slice fa fs.length fc, .slice va vars.length vc, .slice ha hs'.length hc] 31) := ⟨_, rfl⟩
  have n1 := heap_alloc_new W (.cells OC 31)
  have g1 := World.grownBy_alloc W (.cells OC 31) none
  obtain ⟨w2, hw2⟩ : ∃ w2, w2 = w1.alloc (.cells #[.string ⟨#[]⟩, .string ⟨#[]⟩, .int .i64 0, .slice none 0 0, .slice none 0 0, .bool false] 49) := ⟨_, rfl⟩
  have n2 := heap_alloc_new w1 (.cells RC 49)
  have g2 := World.grownBy_alloc w1 (.cells RC 49) none
  obtain ⟨w3, hw3⟩ : ∃ w3, w3 = w2.alloc (.cells #[.string ⟨#[]⟩, .string ⟨#[]⟩, .int .i64 0, .slice none 0 0, .slice none 0 0, .bool false] 49) := ⟨_, rfl⟩
  have n3 := heap_alloc_new w2 (.cells RC 49)
  have g3 := World.grownBy_alloc w2 (.cells RC 49) none
  rw [hOC, ← hw1] at n1 g1
  rw [hRC, ← hw2] at n2 g2
  rw [hRC, ← hw3] at n3 g3
  obtain ⟨A2, hA2⟩ : ∃ A2, A2 = W.heap.size := ⟨_, rfl⟩
  have hA4 : w1.heap.size = A2 + 1 := by rw [hw1, hA2]; simp
  have hA5 : w2.heap.size = A2 + 1 + 1 := by rw [hw2]; simp; omega
  rw [← hA2] at n1
  rw [hA4] at n2
  rw [hA5] at n3
  have R0 := hid (show RqR A2 (A2 + 1) (A2 + 1 + 1) OC RC XS W w3 0 from ⟨gr_trans (gr_trans g1 g2) g3, by rw [hOC]; exact gr_keep g3 (gr_keep g2 n1 (by simp)) (by simp), by rw [hRC]; exact gr_keep g3 n2 (by simp), .slice none 0 0, n3, World.ownsRow_nil _ _ _ _, fun _ => rfl⟩)
  have HW := hid (And.intro hw1 (And.intro hw2 hw3))
  have HAA := hid (And.intro hA2 (And.intro hA4 hA5))
  have HOC := hid hOC
  have HRC := hid hRC
  have i5 := (cell_of_block (gr_keep g3 (gr_keep g2 n1 (by simp)) (by simp)) 5).trans (show _ = some (Value.slice fa fs.length fc) from rfl)
  clear hw1 hw2 hw3 n1 g1 n2 g2 n3 g3 hA2 hA4 hA5 hOC hRC
  go_enter Tryz.func50, Tryz.ntmps50
  go_upto_region 2 with fail
  rw [← HW.out.1, ← HW.out.2.1, ← HW.out.2.2, ← HAA.out.1]
  clear HW
  have HA2 := hid (show W.heap.size = A2 from HAA.out.1.symm)
  clear HAA
  go_wp2_with fail
  go_loopw [12] (fun vk wr => ∃ k : Nat, vk = .int .i64 (k : Int) ∧ k ≤ fs.length ∧ Hid (RqR A2 (A2 + 1) (A2 + 1 + 1) OC RC XS W wr k)) (fun vk _ => fs.length - (intOf vk).toNat)
  case atStart => exact ⟨0, rfl, Nat.zero_le _, R0.out⟩
  case round =>
    obtain ⟨k, rfl, hk, hR⟩ := hrel
    by_cases hkl : k < fs.length
    rotate_left
    · obtain rfl : k = fs.length := by omega
      obtain ⟨v, hv, hown, hz⟩ := hR.out.row
      have HV := hid hv
      have hrs := hR.out.res
      rw [HRC.out] at hrs
      have HRS := hid hrs
      have HOW := hid hown
      have HZ := hid hz
      obtain ⟨ra, rc, rfl⟩ := own_shapeG hown
      have d0 := (cell_of_block hv 0).trans (show _ = some (Value.string ⟨#[]⟩) from rfl)
      have d1 := (cell_of_block hv 1).trans (show _ = some (Value.string ⟨#[]⟩) from rfl)
      have d2 := (cell_of_block hv 2).trans (show _ = some (Value.int .i64 0) from rfl)
      have d3 := (cell_of_block hv 3).trans (show _ = some (Value.slice ra fs.length rc) from rfl)
      have d4 := (cell_of_block hv 4).trans (show _ = some (Value.slice none 0 0) from rfl)
      have d5 := (cell_of_block hv 5).trans (show _ = some (Value.bool false) from rfl)
      have e0 := (cell_of_block hrs 0).trans rfl
      have e1 := (cell_of_block hrs 1).trans rfl
      have e2 := (cell_of_block hrs 2).trans rfl
      have e3 := (cell_of_block hrs 3).trans rfl
      have e4 := (cell_of_block hrs 4).trans rfl
      have e5 := (cell_of_block hrs 5).trans rfl
      have f0 := free_of_block hrs 0
      have f1 := free_of_block hrs 1
      have f2 := free_of_block hrs 2
      have f3 := free_of_block hrs 3
      have f4 := free_of_block hrs 4
      have f5 := free_of_block hrs 5
      have G0 := hid hR.out.g
      clear hv hown hz hrs hR
      go_wp2_with fail
      have hF := six_set HRS.out (.string ⟨#[]⟩) (.string ⟨#[]⟩) (.int .i64 0) (.slice ra fs.length rc) (.slice none 0 0) (.bool false)
      have gF := six_gr (w := wr) (b := A2 + 1) (.string ⟨#[]⟩) (.string ⟨#[]⟩) (.int .i64 0) (.slice ra fs.length rc) (.slice none 0 0) (.bool false)
      have hOW9 := HOW.out.kept gF (.inr (own_ne_fs HOW.out HRS.out (by decide)).symm)
      revert hF gF hOW9
      generalize ((((((wr.setCell ⟨A2 + 1, 0, none⟩ (.string ⟨#[]⟩)).setCell ⟨A2 + 1, 1, none⟩ (.string ⟨#[]⟩)).setCell ⟨A2 + 1, 2, none⟩ (.int .i64 0)).setCell ⟨A2 + 1, 3, none⟩ (.slice ra fs.length rc)).setCell ⟨A2 + 1, 4, none⟩ (.slice none 0 0)).setCell ⟨A2 + 1, 5, none⟩ (.bool false)) = w9
      intro hF gF hOW9
      clear d0 d1 d2 d3 d4 d5 e0 e1 e2 e3 e4 e5 f0 f1 f2 f3 f4 f5
      have b0 := (cell_of_block hF 0).trans (show _ = some (Value.string ⟨#[]⟩) from rfl)
      have b1 := (cell_of_block hF 1).trans (show _ = some (Value.string ⟨#[]⟩) from rfl)
      have b2 := (cell_of_block hF 2).trans (show _ = some (Value.int .i64 0) from rfl)
      have b3 := (cell_of_block hF 3).trans (show _ = some (Value.slice ra fs.length rc) from rfl)
      have b4 := (cell_of_block hF 4).trans (show _ = some (Value.slice none 0 0) from rfl)
      have b5 := (cell_of_block hF 5).trans (show _ = some (Value.bool false) from rfl)
      have hXt : XS.take fs.length = XS := List.take_of_length_le (by rw [HXL.out]; exact Nat.le_refl _)
      rw [hXt] at hOW9
      exact bodyPost_ret (v := .agg #[.string ⟨#[]⟩, .string ⟨#[]⟩, .int .i64 0, .slice ra fs.length rc, .slice none 0 0, .bool false]) (by simp [results, Tryz.results50, go_sem, b0, b1, b2, b3, b4, b5]) rfl ⟨_, rfl, fs_of_row (by rw [HXL.out]; exact hOW9) (fun e => HZ.out (by rw [← HXL.out, e]; rfl)), gr_new G0.out gF (by rw [HA2.out]; omega)⟩
    · obtain ⟨x, hx⟩ : ∃ x, fs[k]? = some x := ⟨_, List.getElem?_eq_getElem hkl⟩
      obtain ⟨a', c', e', hp⟩ := HFS.out.grown hR.out.g
      simp only [Value.slice.injEq] at e'
      obtain ⟨rfl, -, rfl⟩ := e'
      rcases hp with h0 | ⟨b, o, rfl, hp⟩
      · omega
      obtain ⟨c0, c1⟩ := hp k hkl
      rw [(gN_at hx).1] at c0
      rw [(gN_at hx).2] at c1
      have HX := hid hx
      obtain ⟨xa, xb⟩ := x
      simp only at c0 c1
      obtain ⟨v, hv, hown, -⟩ := hR.out.row
      have HV := hid hv
      have HOW := hid hown
      obtain ⟨ra, rc, rfl⟩ := own_shapeG hown
      have hop := hR.out.op
      rw [HOC.out] at hop
      have p1 := (cell_of_block hop 1).trans (show _ = some (Value.int .i64 pk) from rfl)
      obtain ⟨a, cap, hB, -, hcap, -, hcc⟩ := (HP.out.grow hR.out.g).parts
      have HCC := hid hcc
      have b0 := (cell_of_block hB 0).trans (show _ = some (Value.slice a E.length cap) from rfl)
      obtain ⟨X, hXX⟩ : ∃ X : ByteArray, X = ⟨xa.toArray⟩ := ⟨_, rfl⟩
      obtain ⟨Y, hYY⟩ : ∃ Y : ByteArray, Y = ⟨xb.toArray⟩ := ⟨_, rfl⟩
      have HXX := hid (show ([.string X, .string Y] : List Value) = [str xa, str xb] by rw [hXX, hYY]; rfl)
      rw [← hXX] at c0
      rw [← hYY] at c1
      have HEQ := hid (show X.toList = xa ∧ Y.toList = xb from ⟨by rw [hXX, Lib.toList_data], by rw [hYY, Lib.toList_data]⟩)
      have HXA := hid hXX
      obtain ⟨wB, hwB⟩ : ∃ wB, wB = wr.alloc (.cells #[.string X, .string Y] 47) := ⟨_, rfl⟩
      have nB := heap_alloc_new wr (.cells #[.string X, .string Y] 47)
      have gB := World.grownBy_alloc wr (.cells #[.string X, .string Y] 47) none
      obtain ⟨X7, hX7⟩ : ∃ X7, X7 = wr.heap.size := ⟨_, rfl⟩
      rw [← hwB] at nB gB
      rw [← hX7] at nB
      have HWB := hid hwB
      have HX7 := hid hX7
      have GB := hid gB
      have NB := hid nB
      have z0 := (cell_of_block nB 0).trans (show _ = some (Value.string X) from rfl)
      have z1 := (cell_of_block nB 1).trans (show _ = some (Value.string Y) from rfl)
      obtain ⟨i0, hi0, hz0, hz1, hz2⟩ := info_parts infoField
      have b0A := gB.cell b0 (by simp)
      rw [hwB] at b0A
      clear hv hown hop hB hcc hcap hX7 hwB nB gB hXX hYY hx hp
      by_cases s1 : xa = kSid
      rotate_left
      · have t1 : (X.toList == [115, 105, 100]) = false := by rw [HEQ.out.1, beq_eq_false_iff_ne]; exact s1
        have t2 : ¬ X.toList = [115, 105, 100] := by rw [HEQ.out.1]; exact s1
        have HY := hid (show XS[k]? = some (xa, xb) by rw [HXS.out, List.getElem?_map, HX.out]; exact congrArg some (if_neg (by rw [HLL.out]; first | (intro h; exact s1 h.1) | (intro h; exact s2 h.2.1) | (intro h; exact h.2.2 s4))))
        try clear s1
        try clear s2
        try clear HEQ
        go_upto_region 7 with fail
        rw [← HWB.out, ← HX7.out]
        clear c0 c1 b0 b0A HP
        have nC := heap_alloc_new wB (.cells #[.string X, .string Y] 47)
        have gC := World.grownBy_alloc wB (.cells #[.string X, .string Y] 47) none
        have RCC := hid (hR.out.grow (gr_trans GB.out gC))
        have hvC := gr_keep (gr_trans GB.out gC) HV.out (by simp)
        have HVC := hid hvC
        have OB := hid (own_growG HOW.out (gr_trans GB.out gC))
        have d3 := (cell_of_block hvC 3).trans (show _ = some (Value.slice ra k rc) from rfl)
        have HBS := hid (Nat.le_trans hR.out.g.size (gr_trans GB.out gC).size)
        have HSRC := hid (show SrcAt (wB.alloc (.cells #[.string X, .string Y] 47)) (some ⟨wB.heap.size, 0, none⟩) [.string X, .string Y] from .inr ⟨_, rfl, fun j u hu => by
          rw [add_at, Nat.zero_add]
          refine (cell_of_block nC j).trans ?_
          rw [← hu]
          match j with
          | 0 => rfl
          | 1 => rfl
          | j + 2 => rfl⟩)
        have d3B := (cell_of_block (gr_keep GB.out HV.out (by simp)) 3).trans (show _ = some (Value.slice ra k rc) from rfl)
        clear nC gC hvC
        go_upto_region 8 with (refine wpl_appG rfl (.tmp 50) (.tmp 52) 28 rfl (base := W.heap.size) (e := 47) (size := 2) (bytes := 32) Tryz.underlying28 hi0 hz0 hz1 hz2 rfl (by decide) (v := .slice ra k rc) (n := k) (cs := flatF (XS.take k)) (by rfl) OB.out (ad := some ⟨wB.heap.size, 0, none⟩) (m := 1) (c := 1) (news := [.string X, .string Y]) (by rfl) rfl HSRC.out (by simp [Value.oneCell']) (by unfold maxLen; omega) (by omega) HBS.out ?_; intro v8 w8 q2 q3 q4; have STP := hid (RCC.out.step (x := (xa, xb)) (by rw [HA2.out]; omega) (by omega) (by omega) HVC.out OB.out (by rw [HXX.out] at q2; exact q2) q3 HY.out); have hA8 := gr_keep q3 HVC.out (own_ne_fs OB.out HVC.out (by decide)); have b8 := (cell_of_block hA8 3).trans (show _ = some (Value.slice ra k rc) from rfl); have f8 := free_of_block hA8 3; obtain ⟨a8, c8, rfl⟩ := own_shapeG q2; clear q2 q3 q4 hA8)
        clear b8 f8 HSRC
        go_wp2_with fail
        go_roundw
        case rel => exact ⟨k + 1, by go_num, by omega, STP.out⟩
        case measure => simp [intOf]; omega
      have t1 : (X.toList == [115, 105, 100]) = true := by rw [HEQ.out.1, beq_iff_eq]; exact s1
      by_cases s2 : xb = [64]
      rotate_left
      · have t2 : (Y.toList == [64]) = false := by rw [HEQ.out.2, beq_eq_false_iff_ne]; exact s2
        have t3 : ¬ Y.toList = [64] := by rw [HEQ.out.2]; exact s2
        have HY := hid (show XS[k]? = some (xa, xb) by rw [HXS.out, List.getElem?_map, HX.out]; exact congrArg some (if_neg (by rw [HLL.out]; first | (intro h; exact s1 h.1) | (intro h; exact s2 h.2.1) | (intro h; exact h.2.2 s4))))
        try clear s1
        try clear s2
        try clear HEQ
        go_upto_region 7 with fail
        rw [← HWB.out, ← HX7.out]
        clear c0 c1 b0 b0A HP
        have nC := heap_alloc_new wB (.cells #[.string X, .string Y] 47)
        have gC := World.grownBy_alloc wB (.cells #[.string X, .string Y] 47) none
        have RCC := hid (hR.out.grow (gr_trans GB.out gC))
        have hvC := gr_keep (gr_trans GB.out gC) HV.out (by simp)
        have HVC := hid hvC
        have OB := hid (own_growG HOW.out (gr_trans GB.out gC))
        have d3 := (cell_of_block hvC 3).trans (show _ = some (Value.slice ra k rc) from rfl)
        have HBS := hid (Nat.le_trans hR.out.g.size (gr_trans GB.out gC).size)
        have HSRC := hid (show SrcAt (wB.alloc (.cells #[.string X, .string Y] 47)) (some ⟨wB.heap.size, 0, none⟩) [.string X, .string Y] from .inr ⟨_, rfl, fun j u hu => by
          rw [add_at, Nat.zero_add]
          refine (cell_of_block nC j).trans ?_
          rw [← hu]
          match j with
          | 0 => rfl
          | 1 => rfl
          | j + 2 => rfl⟩)
        have d3B := (cell_of_block (gr_keep GB.out HV.out (by simp)) 3).trans (show _ = some (Value.slice ra k rc) from rfl)
        clear nC gC hvC
        go_upto_region 8 with (refine wpl_appG rfl (.tmp 50) (.tmp 52) 28 rfl (base := W.heap.size) (e := 47) (size := 2) (bytes := 32) Tryz.underlying28 hi0 hz0 hz1 hz2 rfl (by decide) (v := .slice ra k rc) (n := k) (cs := flatF (XS.take k)) (by rfl) OB.out (ad := some ⟨wB.heap.size, 0, none⟩) (m := 1) (c := 1) (news := [.string X, .string Y]) (by rfl) rfl HSRC.out (by simp [Value.oneCell']) (by unfold maxLen; omega) (by omega) HBS.out ?_; intro v8 w8 q2 q3 q4; have STP := hid (RCC.out.step (x := (xa, xb)) (by rw [HA2.out]; omega) (by omega) (by omega) HVC.out OB.out (by rw [HXX.out] at q2; exact q2) q3 HY.out); have hA8 := gr_keep q3 HVC.out (own_ne_fs OB.out HVC.out (by decide)); have b8 := (cell_of_block hA8 3).trans (show _ = some (Value.slice ra k rc) from rfl); have f8 := free_of_block hA8 3; obtain ⟨a8, c8, rfl⟩ := own_shapeG q2; clear q2 q3 q4 hA8)
        clear b8 f8 HSRC
        go_wp2_with fail
        go_roundw
        case rel => exact ⟨k + 1, by go_num, by omega, STP.out⟩
        case measure => simp [intOf]; omega
      have t2 : (Y.toList == [64]) = true := by rw [HEQ.out.2, beq_iff_eq]; exact s2
      by_cases s3 : E.length = 0
      · have t4 := decide_eq_false (show ¬ (0 : Int) < (E.length : Int) by omega)
        have t5 : ¬ (0 : Int) < (E.length : Int) := by omega
        have t6 := decide_eq_false (show ¬ 0 < E.length by omega)
        have s4 : E.map (·.1) = [] := by rw [List.eq_nil_of_length_eq_zero s3]; rfl
        clear s3
        have HY := hid (show XS[k]? = some (xa, xb) by rw [HXS.out, List.getElem?_map, HX.out]; exact congrArg some (if_neg (by rw [HLL.out]; first | (intro h; exact s1 h.1) | (intro h; exact s2 h.2.1) | (intro h; exact h.2.2 s4))))
        try clear s1
        try clear s2
        try clear HEQ
        go_upto_region 7 with fail
        rw [← HWB.out, ← HX7.out]
        clear c0 c1 b0 b0A HP
        have nC := heap_alloc_new wB (.cells #[.string X, .string Y] 47)
        have gC := World.grownBy_alloc wB (.cells #[.string X, .string Y] 47) none
        have RCC := hid (hR.out.grow (gr_trans GB.out gC))
        have hvC := gr_keep (gr_trans GB.out gC) HV.out (by simp)
        have HVC := hid hvC
        have OB := hid (own_growG HOW.out (gr_trans GB.out gC))
        have d3 := (cell_of_block hvC 3).trans (show _ = some (Value.slice ra k rc) from rfl)
        have HBS := hid (Nat.le_trans hR.out.g.size (gr_trans GB.out gC).size)
        have HSRC := hid (show SrcAt (wB.alloc (.cells #[.string X, .string Y] 47)) (some ⟨wB.heap.size, 0, none⟩) [.string X, .string Y] from .inr ⟨_, rfl, fun j u hu => by
          rw [add_at, Nat.zero_add]
          refine (cell_of_block nC j).trans ?_
          rw [← hu]
          match j with
          | 0 => rfl
          | 1 => rfl
          | j + 2 => rfl⟩)
        have d3B := (cell_of_block (gr_keep GB.out HV.out (by simp)) 3).trans (show _ = some (Value.slice ra k rc) from rfl)
        clear nC gC hvC
        go_upto_region 8 with (refine wpl_appG rfl (.tmp 50) (.tmp 52) 28 rfl (base := W.heap.size) (e := 47) (size := 2) (bytes := 32) Tryz.underlying28 hi0 hz0 hz1 hz2 rfl (by decide) (v := .slice ra k rc) (n := k) (cs := flatF (XS.take k)) (by rfl) OB.out (ad := some ⟨wB.heap.size, 0, none⟩) (m := 1) (c := 1) (news := [.string X, .string Y]) (by rfl) rfl HSRC.out (by simp [Value.oneCell']) (by unfold maxLen; omega) (by omega) HBS.out ?_; intro v8 w8 q2 q3 q4; have STP := hid (RCC.out.step (x := (xa, xb)) (by rw [HA2.out]; omega) (by omega) (by omega) HVC.out OB.out (by rw [HXX.out] at q2; exact q2) q3 HY.out); have hA8 := gr_keep q3 HVC.out (own_ne_fs OB.out HVC.out (by decide)); have b8 := (cell_of_block hA8 3).trans (show _ = some (Value.slice ra k rc) from rfl); have f8 := free_of_block hA8 3; obtain ⟨a8, c8, rfl⟩ := own_shapeG q2; clear q2 q3 q4 hA8)
        clear b8 f8 HSRC
        go_wp2_with fail
        go_roundw
        case rel => exact ⟨k + 1, by go_num, by omega, STP.out⟩
        case measure => simp [intOf]; omega
      have t4 := decide_eq_true (show (0 : Int) < (E.length : Int) by omega)
      have t5 : (0 : Int) < (E.length : Int) := by omega
      have t6 := decide_eq_true (show 0 < E.length by omega)
      obtain ⟨pi, hpi⟩ : ∃ pi, pi = M % E.length := ⟨_, rfl⟩
      have hpl : pi < E.length := by rw [hpi]; exact Nat.mod_lt _ (by omega)
      have HTM := hid (show (M : Int).tmod (E.length : Int) = (pi : Int) by rw [Int.tmod_eq_emod_of_nonneg (by omega), hpi]; omega)
      have HN0 := hid (show ¬ (E.length : Int) = 0 by omega)
      have HNE := hid (show ¬ E = [] from fun h => s3 (by rw [h]; rfl))
      have HPL := hid (show (pi : Int) < (E.length : Int) by omega)
      obtain ⟨e, hek⟩ : ∃ e, E[pi]? = some e := ⟨_, List.getElem?_eq_getElem hpl⟩
      obtain ⟨g0, rfl, -, -, hcell⟩ := HCC.out pi e hek
      have q0 := GB.out.cell ((hcell 0 (by omega)).trans (show _ = some (str e.1.sid) from rfl)) (by simp)
      unfold str at q0
      rw [Nat.add_zero] at q0
      obtain ⟨sd, hsd⟩ : ∃ sd, sd = e.1.sid := ⟨_, rfl⟩
      rw [← hsd] at q0
      have HY := hid (show XS[k]? = some (xa, sd) by
        rw [HXS.out, List.getElem?_map, HX.out]
        refine congrArg some ((if_pos ⟨s1, s2, ?_⟩).trans ?_)
        rotate_left
        · rw [HLL.out]; intro h; have := congrArg List.length h; rw [List.length_map] at this; exact s3 this
        · have hl : L.length = E.length := by rw [HLL.out, List.length_map]
          have hp : pickN pk L.length = pi := by unfold pickN; rw [hl, ← HMM.out, hpi]
          show (xa, sidAt L (pickN pk L.length)) = (xa, sd)
          rw [hp]
          unfold sidAt
          rw [HLL.out, List.getElem?_map, hek, hsd]
          rfl)
      have HNPI := hid hpi
      have p1 := GB.out.cell p1 (by simp)
      have f1 := free_of_block NB.out 1
      have b0B := GB.out.cell b0 (by simp)
      clear hcell hek hsd hpi hpl s1 s2 s3 HEQ
      go_upto_region 6 with fail
      rw [← HWB.out, ← HX7.out]
      obtain ⟨w0, hw0⟩ : ∃ w0, w0 = wB := ⟨_, rfl⟩
      rw [← hw0] at z0 z1 q0 p1 f1 b0B GB NB ⊢
      clear hw0 c0 c1 b0 b0A HP HWB
      have b0 := b0B
      refine wp_region_spec3 17 18 none (by kernel_rfl) (by kernel_rfl) (by kernel_rfl) (by kernel_rfl) (by kernel_rfl) (by kernel_rfl) [some 32, some 33, some 34, some 35, some 36, some 37, some 38, some 39, some 40, some 41, some 42, some 43, some 44, some 45, some 46, some 47, some 48] (by kernel_rfl) _ (fun u => (by simp only [fill, List.zipIdx_cons, List.zipIdx_nil, List.foldl_cons, List.foldl_nil, Act.put, List.setIfInBounds_toArray, List.set_cons_zero, List.set_cons_succ, Nat.zero_add, Nat.reduceAdd]; exact rfl)) (by kernel_rfl)
        (all_succ (all_succ (all_succ (all_succ (all_succ (all_succ (all_succ (all_succ (all_succ (all_succ (all_succ (all_succ (all_succ (all_succ (all_succ (all_succ (all_succ (all_zero _) (fun u v => by kernel_rfl)) (fun u v => by kernel_rfl)) (fun u v => by kernel_rfl)) (fun u v => by kernel_rfl)) (fun u v => by kernel_rfl)) (fun u v => by kernel_rfl)) (fun u v => by kernel_rfl)) (fun u v => by kernel_rfl)) (fun u v => by kernel_rfl)) (fun u v => by kernel_rfl)) (fun u v => by kernel_rfl)) (fun u v => by kernel_rfl)) (fun u v => by kernel_rfl)) (fun u v => by kernel_rfl)) (fun u v => by kernel_rfl)) (fun u v => by kernel_rfl)) (fun u v => by kernel_rfl))
        (fun ri v w => match ri with | 0 => v = .pointer (some ⟨C, 0, none⟩) | 1 => v = .pointer (some ⟨C, 0, none⟩) | 2 => v = .pointer (some ⟨C, 0, none⟩) | 3 => v = .slice (some ⟨g0, 0, none⟩) E.length cap | 4 => v = .pointer (some ⟨A2, 1, none⟩) | 5 => v = .int .i64 pk | 6 => v = .int .i64 (M : Int) | 7 => v = .pointer (some ⟨C, 0, none⟩) | 8 => v = .pointer (some ⟨C, 0, none⟩) | 9 => v = .pointer (some ⟨C, 0, none⟩) | 10 => v = .slice (some ⟨g0, 0, none⟩) E.length cap | 11 => v = .int .i64 (E.length : Int) | 12 => v = .int .i64 (pi : Int) | 13 => v = .pointer (some ⟨g0, pi * 9, none⟩) | 14 => v = .pointer (some ⟨g0, pi * 9, none⟩) | 15 => v = .string ⟨sd.toArray⟩ | 16 => v = .pointer (some ⟨X7, 1, none⟩) | _ => True)
        (all_succ (all_succ (all_succ (all_succ (all_succ (all_succ (all_succ (all_succ (all_succ (all_succ (all_succ (all_succ (all_succ (all_succ (all_succ (all_succ (all_succ (all_zero _) ?qm0) ?qm1) ?qm2) ?qm3) ?qm4) ?qm5) ?qm6) ?qm7) ?qm8) ?qm9) ?qm10) ?qm11) ?qm12) ?qm13) ?qm14) ?qm15) ?qm16)
        [[], [0], [1], [2], [], [4], [5], [], [7], [8], [9], [10], [6, 11], [3, 12], [13], [14], []] (by kernel_rfl)
        ⟨?qo0, ?qo1, ?qo2, ?qo3, ?qo4, ?qo5, ?qo6, ?qo7, ?qo8, ?qo9, ?qo10, ?qo11, ?qo12, ?qo13, ?qo14, ?qo15, ?qo16, trivial⟩ ?qdone
      case qm0 => intro v w w' h g; exact h
      case qm1 => intro v w w' h g; exact h
      case qm2 => intro v w w' h g; exact h
      case qm3 => intro v w w' h g; exact h
      case qm4 => intro v w w' h g; exact h
      case qm5 => intro v w w' h g; exact h
      case qm6 => intro v w w' h g; exact h
      case qm7 => intro v w w' h g; exact h
      case qm8 => intro v w w' h g; exact h
      case qm9 => intro v w w' h g; exact h
      case qm10 => intro v w w' h g; exact h
      case qm11 => intro v w w' h g; exact h
      case qm12 => intro v w w' h g; exact h
      case qm13 => intro v w w' h g; exact h
      case qm14 => intro v w w' h g; exact h
      case qm15 => intro v w w' h g; exact h
      case qm16 => intro v w w' h g; exact h
      case qo0 =>
        intro u w g hd K hK
        replace g : w0.grownBy w (none) := g
        clear hd
        simp only [Act.put, List.setIfInBounds_toArray, List.set_cons_zero, List.set_cons_succ] at hK
        go_simp
        exact hK _ _ rfl (gr_refl _ _)
      case qo1 =>
        intro u w g hd K hK
        replace g : w0.grownBy w (none) := g
        have h0 : (u 0) = .pointer (some ⟨C, 0, none⟩) := hd 0 (by simp)
        clear hd
        simp only [Act.put, List.setIfInBounds_toArray, List.set_cons_zero, List.set_cons_succ] at hK
        simp only [h0] at hK ⊢
        go_simp
        exact hK _ _ rfl (gr_refl _ _)
      case qo2 =>
        intro u w g hd K hK
        replace g : w0.grownBy w (none) := g
        have h1 : (u 1) = .pointer (some ⟨C, 0, none⟩) := hd 1 (by simp)
        clear hd
        simp only [Act.put, List.setIfInBounds_toArray, List.set_cons_zero, List.set_cons_succ] at hK
        simp only [h1] at hK ⊢
        go_simp
        exact hK _ _ rfl (gr_refl _ _)
      case qo3 =>
        intro u w g hd K hK
        replace g : w0.grownBy w (none) := g
        have h2 : (u 2) = .pointer (some ⟨C, 0, none⟩) := hd 2 (by simp)
        clear hd
        simp only [Act.put, List.setIfInBounds_toArray, List.set_cons_zero, List.set_cons_succ] at hK
        have c := g.cell b0 (by simp)
        simp only [h2] at hK ⊢
        go_simp
        exact hK _ _ rfl (gr_refl _ _)
      case qo4 =>
        intro u w g hd K hK
        replace g : w0.grownBy w (none) := g
        clear hd
        simp only [Act.put, List.setIfInBounds_toArray, List.set_cons_zero, List.set_cons_succ] at hK
        go_simp
        exact hK _ _ rfl (gr_refl _ _)
      case qo5 =>
        intro u w g hd K hK
        replace g : w0.grownBy w (none) := g
        have h4 : (u 4) = .pointer (some ⟨A2, 1, none⟩) := hd 4 (by simp)
        clear hd
        simp only [Act.put, List.setIfInBounds_toArray, List.set_cons_zero, List.set_cons_succ] at hK
        have c := g.cell p1 (by simp)
        simp only [h4] at hK ⊢
        go_simp
        exact hK _ _ rfl (gr_refl _ _)
      case qo6 =>
        intro u w g hd K hK
        replace g : w0.grownBy w (none) := g
        have h5 : (u 5) = .int .i64 pk := hd 5 (by simp)
        clear hd
        simp only [Act.put, List.setIfInBounds_toArray, List.set_cons_zero, List.set_cons_succ] at hK
        simp only [h5] at hK ⊢
        go_simp
        first | exact hK _ _ rfl (gr_refl _ _) | (rw [HMA.out]; exact hK _ _ rfl (gr_refl _ _))
      case qo7 =>
        intro u w g hd K hK
        replace g : w0.grownBy w (none) := g
        clear hd
        simp only [Act.put, List.setIfInBounds_toArray, List.set_cons_zero, List.set_cons_succ] at hK
        go_simp
        exact hK _ _ rfl (gr_refl _ _)
      case qo8 =>
        intro u w g hd K hK
        replace g : w0.grownBy w (none) := g
        have h7 : (u 7) = .pointer (some ⟨C, 0, none⟩) := hd 7 (by simp)
        clear hd
        simp only [Act.put, List.setIfInBounds_toArray, List.set_cons_zero, List.set_cons_succ] at hK
        simp only [h7] at hK ⊢
        go_simp
        exact hK _ _ rfl (gr_refl _ _)
      case qo9 =>
        intro u w g hd K hK
        replace g : w0.grownBy w (none) := g
        have h8 : (u 8) = .pointer (some ⟨C, 0, none⟩) := hd 8 (by simp)
        clear hd
        simp only [Act.put, List.setIfInBounds_toArray, List.set_cons_zero, List.set_cons_succ] at hK
        simp only [h8] at hK ⊢
        go_simp
        exact hK _ _ rfl (gr_refl _ _)
      case qo10 =>
        intro u w g hd K hK
        replace g : w0.grownBy w (none) := g
        have h9 : (u 9) = .pointer (some ⟨C, 0, none⟩) := hd 9 (by simp)
        clear hd
        simp only [Act.put, List.setIfInBounds_toArray, List.set_cons_zero, List.set_cons_succ] at hK
        have c := g.cell b0 (by simp)
        simp only [h9] at hK ⊢
        go_simp
        exact hK _ _ rfl (gr_refl _ _)
      case qo11 =>
        intro u w g hd K hK
        replace g : w0.grownBy w (none) := g
        have h10 : (u 10) = .slice (some ⟨g0, 0, none⟩) E.length cap := hd 10 (by simp)
        clear hd
        simp only [Act.put, List.setIfInBounds_toArray, List.set_cons_zero, List.set_cons_succ] at hK
        simp only [h10] at hK ⊢
        go_simp
        exact hK _ _ rfl (gr_refl _ _)
      case qo12 =>
        intro u w g hd K hK
        replace g : w0.grownBy w (none) := g
        have h6 : (u 6) = .int .i64 (M : Int) := hd 6 (by simp)
        have h11 : (u 11) = .int .i64 (E.length : Int) := hd 11 (by simp)
        clear hd
        simp only [Act.put, List.setIfInBounds_toArray, List.set_cons_zero, List.set_cons_succ] at hK
        have hn0 := HN0.out
        have hn1 := HNE.out
        simp only [h6, h11] at hK ⊢
        go_simp
        first | exact hK _ _ rfl (gr_refl _ _) | (rw [HTM.out]; exact hK _ _ rfl (gr_refl _ _)) | (simp only [HTM.out]; go_simp; exact hK _ _ rfl (gr_refl _ _))
      case qo13 =>
        intro u w g hd K hK
        replace g : w0.grownBy w (none) := g
        have h3 : (u 3) = .slice (some ⟨g0, 0, none⟩) E.length cap := hd 3 (by simp)
        have h12 : (u 12) = .int .i64 (pi : Int) := hd 12 (by simp)
        clear hd
        simp only [Act.put, List.setIfInBounds_toArray, List.set_cons_zero, List.set_cons_succ] at hK
        have hpl := HPL.out
        simp only [h3, h12] at hK ⊢
        go_simp
        exact hK _ _ rfl (gr_refl _ _)
      case qo14 =>
        intro u w g hd K hK
        replace g : w0.grownBy w (none) := g
        have h13 : (u 13) = .pointer (some ⟨g0, pi * 9, none⟩) := hd 13 (by simp)
        clear hd
        simp only [Act.put, List.setIfInBounds_toArray, List.set_cons_zero, List.set_cons_succ] at hK
        simp only [h13] at hK ⊢
        go_simp
        exact hK _ _ rfl (gr_refl _ _)
      case qo15 =>
        intro u w g hd K hK
        replace g : w0.grownBy w (none) := g
        have h14 : (u 14) = .pointer (some ⟨g0, pi * 9, none⟩) := hd 14 (by simp)
        clear hd
        simp only [Act.put, List.setIfInBounds_toArray, List.set_cons_zero, List.set_cons_succ] at hK
        have c := g.cell q0 (by simp)
        simp only [h14] at hK ⊢
        go_simp
        exact hK _ _ rfl (gr_refl _ _)
      case qo16 =>
        intro u w g hd K hK
        replace g : w0.grownBy w (none) := g
        clear hd
        simp only [Act.put, List.setIfInBounds_toArray, List.set_cons_zero, List.set_cons_succ] at hK
        go_simp
        exact hK _ _ rfl (gr_refl _ _)
      intro u w hS g
      have s0 : (u 0) = .pointer (some ⟨C, 0, none⟩) := hS 0 (by decide)
      have s1 : (u 1) = .pointer (some ⟨C, 0, none⟩) := hS 1 (by decide)
      have s2 : (u 2) = .pointer (some ⟨C, 0, none⟩) := hS 2 (by decide)
      have s3 : (u 3) = .slice (some ⟨g0, 0, none⟩) E.length cap := hS 3 (by decide)
      have s4 : (u 4) = .pointer (some ⟨A2, 1, none⟩) := hS 4 (by decide)
      have s5 : (u 5) = .int .i64 pk := hS 5 (by decide)
      have s6 : (u 6) = .int .i64 (M : Int) := hS 6 (by decide)
      have s7 : (u 7) = .pointer (some ⟨C, 0, none⟩) := hS 7 (by decide)
      have s8 : (u 8) = .pointer (some ⟨C, 0, none⟩) := hS 8 (by decide)
      have s9 : (u 9) = .pointer (some ⟨C, 0, none⟩) := hS 9 (by decide)
      have s10 : (u 10) = .slice (some ⟨g0, 0, none⟩) E.length cap := hS 10 (by decide)
      have s11 : (u 11) = .int .i64 (E.length : Int) := hS 11 (by decide)
      have s12 : (u 12) = .int .i64 (pi : Int) := hS 12 (by decide)
      have s13 : (u 13) = .pointer (some ⟨g0, pi * 9, none⟩) := hS 13 (by decide)
      have s14 : (u 14) = .pointer (some ⟨g0, pi * 9, none⟩) := hS 14 (by decide)
      have s15 : (u 15) = .string ⟨sd.toArray⟩ := hS 15 (by decide)
      have s16 : (u 16) = .pointer (some ⟨X7, 1, none⟩) := hS 16 (by decide)
      clear hS
      replace g : w0.grownBy w none := g
      change wpList _ _ _ [_] _ _
      have GY := hid g
      have T15 := hid s15
      have T16 := hid s16
      clear s0 s1 s2 s3 s4 s5 s6 s7 s8 s9 s10 s11 s12 s13 s14 s15 s16 g
      generalize u 0 = y0 at *
      generalize u 1 = y1 at *
      generalize u 2 = y2 at *
      generalize u 3 = y3 at *
      generalize u 4 = y4 at *
      generalize u 5 = y5 at *
      generalize u 6 = y6 at *
      generalize u 7 = y7 at *
      generalize u 8 = y8 at *
      generalize u 9 = y9 at *
      generalize u 10 = y10 at *
      generalize u 11 = y11 at *
      generalize u 12 = y12 at *
      generalize u 13 = y13 at *
      generalize u 14 = y14 at *
      generalize u 15 = y15 at *
      generalize u 16 = y16 at *
      obtain rfl := T15.out
      obtain rfl := T16.out
      have NB2 := gr_keep GY.out NB.out (by simp)
      have z1 := GY.out.cell z1 (by simp)
      have f1 := free_of_block NB2 1
      clear p1 b0B b0
      go_upto_region 7 with fail
      obtain ⟨wB, hwB⟩ : ∃ wB, wB = w.setCell ⟨X7, 1, none⟩ (.string ⟨sd.toArray⟩) := ⟨_, rfl⟩
      have NB3 : wB.heap[X7]? = some (.cells #[.string X, .string ⟨sd.toArray⟩] 47 (0, 0)) := by rw [hwB]; exact heap_set NB2
      have GB := hid (show wr.grownBy wB none by rw [hwB]; exact gr_set_new (gr_trans GB.out GY.out) (by rw [HX7.out]; exact Nat.le_refl _))
      have HXX := hid (show ([.string X, .string ⟨sd.toArray⟩] : List Value) = [str xa, str sd] by rw [HXA.out]; rfl)
      rw [← hwB]
      clear hwB NB2 z0 z1 f1 q0 NB GY HNE
      have z0 := (cell_of_block NB3 0).trans (show _ = some (Value.string X) from rfl)
      have z1 := (cell_of_block NB3 1).trans (show _ = some (Value.string ⟨sd.toArray⟩) from rfl)
      clear NB3
      have nC := heap_alloc_new wB (.cells #[.string X, .string ⟨sd.toArray⟩] 47)
      have gC := World.grownBy_alloc wB (.cells #[.string X, .string ⟨sd.toArray⟩] 47) none
      have RCC := hid (hR.out.grow (gr_trans GB.out gC))
      have hvC := gr_keep (gr_trans GB.out gC) HV.out (by simp)
      have HVC := hid hvC
      have OB := hid (own_growG HOW.out (gr_trans GB.out gC))
      have d3 := (cell_of_block hvC 3).trans (show _ = some (Value.slice ra k rc) from rfl)
      have HBS := hid (Nat.le_trans hR.out.g.size (gr_trans GB.out gC).size)
      have HSRC := hid (show SrcAt (wB.alloc (.cells #[.string X, .string ⟨sd.toArray⟩] 47)) (some ⟨wB.heap.size, 0, none⟩) [.string X, .string ⟨sd.toArray⟩] from .inr ⟨_, rfl, fun j u hu => by
        rw [add_at, Nat.zero_add]
        refine (cell_of_block nC j).trans ?_
        rw [← hu]
        match j with
        | 0 => rfl
        | 1 => rfl
        | j + 2 => rfl⟩)
      have d3B := (cell_of_block (gr_keep GB.out HV.out (by simp)) 3).trans (show _ = some (Value.slice ra k rc) from rfl)
      clear nC gC hvC
      go_upto_region 8 with (refine wpl_appG rfl (.tmp 50) (.tmp 52) 28 rfl (base := W.heap.size) (e := 47) (size := 2) (bytes := 32) Tryz.underlying28 hi0 hz0 hz1 hz2 rfl (by decide) (v := .slice ra k rc) (n := k) (cs := flatF (XS.take k)) (by rfl) OB.out (ad := some ⟨wB.heap.size, 0, none⟩) (m := 1) (c := 1) (news := [.string X, .string ⟨sd.toArray⟩]) (by rfl) rfl HSRC.out (by simp [Value.oneCell']) (by unfold maxLen; omega) (by omega) HBS.out ?_; intro v8 w8 q2 q3 q4; have STP := hid (RCC.out.step (x := (xa, sd)) (by rw [HA2.out]; omega) (by omega) (by omega) HVC.out OB.out (by rw [HXX.out] at q2; exact q2) q3 HY.out); have hA8 := gr_keep q3 HVC.out (own_ne_fs OB.out HVC.out (by decide)); have b8 := (cell_of_block hA8 3).trans (show _ = some (Value.slice ra k rc) from rfl); have f8 := free_of_block hA8 3; obtain ⟨a8, c8, rfl⟩ := own_shapeG q2; clear q2 q3 q4 hA8)
      clear b8 f8 HSRC
      go_wp2_with fail
      go_roundw
      case rel => exact ⟨k + 1, by go_num, by omega, STP.out⟩
      case measure => simp [intOf]; omega
end Go.Proofs.YtfceodbpkghkaaaGreatDoor
