/- The law's call: at both sides alike. -/
import Derived.Test.YtfceodbpkghkaaaGreatDoorML
namespace Go.Proofs.YtfceodbpkghkaaaGreatDoor
open Go.RowKit
set_option linter.unusedVariables false
set_option linter.unusedSimpArgs false

/-- What a call leaves: the same at both sides. -/
def CaP (N B C : Nat) (L : List Sb) (w : World) (e : Ending) (w' : World) : Prop :=
  e = .returned (.bool true) ∧ ∃ L' most', PAll w' N (fun _ => True) B L' most' ∧ RAll w' N (fun _ => True) C L' most' ∧ KT TA N w w' ∧ OkL L' ∧ L'.length ≤ L.length + 1
theorem i64_and7 (n : Int) : ∃ k : Nat, bits .and .i64 n 7 = (k : Int) ∧ k < 8 := by
  have h := i64_andm2 n 3 7 (by decide) (by decide)
  refine ⟨(n % 8).toNat, ?_, by omega⟩
  have h2 : bits .and .i64 n 7 = n % 8 := by simpa using h
  rw [h2]; omega
theorem i64_and3 (n : Int) : ∃ k : Nat, bits .and .i64 n 3 = (k : Int) ∧ k < 4 := by
  have h := i64_andm2 n 2 3 (by decide) (by decide)
  refine ⟨(n % 4).toNat, ?_, by omega⟩
  have h2 : bits .and .i64 n 3 = n % 4 := by simpa using h
  rw [h2]; omega
theorem exp_mapP {D : List (Nat × Sb)} {L : List Sb} (h : D.map (·.2) = L) (now : Nat) : (D.filter fun e => decide (now < e.2.ends)).map (·.2) = expireL L now := by
  rw [← h]; unfold expireL; rw [List.filter_map]; rfl
theorem exp_mapR (E : List Sv) (now : Nat) : (E.filter fun e => decide (now < e.1.ends)).map (·.1) = expireL (E.map (·.1)) now := by
  unfold expireL; rw [List.filter_map]; rfl
theorem drop_mapP {D : List (Nat × Sb)} {L : List Sb} (h : D.map (·.2) = L) (m : Nat) (p : Nat → Bool) : ((D.filter fun e => p e.2.host).take m).map (·.2) = dropL L m p := by
  rw [← h]; unfold dropL; rw [List.map_take, List.filter_map]; rfl
theorem drop_mapR (E : List Sv) (m : Nat) (p : Nat → Bool) : (dropT m (fun e => p e.1.host) E).map (·.1) = dropL (E.map (·.1)) m p := by
  unfold dropL dropT; rw [List.map_take, List.filter_map]; rfl
set_option maxRecDepth 20000 in
set_option maxHeartbeats 4000000 in
theorem call_x (N B C : Nat) (D : List (Nat × Sb)) (E : List Sv) (most : Nat) (W : World) (hWN : W.heap.size = N) (o : Og) (fv vv hv : Value) (hoW : OpAt W o fv vv hv) (hs : SmO o) (now n : Nat) (hnow : now < 18446744073709551616) (hn : n < 18446744073709551616) (mc : Int) (w : World) (hg : W.grownBy w none)
    (hp : PAt w N (fun _ => True) B D most) (hr : RAt w N (fun _ => True) C E most) (hL : D.map (·.2) = E.map (·.1)) (hok : OkL (E.map (·.1))) (hlen : E.length ≤ 100) (htb : Tabs N mc w) :
    Calls Tryz.prog 22 #[.pointer (some ⟨B, 0, none⟩), .pointer (some ⟨C, 0, none⟩), .agg #[.int .i64 o.kind, .int .i64 o.pick, .int .i64 o.most, .int .u64 o.tick, .int .u32 (o.who : Int), fv, vv, hv], .int .u64 (now : Int), .int .u64 (n : Int)] w (CaP N B C (E.map (·.1)) w) := by
  have hDE : D.length = E.length := by have := congrArg List.length hL; simpa using this
  obtain ⟨kd, pk, mo, tk, who, fs, vars, hs'⟩ := o
  have HOW := hid hoW
  obtain ⟨fa, fc, rfl, -⟩ := hoW.fs
  obtain ⟨va, vc, rfl, -⟩ := hoW.vars
  obtain ⟨ha, hc, rfl, -⟩ := hoW.hs
  show Calls _ _ #[.pointer (some ⟨B, 0, none⟩), .pointer (some ⟨C, 0, none⟩), .agg #[.int .i64 kd, .int .i64 pk, .int .i64 mo, .int .u64 tk, .int .u32 (who : Int), .slice fa fs.length fc, .slice va vars.length vc, .slice ha hs'.length hc], .int .u64 (now : Int), .int .u64 (n : Int)] w _
  have n1 := heap_alloc_new w (.cells #[.int .i64 kd, .int .i64 pk, .int .i64 mo, .int .u64 tk, .int .u32 (who : Int), .slice fa fs.length fc, .slice va vars.length vc, .slice ha hs'.length hc] 31)
  have g1 := World.grownBy_alloc w (.cells #[.int .i64 kd, .int .i64 pk, .int .i64 mo, .int .u64 tk, .int .u32 (who : Int), .slice fa fs.length fc, .slice va vars.length vc, .slice ha hs'.length hc] 31) none
  obtain ⟨w1, hw1⟩ : ∃ w1, w1 = w.alloc (.cells #[.int .i64 kd, .int .i64 pk, .int .i64 mo, .int .u64 tk, .int .u32 (who : Int), .slice fa fs.length fc, .slice va vars.length vc, .slice ha hs'.length hc] 31) := ⟨_, rfl⟩
  rw [← hw1] at n1 g1
  obtain ⟨A, hA⟩ : ∃ A, A = w.heap.size := ⟨_, rfl⟩
  rw [← hA] at n1
  have HW1 := hid hw1
  have HAA := hid hA
  have GW1 := hid (gr_trans hg g1)
  have HREQ := hid (request_x N (fun _ => True) C E most ⟨kd, pk, mo, tk, who, fs, vars, hs'⟩ _ _ _ w1 (hr.grow g1) (by omega) (HOW.out.grown GW1.out) hs)
  have k0 := (cell_of_block n1 0).trans (show _ = some (Value.int .i64 kd) from rfl)
  have k1 := (cell_of_block n1 1).trans (show _ = some (Value.int .i64 pk) from rfl)
  have k2 := (cell_of_block n1 2).trans (show _ = some (Value.int .i64 mo) from rfl)
  have k3 := (cell_of_block n1 3).trans (show _ = some (Value.int .u64 tk) from rfl)
  have k4 := (cell_of_block n1 4).trans (show _ = some (Value.int .u32 (who : Int)) from rfl)
  have k5 := (cell_of_block n1 5).trans (show _ = some (Value.slice fa fs.length fc) from rfl)
  have k6 := (cell_of_block n1 6).trans (show _ = some (Value.slice va vars.length vc) from rfl)
  have k7 := (cell_of_block n1 7).trans (show _ = some (Value.slice ha hs'.length hc) from rfl)
  obtain ⟨XS, hXS⟩ : ∃ XS, XS = reqL ⟨kd, pk, mo, tk, who, fs, vars, hs'⟩ (E.map (·.1)) := ⟨_, rfl⟩
  have HXV := hid (show ∀ f ∈ XS, f.2.length ≤ 2000 by rw [hXS]; exact reqL_val hs hok)
  have HXL := hid (show XS.length ≤ 100000 by rw [hXS, reqL_len]; have := hs.fn; simp only at this ⊢; omega)
  rw [← hXS] at HREQ
  have HN1 := hid n1
  have HP := hid hp
  have HR := hid hr
  have HLL := hid hL
  have HOK := hid hok
  have HTB := hid htb
  have HG := hid hg
  have HSM := hid hs
  have HNN := hid (And.intro hnow hn)
  have HDE := hid hDE
  have G1 := hid g1
  have HWN := hid hWN
  clear hw1 hA hXS n1 hp hr hL hok htb hg hs hnow hn hDE g1 hoW hWN
  go_enter Tryz.func22, Tryz.ntmps22
  go_wp2_with fail
  rw [← HW1.out, ← HAA.out]
  clear HW1 HAA
  refine HREQ.out.mono ?_
  rintro e w2 ⟨rv, rfl, hfs, g2⟩
  obtain ⟨ra, rc, rfl⟩ := hfs.shape
  have HFS := hid hfs
  have G2 := hid (gr_trans G1.out g2)
  have HN2 := hid (gr_keep g2 HN1.out (by simp))
  have nR := heap_alloc_new w2 (.cells #[.string ⟨#[]⟩, .string ⟨#[]⟩, .int .i64 0, .slice ra XS.length rc, .slice none 0 0, .bool false] 49)
  have gR := World.grownBy_alloc w2 (.cells #[.string ⟨#[]⟩, .string ⟨#[]⟩, .int .i64 0, .slice ra XS.length rc, .slice none 0 0, .bool false] 49) none
  obtain ⟨w3, hw3⟩ : ∃ w3, w3 = w2.alloc (.cells #[.string ⟨#[]⟩, .string ⟨#[]⟩, .int .i64 0, .slice ra XS.length rc, .slice none 0 0, .bool false] 49) := ⟨_, rfl⟩
  obtain ⟨A2, hA2⟩ : ∃ A2, A2 = w2.heap.size := ⟨_, rfl⟩
  rw [← hw3] at nR gR
  rw [← hA2] at nR
  have HW3 := hid hw3
  have HA2 := hid hA2
  have HNR := hid nR
  have HN3 := hid (gr_keep gR HN2.out (by simp))
  have G3 := hid (gr_trans G2.out gR)
  have HFS3 := hid (HFS.out.grow gR)
  obtain ⟨a, cap, hB, -, hcap, -, hcc⟩ := (HR.out.grow G3.out).parts
  have cs3 := (cell_of_block hB 0).trans (show _ = some (Value.slice a E.length cap) from rfl)
  rw [hw3] at cs3
  have HCC := hid hcc
  clear HREQ hfs g2 k0 k1 k2 k3 k4 k5 k6 k7 HN1 nR gR hw3 hA2 hB hcc HFS HN2 G2 G1 GW1
  go_upto_if 31 with fail
  rw [← HW3.out, ← HA2.out]
  rw [← HW3.out] at cs3
  clear HW3 HA2
  go_cut [12] (fun v12 wx => ∃ SD : Gs, v12 = .string ⟨SD.toArray⟩ ∧ w3.grownBy wx none)
  case first =>
    by_cases s3 : E.length = 0
    · have t4 := decide_eq_false (show ¬ (0 : Int) < (E.length : Int) by omega)
      have t5 : ¬ (0 : Int) < (E.length : Int) := by omega
      have t6 := decide_eq_false (show ¬ 0 < E.length by omega)
      clear HCC
      go_wp2_with fail
      go_meet
      exact ⟨[120], rfl, gr_refl _ _⟩
    · have t4 := decide_eq_true (show (0 : Int) < (E.length : Int) by omega)
      have t5 : (0 : Int) < (E.length : Int) := by omega
      have t6 := decide_eq_true (show 0 < E.length by omega)
      have hma := i64_and16 pk
      obtain ⟨M, hM⟩ : ∃ M, M = (pk % 65536).toNat := ⟨_, rfl⟩
      rw [← hM] at hma
      obtain ⟨pi, hpi⟩ : ∃ pi, pi = M % E.length := ⟨_, rfl⟩
      have hpl : pi < E.length := by rw [hpi]; exact Nat.mod_lt _ (by omega)
      have htm : (M : Int).tmod (E.length : Int) = (pi : Int) := by rw [Int.tmod_eq_emod_of_nonneg (by omega), hpi]; omega
      have hn1 : ¬ E = [] := fun h => s3 (by rw [h]; rfl)
      have hn0 : ¬ (E.length : Int) = 0 := by omega
      have hpl2 : (pi : Int) < (E.length : Int) := by omega
      obtain ⟨e, hek⟩ : ∃ e, E[pi]? = some e := ⟨_, List.getElem?_eq_getElem hpl⟩
      obtain ⟨g0, rfl, -, -, hcell⟩ := HCC.out pi e hek
      have q0 := (hcell 0 (by omega)).trans (show _ = some (str e.1.sid) from rfl)
      unfold str at q0
      rw [Nat.add_zero] at q0
      obtain ⟨sd, hsd⟩ : ∃ sd, sd = e.1.sid := ⟨_, rfl⟩
      rw [← hsd] at q0
      have k1 := (cell_of_block HN3.out 1).trans (show _ = some (Value.int .i64 pk) from rfl)
      clear hcell hek hsd hpi hpl s3 hM HCC
      go_wp2_with fail
      go_quiet (fail)
      go_wp2_with fail
      go_meet
      exact ⟨sd, rfl, by (repeat (first | exact gr_refl _ _ | assumption | refine gr_drew ?_ | refine gr_drewN _ ?_ | refine gr_alloc ?_ _ | refine gr_set ?_ | refine gr_set_new ?_ (by first | omega | (simp; omega))))⟩
  case rest =>
    obtain ⟨SD, rfl, gc⟩ := hcut
    have GC := hid (gr_trans G3.out gc)
    have HFC := hid (HFS3.out.grow gc)
    have HNC := hid (gr_keep gc HN3.out (by simp))
    have HRC := hid (gr_keep gc HNR.out (by simp))
    have PC := hid (HP.out.grow GC.out)
    have RC := hid (HR.out.grow GC.out)
    have TC := hid (HTB.out.grow GC.out)
    have GWC := hid (gr_trans HG.out GC.out)
    clear gc HFS3 HN3 HNR cs3 HCC G3 HP HR HTB HG
    have k0 := (cell_of_block HNC.out 0).trans (show _ = some (Value.int .i64 kd) from rfl)
    obtain ⟨kk, hkk, hk8⟩ := i64_and7 kd
    go_upto_region 9 with fail
    clear k0 hkk
    rcases (by omega : kk = 0 ∨ kk = 1 ∨ kk = 2 ∨ kk = 3 ∨ kk = 4 ∨ kk = 5 ∨ kk = 6 ∨ kk = 7) with rfl | rfl | rfl | rfl | rfl | rfl | rfl | rfl
    · have EX := hid (expire_x N (fun _ => True) B D most now wc PC.out)
      go_wp2_with fail
      refine EX.out.mono ?_
      rintro e w5 ⟨rfl, hP5, hk5⟩
      have P5 := hid hP5
      have K5 := hid hk5
      have RX := hid (rexpire_x N (fun _ => True) C E most now w5 (RC.out.kt (fun _ h => h) hk5) (by omega))
      clear hP5 hk5 EX
      go_wp2_with fail
      refine RX.out.mono ?_
      rintro e w6 ⟨rfl, hR6, hk6⟩
      have FIN := hid (show CaP N B C (E.map (·.1)) w (.returned (.bool true)) w6 from ⟨rfl, expireL (E.map (·.1)) now, most, ⟨_, exp_mapP HLL.out now, P5.out.kt (fun _ h => h) hk6⟩, ⟨_, exp_mapR E now, hR6⟩, ((KT.of_none (T := TA) (N := N) GC.out).trans (K5.out.mono tp_ta)).trans (hk6.mono tr_ta), (ok_expire HOK.out now).1, (ok_expire HOK.out now).2⟩)
      clear hR6 hk6 RX
      go_wp2
      go_ret
      exact FIN.out
    · obtain ⟨UR, hUR⟩ : ∃ UR, UR = unsubL (E.map (·.1)) XS who := ⟨_, rfl⟩
      have OKU := hid (show OkL UR.1 ∧ UR.1.length ≤ (E.map (·.1)).length + 1 by rw [hUR]; exact ok_unsub HOK.out XS who)
      have UN1 := hid (fun (x : World) (hp : PAt x N (fun _ => True) B D most) (hf : FsAt x (.slice ra XS.length rc) XS) => (show Calls Tryz.prog 52 #[.pointer (some ⟨B, 0, none⟩), .agg #[.string ⟨#[]⟩, .string ⟨#[]⟩, .int .i64 0, .slice ra XS.length rc, .slice none 0 0, .bool false], .int .u32 (who : Int)] x (StPost x N (fun _ => True) B most UR) by
        rw [hUR, ← HLL.out]
        exact unsub_x N (fun _ => True) B D most ⟨#[]⟩ ⟨#[]⟩ 0 _ (.slice none 0 0) false XS who x hp hf (by have := HXL.out; omega) ⟨_, _, _, rfl⟩ (by have := HDE.out; omega)))
      have UN2 := hid (fun (x : World) (hp : RAt x N (fun _ => True) C E most) (hf : FsAt x (.slice ra XS.length rc) XS) => (show Calls Tryz.prog 53 #[.pointer (some ⟨C, 0, none⟩), .agg #[.string ⟨#[]⟩, .string ⟨#[]⟩, .int .i64 0, .slice ra XS.length rc, .slice none 0 0, .bool false], .int .u32 (who : Int)] x (RSt x N (fun _ => True) C most UR) by
        rw [hUR]
        exact runsub_x N (fun _ => True) C E most ⟨#[]⟩ ⟨#[]⟩ 0 _ (.slice none 0 0) false XS who x hp hf HXL.out ⟨_, _, _, rfl⟩ (by omega)))
      clear hUR
      go_wp2_with fail
      obtain ⟨w0, hw0⟩ : ∃ w0, w0 = wc := ⟨_, rfl⟩
      rw [← hw0] at GC HFC HNC HRC PC RC TC GWC ⊢
      clear hw0
      have KC := hid (KT.of_none (T := TA) (N := N) GC.out)
      clear GC
      refine wp_region_spec7 4 9 (fun x y => KT TP N x y) (fun x y => KT TR N x y) (fun x => KT TA N w0 x) (fun x => PAt x N (fun _ => True) B D most) (fun x => RAt x N (fun _ => True) C E most) (KT.of_none (gr_drew (gr_refl _ _))) (PC.out.grow (gr_drew (gr_refl _ _))) (RC.out.grow (gr_drew (gr_refl _ _))) (fun _ _ h g => h.trans (KT.of_none g)) (fun _ _ h g => h.trans (g.mono tp_ta)) (fun _ _ h g => h.trans (g.mono tr_ta)) (fun _ _ h g => h.grow g) (fun _ _ h g => h.kt (fun _ h => h) g) (fun _ _ h g => h.grow g) (fun _ _ h g => h.kt (fun _ h => h) g) (by kernel_rfl) (by kernel_rfl) (n := 12) (by kernel_rfl) [some 95, some 96, some 97, some 98, some 99, some 100, some 101, some 102, some 103, some 104, some 105, some 10] (by kernel_rfl) _ (fun u => (by simp only [fill, List.zipIdx_cons, List.zipIdx_nil, List.foldl_cons, List.foldl_nil, Act.put, List.setIfInBounds_toArray, List.set_cons_zero, List.set_cons_succ, Nat.zero_add, Nat.reduceAdd]; exact rfl)) (by kernel_rfl) (by kernel_rfl) (by kernel_rfl)
        (fun ri v w => match ri with | 0 => v = .pointer (some ⟨B, 0, none⟩) | 1 => v = .agg #[.string ⟨#[]⟩, .string ⟨#[]⟩, .int .i64 0, .slice ra XS.length rc, .slice none 0 0, .bool false] | 2 => v = .pointer (some ⟨A, 4, none⟩) | 3 => v = .int .u32 (who : Int) | 4 => v = .int .i64 (UR.2 : Int) ∧ PAll w N (fun _ => True) B UR.1 most | 5 => v = .pointer (some ⟨C, 0, none⟩) | 6 => v = .agg #[.string ⟨#[]⟩, .string ⟨#[]⟩, .int .i64 0, .slice ra XS.length rc, .slice none 0 0, .bool false] | 7 => v = .pointer (some ⟨A, 4, none⟩) | 8 => v = .int .u32 (who : Int) | 9 => v = .int .i64 (UR.2 : Int) ∧ RAll w N (fun _ => True) C UR.1 most | 10 => v = .bool true | 11 => v = .bool true | _ => True)
        (all_succ (all_succ (all_succ (all_succ (all_succ (all_succ (all_succ (all_succ (all_succ (all_succ (all_succ (all_succ (all_zero _) ?qm0) ?qm1) ?qm2) ?qm3) ?qm4) ?qm5) ?qm6) ?qm7) ?qm8) ?qm9) ?qm10) ?qm11)
        (all_succ (all_succ (all_succ (all_succ (all_succ (all_succ (all_succ (all_succ (all_succ (all_succ (all_succ (all_succ (all_zero _) ?qn0) ?qn1) ?qn2) ?qn3) (fun h => absurd rfl h)) ?qn5) ?qn6) ?qn7) ?qn8) ?qn9) ?qn10) ?qn11)
        (all_succ (all_succ (all_succ (all_succ (all_succ (all_succ (all_succ (all_succ (all_succ (all_succ (all_succ (all_succ (all_zero _) ?qp0) ?qp1) ?qp2) ?qp3) ?qp4) ?qp5) ?qp6) ?qp7) ?qp8) (fun h => absurd rfl h)) ?qp10) ?qp11)
        [[], [], [], [2], [0, 1, 3], [], [], [], [7], [5, 6, 8], [4, 9], [10]] (by kernel_rfl)
        ⟨?qo0, ?qo1, ?qo2, ?qo3, ?qo4, ?qo5, ?qo6, ?qo7, ?qo8, ?qo9, ?qo10, ?qo11, trivial⟩ ?qdone
      case qm0 => intro v w w' h g; first | exact h | exact ⟨h.1, h.2.grow g⟩
      case qm1 => intro v w w' h g; first | exact h | exact ⟨h.1, h.2.grow g⟩
      case qm2 => intro v w w' h g; first | exact h | exact ⟨h.1, h.2.grow g⟩
      case qm3 => intro v w w' h g; first | exact h | exact ⟨h.1, h.2.grow g⟩
      case qm4 => intro v w w' h g; first | exact h | exact ⟨h.1, h.2.grow g⟩
      case qm5 => intro v w w' h g; first | exact h | exact ⟨h.1, h.2.grow g⟩
      case qm6 => intro v w w' h g; first | exact h | exact ⟨h.1, h.2.grow g⟩
      case qm7 => intro v w w' h g; first | exact h | exact ⟨h.1, h.2.grow g⟩
      case qm8 => intro v w w' h g; first | exact h | exact ⟨h.1, h.2.grow g⟩
      case qm9 => intro v w w' h g; first | exact h | exact ⟨h.1, h.2.grow g⟩
      case qm10 => intro v w w' h g; first | exact h | exact ⟨h.1, h.2.grow g⟩
      case qm11 => intro v w w' h g; first | exact h | exact ⟨h.1, h.2.grow g⟩
      case qn0 => intro _ v w w' h g; first | exact h | exact ⟨h.1, h.2.kt (fun _ h => h) g⟩
      case qn1 => intro _ v w w' h g; first | exact h | exact ⟨h.1, h.2.kt (fun _ h => h) g⟩
      case qn2 => intro _ v w w' h g; first | exact h | exact ⟨h.1, h.2.kt (fun _ h => h) g⟩
      case qn3 => intro _ v w w' h g; first | exact h | exact ⟨h.1, h.2.kt (fun _ h => h) g⟩
      case qn5 => intro _ v w w' h g; first | exact h | exact ⟨h.1, h.2.kt (fun _ h => h) g⟩
      case qn6 => intro _ v w w' h g; first | exact h | exact ⟨h.1, h.2.kt (fun _ h => h) g⟩
      case qn7 => intro _ v w w' h g; first | exact h | exact ⟨h.1, h.2.kt (fun _ h => h) g⟩
      case qn8 => intro _ v w w' h g; first | exact h | exact ⟨h.1, h.2.kt (fun _ h => h) g⟩
      case qn9 => intro _ v w w' h g; first | exact h | exact ⟨h.1, h.2.kt (fun _ h => h) g⟩
      case qn10 => intro _ v w w' h g; first | exact h | exact ⟨h.1, h.2.kt (fun _ h => h) g⟩
      case qn11 => intro _ v w w' h g; first | exact h | exact ⟨h.1, h.2.kt (fun _ h => h) g⟩
      case qp0 => intro _ v w w' h g; first | exact h | exact ⟨h.1, h.2.kt (fun _ h => h) g⟩
      case qp1 => intro _ v w w' h g; first | exact h | exact ⟨h.1, h.2.kt (fun _ h => h) g⟩
      case qp2 => intro _ v w w' h g; first | exact h | exact ⟨h.1, h.2.kt (fun _ h => h) g⟩
      case qp3 => intro _ v w w' h g; first | exact h | exact ⟨h.1, h.2.kt (fun _ h => h) g⟩
      case qp4 => intro _ v w w' h g; first | exact h | exact ⟨h.1, h.2.kt (fun _ h => h) g⟩
      case qp5 => intro _ v w w' h g; first | exact h | exact ⟨h.1, h.2.kt (fun _ h => h) g⟩
      case qp6 => intro _ v w w' h g; first | exact h | exact ⟨h.1, h.2.kt (fun _ h => h) g⟩
      case qp7 => intro _ v w w' h g; first | exact h | exact ⟨h.1, h.2.kt (fun _ h => h) g⟩
      case qp8 => intro _ v w w' h g; first | exact h | exact ⟨h.1, h.2.kt (fun _ h => h) g⟩
      case qp10 => intro _ v w w' h g; first | exact h | exact ⟨h.1, h.2.kt (fun _ h => h) g⟩
      case qp11 => intro _ v w w' h g; first | exact h | exact ⟨h.1, h.2.kt (fun _ h => h) g⟩
      case qo0 =>
        intro u w g hp1 hp2 hd K hK
        replace g : (fun x => KT TA N w0 x) w := g
        clear hp1 hp2
        clear hd
        simp only [Act.put, List.setIfInBounds_toArray, List.set_cons_zero, List.set_cons_succ] at hK
        go_simp
        exact hK _ _ rfl (gr_refl _ _)
      case qo1 =>
        intro u w g hp1 hp2 hd K hK
        replace g : (fun x => KT TA N w0 x) w := g
        clear hp1 hp2
        clear hd
        simp only [Act.put, List.setIfInBounds_toArray, List.set_cons_zero, List.set_cons_succ] at hK
        have hb := g.of_type HRC.out rfl
        have r0 := (cell_of_block hb 0).trans (show _ = some (Value.string ⟨#[]⟩) from rfl)
        have r1 := (cell_of_block hb 1).trans (show _ = some (Value.string ⟨#[]⟩) from rfl)
        have r2 := (cell_of_block hb 2).trans (show _ = some (Value.int .i64 0) from rfl)
        have r3 := (cell_of_block hb 3).trans (show _ = some (Value.slice ra XS.length rc) from rfl)
        have r4 := (cell_of_block hb 4).trans (show _ = some (Value.slice none 0 0) from rfl)
        have r5 := (cell_of_block hb 5).trans (show _ = some (Value.bool false) from rfl)
        go_simp
        exact hK _ _ rfl (gr_refl _ _)
      case qo2 =>
        intro u w g hp1 hp2 hd K hK
        replace g : (fun x => KT TA N w0 x) w := g
        clear hp1 hp2
        clear hd
        simp only [Act.put, List.setIfInBounds_toArray, List.set_cons_zero, List.set_cons_succ] at hK
        go_simp
        exact hK _ _ rfl (gr_refl _ _)
      case qo3 =>
        intro u w g hp1 hp2 hd K hK
        replace g : (fun x => KT TA N w0 x) w := g
        clear hp1 hp2
        have h2 : (u 2) = .pointer (some ⟨A, 4, none⟩) := hd 2 (by simp)
        clear hd
        simp only [Act.put, List.setIfInBounds_toArray, List.set_cons_zero, List.set_cons_succ] at hK
        have hb := g.of_type HNC.out rfl
        have k4 := (cell_of_block hb 4).trans (show _ = some (Value.int .u32 (who : Int)) from rfl)
        simp only [h2] at hK ⊢
        go_simp
        exact hK _ _ rfl (gr_refl _ _)
      case qo4 =>
        intro u w g hp1 hp2 hd K hK
        replace g : (fun x => KT TA N w0 x) w := g
        have p1 := hp1 rfl
        clear hp1 hp2
        have h0 : (u 0) = .pointer (some ⟨B, 0, none⟩) := hd 0 (by simp)
        have h1 : (u 1) = .agg #[.string ⟨#[]⟩, .string ⟨#[]⟩, .int .i64 0, .slice ra XS.length rc, .slice none 0 0, .bool false] := hd 1 (by simp)
        have h3 : (u 3) = .int .u32 (who : Int) := hd 3 (by simp)
        clear hd
        simp only [Act.put, List.setIfInBounds_toArray, List.set_cons_zero, List.set_cons_succ] at hK
        simp only [h0, h1, h3] at hK ⊢
        go_simp
        refine (UN1.out w p1 (HFC.out.kt rfl g)).mono ?_
        rintro e w' ⟨rfl, hq, kq⟩
        exact hK _ _ ⟨rfl, hq⟩ kq
      case qo5 =>
        intro u w g hp1 hp2 hd K hK
        replace g : (fun x => KT TA N w0 x) w := g
        clear hp1 hp2
        clear hd
        simp only [Act.put, List.setIfInBounds_toArray, List.set_cons_zero, List.set_cons_succ] at hK
        go_simp
        exact hK _ _ rfl (gr_refl _ _)
      case qo6 =>
        intro u w g hp1 hp2 hd K hK
        replace g : (fun x => KT TA N w0 x) w := g
        clear hp1 hp2
        clear hd
        simp only [Act.put, List.setIfInBounds_toArray, List.set_cons_zero, List.set_cons_succ] at hK
        have hb := g.of_type HRC.out rfl
        have r0 := (cell_of_block hb 0).trans (show _ = some (Value.string ⟨#[]⟩) from rfl)
        have r1 := (cell_of_block hb 1).trans (show _ = some (Value.string ⟨#[]⟩) from rfl)
        have r2 := (cell_of_block hb 2).trans (show _ = some (Value.int .i64 0) from rfl)
        have r3 := (cell_of_block hb 3).trans (show _ = some (Value.slice ra XS.length rc) from rfl)
        have r4 := (cell_of_block hb 4).trans (show _ = some (Value.slice none 0 0) from rfl)
        have r5 := (cell_of_block hb 5).trans (show _ = some (Value.bool false) from rfl)
        go_simp
        exact hK _ _ rfl (gr_refl _ _)
      case qo7 =>
        intro u w g hp1 hp2 hd K hK
        replace g : (fun x => KT TA N w0 x) w := g
        clear hp1 hp2
        clear hd
        simp only [Act.put, List.setIfInBounds_toArray, List.set_cons_zero, List.set_cons_succ] at hK
        go_simp
        exact hK _ _ rfl (gr_refl _ _)
      case qo8 =>
        intro u w g hp1 hp2 hd K hK
        replace g : (fun x => KT TA N w0 x) w := g
        clear hp1 hp2
        have h7 : (u 7) = .pointer (some ⟨A, 4, none⟩) := hd 7 (by simp)
        clear hd
        simp only [Act.put, List.setIfInBounds_toArray, List.set_cons_zero, List.set_cons_succ] at hK
        have hb := g.of_type HNC.out rfl
        have k4 := (cell_of_block hb 4).trans (show _ = some (Value.int .u32 (who : Int)) from rfl)
        simp only [h7] at hK ⊢
        go_simp
        exact hK _ _ rfl (gr_refl _ _)
      case qo9 =>
        intro u w g hp1 hp2 hd K hK
        replace g : (fun x => KT TA N w0 x) w := g
        have p2 := hp2 rfl
        clear hp1 hp2
        have h5 : (u 5) = .pointer (some ⟨C, 0, none⟩) := hd 5 (by simp)
        have h6 : (u 6) = .agg #[.string ⟨#[]⟩, .string ⟨#[]⟩, .int .i64 0, .slice ra XS.length rc, .slice none 0 0, .bool false] := hd 6 (by simp)
        have h8 : (u 8) = .int .u32 (who : Int) := hd 8 (by simp)
        clear hd
        simp only [Act.put, List.setIfInBounds_toArray, List.set_cons_zero, List.set_cons_succ] at hK
        simp only [h5, h6, h8] at hK ⊢
        go_simp
        refine (UN2.out w p2 (HFC.out.kt rfl g)).mono ?_
        rintro e w' ⟨rfl, hq, kq⟩
        exact hK _ _ ⟨rfl, hq⟩ kq
      case qo10 =>
        intro u w g hp1 hp2 hd K hK
        replace g : (fun x => KT TA N w0 x) w := g
        clear hp1 hp2
        have h4 : (u 4) = .int .i64 (UR.2 : Int) ∧ PAll w N (fun _ => True) B UR.1 most := hd 4 (by simp)
        have h9 : (u 9) = .int .i64 (UR.2 : Int) ∧ RAll w N (fun _ => True) C UR.1 most := hd 9 (by simp)
        clear hd
        simp only [Act.put, List.setIfInBounds_toArray, List.set_cons_zero, List.set_cons_succ] at hK
        simp only [h4.1, h9.1] at hK ⊢
        go_simp
        exact hK _ _ (by simp) (gr_refl _ _)
      case qo11 =>
        intro u w g hp1 hp2 hd K hK
        replace g : (fun x => KT TA N w0 x) w := g
        clear hp1 hp2
        have h10 : (u 10) = .bool true := hd 10 (by simp)
        clear hd
        simp only [Act.put, List.setIfInBounds_toArray, List.set_cons_zero, List.set_cons_succ] at hK
        simp only [h10] at hK ⊢
        go_simp
        exact hK _ _ rfl (gr_refl _ _)
      intro u w hS g
      replace g : (fun x => KT TA N w0 x) w := g
      have s0 : (u 0) = .pointer (some ⟨B, 0, none⟩) := hS 0 (by decide)
      have s1 : (u 1) = .agg #[.string ⟨#[]⟩, .string ⟨#[]⟩, .int .i64 0, .slice ra XS.length rc, .slice none 0 0, .bool false] := hS 1 (by decide)
      have s2 : (u 2) = .pointer (some ⟨A, 4, none⟩) := hS 2 (by decide)
      have s3 : (u 3) = .int .u32 (who : Int) := hS 3 (by decide)
      have s4 : (u 4) = .int .i64 (UR.2 : Int) ∧ PAll w N (fun _ => True) B UR.1 most := hS 4 (by decide)
      have s5 : (u 5) = .pointer (some ⟨C, 0, none⟩) := hS 5 (by decide)
      have s6 : (u 6) = .agg #[.string ⟨#[]⟩, .string ⟨#[]⟩, .int .i64 0, .slice ra XS.length rc, .slice none 0 0, .bool false] := hS 6 (by decide)
      have s7 : (u 7) = .pointer (some ⟨A, 4, none⟩) := hS 7 (by decide)
      have s8 : (u 8) = .int .u32 (who : Int) := hS 8 (by decide)
      have s9 : (u 9) = .int .i64 (UR.2 : Int) ∧ RAll w N (fun _ => True) C UR.1 most := hS 9 (by decide)
      have s10 : (u 10) = .bool true := hS 10 (by decide)
      have s11 : (u 11) = .bool true := hS 11 (by decide)
      clear hS
      have S4 := hid s4.2
      have S9 := hid s9.2
      have T11 := hid s11
      have KW := hid g
      clear s0 s1 s2 s3 s4 s5 s6 s7 s8 s9 s10 s11 g
      generalize u 0 = y0 at *
      generalize u 1 = y1 at *
      generalize u 2 = y2 at *
      generalize u 3 = y3 at *
      generalize u 4 = y4 at *
      generalize u 5 = y5 at *
      generalize u 6 = y6 at *
      generalize u 7 = y7 at *
      generalize u 8 = y8 at *
      generalize u 9 = y9 at *
      generalize u 10 = y10 at *
      generalize u 11 = y11 at *
      obtain rfl := T11.out
      go_wp2
      go_ret
      exact ⟨rfl, UR.1, most, S4.out, S9.out, KC.out.trans KW.out, OKU.out.1, OKU.out.2⟩
    · obtain ⟨a9, c9, e9, v1, v2, v3⟩ := HOW.out.vars
      obtain ⟨rfl, rfl⟩ : va = a9 ∧ vc = c9 := by simpa using e9
      have VK := hid (argsk_low HWN.out GWC.out v1 v2 v3)
      have HVS := hid (show SmP vars from HSM.out.vars)
      have hvn : vars.length ≤ 20 := HVS.out.n
      obtain ⟨i0, hi0, hz0, hz1, hz2⟩ := info_parts infoArg
      have k6w := (cell_of_block HNC.out 6).trans (show _ = some (Value.slice va vars.length vc) from rfl)
      have nE := heap_alloc_new wc (.cells #[] 58)
      have gE := World.grownBy_alloc wc (.cells #[] 58) none
      have k6 := gE.cell k6w (by simp)
      have OE := hid (show (wc.alloc (.cells #[] 58)).ownsRow wc.heap.size 58 2 (.slice (some ⟨wc.heap.size, 0, none⟩) 0 0) 0 [] from ⟨rfl, .inr ⟨wc.heap.size, 0, #[], rfl, Nat.le_refl _, nE, Nat.le_refl _, by simp [maxLen], rfl, rfl⟩⟩)
      have SRC := hid (show SrcAt (wc.alloc (.cells #[] 58)) va (flatA vars) from by
        obtain ⟨a8, c8, e8, k8⟩ := (VK.out.grow gE).at.shape
        obtain ⟨rfl, -⟩ : va = a8 ∧ vc = c8 := by simpa using e8
        rcases Nat.eq_zero_or_pos vars.length with h | h
        · obtain rfl : vars = [] := List.eq_nil_of_length_eq_zero h
          exact .inl rfl
        · obtain ⟨b8, o8, rfl, p8⟩ := k8 h
          exact .inr ⟨_, rfl, fun j u hu => by rw [add_at]; exact pair_flat p8 j u hu⟩)
      have HBS := hid gE.size
      have GE := hid gE
      clear v1 v2 v3 e9 nE gE
      go_upto_region 17 with (refine wpl_app0 rfl (.tmp 109) (.tmp 111) 22 rfl (base := wc.heap.size) (e := 58) (size := 2) (bytes := 32) Tryz.underlying22 hi0 hz0 hz1 hz2 rfl (by decide) (b := wc.heap.size) (by rfl) OE.out (ad := va) (m := vars.length) (c := vc) (news := flatA vars) (by rfl) (flatA_len vars) SRC.out (by unfold maxLen; omega) (by omega) HBS.out ?_; intro v4 w4 q2 q3 q4; have OV := hid (show OwnA w4 wc.heap.size v4 vars from q2); have G4 := hid (gr_trans GE.out q3); obtain ⟨a4, c4, rfl⟩ := own_shapeG q2; clear q2 q3 q4)
      have HV4 := hid (OV.out.blockV)
      obtain ⟨V, hV1, hV2, hV3⟩ := HV4.out
      have HVV := hid (And.intro hV1 (And.intro hV2 hV3))
      clear hV1 hV2 hV3 OE SRC HBS HV4 k6 GE
      have P4 := hid ((PC.out.f (F' := fun b => 0 < vars.length → b ≠ V) (fun b hb _ hn e => by have := (HVV.out.2.1 hn); omega)).grow G4.out)
      have R4 := hid ((RC.out.f (F' := fun b => 0 < vars.length → b ≠ V) (fun b hb _ hn e => by have := (HVV.out.2.1 hn); omega)).grow G4.out)
      have NX := hid (next_x N (fun b => 0 < vars.length → b ≠ V) B D most now vars (.slice a4 vars.length c4) w4 P4.out (OV.out.keep N (fun _ => True) (fun _ _ => trivial)).at HVS.out (fun a c e ad had => OV.out.plain a c e ad had) (fun b hb hn e => by have := (HVV.out.2.2 hn); omega) (by have := HDE.out; omega))
      rw [HLL.out] at NX
      go_wp2_with fail
      refine NX.out.mono ?_
      intro e w5 hpost
      obtain ⟨k5, p5, bv, rfl, hbv⟩ := NxPost.form hpost
      obtain ⟨r, hr⟩ : ∃ r, r = (E.map (·.1))[nextL (E.map (·.1)) now vars]? := ⟨_, rfl⟩
      rw [← hr] at hbv ⊢
      have HBV := hid hbv
      obtain ⟨ba, bc, rfl, -⟩ := hbv
      have HRR := hid hr
      obtain ⟨s, hsd⟩ : ∃ s, s = ntS r := ⟨_, rfl⟩
      obtain ⟨sq, hsq⟩ : ∃ s, s = ntQ r := ⟨_, rfl⟩
      obtain ⟨ht, hht⟩ : ∃ s, s = ntH r := ⟨_, rfl⟩
      obtain ⟨po, hpo⟩ : ∃ s, s = ntP r := ⟨_, rfl⟩
      obtain ⟨tg, htg⟩ : ∃ s, s = ntT r := ⟨_, rfl⟩
      obtain ⟨bl, hbl⟩ : ∃ s, s = ntB r vars := ⟨_, rfl⟩
      obtain ⟨rs, hrs⟩ : ∃ s, s = r.isSome := ⟨_, rfl⟩
      rw [← hsd, ← hsq, ← hht, ← hpo, ← htg, ← hbl, ← hrs]
      rw [← hbl] at HBV
      have HEQ := hid (And.intro hsd (And.intro hsq (And.intro hht (And.intro hpo (And.intro htg (And.intro hbl hrs))))))
      have P5 := hid p5
      have K5 := hid ((KT.of_none G4.out).trans (k5.mono tp_ta))
      have R5 := hid (R4.out.kt (fun _ h => h) k5)
      have VK5 := hid ((VK.out.grow G4.out).kt tp_ta k5)
      have HNC5 := hid (K5.out.of_type HNC.out rfl)
      have HVB5 := hid (fun (hn : 0 < vars.length) => k5.of_type (HVV.out.1 hn).2.choose_spec.1 rfl)
      clear hpost k5 p5 hr hsd hsq hht hpo htg hbl hrs NX P4 R4
      have n6 := heap_alloc_new w5 (.cells #[.string ⟨s.toArray⟩, .int .u32 (sq : Int), .int .u32 (ht : Int), .int .u16 (po : Int), .string ⟨tg.toArray⟩, .slice ba bl.length bc] 55)
      have g6 := World.grownBy_alloc w5 (.cells #[.string ⟨s.toArray⟩, .int .u32 (sq : Int), .int .u32 (ht : Int), .int .u16 (po : Int), .string ⟨tg.toArray⟩, .slice ba bl.length bc] 55) none
      obtain ⟨w6, hw6⟩ : ∃ w6, w6 = w5.alloc (.cells #[.string ⟨s.toArray⟩, .int .u32 (sq : Int), .int .u32 (ht : Int), .int .u16 (po : Int), .string ⟨tg.toArray⟩, .slice ba bl.length bc] 55) := ⟨_, rfl⟩
      obtain ⟨X1, hX1⟩ : ∃ X, X = w5.heap.size := ⟨_, rfl⟩
      rw [← hw6] at n6 g6
      rw [← hX1] at n6
      have HW6 := hid hw6
      have HX1 := hid hX1
      have N6 := hid n6
      have R6 := hid (R5.out.grow g6)
      have P6 := hid (P5.out.grow g6)
      have K6 := hid (K5.out.trans (KT.of_none g6))
      have U6 := hid (HBV.out.grown g6)
      have VK6 := hid (VK5.out.grow g6)
      have HVB6 := hid (fun (hn : 0 < vars.length) => gr_keep g6 (HVB5.out hn) (by simp))
      have k6 := (cell_of_block (gr_keep g6 HNC5.out (by simp)) 6).trans (show _ = some (Value.slice va vars.length vc) from rfl)
      rw [hw6] at k6
      have RNX := hid (rnext_x N (fun b => 0 < vars.length → b ≠ V) C E most now vars (.slice va vars.length vc) w6 R6.out VK6.out HVS.out (fun e he => (HOK.out e.1 (List.mem_map_of_mem he)).2.2) (fun b hb hn e => by have := (HVV.out.2.2 hn); have h1 := K5.out.size; have h2 := g6.size; have h3 := lt_of_block (HVB6.out hn); omega) (by omega))
      clear n6 g6 hw6 hX1 HBV R5 VK5 HVB5 P5 K5 VK HNC5
      go_upto_region 18 with fail
      rw [← HW6.out, ← HX1.out]
      rw [← HW6.out] at k6
      go_wp2_with fail
      refine RNX.out.mono ?_
      intro e w7 hpost
      obtain ⟨k7, u7, r7, bu, rfl, hbu⟩ := RNx.form hpost
      rw [← HRR.out] at hbu ⊢
      rw [← HEQ.out.1, ← HEQ.out.2.1, ← HEQ.out.2.2.1, ← HEQ.out.2.2.2.1, ← HEQ.out.2.2.2.2.1, ← HEQ.out.2.2.2.2.2.2]
      rw [← HEQ.out.2.2.2.2.2.1] at hbu
      have HBU := hid hbu
      obtain ⟨ca, cc, rfl, -⟩ := hbu
      have R7 := hid r7
      have P7 := hid (P6.out.kt (fun _ h => h) k7)
      have K7 := hid (K6.out.trans (k7.mono tr_ta))
      have U7 := hid (u7.bytes U6.out)
      have N7 := hid (k7.of_type N6.out rfl)
      have HVB7 := hid (fun (hn : 0 < vars.length) => k7.of_type (HVB6.out hn) rfl)
      clear hpost k7 u7 r7 RNX R6 P6 K6 U6 N6 HVB6 VK6 HW6 HX1 k6
      have n8 := heap_alloc_new w7 (.cells #[.string ⟨s.toArray⟩, .int .u32 (sq : Int), .int .u32 (ht : Int), .int .u16 (po : Int), .string ⟨tg.toArray⟩, .slice ca bl.length cc] 55)
      have g8 := World.grownBy_alloc w7 (.cells #[.string ⟨s.toArray⟩, .int .u32 (sq : Int), .int .u32 (ht : Int), .int .u16 (po : Int), .string ⟨tg.toArray⟩, .slice ca bl.length cc] 55) none
      obtain ⟨w8, hw8⟩ : ∃ w8, w8 = w7.alloc (.cells #[.string ⟨s.toArray⟩, .int .u32 (sq : Int), .int .u32 (ht : Int), .int .u16 (po : Int), .string ⟨tg.toArray⟩, .slice ca bl.length cc] 55) := ⟨_, rfl⟩
      obtain ⟨X2, hX2⟩ : ∃ X, X = w7.heap.size := ⟨_, rfl⟩
      rw [← hw8] at n8 g8
      rw [← hX2] at n8
      have HW8 := hid hw8
      have HX2 := hid hX2
      have N8 := hid n8
      have N8b := hid (gr_keep g8 N7.out (by simp))
      have R8 := hid (R7.out.grow g8)
      have P8 := hid (P7.out.grow g8)
      have K8 := hid (K7.out.trans (KT.of_none g8))
      have U8a := hid (U7.out.grown g8)
      have U8b := hid (HBU.out.grown g8)
      have HVB8 := hid (fun (hn : 0 < vars.length) => gr_keep g8 (HVB7.out hn) (by simp))
      clear n8 g8 hw8 hX2 HBU U7 N7 HVB7 P7 R7 K7
      go_upto_region 20 with fail
      rw [← HW8.out, ← HX2.out]
      clear HW8 HX2
      have MU0 := hid (show MuR V vars.length w8 w8 from ⟨gr_refl _ _, fun _ => rfl, fun hn => ⟨_, HVB8.out hn⟩, fun hn => ⟨_, HVB8.out hn⟩, fun j hj => by
        have hn : 0 < vars.length := by omega
        obtain ⟨s1, hs1⟩ := (HVV.out.1 hn).2.choose_spec.2 j hj
        exact ⟨s1, (cell_of_block (HVB8.out hn) j).trans hs1⟩, fun _ _ _ h => h⟩)
      go_loopw [130] (fun v130 wr => ∃ k : Nat, v130 = .int .i64 (k : Int) ∧ k ≤ vars.length ∧ Hid (MuR V vars.length w8 wr)) (fun v130 _ => vars.length - (intOf v130).toNat)
      case atStart => exact ⟨0, rfl, Nat.zero_le _, MU0.out⟩
      case round =>
        obtain ⟨k, rfl, hk, hm⟩ := hrel
        by_cases hkl : k < vars.length
        · obtain ⟨ea, hs0⟩ := And.intro (HVV.out.1 (by omega)).1 (hm.out.st (k * 2 + 1) (by omega))
          obtain ⟨s0, hs0⟩ := hs0
          obtain ⟨csv, hcv⟩ := hm.out.blk (by omega)
          have fz := free_of_block hcv (k * 2 + 1)
          have hki : (k : Int) < (vars.length : Int) := by omega
          have STP := hid (hm.out.step (k * 2 + 1) (by omega) ⟨#[103, 111, 110, 101]⟩)
          subst ea
          go_wp2_with fail
          go_roundw
          case rel => exact ⟨k + 1, by go_num, by omega, STP.out⟩
          case measure => simp [intOf]; omega
        · obtain rfl : k = vars.length := by omega
          have NA := hid (hm.out.keep N8b.out (by decide))
          have NB := hid (hm.out.keep N8.out (by decide))
          have BA := hid (hm.out.u8.bytes U8a.out)
          have BB := hid (hm.out.u8.bytes U8b.out)
          have PF := hid (hm.out.pall (fun hn h => h hn rfl) P8.out)
          have RF := hid (hm.out.rall (fun hn h => h hn rfl) R8.out)
          have KF := hid (hm.out.kt ((KT.of_none (T := TA) (N := N) GC.out).trans K8.out) (fun hn => Nat.le_trans GC.out.size (HVV.out.2.1 hn)))
          have x0 := (cell_of_block NA.out 0).trans (show _ = some (Value.string ⟨s.toArray⟩) from rfl)
          have x1 := (cell_of_block NA.out 1).trans (show _ = some (Value.int .u32 (sq : Int)) from rfl)
          have x2 := (cell_of_block NA.out 2).trans (show _ = some (Value.int .u32 (ht : Int)) from rfl)
          have x3 := (cell_of_block NA.out 3).trans (show _ = some (Value.int .u16 (po : Int)) from rfl)
          have x4 := (cell_of_block NA.out 4).trans (show _ = some (Value.string ⟨tg.toArray⟩) from rfl)
          have x5 := (cell_of_block NA.out 5).trans (show _ = some (Value.slice ba bl.length bc) from rfl)
          have y0 := (cell_of_block NB.out 0).trans (show _ = some (Value.string ⟨s.toArray⟩) from rfl)
          have y1 := (cell_of_block NB.out 1).trans (show _ = some (Value.int .u32 (sq : Int)) from rfl)
          have y2 := (cell_of_block NB.out 2).trans (show _ = some (Value.int .u32 (ht : Int)) from rfl)
          have y3 := (cell_of_block NB.out 3).trans (show _ = some (Value.int .u16 (po : Int)) from rfl)
          have y4 := (cell_of_block NB.out 4).trans (show _ = some (Value.string ⟨tg.toArray⟩) from rfl)
          have y5 := (cell_of_block NB.out 5).trans (show _ = some (Value.slice ca bl.length cc) from rfl)
          have NOTE := hid (note_x s tg bl (sq : Int) (ht : Int) (po : Int) _ _ wr BA.out BB.out)
          have OKT := hid (ok_told HOK.out now vars (by omega))
          clear N8 N8b P8 R8 K8 U8a U8b HVB8 hm
          go_wp2_with fail
          refine NOTE.out.mono ?_
          rintro e w9 ⟨rfl, g9⟩
          have FIN := hid (show CaP N B C (E.map (·.1)) w (.returned (.bool true)) w9 from ⟨rfl, _, _, PF.out.grow g9, RF.out.grow g9, KF.out.trans (KT.of_none g9), OKT.out.1, OKT.out.2⟩)
          clear g9 NOTE
          go_wp2
          go_ret
          exact FIN.out
    · obtain ⟨a9, c9, e9, v1, v2, v3⟩ := HOW.out.vars
      obtain ⟨rfl, rfl⟩ : va = a9 ∧ vc = c9 := by simpa using e9
      have VK := hid (argsk_low HWN.out GWC.out v1 v2 v3)
      have HVS := hid (show SmP vars from HSM.out.vars)
      have hvn : vars.length ≤ 20 := HVS.out.n
      obtain ⟨i0, hi0, hz0, hz1, hz2⟩ := info_parts infoArg
      have k6w := (cell_of_block HNC.out 6).trans (show _ = some (Value.slice va vars.length vc) from rfl)
      have nE := heap_alloc_new wc (.cells #[] 58)
      have gE := World.grownBy_alloc wc (.cells #[] 58) none
      have k6 := gE.cell k6w (by simp)
      have OE := hid (show (wc.alloc (.cells #[] 58)).ownsRow wc.heap.size 58 2 (.slice (some ⟨wc.heap.size, 0, none⟩) 0 0) 0 [] from ⟨rfl, .inr ⟨wc.heap.size, 0, #[], rfl, Nat.le_refl _, nE, Nat.le_refl _, by simp [maxLen], rfl, rfl⟩⟩)
      have SRC := hid (show SrcAt (wc.alloc (.cells #[] 58)) va (flatA vars) from by
        obtain ⟨a8, c8, e8, k8⟩ := (VK.out.grow gE).at.shape
        obtain ⟨rfl, -⟩ : va = a8 ∧ vc = c8 := by simpa using e8
        rcases Nat.eq_zero_or_pos vars.length with h | h
        · obtain rfl : vars = [] := List.eq_nil_of_length_eq_zero h
          exact .inl rfl
        · obtain ⟨b8, o8, rfl, p8⟩ := k8 h
          exact .inr ⟨_, rfl, fun j u hu => by rw [add_at]; exact pair_flat p8 j u hu⟩)
      have HBS := hid gE.size
      have GE := hid gE
      clear v1 v2 v3 e9 nE gE
      go_upto_region 17 with (refine wpl_app0 rfl (.tmp 109) (.tmp 111) 22 rfl (base := wc.heap.size) (e := 58) (size := 2) (bytes := 32) Tryz.underlying22 hi0 hz0 hz1 hz2 rfl (by decide) (b := wc.heap.size) (by rfl) OE.out (ad := va) (m := vars.length) (c := vc) (news := flatA vars) (by rfl) (flatA_len vars) SRC.out (by unfold maxLen; omega) (by omega) HBS.out ?_; intro v4 w4 q2 q3 q4; have OV := hid (show OwnA w4 wc.heap.size v4 vars from q2); have G4 := hid (gr_trans GE.out q3); obtain ⟨a4, c4, rfl⟩ := own_shapeG q2; clear q2 q3 q4)
      have HV4 := hid (OV.out.blockV)
      obtain ⟨V, hV1, hV2, hV3⟩ := HV4.out
      have HVV := hid (And.intro hV1 (And.intro hV2 hV3))
      clear hV1 hV2 hV3 OE SRC HBS HV4 k6 GE
      have P4 := hid ((PC.out.f (F' := fun b => 0 < vars.length → b ≠ V) (fun b hb _ hn e => by have := (HVV.out.2.1 hn); omega)).grow G4.out)
      have R4 := hid ((RC.out.f (F' := fun b => 0 < vars.length → b ≠ V) (fun b hb _ hn e => by have := (HVV.out.2.1 hn); omega)).grow G4.out)
      have NX := hid (next_x N (fun b => 0 < vars.length → b ≠ V) B D most now vars (.slice a4 vars.length c4) w4 P4.out (OV.out.keep N (fun _ => True) (fun _ _ => trivial)).at HVS.out (fun a c e ad had => OV.out.plain a c e ad had) (fun b hb hn e => by have := (HVV.out.2.2 hn); omega) (by have := HDE.out; omega))
      rw [HLL.out] at NX
      go_wp2_with fail
      refine NX.out.mono ?_
      intro e w5 hpost
      obtain ⟨k5, p5, bv, rfl, hbv⟩ := NxPost.form hpost
      obtain ⟨r, hr⟩ : ∃ r, r = (E.map (·.1))[nextL (E.map (·.1)) now vars]? := ⟨_, rfl⟩
      rw [← hr] at hbv ⊢
      have HBV := hid hbv
      obtain ⟨ba, bc, rfl, -⟩ := hbv
      have HRR := hid hr
      obtain ⟨s, hsd⟩ : ∃ s, s = ntS r := ⟨_, rfl⟩
      obtain ⟨sq, hsq⟩ : ∃ s, s = ntQ r := ⟨_, rfl⟩
      obtain ⟨ht, hht⟩ : ∃ s, s = ntH r := ⟨_, rfl⟩
      obtain ⟨po, hpo⟩ : ∃ s, s = ntP r := ⟨_, rfl⟩
      obtain ⟨tg, htg⟩ : ∃ s, s = ntT r := ⟨_, rfl⟩
      obtain ⟨bl, hbl⟩ : ∃ s, s = ntB r vars := ⟨_, rfl⟩
      obtain ⟨rs, hrs⟩ : ∃ s, s = r.isSome := ⟨_, rfl⟩
      rw [← hsd, ← hsq, ← hht, ← hpo, ← htg, ← hbl, ← hrs]
      rw [← hbl] at HBV
      have HEQ := hid (And.intro hsd (And.intro hsq (And.intro hht (And.intro hpo (And.intro htg (And.intro hbl hrs))))))
      have P5 := hid p5
      have K5 := hid ((KT.of_none G4.out).trans (k5.mono tp_ta))
      have R5 := hid (R4.out.kt (fun _ h => h) k5)
      have VK5 := hid ((VK.out.grow G4.out).kt tp_ta k5)
      have HNC5 := hid (K5.out.of_type HNC.out rfl)
      have HVB5 := hid (fun (hn : 0 < vars.length) => k5.of_type (HVV.out.1 hn).2.choose_spec.1 rfl)
      clear hpost k5 p5 hr hsd hsq hht hpo htg hbl hrs NX P4 R4
      have n6 := heap_alloc_new w5 (.cells #[.string ⟨s.toArray⟩, .int .u32 (sq : Int), .int .u32 (ht : Int), .int .u16 (po : Int), .string ⟨tg.toArray⟩, .slice ba bl.length bc] 55)
      have g6 := World.grownBy_alloc w5 (.cells #[.string ⟨s.toArray⟩, .int .u32 (sq : Int), .int .u32 (ht : Int), .int .u16 (po : Int), .string ⟨tg.toArray⟩, .slice ba bl.length bc] 55) none
      obtain ⟨w6, hw6⟩ : ∃ w6, w6 = w5.alloc (.cells #[.string ⟨s.toArray⟩, .int .u32 (sq : Int), .int .u32 (ht : Int), .int .u16 (po : Int), .string ⟨tg.toArray⟩, .slice ba bl.length bc] 55) := ⟨_, rfl⟩
      obtain ⟨X1, hX1⟩ : ∃ X, X = w5.heap.size := ⟨_, rfl⟩
      rw [← hw6] at n6 g6
      rw [← hX1] at n6
      have HW6 := hid hw6
      have HX1 := hid hX1
      have N6 := hid n6
      have R6 := hid (R5.out.grow g6)
      have P6 := hid (P5.out.grow g6)
      have K6 := hid (K5.out.trans (KT.of_none g6))
      have U6 := hid (HBV.out.grown g6)
      have VK6 := hid (VK5.out.grow g6)
      have HVB6 := hid (fun (hn : 0 < vars.length) => gr_keep g6 (HVB5.out hn) (by simp))
      have k6 := (cell_of_block (gr_keep g6 HNC5.out (by simp)) 6).trans (show _ = some (Value.slice va vars.length vc) from rfl)
      rw [hw6] at k6
      have RNX := hid (rnext_x N (fun b => 0 < vars.length → b ≠ V) C E most now vars (.slice va vars.length vc) w6 R6.out VK6.out HVS.out (fun e he => (HOK.out e.1 (List.mem_map_of_mem he)).2.2) (fun b hb hn e => by have := (HVV.out.2.2 hn); have h1 := K5.out.size; have h2 := g6.size; have h3 := lt_of_block (HVB6.out hn); omega) (by omega))
      clear n6 g6 hw6 hX1 HBV R5 VK5 HVB5 P5 K5 VK HNC5
      go_upto_region 18 with fail
      rw [← HW6.out, ← HX1.out]
      rw [← HW6.out] at k6
      go_wp2_with fail
      refine RNX.out.mono ?_
      intro e w7 hpost
      obtain ⟨k7, u7, r7, bu, rfl, hbu⟩ := RNx.form hpost
      rw [← HRR.out] at hbu ⊢
      rw [← HEQ.out.1, ← HEQ.out.2.1, ← HEQ.out.2.2.1, ← HEQ.out.2.2.2.1, ← HEQ.out.2.2.2.2.1, ← HEQ.out.2.2.2.2.2.2]
      rw [← HEQ.out.2.2.2.2.2.1] at hbu
      have HBU := hid hbu
      obtain ⟨ca, cc, rfl, -⟩ := hbu
      have R7 := hid r7
      have P7 := hid (P6.out.kt (fun _ h => h) k7)
      have K7 := hid (K6.out.trans (k7.mono tr_ta))
      have U7 := hid (u7.bytes U6.out)
      have N7 := hid (k7.of_type N6.out rfl)
      have HVB7 := hid (fun (hn : 0 < vars.length) => k7.of_type (HVB6.out hn) rfl)
      clear hpost k7 u7 r7 RNX R6 P6 K6 U6 N6 HVB6 VK6 HW6 HX1 k6
      have n8 := heap_alloc_new w7 (.cells #[.string ⟨s.toArray⟩, .int .u32 (sq : Int), .int .u32 (ht : Int), .int .u16 (po : Int), .string ⟨tg.toArray⟩, .slice ca bl.length cc] 55)
      have g8 := World.grownBy_alloc w7 (.cells #[.string ⟨s.toArray⟩, .int .u32 (sq : Int), .int .u32 (ht : Int), .int .u16 (po : Int), .string ⟨tg.toArray⟩, .slice ca bl.length cc] 55) none
      obtain ⟨w8, hw8⟩ : ∃ w8, w8 = w7.alloc (.cells #[.string ⟨s.toArray⟩, .int .u32 (sq : Int), .int .u32 (ht : Int), .int .u16 (po : Int), .string ⟨tg.toArray⟩, .slice ca bl.length cc] 55) := ⟨_, rfl⟩
      obtain ⟨X2, hX2⟩ : ∃ X, X = w7.heap.size := ⟨_, rfl⟩
      rw [← hw8] at n8 g8
      rw [← hX2] at n8
      have HW8 := hid hw8
      have HX2 := hid hX2
      have N8 := hid n8
      have N8b := hid (gr_keep g8 N7.out (by simp))
      have R8 := hid (R7.out.grow g8)
      have P8 := hid (P7.out.grow g8)
      have K8 := hid (K7.out.trans (KT.of_none g8))
      have U8a := hid (U7.out.grown g8)
      have U8b := hid (HBU.out.grown g8)
      have HVB8 := hid (fun (hn : 0 < vars.length) => gr_keep g8 (HVB7.out hn) (by simp))
      clear n8 g8 hw8 hX2 HBU U7 N7 HVB7 P7 R7 K7
      go_upto_region 20 with fail
      rw [← HW8.out, ← HX2.out]
      clear HW8 HX2
      have MU0 := hid (show MuR V vars.length w8 w8 from ⟨gr_refl _ _, fun _ => rfl, fun hn => ⟨_, HVB8.out hn⟩, fun hn => ⟨_, HVB8.out hn⟩, fun j hj => by
        have hn : 0 < vars.length := by omega
        obtain ⟨s1, hs1⟩ := (HVV.out.1 hn).2.choose_spec.2 j hj
        exact ⟨s1, (cell_of_block (HVB8.out hn) j).trans hs1⟩, fun _ _ _ h => h⟩)
      go_loopw [130] (fun v130 wr => ∃ k : Nat, v130 = .int .i64 (k : Int) ∧ k ≤ vars.length ∧ Hid (MuR V vars.length w8 wr)) (fun v130 _ => vars.length - (intOf v130).toNat)
      case atStart => exact ⟨0, rfl, Nat.zero_le _, MU0.out⟩
      case round =>
        obtain ⟨k, rfl, hk, hm⟩ := hrel
        by_cases hkl : k < vars.length
        · obtain ⟨ea, hs0⟩ := And.intro (HVV.out.1 (by omega)).1 (hm.out.st (k * 2 + 1) (by omega))
          obtain ⟨s0, hs0⟩ := hs0
          obtain ⟨csv, hcv⟩ := hm.out.blk (by omega)
          have fz := free_of_block hcv (k * 2 + 1)
          have hki : (k : Int) < (vars.length : Int) := by omega
          have STP := hid (hm.out.step (k * 2 + 1) (by omega) ⟨#[103, 111, 110, 101]⟩)
          subst ea
          go_wp2_with fail
          go_roundw
          case rel => exact ⟨k + 1, by go_num, by omega, STP.out⟩
          case measure => simp [intOf]; omega
        · obtain rfl : k = vars.length := by omega
          have NA := hid (hm.out.keep N8b.out (by decide))
          have NB := hid (hm.out.keep N8.out (by decide))
          have BA := hid (hm.out.u8.bytes U8a.out)
          have BB := hid (hm.out.u8.bytes U8b.out)
          have PF := hid (hm.out.pall (fun hn h => h hn rfl) P8.out)
          have RF := hid (hm.out.rall (fun hn h => h hn rfl) R8.out)
          have KF := hid (hm.out.kt ((KT.of_none (T := TA) (N := N) GC.out).trans K8.out) (fun hn => Nat.le_trans GC.out.size (HVV.out.2.1 hn)))
          have x0 := (cell_of_block NA.out 0).trans (show _ = some (Value.string ⟨s.toArray⟩) from rfl)
          have x1 := (cell_of_block NA.out 1).trans (show _ = some (Value.int .u32 (sq : Int)) from rfl)
          have x2 := (cell_of_block NA.out 2).trans (show _ = some (Value.int .u32 (ht : Int)) from rfl)
          have x3 := (cell_of_block NA.out 3).trans (show _ = some (Value.int .u16 (po : Int)) from rfl)
          have x4 := (cell_of_block NA.out 4).trans (show _ = some (Value.string ⟨tg.toArray⟩) from rfl)
          have x5 := (cell_of_block NA.out 5).trans (show _ = some (Value.slice ba bl.length bc) from rfl)
          have y0 := (cell_of_block NB.out 0).trans (show _ = some (Value.string ⟨s.toArray⟩) from rfl)
          have y1 := (cell_of_block NB.out 1).trans (show _ = some (Value.int .u32 (sq : Int)) from rfl)
          have y2 := (cell_of_block NB.out 2).trans (show _ = some (Value.int .u32 (ht : Int)) from rfl)
          have y3 := (cell_of_block NB.out 3).trans (show _ = some (Value.int .u16 (po : Int)) from rfl)
          have y4 := (cell_of_block NB.out 4).trans (show _ = some (Value.string ⟨tg.toArray⟩) from rfl)
          have y5 := (cell_of_block NB.out 5).trans (show _ = some (Value.slice ca bl.length cc) from rfl)
          have NOTE := hid (note_x s tg bl (sq : Int) (ht : Int) (po : Int) _ _ wr BA.out BB.out)
          have OKT := hid (ok_told HOK.out now vars (by omega))
          clear N8 N8b P8 R8 K8 U8a U8b HVB8 hm
          go_wp2_with fail
          refine NOTE.out.mono ?_
          rintro e w9 ⟨rfl, g9⟩
          have FIN := hid (show CaP N B C (E.map (·.1)) w (.returned (.bool true)) w9 from ⟨rfl, _, _, PF.out.grow g9, RF.out.grow g9, KF.out.trans (KT.of_none g9), OKT.out.1, OKT.out.2⟩)
          clear g9 NOTE
          go_wp2
          go_ret
          exact FIN.out
    · have k2 := (cell_of_block HNC.out 2).trans (show _ = some (Value.int .i64 mo) from rfl)
      obtain ⟨m3, hm3, hm4⟩ := i64_and3 mo
      obtain ⟨q, hq⟩ : ∃ q, q = decide (0 < m3) := ⟨_, rfl⟩
      have hqi : decide ((0 : Int) < (m3 : Int)) = q := by rw [hq]; exact decide_eq_decide.2 (by omega)
      have hqn : decide (0 < m3) = q := hq.symm
      have DN := hid (done_x N (fun _ => True) B D most SD q now HNN.out.1 wc PC.out (by have := HDE.out; omega) (fun e he => (HOK.out e.2 (by rw [← HLL.out]; exact List.mem_map_of_mem he)).2.1))
      rw [HLL.out] at DN
      clear hq hm4
      go_wp2_with fail
      refine DN.out.mono ?_
      rintro e w5 ⟨rfl, hP5, hk5⟩
      have P5 := hid hP5
      have K5 := hid hk5
      have k2 := (cell_of_block (hk5.of_type HNC.out rfl) 2).trans (show _ = some (Value.int .i64 mo) from rfl)
      have RX := hid (rdone_x N (fun _ => True) C E most SD q now HNN.out.1 w5 (RC.out.kt (fun _ h => h) hk5) (by omega) (fun e he => (HOK.out e.1 (List.mem_map_of_mem he)).2.1))
      clear hP5 hk5 DN
      go_wp2_with fail
      refine RX.out.mono ?_
      rintro e w6 ⟨rfl, hR6, hk6⟩
      have FIN := hid (show CaP N B C (E.map (·.1)) w (.returned (.bool true)) w6 from ⟨rfl, _, most, P5.out.kt (fun _ h => h) hk6, hR6, ((KT.of_none (T := TA) (N := N) GC.out).trans (K5.out.mono tp_ta)).trans (hk6.mono tr_ta), (ok_done HOK.out SD q now).1, (ok_done HOK.out SD q now).2⟩)
      clear hR6 hk6 RX k2
      go_wp2
      go_ret
      exact FIN.out
    · have k2 := (cell_of_block HNC.out 2).trans (show _ = some (Value.int .i64 mo) from rfl)
      have k7 := (cell_of_block HNC.out 7).trans (show _ = some (Value.slice ha hs'.length hc) from rfl)
      obtain ⟨m3, hm3, hm4⟩ := i64_and3 mo
      by_cases h0 : m3 = 0
      rotate_left
      · have hd1 : ((m3 : Int) == 0) = false := by simp; omega
        have hd2 : ¬ (m3 : Int) = 0 := by omega
        have FIN := hid (show CaP N B C (E.map (·.1)) w (.returned (.bool true)) wc from ⟨rfl, _, most, ⟨D, HLL.out, PC.out⟩, RC.out.all, KT.of_none GC.out, HOK.out, Nat.le_succ _⟩)
        clear h0 hm4 k7
        go_wp2
        go_ret
        exact FIN.out
      subst h0
      obtain ⟨a9, c9, e9, hhs⟩ := HOW.out.hs
      obtain ⟨rfl, rfl⟩ : ha = a9 ∧ hc = c9 := by simpa using e9
      have hmf : ∀ (fn : Fn) (first cap : Array Value) (w : World), (Instr.makeFunc fn first cap).run Tryz.prog w = .ok (.func fn first cap) w := fun _ _ _ _ => rfl
      have hh20 : hs'.length ≤ 20 := HSM.out.hs
      have DR := hid (drop_x N (fun _ => True) B D most mo HOW.out.most1 HOW.out.most2 (fun h => decide (h ∈ hs')) 58 #[.pointer (some ⟨A, 0, none⟩)] (fun _ _ => rfl) wc PC.out (fun lv hlv X e gX he => by
        obtain ⟨lv', h1', h2'⟩ := PC.out.head
        obtain rfl : lv = lv' := by rw [hlv] at h1'; simpa using h1'
        have hcell := gX.cell k7 (own_ne_fs h2' HNC.out (by decide))
        refine callc_x hs' ha hc A e.2.host X hcell (fun i y hy => ?_) (by omega)
        obtain ⟨b, p, rfl, hc1⟩ := hhs i y hy
        refine ⟨b, p, rfl, gX.cell (GWC.out.cell hc1 (by simp)) ?_⟩
        intro e2
        have hlt := World.block_lt_of_cell? W _ hc1
        have hob := (own_blk h2' b e2.symm).1
        have := HWN.out
        simp only at hlt
        omega))
      have UK := hid (u32k_low (c := hc) HWN.out GWC.out hhs)
      clear hm4 e9
      go_wp2_with fail
      refine DR.out.mono ?_
      rintro e w5 ⟨rfl, hP5, hk5⟩
      have P5 := hid hP5
      have K5 := hid hk5
      have k2 := (cell_of_block (hk5.of_type HNC.out rfl) 2).trans (show _ = some (Value.int .i64 mo) from rfl)
      have k7 := (cell_of_block (hk5.of_type HNC.out rfl) 7).trans (show _ = some (Value.slice ha hs'.length hc) from rfl)
      have RX := hid (rdrop_x N (fun _ => True) C E most mo HOW.out.most1 HOW.out.most2 hs' (.slice ha hs'.length hc) w5 (RC.out.kt (fun _ h => h) hk5) (UK.out.kt hk5) (by omega) (by omega))
      clear hP5 hk5 DR
      go_wp2_with fail
      refine RX.out.mono ?_
      rintro e w6 ⟨rfl, hR6, hk6⟩
      have FIN := hid (show CaP N B C (E.map (·.1)) w (.returned (.bool true)) w6 from ⟨rfl, _, _, ⟨_, drop_mapP HLL.out mo.toNat (fun h => decide (h ∈ hs')), P5.out.kt (fun _ h => h) hk6⟩, ⟨_, drop_mapR E mo.toNat (fun h => decide (h ∈ hs')), hR6⟩, ((KT.of_none (T := TA) (N := N) GC.out).trans (K5.out.mono tp_ta)).trans (hk6.mono tr_ta), (ok_drop HOK.out _ _).1, (ok_drop HOK.out _ _).2⟩)
      clear hR6 hk6 RX k2 k7
      go_wp2
      go_ret
      exact FIN.out
    · have r0 := (cell_of_block HRC.out 0).trans (show _ = some (Value.string ⟨#[]⟩) from rfl)
      have r1 := (cell_of_block HRC.out 1).trans (show _ = some (Value.string ⟨#[]⟩) from rfl)
      have r2 := (cell_of_block HRC.out 2).trans (show _ = some (Value.int .i64 0) from rfl)
      have r3 := (cell_of_block HRC.out 3).trans (show _ = some (Value.slice ra XS.length rc) from rfl)
      have r4 := (cell_of_block HRC.out 4).trans (show _ = some (Value.slice none 0 0) from rfl)
      have r5 := (cell_of_block HRC.out 5).trans (show _ = some (Value.bool false) from rfl)
      have k4 := (cell_of_block HNC.out 4).trans (show _ = some (Value.int .u32 (who : Int)) from rfl)
      have SB1 := hid (subscribe_x N (fun _ => True) B D most ⟨#[]⟩ ⟨#[]⟩ 0 _ (.slice none 0 0) false XS who now (n / 2) now mc wc PC.out HFC.out HXL.out HXV.out ⟨_, _, _, rfl⟩ (by have := HDE.out; omega) (by have := HWN.out; have := GWC.out.size; omega) HNN.out.1 (by have := HNN.out.2; omega) HNN.out.1 TC.out)
      rw [HLL.out] at SB1
      obtain ⟨US, hUS⟩ : ∃ US, US = subsL most (E.map (·.1)) XS who now (n / 2) now := ⟨_, rfl⟩
      have OKS := hid (show OkL US.1 ∧ US.1.length ≤ (E.map (·.1)).length + 1 by rw [hUS]; exact ok_subs HOK.out most XS who now (n / 2) now)
      have USL := hid (show US.2.2.length ≤ 1000000 by rw [hUS]; exact Nat.le_trans (subsL_len _ _ _ _ _ _ _) (by omega))
      rw [← hUS] at SB1
      have HUS := hid hUS
      have hshr : ((n : Int) / 2) = ((n / 2 : Nat) : Int) := by omega
      obtain ⟨nh, hnh⟩ : ∃ nh, nh = n / 2 := ⟨_, rfl⟩
      rw [← hnh] at SB1 hshr HUS
      have HNH := hid (show nh < 18446744073709551616 by have := HNN.out.2; omega)
      clear hUS hnh
      go_wp2_with fail
      refine SB1.out.mono ?_
      rintro e w5 ⟨v5, rfl, hf5, hp5, hk5⟩
      obtain ⟨f5a, f5c, rfl⟩ := hf5.shape
      have F5 := hid hf5
      have P5 := hid hp5
      have K5 := hid hk5
      have R5 := hid (RC.out.kt (fun _ h => h) hk5)
      have HFC5 := hid (HFC.out.kt rfl hk5)
      have HRC5 := hid (hk5.of_type HRC.out rfl)
      have k4 := (cell_of_block (hk5.of_type HNC.out rfl) 4).trans (show _ = some (Value.int .u32 (who : Int)) from rfl)
      clear hf5 hp5 hk5 SB1 r0 r1 r2 r3 r4 r5
      have r0 := (cell_of_block HRC5.out 0).trans (show _ = some (Value.string ⟨#[]⟩) from rfl)
      have r1 := (cell_of_block HRC5.out 1).trans (show _ = some (Value.string ⟨#[]⟩) from rfl)
      have r2 := (cell_of_block HRC5.out 2).trans (show _ = some (Value.int .i64 0) from rfl)
      have r3 := (cell_of_block HRC5.out 3).trans (show _ = some (Value.slice ra XS.length rc) from rfl)
      have r4 := (cell_of_block HRC5.out 4).trans (show _ = some (Value.slice none 0 0) from rfl)
      have r5 := (cell_of_block HRC5.out 5).trans (show _ = some (Value.bool false) from rfl)
      have SB2 := hid (rsubscribe_x N (fun _ => True) C E most ⟨#[]⟩ ⟨#[]⟩ 0 _ (.slice none 0 0) false XS who now nh now w5 R5.out HFC5.out HXL.out HXV.out ⟨_, _, _, rfl⟩ (by omega) (by have h1 := HWN.out; have h2 := GWC.out.size; have h3 := K5.out.size; omega) HNN.out.1 HNH.out HNN.out.1)
      rw [← HUS.out] at SB2
      go_wp2_with fail
      refine SB2.out.mono ?_
      rintro e w6 ⟨v6, rfl, hf6, hr6, hk6⟩
      obtain ⟨f6a, f6c, rfl⟩ := hf6.shape
      have F6 := hid hf6
      have F5b := hid (F5.out.kt rfl hk6)
      have P6 := hid (P5.out.kt (fun _ h => h) hk6)
      have R6 := hid hr6
      have K6 := hid (((KT.of_none (T := TA) (N := N) GC.out).trans (K5.out.mono tp_ta)).trans (hk6.mono tr_ta))
      have FLD := hid (fields_x US.2.2 _ _ w6 F5b.out.args F6.out.args USL.out)
      clear hf6 hr6 hk6 SB2 r0 r1 r2 r3 r4 r5 k4 F5 P5 R5 K5
      obtain ⟨st, hst⟩ : ∃ st, st = US.2.1 := ⟨_, rfl⟩
      rw [← hst]
      clear hst
      go_wp2_with fail
      refine FLD.out.mono ?_
      rintro e w7 ⟨rfl, g7⟩
      have FIN := hid (show CaP N B C (E.map (·.1)) w (.returned (.bool true)) w7 from ⟨rfl, _, _, P6.out.grow g7, R6.out.grow g7, K6.out.trans (KT.of_none g7), OKS.out.1, OKS.out.2⟩)
      clear g7 FLD
      go_wp2
      go_ret
      exact FIN.out
    · have r0 := (cell_of_block HRC.out 0).trans (show _ = some (Value.string ⟨#[]⟩) from rfl)
      have r1 := (cell_of_block HRC.out 1).trans (show _ = some (Value.string ⟨#[]⟩) from rfl)
      have r2 := (cell_of_block HRC.out 2).trans (show _ = some (Value.int .i64 0) from rfl)
      have r3 := (cell_of_block HRC.out 3).trans (show _ = some (Value.slice ra XS.length rc) from rfl)
      have r4 := (cell_of_block HRC.out 4).trans (show _ = some (Value.slice none 0 0) from rfl)
      have r5 := (cell_of_block HRC.out 5).trans (show _ = some (Value.bool false) from rfl)
      have k4 := (cell_of_block HNC.out 4).trans (show _ = some (Value.int .u32 (who : Int)) from rfl)
      have SB1 := hid (subscribe_x N (fun _ => True) B D most ⟨#[]⟩ ⟨#[]⟩ 0 _ (.slice none 0 0) false XS who now (n / 2) now mc wc PC.out HFC.out HXL.out HXV.out ⟨_, _, _, rfl⟩ (by have := HDE.out; omega) (by have := HWN.out; have := GWC.out.size; omega) HNN.out.1 (by have := HNN.out.2; omega) HNN.out.1 TC.out)
      rw [HLL.out] at SB1
      obtain ⟨US, hUS⟩ : ∃ US, US = subsL most (E.map (·.1)) XS who now (n / 2) now := ⟨_, rfl⟩
      have OKS := hid (show OkL US.1 ∧ US.1.length ≤ (E.map (·.1)).length + 1 by rw [hUS]; exact ok_subs HOK.out most XS who now (n / 2) now)
      have USL := hid (show US.2.2.length ≤ 1000000 by rw [hUS]; exact Nat.le_trans (subsL_len _ _ _ _ _ _ _) (by omega))
      rw [← hUS] at SB1
      have HUS := hid hUS
      have hshr : ((n : Int) / 2) = ((n / 2 : Nat) : Int) := by omega
      obtain ⟨nh, hnh⟩ : ∃ nh, nh = n / 2 := ⟨_, rfl⟩
      rw [← hnh] at SB1 hshr HUS
      have HNH := hid (show nh < 18446744073709551616 by have := HNN.out.2; omega)
      clear hUS hnh
      go_wp2_with fail
      refine SB1.out.mono ?_
      rintro e w5 ⟨v5, rfl, hf5, hp5, hk5⟩
      obtain ⟨f5a, f5c, rfl⟩ := hf5.shape
      have F5 := hid hf5
      have P5 := hid hp5
      have K5 := hid hk5
      have R5 := hid (RC.out.kt (fun _ h => h) hk5)
      have HFC5 := hid (HFC.out.kt rfl hk5)
      have HRC5 := hid (hk5.of_type HRC.out rfl)
      have k4 := (cell_of_block (hk5.of_type HNC.out rfl) 4).trans (show _ = some (Value.int .u32 (who : Int)) from rfl)
      clear hf5 hp5 hk5 SB1 r0 r1 r2 r3 r4 r5
      have r0 := (cell_of_block HRC5.out 0).trans (show _ = some (Value.string ⟨#[]⟩) from rfl)
      have r1 := (cell_of_block HRC5.out 1).trans (show _ = some (Value.string ⟨#[]⟩) from rfl)
      have r2 := (cell_of_block HRC5.out 2).trans (show _ = some (Value.int .i64 0) from rfl)
      have r3 := (cell_of_block HRC5.out 3).trans (show _ = some (Value.slice ra XS.length rc) from rfl)
      have r4 := (cell_of_block HRC5.out 4).trans (show _ = some (Value.slice none 0 0) from rfl)
      have r5 := (cell_of_block HRC5.out 5).trans (show _ = some (Value.bool false) from rfl)
      have SB2 := hid (rsubscribe_x N (fun _ => True) C E most ⟨#[]⟩ ⟨#[]⟩ 0 _ (.slice none 0 0) false XS who now nh now w5 R5.out HFC5.out HXL.out HXV.out ⟨_, _, _, rfl⟩ (by omega) (by have h1 := HWN.out; have h2 := GWC.out.size; have h3 := K5.out.size; omega) HNN.out.1 HNH.out HNN.out.1)
      rw [← HUS.out] at SB2
      go_wp2_with fail
      refine SB2.out.mono ?_
      rintro e w6 ⟨v6, rfl, hf6, hr6, hk6⟩
      obtain ⟨f6a, f6c, rfl⟩ := hf6.shape
      have F6 := hid hf6
      have F5b := hid (F5.out.kt rfl hk6)
      have P6 := hid (P5.out.kt (fun _ h => h) hk6)
      have R6 := hid hr6
      have K6 := hid (((KT.of_none (T := TA) (N := N) GC.out).trans (K5.out.mono tp_ta)).trans (hk6.mono tr_ta))
      have FLD := hid (fields_x US.2.2 _ _ w6 F5b.out.args F6.out.args USL.out)
      clear hf6 hr6 hk6 SB2 r0 r1 r2 r3 r4 r5 k4 F5 P5 R5 K5
      obtain ⟨st, hst⟩ : ∃ st, st = US.2.1 := ⟨_, rfl⟩
      rw [← hst]
      clear hst
      go_wp2_with fail
      refine FLD.out.mono ?_
      rintro e w7 ⟨rfl, g7⟩
      have FIN := hid (show CaP N B C (E.map (·.1)) w (.returned (.bool true)) w7 from ⟨rfl, _, _, P6.out.grow g7, R6.out.grow g7, K6.out.trans (KT.of_none g7), OKS.out.1, OKS.out.2⟩)
      clear g7 FLD
      go_wp2
      go_ret
      exact FIN.out
end Go.Proofs.YtfceodbpkghkaaaGreatDoor
