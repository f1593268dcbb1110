/- hearthref22: Subscribe. -/
import Derived.Test.YtfceodbpkghkaaaGreatDoorMT
import Derived.Test.YtfceodbpkghkaaaGreatDoorGmc
import Derived.Test.YtfceodbpkghkaaaGreatDoorMS
import Derived.Test.YtfceodbpkghkaaaGreatDoorMR
namespace Go.Proofs.YtfceodbpkghkaaaGreatDoor
open Go.RowKit
set_option linter.unusedVariables false
set_option linter.unusedSimpArgs false

theorem own9_KT {w w' : World} {N n : Nat} {v : Value} {xs : List Value} (h : w.ownsRow N 111 9 v n xs) (g : w.grownBy w' v.ownBlock) : KT TR N w w' := by
  rcases h.2 with ⟨rfl, _⟩ | ⟨b, cap, cur, rfl, hN, hb, -⟩
  · exact KT.of_none g
  · exact KT.of_row g hb hN rfl
theorem own9_lt {w : World} {N n : Nat} {v : Value} {xs : List Value} (h : w.ownsRow N 111 9 v n xs) : ∀ r, v.ownBlock = some r → r < w.heap.size := by
  intro r hr
  rcases h.2 with ⟨rfl, _⟩ | ⟨b, cap, cur, rfl, hN, hb, -⟩
  · cases hr
  · obtain rfl : b = r := by simpa [Value.ownBlock] using hr
    exact lt_of_block hb
/-- One more is put in place. -/
theorem RAt.push {w w1 : World} {N : Nat} {F : Nat → Prop} {B : Nat} {E : List Sv} {most : Nat} {x : Sb} {lv v' xv : Value} (h : RAt w N F B E most) (hB : w.heap[B]? = some (.cells #[lv, .int .i64 most] 108 (0, 0))) (hr : w.ownsRow N 111 9 lv E.length (rw9 E))
    (g : w.grownBy w1 lv.ownBlock) (hr' : w1.ownsRow N 111 9 v' (E.length + 1) (rw9 E ++ (subC x xv).toList)) (hx : ArgsK w N F xv x.last) (hn : E.length < most) :
    RAt (w1.setCell ⟨B, 0, none⟩ v') N F B (E ++ [(x, xv)]) most ∧ KT TR N w (w1.setCell ⟨B, 0, none⟩ v') := by
  have k1 := own9_KT hr g
  have hB1 : w1.heap[B]? = some (.cells #[lv, .int .i64 most] 108 (0, 0)) := gr_keep g hB (own_ne_fs hr hB (by decide))
  obtain ⟨p, k2⟩ := RAt.mk2 (F := F) (E' := E ++ [(x, xv)]) h.low hB1 (by rw [List.length_append, rw9_app, show rw9 [(x, xv)] = (subC x xv).toList by simp [rw9]]; exact hr') (Nat.le_refl _) (fun e he => by
    rcases List.mem_append.1 he with he | he
    · exact (h.each e he).kt tr_ta k1
    · obtain rfl : e = (x, xv) := by simpa using he
      exact hx.kt tr_ta k1) h.mo (by rw [List.length_append]; exact hn)
  exact ⟨p, k1.trans k2⟩
theorem rget_own (w : World) (v : Value) (fs : List (Gs × Gs)) (name : Gs) (h : FsAt w v fs) (hl : fs.length ≤ 100000) :
    Calls Tryz.prog 88 #[v, .string ⟨name.toArray⟩] w fun e w' => ∃ a c, e = .returned (.slice a (getL fs name).length c) ∧ (∀ s r, getL fs name = s :: r → ∃ g, a = some ⟨g, 0, none⟩ ∧ w.heap.size ≤ g ∧ w'.cell? ⟨g, 0, none⟩ = some (.string ⟨s.toArray⟩)) ∧ w.grownBy w' none := by
  obtain ⟨a, c, rfl⟩ := h.shape
  refine (rget_any w a fs.length c (fsN fs) (fsV fs) ⟨name.toArray⟩ h.pairs hl).mono ?_
  rintro e w' ⟨v', rfl, hown, g⟩
  have hg := getN_list name fs fs.length (Nat.le_refl _)
  rw [List.take_length] at hg
  have hlen : (getN (fsN fs) (fsV fs) ⟨name.toArray⟩ fs.length).length = (getL fs name).length := by have := congrArg List.length hg; simpa using this
  rw [hg, hlen] at hown
  obtain ⟨a', c', rfl, -⟩ := own_shape hown
  refine ⟨a', c', rfl, fun s r e => ?_, g⟩
  obtain ⟨g0, cap, e1, hb, -, hcell⟩ := own_cell hown (by rw [e]; simp)
  obtain ⟨rfl, -⟩ : a' = some ⟨g0, 0, none⟩ ∧ _ := by simpa using e1
  exact ⟨g0, rfl, hb, hcell 0 _ (by rw [e]; rfl)⟩
/-- An answer: a status and fields. -/
def RdPost (w : World) (N : Nat) (F : Nat → Prop) (B most : Nat) (r : List Sb × Nat × List (Gs × Gs)) (e : Ending) (w' : World) : Prop :=
  ∃ v, e = .returned (.tuple #[.int .i64 (r.2.1 : Int), v]) ∧ FsAt w' v r.2.2 ∧ RAll w' N F B r.1 most ∧ KT TR N w w'
set_option maxRecDepth 20000 in
set_option maxHeartbeats 4000000 in
theorem rsubscribe_x (N : Nat) (F : Nat → Prop) (B : Nat) (E : List Sv) (most : Nat) (m t : ByteArray) (mi : Int) (fv bv : Value) (kp : Bool) (fs : List (Gs × Gs)) (who now a b : Nat) (w : World)
    (h : RAt w N F B E most) (hf : FsAt w fv fs) (hfl : fs.length ≤ 100000) (hfv : ∀ f ∈ fs, f.2.length ≤ 2000) (hbv : ∃ a n c, bv = .slice a n c) (hEl : E.length ≤ 1000000)
    (hN : N ≤ w.heap.size) (hnow : now < 18446744073709551616) (ha : a < 18446744073709551616) (hb : b < 18446744073709551616) :
    Calls Tryz.prog 60 #[.pointer (some ⟨B, 0, none⟩), .agg #[.string m, .string t, .int .i64 mi, fv, bv, .bool kp], .int .u32 (who : Int), .int .u64 (now : Int), .agg #[.int .u64 (a : Int), .int .u64 (b : Int)]] w (RdPost w N F B most (subsL most (E.map (·.1)) fs who now a b)) := by
  obtain ⟨ba, bn, bc, rfl⟩ := hbv
  have HF := hid hf
  obtain ⟨fa, fc, rfl⟩ := hf.shape
  have nb := hid (heap_alloc_new w (.cells #[.string m, .string t, .int .i64 mi, .slice fa fs.length fc, .slice ba bn bc, .bool kp] 49))
  have g1 := World.grownBy_alloc w (.cells #[.string m, .string t, .int .i64 mi, .slice fa fs.length fc, .slice ba bn bc, .bool kp] 49) none
  obtain ⟨w1, hw1⟩ : ∃ w1, w1 = w.alloc (.cells #[.string m, .string t, .int .i64 mi, .slice fa fs.length fc, .slice ba bn bc, .bool kp] 49) := ⟨_, rfl⟩
  rw [← hw1] at nb g1
  have HW1 := hid hw1
  clear hw1
  have nb2 := heap_alloc_new w1 (.cells #[.int .u64 (a : Int), .int .u64 (b : Int)] 43)
  have g2 := World.grownBy_alloc w1 (.cells #[.int .u64 (a : Int), .int .u64 (b : Int)] 43) none
  obtain ⟨w2, hw2⟩ : ∃ w2, w2 = w1.alloc (.cells #[.int .u64 (a : Int), .int .u64 (b : Int)] 43) := ⟨_, rfl⟩
  rw [← hw2] at nb2 g2
  have HW2 := hid hw2
  clear hw2
  obtain ⟨A, hA⟩ : ∃ A, A = w.heap.size := ⟨_, rfl⟩
  obtain ⟨D, hD⟩ : ∃ D, D = w1.heap.size := ⟨_, rfl⟩
  rw [← hA] at nb
  rw [← hD] at nb2
  have HAA := hid hA
  have HDD := hid (show D = A + 1 by rw [hD, HW1.out, hA]; simp)
  have G2 := hid (gr_trans g1 g2)
  have P2 := hid (h.grow G2.out)
  have nbA := gr_keep g2 nb.out (by simp)
  have d0 := (cell_of_block nbA 0).trans (show _ = some (Value.string m) from rfl)
  have d1 := (cell_of_block nbA 1).trans (show _ = some (Value.string t) from rfl)
  have d2 := (cell_of_block nbA 2).trans (show _ = some (Value.int .i64 mi) from rfl)
  have d3 := (cell_of_block nbA 3).trans (show _ = some (Value.slice fa fs.length fc) from rfl)
  have d4 := (cell_of_block nbA 4).trans (show _ = some (Value.slice ba bn bc) from rfl)
  have d5 := (cell_of_block nbA 5).trans (show _ = some (Value.bool kp) from rfl)
  have HND := hid nb2
  have GET := hid (fun (W : World) (g : w2.grownBy W none) (name : Gs) => rget_own W _ fs name ((HF.out.grow G2.out).grow g) hfl)
  have CNT := hid (fun (W : World) (g : w2.grownBy W none) (name : Gs) => rcount_x m t mi _ (.slice ba bn bc) kp fs name W ((HF.out.grow G2.out).grow g) hfl ⟨_, _, _, rfl⟩)
  have HFV := hid hfv
  have HNB := hid (show N ≤ w2.heap.size from Nat.le_trans hN G2.out.size)
  have HB64 := hid (And.intro hnow (And.intro ha hb))
  have HLOW := hid (fun (g : Nat) (cs : Array Value) (tt : TypeId) (hg : w2.heap[g]? = some (.cells cs tt (0, 0))) => lt_of_block hg)
  clear hA hD g1 g2 nb nb2 nbA hf h hfv hN hnow ha hb
  obtain ⟨r, hr⟩ : ∃ r, r = subsL most (E.map (·.1)) fs who now a b := ⟨_, rfl⟩
  have HR := hid hr
  rw [← hr]
  clear hr
  go_enter Tryz.func60, Tryz.ntmps60
  go_wp2_with fail
  rw [← HW1.out, ← HAA.out, ← HDD.out, ← HW2.out]
  clear HW2 HW1 HDD HAA
  refine (GET.out w2 (gr_refl _ _) kTime).mono ?_
  rintro e w3 ⟨ta, tc, rfl, ht, g3⟩
  have G3 := hid g3
  have HT := hid ht
  obtain ⟨ts, hts⟩ : ∃ x, x = getL fs kTime := ⟨_, rfl⟩
  have SEC := hid (show secsL fs = secsT ts by rw [hts]; exact secsL_T fs)
  have HTL := hid (show ∀ t ∈ ts, t.length ≤ 2000 by
    intro t ht
    rw [hts] at ht
    unfold getL at ht
    obtain ⟨f, hf, rfl⟩ := List.mem_map.1 ht
    exact HFV.out f (List.mem_filter.1 hf).1)
  rw [← hts] at HT ⊢
  have e0 := g3.cell d0 (by simp)
  have e1 := g3.cell d1 (by simp)
  have e2 := g3.cell d2 (by simp)
  have e3 := g3.cell d3 (by simp)
  have e4 := g3.cell d4 (by simp)
  have e5 := g3.cell d5 (by simp)
  clear d0 d1 d2 d3 d4 d5
  clear hts ht g3
  have hsl := secsL_le fs
  obtain ⟨n, hn⟩ : ∃ n, n = secsL fs := ⟨_, rfl⟩
  rw [← hn] at SEC hsl
  have HNN := hid hn
  clear hn
  obtain ⟨tl, htl⟩ : ∃ x, x = ts.length := ⟨_, rfl⟩
  rw [← htl]
  have HTL2 := hid htl
  clear htl
  go_upto_if 26 with fail
  go_cut [12] (fun v12 wx => v12 = .int .u64 (n : Int) ∧ w3.grownBy wx none)
  case first =>
    cases ts with
    | nil =>
      obtain rfl : n = 1800 := SEC.out
      obtain rfl : tl = 0 := HTL2.out
      go_wp2_with fail
      go_meet
      exact ⟨rfl, gr_refl _ _⟩
    | cons t ts =>
      obtain ⟨g, rfl, -, ct⟩ := HT.out t ts rfl
      obtain rfl : n = secL t := SEC.out
      have HSX := hid (fun W => rseconds_x ⟨t.toArray⟩ W (by rw [Lib.size_eq]; have := HTL.out t (List.mem_cons_self ..); simp only; omega))
      have hp : 0 < tl := by rw [HTL2.out]; simp
      have hd := decide_eq_true hp
      have hpi : (0 : Int) < (tl : Int) := by omega
      clear SEC HTL HT
      go_wp2_with fail
      refine (HSX.out w3).mono ?_
      rintro e w4 ⟨rfl, g4⟩
      go_wp2_with fail
      go_meet
      exact ⟨rfl, g4⟩
  case rest =>
    obtain ⟨rfl, gc⟩ := hcut
    have GC := hid (gr_trans G3.out gc)
    have d0 := gc.cell e0 (by simp)
    have d1 := gc.cell e1 (by simp)
    have d2 := gc.cell e2 (by simp)
    have d3 := gc.cell e3 (by simp)
    have d4 := gc.cell e4 (by simp)
    have d5 := gc.cell e5 (by simp)
    clear e0 e1 e2 e3 e4 e5
    clear gc G3 HT SEC HTL HTL2
    go_wp2_with fail
    refine (GET.out wc GC.out kSid).mono ?_
    rintro e w4 ⟨sa, sc, rfl, hsa, g4⟩
    have G4 := hid (gr_trans GC.out g4)
    have HSA := hid hsa
    have HWC := hid GC.out.size
    obtain ⟨sids, hsids⟩ : ∃ x, x = getL fs kSid := ⟨_, rfl⟩
    rw [← hsids] at HSA ⊢
    have E1 := hid hsids
    have e0 := g4.cell d0 (by simp)
    have e1 := g4.cell d1 (by simp)
    have e2 := g4.cell d2 (by simp)
    have e3 := g4.cell d3 (by simp)
    have e4 := g4.cell d4 (by simp)
    have e5 := g4.cell d5 (by simp)
    clear d0 d1 d2 d3 d4 d5
    clear hsids hsa g4
    by_cases hs0 : sids = []
    · subst hs0
      have HR2 := hid (HR.out.trans (subsL_new E1.out.symm))
      rw [← HNN.out] at HR2
      clear HSA HR E1 HNN HWC
      go_wp2_with fail
      refine (CNT.out w4 G4.out kNt).mono ?_
      rintro e w5 ⟨rfl, g5⟩
      have G5 := hid (gr_trans G2.out (gr_trans G4.out g5))
      have G25 := hid (gr_trans G4.out g5)
      have P5 := hid (P2.out.grow G25.out)
      obtain ⟨nts, hnts⟩ : ∃ x, x = getL fs kNt := ⟨_, rfl⟩
      have E2 := hid hnts
      rw [← hnts] at HR2 ⊢
      have d0 := g5.cell e0 (by simp)
      have d1 := g5.cell e1 (by simp)
      have d2 := g5.cell e2 (by simp)
      have d3 := g5.cell e3 (by simp)
      have d4 := g5.cell e4 (by simp)
      have d5 := g5.cell e5 (by simp)
      clear e0 e1 e2 e3 e4 e5
      clear hnts g5 GC
      by_cases a1 : nts.length = 1
      rotate_left
      · have R := hid (show r = (E.map (·.1), 412, []) by
          rw [HR2.out]
          rcases nts with _ | ⟨x, _ | ⟨y, nts⟩⟩
          · rfl
          · exact absurd rfl a1
          · rfl)
        have a1' : ((nts.length : Int) != 1) = true := by simp; omega
        have a1'' : ((nts.length : Int) == 1) = false := by simp; omega
        clear HR2 E2 GET CNT
        go_wp2
        ((try simp only [Exit.inBlock, Exit.then]); refine bodyPost_ret (results_tmp2 rfl _ _ _) rfl ?_)
        exact ⟨.slice none 0 0, by rw [R.out]; rfl, by rw [R.out]; exact FsAt.nil _, by rw [R.out]; exact P5.out.all, KT.of_none G5.out⟩
      obtain ⟨nt, rfl⟩ : ∃ t, nts = [t] := List.length_eq_one_iff.1 a1
      clear a1
      simp only [List.length_cons, List.length_nil] at *
      go_wp2_with fail
      refine (CNT.out w5 G25.out kCall).mono ?_
      rintro e w6 ⟨rfl, g6⟩
      have G6 := hid (gr_trans G5.out g6)
      have G26 := hid (gr_trans G25.out g6)
      have P6 := hid (P2.out.grow G26.out)
      obtain ⟨calls, hcalls⟩ : ∃ x, x = getL fs kCall := ⟨_, rfl⟩
      have E3 := hid hcalls
      rw [← hcalls] at HR2 ⊢
      have e0 := g6.cell d0 (by simp)
      have e1 := g6.cell d1 (by simp)
      have e2 := g6.cell d2 (by simp)
      have e3 := g6.cell d3 (by simp)
      have e4 := g6.cell d4 (by simp)
      have e5 := g6.cell d5 (by simp)
      clear d0 d1 d2 d3 d4 d5
      clear hcalls g6 G5 G25 P5
      by_cases a3 : calls.length = 1
      rotate_left
      · have R := hid (show r = (E.map (·.1), 412, []) by
          rw [HR2.out]
          rcases calls with _ | ⟨x, _ | ⟨y, calls⟩⟩
          · rfl
          · exact absurd rfl a3
          · rfl)
        have a3' : ((calls.length : Int) != 1) = true := by simp; omega
        have a3'' : ((calls.length : Int) == 1) = false := by simp; omega
        have P5 := P6
        have G5 := G6
        clear HR2 E2 E3 GET CNT P6 G6
        go_wp2
        ((try simp only [Exit.inBlock, Exit.then]); refine bodyPost_ret (results_tmp2 rfl _ _ _) rfl ?_)
        exact ⟨.slice none 0 0, by rw [R.out]; rfl, by rw [R.out]; exact FsAt.nil _, by rw [R.out]; exact P5.out.all, KT.of_none G5.out⟩
      obtain ⟨c, rfl⟩ : ∃ c, calls = [c] := List.length_eq_one_iff.1 a3
      clear a3
      simp only [List.length_cons, List.length_nil] at *
      go_wp2_with fail
      refine (GET.out w6 G26.out kNt).mono ?_
      rintro e w7 ⟨na, nc, rfl, hna, g7⟩
      obtain ⟨gn, rfl, -, cn⟩ := hna nt [] E2.out.symm
      have G7 := hid (gr_trans G6.out g7)
      have G27 := hid (gr_trans G26.out g7)
      have P7 := hid (P2.out.grow G27.out)
      have HLN := hid (show (getL fs kNt).length = 1 by rw [← E2.out]; rfl)
      rw [HLN.out]
      have HEQ := hid (show (⟨nt.toArray⟩ : ByteArray).toList = nt from by rw [Lib.toList_data])
      have d0 := g7.cell e0 (by simp)
      have d1 := g7.cell e1 (by simp)
      have d2 := g7.cell e2 (by simp)
      have d3 := g7.cell e3 (by simp)
      have d4 := g7.cell e4 (by simp)
      have d5 := g7.cell e5 (by simp)
      clear e0 e1 e2 e3 e4 e5
      clear g7 hna G6 G26 P6 HLN
      have P5 := P7
      have G5 := G7
      clear P7 G7
      by_cases a2 : nt = kEvent
      rotate_left
      · have R := hid (show r = (E.map (·.1), 412, []) by rw [HR2.out]; exact if_neg a2)
        have a2' : ((⟨nt.toArray⟩ : ByteArray).toList == [117, 112, 110, 112, 58, 101, 118, 101, 110, 116]) = false := by
          rw [HEQ.out, beq_eq_false_iff_ne]
          exact a2
        have a2'' : ((⟨nt.toArray⟩ : ByteArray).toList != [117, 112, 110, 112, 58, 101, 118, 101, 110, 116]) = true := by
          rw [HEQ.out, bne_iff_ne]
          exact a2
        have a2n : ¬ (⟨nt.toArray⟩ : ByteArray).toList = [117, 112, 110, 112, 58, 101, 118, 101, 110, 116] := by
          rw [HEQ.out]
          exact a2
        obtain ⟨X, hX⟩ : ∃ X : ByteArray, X = ⟨nt.toArray⟩ := ⟨_, rfl⟩
        rw [← hX] at a2' a2'' a2n cn
        clear hX HEQ HR2 E2 E3 GET CNT
        go_wp2
        ((try simp only [Exit.inBlock, Exit.then]); refine bodyPost_ret (results_tmp2 rfl _ _ _) rfl ?_)
        exact ⟨.slice none 0 0, by rw [R.out]; rfl, by rw [R.out]; exact FsAt.nil _, by rw [R.out]; exact P5.out.all, KT.of_none G5.out⟩
      have a2' : ((⟨nt.toArray⟩ : ByteArray).toList == [117, 112, 110, 112, 58, 101, 118, 101, 110, 116]) = true := by
        rw [HEQ.out, beq_iff_eq]
        exact a2
      have a2'' : ((⟨nt.toArray⟩ : ByteArray).toList != [117, 112, 110, 112, 58, 101, 118, 101, 110, 116]) = false := by
        rw [HEQ.out, bne_eq_false_iff_eq]
        exact a2
      have HR3 := hid (HR2.out.trans (if_pos a2))
      obtain ⟨X, hX⟩ : ∃ X : ByteArray, X = ⟨nt.toArray⟩ := ⟨_, rfl⟩
      rw [← hX] at a2' a2'' cn
      clear hX HEQ HR2 a2 E2 CNT
      go_wp2_with fail
      refine (GET.out w7 G27.out kCall).mono ?_
      rintro e w8 ⟨ca, cc, rfl, hca, g8⟩
      obtain ⟨gc, rfl, -, cc0⟩ := hca c [] E3.out.symm
      have HLN := hid (show (getL fs kCall).length = 1 by rw [← E3.out]; rfl)
      rw [HLN.out]
      have HCL := hid (show c.length ≤ 2000 by
        have hc : c ∈ getL fs kCall := by rw [← E3.out]; exact List.mem_cons_self ..
        unfold getL at hc
        obtain ⟨f, hf, rfl⟩ := List.mem_map.1 hc
        exact HFV.out f (List.mem_filter.1 hf).1)
      have G8 := hid (gr_trans G5.out g8)
      have G28 := hid (gr_trans G27.out g8)
      have CB := hid (rcallback_x ⟨c.toArray⟩ w8 (by rw [Lib.size_eq]; exact HCL.out))
      rw [show (⟨c.toArray⟩ : ByteArray).data.toList = c from rfl] at CB
      clear d0 d1 d2 d3 d4 d5 g8 hca HLN HCL E3 GET G5 G27 P5 HFV cn a2' a2''
      go_wp2_with fail
      refine CB.out.mono ?_
      rintro e w9 ⟨rfl, g9⟩
      have G5 := hid (gr_trans G8.out g9)
      have G29 := hid (gr_trans G28.out g9)
      have P5 := hid (P2.out.grow G29.out)
      have HND5 := hid (gr_keep G29.out HND.out (by simp))
      have HNB5 := hid (Nat.le_trans HNB.out G29.out.size)
      clear g9 G8 G28 CB cc0
      rcases hcb : cbL c with - | ⟨h, p, tg⟩
      · have R := hid (show r = (E.map (·.1), 412, []) by rw [HR3.out, hcb])
        unfold cbV
        clear HR3 hcb
        go_wp2
        ((try simp only [Exit.inBlock, Exit.then]); refine bodyPost_ret (results_tmp2 rfl _ _ _) rfl ?_)
        exact ⟨.slice none 0 0, by rw [R.out]; rfl, by rw [R.out]; exact FsAt.nil _, by rw [R.out]; exact P5.out.all, KT.of_none G5.out⟩
      unfold cbV
      by_cases a4 : h = who
      rotate_left
      · have R := hid (show r = (E.map (·.1), 412, []) by rw [HR3.out, hcb]; exact if_pos a4)
        have a4' : ((h : Int) != (who : Int)) = true := by simp; omega
        have a4'' : ((h : Int) == (who : Int)) = false := by simp; omega
        clear HR3 hcb a4
        go_wp2
        ((try simp only [Exit.inBlock, Exit.then]); refine bodyPost_ret (results_tmp2 rfl _ _ _) rfl ?_)
        exact ⟨.slice none 0 0, by rw [R.out]; rfl, by rw [R.out]; exact FsAt.nil _, by rw [R.out]; exact P5.out.all, KT.of_none G5.out⟩
      have HR4 := hid (show r = if most ≤ (E.map (·.1)).length ∨ findL (E.map (·.1)) (sidL a b) < (E.map (·.1)).length then (E.map (·.1), 503, []) else (E.map (·.1) ++ [⟨sidL a b, h, p, tg, 0, laterL now n, false, now, []⟩], 200, grantL (sidL a b) n) by rw [HR3.out, hcb]; exact if_neg (fun hne => hne a4))
      have a4' : ((h : Int) != (who : Int)) = false := by simp; omega
      have a4'' : ((h : Int) == (who : Int)) = true := by simp; omega
      have hl : (E.map (·.1)).length = E.length := List.length_map ..
      clear HR3 hcb a4
      have SID := hid (rsid_x a b HB64.out.2.1 HB64.out.2.2 w9)
      have pd0 := (cell_of_block HND5.out 0).trans (show _ = some (Value.int .u64 (a : Int)) from rfl)
      have pd1 := (cell_of_block HND5.out 1).trans (show _ = some (Value.int .u64 (b : Int)) from rfl)
      go_wp2_with fail
      refine SID.out.mono ?_
      rintro e w10 ⟨rfl, g10⟩
      have G6 := hid (gr_trans G5.out g10)
      have P6 := hid (P5.out.grow g10)
      have HNB6 := hid (Nat.le_trans HNB5.out g10.size)
      clear g10 G5 P5 HND5 HNB5 pd0 pd1 SID
      have G5 := G6
      have P5 := P6
      have HNB := HNB6
      clear G6 P6 HNB6
      obtain ⟨a1, cap, h1, h2, hcap, -, -⟩ := P5.out.parts
      have H1 := hid h1
      have H2 := hid h2
      have b1 := (cell_of_block h1 0).trans (show _ = some (Value.slice a1 E.length cap) from rfl)
      have b8 := (cell_of_block h1 1).trans (show _ = some (Value.int .i64 (most : Int)) from rfl)
      clear h1 h2 hcap
      by_cases a5 : most ≤ E.length
      · have R := hid (show r = (E.map (·.1), 503, []) from HR4.out.trans (if_pos (.inl (by rw [hl]; exact a5))))
        have a5' := decide_eq_true a5
        have a5'' := decide_eq_true (show (most : Int) ≤ (E.length : Int) by omega)
        clear HR4 a5
        go_wp2_with fail
        go_quiet (fail)
        have P5 := hid (P5.out.grow (gr_drewN nq (gr_refl _ _)))
        have G5 := hid (gr_drewN nq G5.out)
        go_wp2
        ((try simp only [Exit.inBlock, Exit.then]); refine bodyPost_ret (results_tmp2 rfl _ _ _) rfl ?_)
        exact ⟨.slice none 0 0, by rw [R.out]; rfl, by rw [R.out]; exact FsAt.nil _, by rw [R.out]; exact P5.out.all, KT.of_none G5.out⟩
      have HMD := hid (decide_eq_false a5)
      have hmlt : E.length < most := by omega
      have HML := hid hmlt
      have FND := hid (fun (W : World) (g : w10.grownBy W none) => rfind_x N F B E most (sidL a b) W (P5.out.grow g))
      obtain ⟨pI, hpI⟩ : ∃ x, x = plI (E.map (·.1)) (sidL a b) := ⟨_, rfl⟩
      rw [← hpI] at FND
      obtain ⟨q, hq⟩ : ∃ q, q = decide (0 ≤ pI) := ⟨_, rfl⟩
      have HQ := hid hq.symm
      have HPI := hid hpI
      have a5' := HMD.out
      have a5'' := decide_eq_false (show ¬ (most : Int) ≤ (E.length : Int) by omega)
      clear hq hpI hmlt
      go_wp2_with fail
      obtain ⟨w0, hw0⟩ : ∃ w0, w0 = w10 := ⟨_, rfl⟩
      rw [← hw0] at b1 b8 P5 G5 H1 H2 HNB FND ⊢
      clear hw0
      refine wp_region_spec5 (by kernel_rfl) (by kernel_rfl) (n := 16) (by kernel_rfl) [some 120, some 121, some 122, some 123, some 124, some 125, some 126, some 127, some 128, some 129, some 130, some 131, some 132, some 133, some 134, some 135] (by kernel_rfl) _ (fun u => (by simp only [fill, List.zipIdx_cons, List.zipIdx_nil, List.foldl_cons, List.foldl_nil, Act.put, List.setIfInBounds_toArray, List.set_cons_zero, List.set_cons_succ, Nat.zero_add, Nat.reduceAdd]; exact rfl)) (by kernel_rfl) (by kernel_rfl) (by kernel_rfl)
        (fun ri v w => match ri with | 0 => v = .pointer (some ⟨B, 0, none⟩) | 1 => v = .pointer (some ⟨B, 0, none⟩) | 2 => v = .pointer (some ⟨B, 0, none⟩) | 3 => v = .slice a1 E.length cap | 4 => v = .int .i64 (E.length : Int) | 5 => v = .pointer (some ⟨B, 0, none⟩) | 6 => v = .pointer (some ⟨B, 0, none⟩) | 7 => v = .pointer (some ⟨B, 1, none⟩) | 8 => v = .int .i64 (most : Int) | 9 => v = .bool false | 10 => v = .bool false | 11 => v = .pointer (some ⟨B, 0, none⟩) | 12 => v = .string ⟨(sidL a b).toArray⟩ | 13 => v = .int .i64 pI | 14 => v = .bool q | 15 => v = .bool q | _ => True)
        (all_succ (all_succ (all_succ (all_succ (all_succ (all_succ (all_succ (all_succ (all_succ (all_succ (all_succ (all_succ (all_succ (all_succ (all_succ (all_succ (all_zero _) ?rm0) ?rm1) ?rm2) ?rm3) ?rm4) ?rm5) ?rm6) ?rm7) ?rm8) ?rm9) ?rm10) ?rm11) ?rm12) ?rm13) ?rm14) ?rm15)
        [[], [0], [1], [2], [3], [], [5], [6], [7], [4, 8], [9], [10], [10], [11, 12, 10], [13, 10], [10, 14]] (by kernel_rfl)
        ⟨?ro0, ?ro1, ?ro2, ?ro3, ?ro4, ?ro5, ?ro6, ?ro7, ?ro8, ?ro9, ?ro10, ?ro11, ?ro12, ?ro13, ?ro14, ?ro15, trivial⟩ ?rdone
      case rm0 => intro v w w' h g; exact h
      case rm1 => intro v w w' h g; exact h
      case rm2 => intro v w w' h g; exact h
      case rm3 => intro v w w' h g; exact h
      case rm4 => intro v w w' h g; exact h
      case rm5 => intro v w w' h g; exact h
      case rm6 => intro v w w' h g; exact h
      case rm7 => intro v w w' h g; exact h
      case rm8 => intro v w w' h g; exact h
      case rm9 => intro v w w' h g; exact h
      case rm10 => intro v w w' h g; exact h
      case rm11 => intro v w w' h g; exact h
      case rm12 => intro v w w' h g; exact h
      case rm13 => intro v w w' h g; exact h
      case rm14 => intro v w w' h g; exact h
      case rm15 => intro v w w' h g; exact h
      case ro0 =>
        intro u w g hd K hK
        clear hd
        simp only [Act.put, List.setIfInBounds_toArray, List.set_cons_zero, List.set_cons_succ] at hK
        go_simp
        exact hK _ _ rfl (gr_refl _ _)
      case ro1 =>
        intro u w g hd K hK
        have h0 : (u 0) = .pointer (some ⟨B, 0, none⟩) := hd 0 (by simp)
        clear hd
        simp only [Act.put, List.setIfInBounds_toArray, List.set_cons_zero, List.set_cons_succ] at hK
        simp only [h0] at hK ⊢
        go_simp
        exact hK _ _ rfl (gr_refl _ _)
      case ro2 =>
        intro u w g hd K hK
        have h1 : (u 1) = .pointer (some ⟨B, 0, none⟩) := hd 1 (by simp)
        clear hd
        simp only [Act.put, List.setIfInBounds_toArray, List.set_cons_zero, List.set_cons_succ] at hK
        simp only [h1] at hK ⊢
        go_simp
        exact hK _ _ rfl (gr_refl _ _)
      case ro3 =>
        intro u w g hd K hK
        have h2 : (u 2) = .pointer (some ⟨B, 0, none⟩) := hd 2 (by simp)
        clear hd
        simp only [Act.put, List.setIfInBounds_toArray, List.set_cons_zero, List.set_cons_succ] at hK
        have c := g.cell b1 (by simp)
        simp only [h2] at hK ⊢
        go_simp
        exact hK _ _ rfl (gr_refl _ _)
      case ro4 =>
        intro u w g hd K hK
        have h3 : (u 3) = .slice a1 E.length cap := hd 3 (by simp)
        clear hd
        simp only [Act.put, List.setIfInBounds_toArray, List.set_cons_zero, List.set_cons_succ] at hK
        simp only [h3] at hK ⊢
        go_simp
        exact hK _ _ rfl (gr_refl _ _)
      case ro5 =>
        intro u w g hd K hK
        clear hd
        simp only [Act.put, List.setIfInBounds_toArray, List.set_cons_zero, List.set_cons_succ] at hK
        go_simp
        exact hK _ _ rfl (gr_refl _ _)
      case ro6 =>
        intro u w g hd K hK
        have h5 : (u 5) = .pointer (some ⟨B, 0, none⟩) := hd 5 (by simp)
        clear hd
        simp only [Act.put, List.setIfInBounds_toArray, List.set_cons_zero, List.set_cons_succ] at hK
        simp only [h5] at hK ⊢
        go_simp
        exact hK _ _ rfl (gr_refl _ _)
      case ro7 =>
        intro u w g hd K hK
        have h6 : (u 6) = .pointer (some ⟨B, 0, none⟩) := hd 6 (by simp)
        clear hd
        simp only [Act.put, List.setIfInBounds_toArray, List.set_cons_zero, List.set_cons_succ] at hK
        simp only [h6] at hK ⊢
        go_simp
        exact hK _ _ rfl (gr_refl _ _)
      case ro8 =>
        intro u w g hd K hK
        have h7 : (u 7) = .pointer (some ⟨B, 1, none⟩) := hd 7 (by simp)
        clear hd
        simp only [Act.put, List.setIfInBounds_toArray, List.set_cons_zero, List.set_cons_succ] at hK
        have c := g.cell b8 (by simp)
        simp only [h7] at hK ⊢
        go_simp
        exact hK _ _ rfl (gr_refl _ _)
      case ro9 =>
        intro u w g hd K hK
        have h4 : (u 4) = .int .i64 (E.length : Int) := hd 4 (by simp)
        have h8 : (u 8) = .int .i64 (most : Int) := hd 8 (by simp)
        clear hd
        simp only [Act.put, List.setIfInBounds_toArray, List.set_cons_zero, List.set_cons_succ] at hK
        simp only [h4, h8] at hK ⊢
        go_simp
        first | exact hK _ _ rfl (gr_refl _ _) | (rw [HMD.out]; exact hK _ _ rfl (gr_refl _ _))
      case ro10 =>
        intro u w g hd K hK
        have h9 : (u 9) = .bool false := hd 9 (by simp)
        clear hd
        simp only [Act.put, List.setIfInBounds_toArray, List.set_cons_zero, List.set_cons_succ] at hK
        simp only [h9] at hK ⊢
        go_simp
        exact hK _ _ rfl (gr_refl _ _)
      case ro11 =>
        intro u w g hd K hK
        have h10 : (u 10) = .bool false := hd 10 (by simp)
        clear hd
        simp only [Act.put, List.setIfInBounds_toArray, List.set_cons_zero, List.set_cons_succ] at hK
        simp only [h10] at hK ⊢
        go_simp
        exact hK _ _ rfl (gr_refl _ _)
      case ro12 =>
        intro u w g hd K hK
        have h10 : (u 10) = .bool false := hd 10 (by simp)
        clear hd
        simp only [Act.put, List.setIfInBounds_toArray, List.set_cons_zero, List.set_cons_succ] at hK
        simp only [h10] at hK ⊢
        go_simp
        exact hK _ _ rfl (gr_refl _ _)
      case ro13 =>
        intro u w g hd K hK
        have h11 : (u 11) = .pointer (some ⟨B, 0, none⟩) := hd 11 (by simp)
        have h12 : (u 12) = .string ⟨(sidL a b).toArray⟩ := hd 12 (by simp)
        have h10 : (u 10) = .bool false := hd 10 (by simp)
        clear hd
        simp only [Act.put, List.setIfInBounds_toArray, List.set_cons_zero, List.set_cons_succ] at hK
        simp only [h11, h12, h10] at hK ⊢
        go_simp
        refine (FND.out w g).mono ?_
        rintro e w' ⟨rfl, rfl⟩
        exact hK _ _ rfl (gr_refl _ _)
      case ro14 =>
        intro u w g hd K hK
        have h13 : (u 13) = .int .i64 pI := hd 13 (by simp)
        have h10 : (u 10) = .bool false := hd 10 (by simp)
        clear hd
        simp only [Act.put, List.setIfInBounds_toArray, List.set_cons_zero, List.set_cons_succ] at hK
        simp only [h13, h10] at hK ⊢
        go_simp
        first | exact hK _ _ rfl (gr_refl _ _) | (rw [HQ.out]; exact hK _ _ rfl (gr_refl _ _))
      case ro15 =>
        intro u w g hd K hK
        have h10 : (u 10) = .bool false := hd 10 (by simp)
        have h14 : (u 14) = .bool q := hd 14 (by simp)
        clear hd
        simp only [Act.put, List.setIfInBounds_toArray, List.set_cons_zero, List.set_cons_succ] at hK
        simp only [h10, h14] at hK ⊢
        go_simp
        exact hK _ _ rfl (gr_refl _ _)
      intro u w hS g
      have s0 : (u 0) = .pointer (some ⟨B, 0, none⟩) := hS 0 (by decide)
      have s1 : (u 1) = .pointer (some ⟨B, 0, none⟩) := hS 1 (by decide)
      have s2 : (u 2) = .pointer (some ⟨B, 0, none⟩) := hS 2 (by decide)
      have s3 : (u 3) = .slice a1 E.length cap := hS 3 (by decide)
      have s4 : (u 4) = .int .i64 (E.length : Int) := hS 4 (by decide)
      have s5 : (u 5) = .pointer (some ⟨B, 0, none⟩) := hS 5 (by decide)
      have s6 : (u 6) = .pointer (some ⟨B, 0, none⟩) := hS 6 (by decide)
      have s7 : (u 7) = .pointer (some ⟨B, 1, none⟩) := hS 7 (by decide)
      have s8 : (u 8) = .int .i64 (most : Int) := hS 8 (by decide)
      have s9 : (u 9) = .bool false := hS 9 (by decide)
      have s10 : (u 10) = .bool false := hS 10 (by decide)
      have s11 : (u 11) = .pointer (some ⟨B, 0, none⟩) := hS 11 (by decide)
      have s12 : (u 12) = .string ⟨(sidL a b).toArray⟩ := hS 12 (by decide)
      have s13 : (u 13) = .int .i64 pI := hS 13 (by decide)
      have s14 : (u 14) = .bool q := hS 14 (by decide)
      have s15 : (u 15) = .bool q := hS 15 (by decide)
      clear hS
      have T15 := hid s15
      have GY := hid g
      clear s0 s1 s2 s3 s4 s5 s6 s7 s8 s9 s10 s11 s12 s13 s14 s15 g
      generalize u 0 = y0 at *
      generalize u 1 = y1 at *
      generalize u 2 = y2 at *
      generalize u 3 = y3 at *
      generalize u 4 = y4 at *
      generalize u 5 = y5 at *
      generalize u 6 = y6 at *
      generalize u 7 = y7 at *
      generalize u 8 = y8 at *
      generalize u 9 = y9 at *
      generalize u 10 = y10 at *
      generalize u 11 = y11 at *
      generalize u 12 = y12 at *
      generalize u 13 = y13 at *
      generalize u 14 = y14 at *
      generalize u 15 = y15 at *
      obtain rfl := T15.out
      have P5 := hid (P5.out.grow GY.out)
      have G5 := hid (gr_trans G5.out GY.out)
      cases q
      case true =>
        have R := hid (show r = (E.map (·.1), 503, []) from HR4.out.trans (if_pos (.inr (by
          have h1 := HPI.out
          have h2 := of_decide_eq_true HQ.out
          unfold plI at h1
          by_cases h3 : findL (E.map (·.1)) (sidL a b) < (E.map (·.1)).length
          · exact h3
          · rw [if_neg h3] at h1; omega))))
        clear HR4 b1 b8
        go_wp2
        ((try simp only [Exit.inBlock, Exit.then]); refine bodyPost_ret (results_tmp2 rfl _ _ _) rfl ?_)
        exact ⟨.slice none 0 0, by rw [R.out]; rfl, by rw [R.out]; exact FsAt.nil _, by rw [R.out]; exact P5.out.all, KT.of_none G5.out⟩
      have R := hid (show r = (E.map (·.1) ++ [⟨sidL a b, h, p, tg, 0, laterL now n, false, now, []⟩], 200, grantL (sidL a b) n) from HR4.out.trans (if_neg (by
        rintro (h1 | h1)
        · have := HML.out; omega
        · have h2 := HPI.out
          unfold plI at h2
          rw [if_pos h1] at h2
          have h3 := of_decide_eq_false HQ.out
          omega)))
      have HLA := hid (fun W => rlater_x now n HB64.out.1 (by omega) W)
      obtain ⟨ln, hln⟩ : ∃ ln, ln = laterL now n := ⟨_, rfl⟩
      rw [← hln] at HLA R
      have H1 := hid (gr_keep GY.out H1.out (by simp))
      have H2 := hid (own_growG H2.out GY.out)
      have HNB := hid (Nat.le_trans HNB.out GY.out.size)
      have b1 := GY.out.cell b1 (by simp)
      clear HR4 b8 HQ HPI GY hln FND HMD
      have HRNE := hid (own_ne_fs H2.out H1.out (by decide))
      have HRLT := hid (own9_lt H2.out)
      obtain ⟨i0, hi0, hz0, hz1, hz2⟩ := info_parts infoRu
      go_upto_region 22 with fail
      obtain ⟨w0, hw0⟩ : ∃ w0, w0 = w := ⟨_, rfl⟩
      rw [← hw0] at b1 P5 G5 H1 H2 HNB HRLT ⊢
      clear hw0
      refine wp_region_spec3 18 15 ((Value.slice a1 E.length cap).ownBlock) (by kernel_rfl) (by kernel_rfl) (by kernel_rfl) (by kernel_rfl) (by kernel_rfl) (by kernel_rfl) [some 136, some 137, some 138, some 139, some 140, some 141, some 142, some 143, some 144, some 145, some 146, some 147, some 148, some 149, some 150, some 151, some 152, some 153] (by kernel_rfl) _ (fun u => (by simp only [fill, List.zipIdx_cons, List.zipIdx_nil, List.foldl_cons, List.foldl_nil, Act.put, List.setIfInBounds_toArray, List.set_cons_zero, List.set_cons_succ, Nat.zero_add, Nat.reduceAdd]; exact rfl)) (by kernel_rfl)
        (all_succ (all_succ (all_succ (all_succ (all_succ (all_succ (all_succ (all_succ (all_succ (all_succ (all_succ (all_succ (all_succ (all_succ (all_succ (all_succ (all_succ (all_succ (all_zero _) (fun u v => by kernel_rfl)) (fun u v => by kernel_rfl)) (fun u v => by kernel_rfl)) (fun u v => by kernel_rfl)) (fun u v => by kernel_rfl)) (fun u v => by kernel_rfl)) (fun u v => by kernel_rfl)) (fun u v => by kernel_rfl)) (fun u v => by kernel_rfl)) (fun u v => by kernel_rfl)) (fun u v => by kernel_rfl)) (fun u v => by kernel_rfl)) (fun u v => by kernel_rfl)) (fun u v => by kernel_rfl)) (fun u v => by kernel_rfl)) (fun u v => by kernel_rfl)) (fun u v => by kernel_rfl)) (fun u v => by kernel_rfl))
        (fun ri v w => match ri with | 0 => v = .pointer (some ⟨B, 0, none⟩) | 1 => v = .pointer (some ⟨B, 0, none⟩) | 2 => v = .pointer (some ⟨B, 0, none⟩) | 3 => v = .pointer (some ⟨B, 0, none⟩) | 4 => v = .slice a1 E.length cap | 5 => v = .string ⟨(sidL a b).toArray⟩ | 6 => v = .int .u32 (h : Int) | 7 => v = .int .u16 (p : Int) | 8 => v = .string ⟨tg.toArray⟩ | 9 => v = .int .u64 (now : Int) | 10 => v = .int .u64 (n : Int) | 11 => v = .int .u64 (ln : Int) | 12 => v = .int .u64 (now : Int) | 13 => v = .agg #[.string ⟨(sidL a b).toArray⟩, .int .u32 (h : Int), .int .u16 (p : Int), .string ⟨tg.toArray⟩, .int .u32 0, .int .u64 (ln : Int), .bool false, .int .u64 (now : Int), .slice none 0 0] | 14 => ∃ bb, v = .slice (some ⟨bb, 0, none⟩) 1 1 ∧ w0.heap.size ≤ bb ∧ w.heap[bb]? = some (.cells #[.string ⟨(sidL a b).toArray⟩, .int .u32 (h : Int), .int .u16 (p : Int), .string ⟨tg.toArray⟩, .int .u32 0, .int .u64 (ln : Int), .bool false, .int .u64 (now : Int), .slice none 0 0] 111 (0, 0)) | 15 => w.ownsRow N 111 9 v (E.length + 1) (rw9 E ++ (subC ⟨sidL a b, h, p, tg, 0, ln, false, now, []⟩ (.slice none 0 0)).toList) | 16 => v = .pointer (some ⟨B, 0, none⟩) | 17 => v = .pointer (some ⟨B, 0, none⟩) | _ => True)
        (all_succ (all_succ (all_succ (all_succ (all_succ (all_succ (all_succ (all_succ (all_succ (all_succ (all_succ (all_succ (all_succ (all_succ (all_succ (all_succ (all_succ (all_succ (all_zero _) ?sm0) ?sm1) ?sm2) ?sm3) ?sm4) ?sm5) ?sm6) ?sm7) ?sm8) ?sm9) ?sm10) ?sm11) ?sm12) ?sm13) ?sm14) ?sm15) ?sm16) ?sm17)
        [[], [], [1], [2], [3], [], [], [], [], [], [], [9, 10], [], [5, 6, 7, 8, 11, 12], [13], [4, 14], [0], [16]] (by kernel_rfl)
        ⟨?so0, ?so1, ?so2, ?so3, ?so4, ?so5, ?so6, ?so7, ?so8, ?so9, ?so10, ?so11, ?so12, ?so13, ?so14, ?so15, ?so16, ?so17, trivial⟩ ?sdone
      case sm0 => intro v w w' h g; first | exact h | exact own_growG h g | (obtain ⟨bb, e, hb, hc⟩ := h; exact ⟨bb, e, hb, gr_keep g hc (fun e => by have := HRLT.out bb e.symm; omega)⟩)
      case sm1 => intro v w w' h g; first | exact h | exact own_growG h g | (obtain ⟨bb, e, hb, hc⟩ := h; exact ⟨bb, e, hb, gr_keep g hc (fun e => by have := HRLT.out bb e.symm; omega)⟩)
      case sm2 => intro v w w' h g; first | exact h | exact own_growG h g | (obtain ⟨bb, e, hb, hc⟩ := h; exact ⟨bb, e, hb, gr_keep g hc (fun e => by have := HRLT.out bb e.symm; omega)⟩)
      case sm3 => intro v w w' h g; first | exact h | exact own_growG h g | (obtain ⟨bb, e, hb, hc⟩ := h; exact ⟨bb, e, hb, gr_keep g hc (fun e => by have := HRLT.out bb e.symm; omega)⟩)
      case sm4 => intro v w w' h g; first | exact h | exact own_growG h g | (obtain ⟨bb, e, hb, hc⟩ := h; exact ⟨bb, e, hb, gr_keep g hc (fun e => by have := HRLT.out bb e.symm; omega)⟩)
      case sm5 => intro v w w' h g; first | exact h | exact own_growG h g | (obtain ⟨bb, e, hb, hc⟩ := h; exact ⟨bb, e, hb, gr_keep g hc (fun e => by have := HRLT.out bb e.symm; omega)⟩)
      case sm6 => intro v w w' h g; first | exact h | exact own_growG h g | (obtain ⟨bb, e, hb, hc⟩ := h; exact ⟨bb, e, hb, gr_keep g hc (fun e => by have := HRLT.out bb e.symm; omega)⟩)
      case sm7 => intro v w w' h g; first | exact h | exact own_growG h g | (obtain ⟨bb, e, hb, hc⟩ := h; exact ⟨bb, e, hb, gr_keep g hc (fun e => by have := HRLT.out bb e.symm; omega)⟩)
      case sm8 => intro v w w' h g; first | exact h | exact own_growG h g | (obtain ⟨bb, e, hb, hc⟩ := h; exact ⟨bb, e, hb, gr_keep g hc (fun e => by have := HRLT.out bb e.symm; omega)⟩)
      case sm9 => intro v w w' h g; first | exact h | exact own_growG h g | (obtain ⟨bb, e, hb, hc⟩ := h; exact ⟨bb, e, hb, gr_keep g hc (fun e => by have := HRLT.out bb e.symm; omega)⟩)
      case sm10 => intro v w w' h g; first | exact h | exact own_growG h g | (obtain ⟨bb, e, hb, hc⟩ := h; exact ⟨bb, e, hb, gr_keep g hc (fun e => by have := HRLT.out bb e.symm; omega)⟩)
      case sm11 => intro v w w' h g; first | exact h | exact own_growG h g | (obtain ⟨bb, e, hb, hc⟩ := h; exact ⟨bb, e, hb, gr_keep g hc (fun e => by have := HRLT.out bb e.symm; omega)⟩)
      case sm12 => intro v w w' h g; first | exact h | exact own_growG h g | (obtain ⟨bb, e, hb, hc⟩ := h; exact ⟨bb, e, hb, gr_keep g hc (fun e => by have := HRLT.out bb e.symm; omega)⟩)
      case sm13 => intro v w w' h g; first | exact h | exact own_growG h g | (obtain ⟨bb, e, hb, hc⟩ := h; exact ⟨bb, e, hb, gr_keep g hc (fun e => by have := HRLT.out bb e.symm; omega)⟩)
      case sm14 => intro v w w' h g; first | exact h | exact own_growG h g | (obtain ⟨bb, e, hb, hc⟩ := h; exact ⟨bb, e, hb, gr_keep g hc (fun e => by have := HRLT.out bb e.symm; omega)⟩)
      case sm15 => intro v w w' h g; first | exact h | exact own_growG h g | (obtain ⟨bb, e, hb, hc⟩ := h; exact ⟨bb, e, hb, gr_keep g hc (fun e => by have := HRLT.out bb e.symm; omega)⟩)
      case sm16 => intro v w w' h g; first | exact h | exact own_growG h g | (obtain ⟨bb, e, hb, hc⟩ := h; exact ⟨bb, e, hb, gr_keep g hc (fun e => by have := HRLT.out bb e.symm; omega)⟩)
      case sm17 => intro v w w' h g; first | exact h | exact own_growG h g | (obtain ⟨bb, e, hb, hc⟩ := h; exact ⟨bb, e, hb, gr_keep g hc (fun e => by have := HRLT.out bb e.symm; omega)⟩)
      case so0 =>
        intro u w g hd K hK
        replace g : w0.grownBy w (((Value.slice a1 E.length cap).ownBlock)) := g
        clear hd
        simp only [Act.put, List.setIfInBounds_toArray, List.set_cons_zero, List.set_cons_succ] at hK
        go_simp
        exact hK _ _ rfl (gr_refl _ _)
      case so1 =>
        intro u w g hd K hK
        replace g : w0.grownBy w (((Value.slice a1 E.length cap).ownBlock)) := g
        clear hd
        simp only [Act.put, List.setIfInBounds_toArray, List.set_cons_zero, List.set_cons_succ] at hK
        go_simp
        exact hK _ _ rfl (gr_refl _ _)
      case so2 =>
        intro u w g hd K hK
        replace g : w0.grownBy w (((Value.slice a1 E.length cap).ownBlock)) := g
        have h1 : (u 1) = .pointer (some ⟨B, 0, none⟩) := hd 1 (by simp)
        clear hd
        simp only [Act.put, List.setIfInBounds_toArray, List.set_cons_zero, List.set_cons_succ] at hK
        simp only [h1] at hK ⊢
        go_simp
        exact hK _ _ rfl (gr_refl _ _)
      case so3 =>
        intro u w g hd K hK
        replace g : w0.grownBy w (((Value.slice a1 E.length cap).ownBlock)) := g
        have h2 : (u 2) = .pointer (some ⟨B, 0, none⟩) := hd 2 (by simp)
        clear hd
        simp only [Act.put, List.setIfInBounds_toArray, List.set_cons_zero, List.set_cons_succ] at hK
        simp only [h2] at hK ⊢
        go_simp
        exact hK _ _ rfl (gr_refl _ _)
      case so4 =>
        intro u w g hd K hK
        replace g : w0.grownBy w (((Value.slice a1 E.length cap).ownBlock)) := g
        have h3 : (u 3) = .pointer (some ⟨B, 0, none⟩) := hd 3 (by simp)
        clear hd
        simp only [Act.put, List.setIfInBounds_toArray, List.set_cons_zero, List.set_cons_succ] at hK
        have c := g.cell b1 HRNE.out
        simp only [h3] at hK ⊢
        go_simp
        exact hK _ _ rfl (gr_refl _ _)
      case so5 =>
        intro u w g hd K hK
        replace g : w0.grownBy w (((Value.slice a1 E.length cap).ownBlock)) := g
        clear hd
        simp only [Act.put, List.setIfInBounds_toArray, List.set_cons_zero, List.set_cons_succ] at hK
        go_simp
        exact hK _ _ rfl (gr_refl _ _)
      case so6 =>
        intro u w g hd K hK
        replace g : w0.grownBy w (((Value.slice a1 E.length cap).ownBlock)) := g
        clear hd
        simp only [Act.put, List.setIfInBounds_toArray, List.set_cons_zero, List.set_cons_succ] at hK
        go_simp
        exact hK _ _ rfl (gr_refl _ _)
      case so7 =>
        intro u w g hd K hK
        replace g : w0.grownBy w (((Value.slice a1 E.length cap).ownBlock)) := g
        clear hd
        simp only [Act.put, List.setIfInBounds_toArray, List.set_cons_zero, List.set_cons_succ] at hK
        go_simp
        exact hK _ _ rfl (gr_refl _ _)
      case so8 =>
        intro u w g hd K hK
        replace g : w0.grownBy w (((Value.slice a1 E.length cap).ownBlock)) := g
        clear hd
        simp only [Act.put, List.setIfInBounds_toArray, List.set_cons_zero, List.set_cons_succ] at hK
        go_simp
        exact hK _ _ rfl (gr_refl _ _)
      case so9 =>
        intro u w g hd K hK
        replace g : w0.grownBy w (((Value.slice a1 E.length cap).ownBlock)) := g
        clear hd
        simp only [Act.put, List.setIfInBounds_toArray, List.set_cons_zero, List.set_cons_succ] at hK
        go_simp
        exact hK _ _ rfl (gr_refl _ _)
      case so10 =>
        intro u w g hd K hK
        replace g : w0.grownBy w (((Value.slice a1 E.length cap).ownBlock)) := g
        clear hd
        simp only [Act.put, List.setIfInBounds_toArray, List.set_cons_zero, List.set_cons_succ] at hK
        go_simp
        exact hK _ _ rfl (gr_refl _ _)
      case so11 =>
        intro u w g hd K hK
        replace g : w0.grownBy w (((Value.slice a1 E.length cap).ownBlock)) := g
        have h9 : (u 9) = .int .u64 (now : Int) := hd 9 (by simp)
        have h10 : (u 10) = .int .u64 (n : Int) := hd 10 (by simp)
        clear hd
        simp only [Act.put, List.setIfInBounds_toArray, List.set_cons_zero, List.set_cons_succ] at hK
        simp only [h9, h10] at hK ⊢
        go_simp
        refine (HLA.out w).mono ?_
        rintro e w' ⟨rfl, rfl⟩
        exact hK _ _ rfl (gr_refl _ _)
      case so12 =>
        intro u w g hd K hK
        replace g : w0.grownBy w (((Value.slice a1 E.length cap).ownBlock)) := g
        clear hd
        simp only [Act.put, List.setIfInBounds_toArray, List.set_cons_zero, List.set_cons_succ] at hK
        go_simp
        exact hK _ _ rfl (gr_refl _ _)
      case so13 =>
        intro u w g hd K hK
        replace g : w0.grownBy w (((Value.slice a1 E.length cap).ownBlock)) := g
        have h5 : (u 5) = .string ⟨(sidL a b).toArray⟩ := hd 5 (by simp)
        have h6 : (u 6) = .int .u32 (h : Int) := hd 6 (by simp)
        have h7 : (u 7) = .int .u16 (p : Int) := hd 7 (by simp)
        have h8 : (u 8) = .string ⟨tg.toArray⟩ := hd 8 (by simp)
        have h11 : (u 11) = .int .u64 (ln : Int) := hd 11 (by simp)
        have h12 : (u 12) = .int .u64 (now : Int) := hd 12 (by simp)
        clear hd
        simp only [Act.put, List.setIfInBounds_toArray, List.set_cons_zero, List.set_cons_succ] at hK
        simp only [h5, h6, h7, h8, h11, h12] at hK ⊢
        go_simp
        exact hK _ _ rfl (gr_refl _ _)
      case so14 =>
        intro u w g hd K hK
        replace g : w0.grownBy w (((Value.slice a1 E.length cap).ownBlock)) := g
        have h13 : (u 13) = .agg #[.string ⟨(sidL a b).toArray⟩, .int .u32 (h : Int), .int .u16 (p : Int), .string ⟨tg.toArray⟩, .int .u32 0, .int .u64 (ln : Int), .bool false, .int .u64 (now : Int), .slice none 0 0] := hd 13 (by simp)
        clear hd
        simp only [Act.put, List.setIfInBounds_toArray, List.set_cons_zero, List.set_cons_succ] at hK
        simp only [h13] at hK ⊢
        have gs := g.size
        go_simp
        exact hK _ _ ⟨w.heap.size, rfl, gs, heap_alloc_new w _⟩ (gr_alloc (gr_refl _ _) _)
      case so15 =>
        intro u w g hd K hK
        replace g : w0.grownBy w none := g
        have h4 : (u 4) = .slice a1 E.length cap := hd 4 (by simp)
        have h14 : ∃ bb, (u 14) = .slice (some ⟨bb, 0, none⟩) 1 1 ∧ w0.heap.size ≤ bb ∧ w.heap[bb]? = some (.cells #[.string ⟨(sidL a b).toArray⟩, .int .u32 (h : Int), .int .u16 (p : Int), .string ⟨tg.toArray⟩, .int .u32 0, .int .u64 (ln : Int), .bool false, .int .u64 (now : Int), .slice none 0 0] 111 (0, 0)) := hd 14 (by simp)
        clear hd
        simp only [Act.put, List.setIfInBounds_toArray, List.set_cons_zero, List.set_cons_succ] at hK
        obtain ⟨bb, e14, hbb, c14⟩ := h14
        split
        rotate_left
        · rename_i hno; exact absurd rfl hno
        refine wp_appG (.tmp 140) (.tmp 150) 106 rfl (base := N) (e := 111) (size := 9) (bytes := 96) Tryz.underlying106 hi0 hz0 hz1 hz2 rfl (by decide) (v := .slice a1 E.length cap) (n := E.length) (cs := rw9 E) (by exact h4) (own_growG H2.out g) (ad := some ⟨bb, 0, none⟩) (m := 1) (c := 1) (news := (subC ⟨sidL a b, h, p, tg, 0, ln, false, now, []⟩ (.slice none 0 0)).toList) (by exact e14) rfl (.inr ⟨_, rfl, fun j u hu => by rw [add_at, Nat.zero_add]; rw [Array.getElem?_toList] at hu; exact (cell_of_block c14 j).trans hu⟩) (fun u hu => rw9_one [(⟨sidL a b, h, p, tg, 0, ln, false, now, []⟩, .slice none 0 0)] u (by rw [rw9_cons]; exact List.mem_append_left _ hu) (fun e he => by obtain rfl := List.mem_singleton.1 he; rfl)) (by unfold maxLen; omega) (by omega) (Nat.le_trans HNB.out g.size) ?_
        intro v' w' q2 q3 q4
        exact hK v' w' q2 q3
      case so16 =>
        intro u w g hd K hK
        replace g : w0.grownBy w (((Value.slice a1 E.length cap).ownBlock)) := g
        have h0 : (u 0) = .pointer (some ⟨B, 0, none⟩) := hd 0 (by simp)
        clear hd
        simp only [Act.put, List.setIfInBounds_toArray, List.set_cons_zero, List.set_cons_succ] at hK
        simp only [h0] at hK ⊢
        go_simp
        exact hK _ _ rfl (gr_refl _ _)
      case so17 =>
        intro u w g hd K hK
        replace g : w0.grownBy w (((Value.slice a1 E.length cap).ownBlock)) := g
        have h16 : (u 16) = .pointer (some ⟨B, 0, none⟩) := hd 16 (by simp)
        clear hd
        simp only [Act.put, List.setIfInBounds_toArray, List.set_cons_zero, List.set_cons_succ] at hK
        simp only [h16] at hK ⊢
        go_simp
        exact hK _ _ rfl (gr_refl _ _)
      intro u w hS g
      have s0 : (u 0) = .pointer (some ⟨B, 0, none⟩) := hS 0 (by decide)
      have s1 : (u 1) = .pointer (some ⟨B, 0, none⟩) := hS 1 (by decide)
      have s2 : (u 2) = .pointer (some ⟨B, 0, none⟩) := hS 2 (by decide)
      have s3 : (u 3) = .pointer (some ⟨B, 0, none⟩) := hS 3 (by decide)
      have s4 : (u 4) = .slice a1 E.length cap := hS 4 (by decide)
      have s5 : (u 5) = .string ⟨(sidL a b).toArray⟩ := hS 5 (by decide)
      have s6 : (u 6) = .int .u32 (h : Int) := hS 6 (by decide)
      have s7 : (u 7) = .int .u16 (p : Int) := hS 7 (by decide)
      have s8 : (u 8) = .string ⟨tg.toArray⟩ := hS 8 (by decide)
      have s9 : (u 9) = .int .u64 (now : Int) := hS 9 (by decide)
      have s10 : (u 10) = .int .u64 (n : Int) := hS 10 (by decide)
      have s11 : (u 11) = .int .u64 (ln : Int) := hS 11 (by decide)
      have s12 : (u 12) = .int .u64 (now : Int) := hS 12 (by decide)
      have s13 : (u 13) = .agg #[.string ⟨(sidL a b).toArray⟩, .int .u32 (h : Int), .int .u16 (p : Int), .string ⟨tg.toArray⟩, .int .u32 0, .int .u64 (ln : Int), .bool false, .int .u64 (now : Int), .slice none 0 0] := hS 13 (by decide)
      have s14 : ∃ bb, (u 14) = .slice (some ⟨bb, 0, none⟩) 1 1 ∧ w0.heap.size ≤ bb ∧ w.heap[bb]? = some (.cells #[.string ⟨(sidL a b).toArray⟩, .int .u32 (h : Int), .int .u16 (p : Int), .string ⟨tg.toArray⟩, .int .u32 0, .int .u64 (ln : Int), .bool false, .int .u64 (now : Int), .slice none 0 0] 111 (0, 0)) := hS 14 (by decide)
      have s15 : w.ownsRow N 111 9 (u 15) (E.length + 1) (rw9 E ++ (subC ⟨sidL a b, h, p, tg, 0, ln, false, now, []⟩ (.slice none 0 0)).toList) := hS 15 (by decide)
      have s16 : (u 16) = .pointer (some ⟨B, 0, none⟩) := hS 16 (by decide)
      have s17 : (u 17) = .pointer (some ⟨B, 0, none⟩) := hS 17 (by decide)
      clear hS
      replace g : w0.grownBy w ((Value.slice a1 E.length cap).ownBlock) := g
      change wpList _ _ _ [_] _ _
      have GY := hid g
      have R15 := hid s15
      have T17 := hid s17
      clear s0 s1 s2 s3 s4 s5 s6 s7 s8 s9 s10 s11 s12 s13 s14 s15 s16 s17 g
      generalize u 0 = y0 at *
      generalize u 1 = y1 at *
      generalize u 2 = y2 at *
      generalize u 3 = y3 at *
      generalize u 4 = y4 at *
      generalize u 5 = y5 at *
      generalize u 6 = y6 at *
      generalize u 7 = y7 at *
      generalize u 8 = y8 at *
      generalize u 9 = y9 at *
      generalize u 10 = y10 at *
      generalize u 11 = y11 at *
      generalize u 12 = y12 at *
      generalize u 13 = y13 at *
      generalize u 14 = y14 at *
      generalize u 15 = y15 at *
      generalize u 16 = y16 at *
      generalize u 17 = y17 at *
      obtain rfl := T17.out
      have PUSH := hid (P5.out.push H1.out H2.out GY.out R15.out (ArgsK.nil _ _ _) HML.out)
      obtain ⟨a8, c8, rfl⟩ := own_shapeG R15.out
      have hB8 := gr_keep GY.out H1.out HRNE.out
      have b8 := (cell_of_block hB8 0).trans (show _ = some (Value.slice a1 E.length cap) from rfl)
      have f8 := free_of_block hB8 0
      have R2 := hid (show r = ((E ++ [((⟨sidL a b, h, p, tg, 0, ln, false, now, []⟩ : Sb), Value.slice none 0 0)] : List Sv).map (·.1), 200, grantL (sidL a b) n) by rw [R.out, List.map_append]; rfl)
      have K6 := hid (KT.of_none (T := TR) (N := N) G5.out)
      clear R R15 GY H1 H2 P5 G5 hB8 HRNE HRLT
      go_upto_region 23 with fail
      obtain ⟨w9', hw9⟩ : ∃ w9, w9 = w.setCell ⟨B, 0, none⟩ (.slice a8 (E.length + 1) c8) := ⟨_, rfl⟩
      rw [← hw9] at PUSH ⊢
      have HGR := hid (rgranted_x (sidL a b) n (by omega) w9')
      clear b8 f8 hw9 b1
      go_wp2_with fail
      refine HGR.out.mono ?_
      rintro e w11 ⟨v10, rfl, hf10, g11⟩
      have FIN := hid (And.intro hf10 (And.intro (PUSH.out.1.grow g11).all (K6.out.trans (PUSH.out.2.trans (KT.of_none g11)))))
      clear hf10 g11 HGR
      go_wp2
      ((try simp only [Exit.inBlock, Exit.then]); refine bodyPost_ret (results_tmp2 rfl _ _ _) rfl ?_)
      exact ⟨v10, by rw [R2.out]; rfl, by rw [R2.out]; exact FIN.out.1, by rw [R2.out]; exact FIN.out.2.1, FIN.out.2.2⟩
    · obtain ⟨s, more, rfl⟩ := List.exists_cons_of_ne_nil hs0
      obtain ⟨g, rfl, hgl, cs⟩ := HSA.out s more rfl
      have HR2 := hid (HR.out.trans (subsL_sid E1.out.symm))
      rw [← HNN.out] at HR2
      have HGL := hid (show w2.heap.size ≤ g from Nat.le_trans HWC.out hgl)
      obtain ⟨k, hk⟩ : ∃ x, x = (s :: more).length := ⟨_, rfl⟩
      rw [← hk]
      have hkp : 0 < k := by rw [hk]; simp
      have hkd := decide_eq_true hkp
      have HK := hid (show k = more.length + 1 from hk)
      have P5 := hid (P2.out.grow G4.out)
      have G5 := hid (gr_trans G2.out G4.out)
      clear hs0 HSA HR E1 hk HNN HWC hgl GET HND HFV
      by_cases a1 : (1 : Int) < (k : Int)
      · have R := hid (show r = (E.map (·.1), 400, []) from HR2.out.trans (if_pos (.inl (by intro e; have := HK.out; rw [e] at this; simp at this; omega))))
        have a1' := decide_eq_true a1
        clear HR2 CNT
        go_wp2
        ((try simp only [Exit.inBlock, Exit.then]); refine bodyPost_ret (results_tmp2 rfl _ _ _) rfl ?_)
        exact ⟨.slice none 0 0, by rw [R.out]; rfl, by rw [R.out]; exact FsAt.nil _, by rw [R.out]; exact P5.out.all, KT.of_none G5.out⟩
      have a1' := decide_eq_false a1
      have hm0 := hid (show more = [] from List.eq_nil_of_length_eq_zero (by have := HK.out; omega))
      go_wp2_with fail
      refine (CNT.out w4 G4.out kNt).mono ?_
      rintro e w5 ⟨rfl, g5⟩
      have G6 := hid (gr_trans G5.out g5)
      have G25 := hid (gr_trans G4.out g5)
      have P6 := hid (P5.out.grow g5)
      have cs5 := g5.cell cs (by simp)
      obtain ⟨nts, hnts⟩ : ∃ x, x = getL fs kNt := ⟨_, rfl⟩
      rw [← hnts] at HR2 ⊢
      have d0 := g5.cell e0 (by simp)
      have d1 := g5.cell e1 (by simp)
      have d2 := g5.cell e2 (by simp)
      have d3 := g5.cell e3 (by simp)
      have d4 := g5.cell e4 (by simp)
      have d5 := g5.cell e5 (by simp)
      clear e0 e1 e2 e3 e4 e5
      clear hnts g5 GC cs G5 P5
      have P5 := P6
      have G5 := G6
      clear P6 G6
      by_cases a2 : 0 < nts.length
      · have R := hid (show r = (E.map (·.1), 400, []) from HR2.out.trans (if_pos (.inr (.inl (List.length_pos_iff.1 a2)))))
        have a2' := decide_eq_true a2
        clear HR2 CNT
        go_wp2
        ((try simp only [Exit.inBlock, Exit.then]); refine bodyPost_ret (results_tmp2 rfl _ _ _) rfl ?_)
        exact ⟨.slice none 0 0, by rw [R.out]; rfl, by rw [R.out]; exact FsAt.nil _, by rw [R.out]; exact P5.out.all, KT.of_none G5.out⟩
      have a2' := decide_eq_false a2
      have hn0 := hid (show nts = [] from List.eq_nil_of_length_eq_zero (by omega))
      go_wp2_with fail
      refine (CNT.out w5 G25.out kCall).mono ?_
      rintro e w6 ⟨rfl, g6⟩
      have G6 := hid (gr_trans G5.out g6)
      have P6 := hid (P5.out.grow g6)
      have cs6 := g6.cell cs5 (by simp)
      obtain ⟨calls, hcalls⟩ : ∃ x, x = getL fs kCall := ⟨_, rfl⟩
      rw [← hcalls] at HR2 ⊢
      have G26 := hid (gr_trans G25.out g6)
      clear hcalls g6 cs5 G5 P5 G25 d0 d1 d2 d3 d4 d5 CNT
      have P5 := P6
      have G5 := G6
      clear P6 G6
      by_cases a3 : 0 < calls.length
      · have R := hid (show r = (E.map (·.1), 400, []) from HR2.out.trans (if_pos (.inr (.inr (List.length_pos_iff.1 a3)))))
        have a3' := decide_eq_true a3
        clear HR2
        go_wp2
        ((try simp only [Exit.inBlock, Exit.then]); refine bodyPost_ret (results_tmp2 rfl _ _ _) rfl ?_)
        exact ⟨.slice none 0 0, by rw [R.out]; rfl, by rw [R.out]; exact FsAt.nil _, by rw [R.out]; exact P5.out.all, KT.of_none G5.out⟩
      have a3' := decide_eq_false a3
      have hc0 := hid (show calls = [] from List.eq_nil_of_length_eq_zero (by omega))
      have HR3 := hid (HR2.out.trans (if_neg (by rw [hm0.out, hn0.out, hc0.out]; simp)))
      have hl : (E.map (·.1)).length = E.length := List.length_map ..
      clear HR2 hm0 hn0 hc0
      have FND := hid (rfind_x N F B E most s w6 P5.out)
      go_wp2_with fail
      refine FND.out.mono ?_
      rintro e w7 ⟨rfl, rfl⟩
      clear FND
      cases hx : (E.map (·.1))[findL (E.map (·.1)) s]? with
      | none =>
        have R := hid (show r = (E.map (·.1), 412, []) by rw [HR3.out, hx])
        rw [plI_none hx]
        clear HR3 hx
        go_wp2
        ((try simp only [Exit.inBlock, Exit.then]); refine bodyPost_ret (results_tmp2 rfl _ _ _) rfl ?_)
        exact ⟨.slice none 0 0, by rw [R.out]; rfl, by rw [R.out]; exact FsAt.nil _, by rw [R.out]; exact P5.out.all, KT.of_none G5.out⟩
      | some x =>
        rw [plI_some hx]
        have hsx := findL_at _ _ _ hx
        obtain ⟨i, hi⟩ : ∃ i, i = findL (E.map (·.1)) s := ⟨_, rfl⟩
        rw [hx] at HR3
        rw [← hi] at HR3 hx ⊢
        obtain ⟨e, hek, rfl⟩ : ∃ e, E[i]? = some e ∧ e.1 = x := by
          rw [List.getElem?_map] at hx
          cases he : E[i]? with
          | none => rw [he] at hx; cases hx
          | some e => rw [he] at hx; exact ⟨e, rfl, Option.some.inj hx⟩
        have hil := (List.getElem?_eq_some_iff.1 hek).1
        have hi1 : (i : Int) < (E.length : Int) := by omega
        obtain ⟨a0, cap, hB, -, hcap, -, hc⟩ := P2.out.parts
        obtain ⟨g0, rfl, -, ⟨cs0, hcs0⟩, hcell⟩ := hc i e hek
        have HGN := hid (show g ≠ g0 by have := lt_of_block hcs0; have := HGL.out; omega)
        have HB := hid (gr_keep G26.out hB (by simp))
        have HC0 := hid (gr_keep G26.out hcs0 (by simp))
        have b0 := (cell_of_block HB.out 0).trans (show _ = some (Value.slice (some ⟨g0, 0, none⟩) E.length cap) from rfl)
        have q1 := G26.out.cell ((hcell 1 (by omega)).trans (show _ = some (.int .u32 e.1.host) from rfl)) (by simp)
        have q5 := G26.out.cell ((hcell 5 (by omega)).trans (show _ = some (.int .u64 e.1.ends) from rfl)) (by simp)
        have HEK := hid hek
        have HSX := hid hsx
        clear hc hcell hB hx hi hek hcs0 hsx
        by_cases hw : e.1.host = who
        rotate_left
        · have R := hid (show r = (E.map (·.1), 412, []) by rw [HR3.out]; simp only; rw [if_neg hw])
          have hn1 : ((e.1.host : Int) != (who : Int)) = true := by simp; omega
          have hn2 : ((e.1.host : Int) == (who : Int)) = false := by simp; omega
          clear HR3 hw q5
          go_wp2
          ((try simp only [Exit.inBlock, Exit.then]); refine bodyPost_ret (results_tmp2 rfl _ _ _) rfl ?_)
          exact ⟨.slice none 0 0, by rw [R.out]; rfl, by rw [R.out]; exact FsAt.nil _, by rw [R.out]; exact P5.out.all, KT.of_none G5.out⟩
        · obtain ⟨ln, hln⟩ : ∃ ln, ln = laterL now n := ⟨_, rfl⟩
          have R := hid (show r = ((E.map (·.1)).set i { e.1 with ends := ln }, 200, grantL e.1.sid n) by rw [HR3.out]; simp only; rw [if_pos hw, hln])
          have HLA := hid (fun W => rlater_x now n HB64.out.1 (by omega) W)
          rw [← hln] at HLA
          have hw1 : ((e.1.host : Int) != (who : Int)) = false := by simp; omega
          have hw2 : ((e.1.host : Int) == (who : Int)) = true := by simp; omega
          clear HR3 hw hln
          go_upto_region 12 with fail
          obtain ⟨w0, hw0⟩ : ∃ w0, w0 = w6 := ⟨_, rfl⟩
          rw [← hw0] at b0 q5 P5 G5 HB HC0 cs6 ⊢
          clear hw0 q1 hw1 hw2
          refine wp_region_spec3 10 11 none (by kernel_rfl) (by kernel_rfl) (by kernel_rfl) (by kernel_rfl) (by kernel_rfl) (by kernel_rfl) [some 69, some 70, some 71, some 72, some 73, some 74, some 75, some 76, some 77, some 78] (by kernel_rfl) _ (fun u => (by simp only [fill, List.zipIdx_cons, List.zipIdx_nil, List.foldl_cons, List.foldl_nil, Act.put, List.setIfInBounds_toArray, List.set_cons_zero, List.set_cons_succ, Nat.zero_add, Nat.reduceAdd]; exact rfl)) (by kernel_rfl)
            (all_succ (all_succ (all_succ (all_succ (all_succ (all_succ (all_succ (all_succ (all_succ (all_succ (all_zero _) (fun u v => by kernel_rfl)) (fun u v => by kernel_rfl)) (fun u v => by kernel_rfl)) (fun u v => by kernel_rfl)) (fun u v => by kernel_rfl)) (fun u v => by kernel_rfl)) (fun u v => by kernel_rfl)) (fun u v => by kernel_rfl)) (fun u v => by kernel_rfl)) (fun u v => by kernel_rfl))
            (fun ri v w => match ri with | 0 => v = .pointer (some ⟨B, 0, none⟩) | 1 => v = .pointer (some ⟨B, 0, none⟩) | 2 => v = .pointer (some ⟨B, 0, none⟩) | 3 => v = .slice (some ⟨g0, 0, none⟩) E.length cap | 4 => v = .int .i64 (i : Int) | 5 => v = .int .u64 (now : Int) | 6 => v = .int .u64 (n : Int) | 7 => v = .int .u64 (ln : Int) | 8 => v = .pointer (some ⟨g0, i * 9, none⟩) | 9 => v = .pointer (some ⟨g0, i * 9 + 5, none⟩) | _ => True)
            (all_succ (all_succ (all_succ (all_succ (all_succ (all_succ (all_succ (all_succ (all_succ (all_succ (all_zero _) ?qm0) ?qm1) ?qm2) ?qm3) ?qm4) ?qm5) ?qm6) ?qm7) ?qm8) ?qm9)
            [[], [0], [1], [2], [], [], [], [5, 6], [3, 4], [8]] (by kernel_rfl)
            ⟨?qo0, ?qo1, ?qo2, ?qo3, ?qo4, ?qo5, ?qo6, ?qo7, ?qo8, ?qo9, trivial⟩ ?qdone
          case qm0 => intro v w w' h g; exact h
          case qm1 => intro v w w' h g; exact h
          case qm2 => intro v w w' h g; exact h
          case qm3 => intro v w w' h g; exact h
          case qm4 => intro v w w' h g; exact h
          case qm5 => intro v w w' h g; exact h
          case qm6 => intro v w w' h g; exact h
          case qm7 => intro v w w' h g; exact h
          case qm8 => intro v w w' h g; exact h
          case qm9 => intro v w w' h g; exact h
          case qo0 =>
            intro u w g hd K hK
            replace g : w0.grownBy w (none) := g
            clear hd
            simp only [Act.put, List.setIfInBounds_toArray, List.set_cons_zero, List.set_cons_succ] at hK
            go_simp
            exact hK _ _ rfl (gr_refl _ _)
          case qo1 =>
            intro u w g hd K hK
            replace g : w0.grownBy w (none) := g
            have h0 : (u 0) = .pointer (some ⟨B, 0, none⟩) := hd 0 (by simp)
            clear hd
            simp only [Act.put, List.setIfInBounds_toArray, List.set_cons_zero, List.set_cons_succ] at hK
            simp only [h0] at hK ⊢
            go_simp
            exact hK _ _ rfl (gr_refl _ _)
          case qo2 =>
            intro u w g hd K hK
            replace g : w0.grownBy w (none) := g
            have h1 : (u 1) = .pointer (some ⟨B, 0, none⟩) := hd 1 (by simp)
            clear hd
            simp only [Act.put, List.setIfInBounds_toArray, List.set_cons_zero, List.set_cons_succ] at hK
            simp only [h1] at hK ⊢
            go_simp
            exact hK _ _ rfl (gr_refl _ _)
          case qo3 =>
            intro u w g hd K hK
            replace g : w0.grownBy w (none) := g
            have h2 : (u 2) = .pointer (some ⟨B, 0, none⟩) := hd 2 (by simp)
            clear hd
            simp only [Act.put, List.setIfInBounds_toArray, List.set_cons_zero, List.set_cons_succ] at hK
            have c := g.cell b0 (by simp)
            simp only [h2] at hK ⊢
            go_simp
            exact hK _ _ rfl (gr_refl _ _)
          case qo4 =>
            intro u w g hd K hK
            replace g : w0.grownBy w (none) := g
            clear hd
            simp only [Act.put, List.setIfInBounds_toArray, List.set_cons_zero, List.set_cons_succ] at hK
            go_simp
            exact hK _ _ rfl (gr_refl _ _)
          case qo5 =>
            intro u w g hd K hK
            replace g : w0.grownBy w (none) := g
            clear hd
            simp only [Act.put, List.setIfInBounds_toArray, List.set_cons_zero, List.set_cons_succ] at hK
            go_simp
            exact hK _ _ rfl (gr_refl _ _)
          case qo6 =>
            intro u w g hd K hK
            replace g : w0.grownBy w (none) := g
            clear hd
            simp only [Act.put, List.setIfInBounds_toArray, List.set_cons_zero, List.set_cons_succ] at hK
            go_simp
            exact hK _ _ rfl (gr_refl _ _)
          case qo7 =>
            intro u w g hd K hK
            replace g : w0.grownBy w (none) := g
            have h5 : (u 5) = .int .u64 (now : Int) := hd 5 (by simp)
            have h6 : (u 6) = .int .u64 (n : Int) := hd 6 (by simp)
            clear hd
            simp only [Act.put, List.setIfInBounds_toArray, List.set_cons_zero, List.set_cons_succ] at hK
            simp only [h5, h6] at hK ⊢
            go_simp
            refine (HLA.out w).mono ?_
            rintro e w' ⟨rfl, rfl⟩
            exact hK _ _ rfl (gr_refl _ _)
          case qo8 =>
            intro u w g hd K hK
            replace g : w0.grownBy w (none) := g
            have h3 : (u 3) = .slice (some ⟨g0, 0, none⟩) E.length cap := hd 3 (by simp)
            have h4 : (u 4) = .int .i64 (i : Int) := hd 4 (by simp)
            clear hd
            simp only [Act.put, List.setIfInBounds_toArray, List.set_cons_zero, List.set_cons_succ] at hK
            simp only [h3, h4] at hK ⊢
            go_simp
            exact hK _ _ rfl (gr_refl _ _)
          case qo9 =>
            intro u w g hd K hK
            replace g : w0.grownBy w (none) := g
            have h8 : (u 8) = .pointer (some ⟨g0, i * 9, none⟩) := hd 8 (by simp)
            clear hd
            simp only [Act.put, List.setIfInBounds_toArray, List.set_cons_zero, List.set_cons_succ] at hK
            simp only [h8] at hK ⊢
            go_simp
            exact hK _ _ rfl (gr_refl _ _)
          intro u w hS g
          have s0 : (u 0) = .pointer (some ⟨B, 0, none⟩) := hS 0 (by decide)
          have s1 : (u 1) = .pointer (some ⟨B, 0, none⟩) := hS 1 (by decide)
          have s2 : (u 2) = .pointer (some ⟨B, 0, none⟩) := hS 2 (by decide)
          have s3 : (u 3) = .slice (some ⟨g0, 0, none⟩) E.length cap := hS 3 (by decide)
          have s4 : (u 4) = .int .i64 (i : Int) := hS 4 (by decide)
          have s5 : (u 5) = .int .u64 (now : Int) := hS 5 (by decide)
          have s6 : (u 6) = .int .u64 (n : Int) := hS 6 (by decide)
          have s7 : (u 7) = .int .u64 (ln : Int) := hS 7 (by decide)
          have s8 : (u 8) = .pointer (some ⟨g0, i * 9, none⟩) := hS 8 (by decide)
          have s9 : (u 9) = .pointer (some ⟨g0, i * 9 + 5, none⟩) := hS 9 (by decide)
          clear hS
          replace g : w0.grownBy w none := g
          change wpList _ _ _ [_] _ _
          have GY := hid g
          have T7 := hid s7
          have T9 := hid s9
          clear s0 s1 s2 s3 s4 s5 s6 s7 s8 s9 g
          generalize u 0 = y0 at *
          generalize u 1 = y1 at *
          generalize u 2 = y2 at *
          generalize u 3 = y3 at *
          generalize u 4 = y4 at *
          generalize u 5 = y5 at *
          generalize u 6 = y6 at *
          generalize u 7 = y7 at *
          generalize u 8 = y8 at *
          generalize u 9 = y9 at *
          obtain rfl := T7.out
          obtain rfl := T9.out
          have P6 := P5.out.grow GY.out
          have hB6 := gr_keep GY.out HB.out (by simp)
          have hb6 : ∃ cs, w.heap[g0]? = some (.cells cs 111 (0, 0)) := ⟨cs0, gr_keep GY.out HC0.out (by simp)⟩
          have A1 := P6.each _ (List.mem_of_getElem? HEK.out)
          have r5 := GY.out.cell q5 (by simp)
          have f5 := free_of_block hb6.choose_spec (i * 9 + 5)
          have U1 := hid (P6.upd2 (e' := ({ e.1 with ends := ln }, e.2)) (j := 5) (v := .int .u64 (ln : Int)) hB6 hb6 HEK.out (by omega) (by unfold subC; simp) A1)
          have cs7 := GY.out.cell cs6 (by simp)
          have K2 := hid ((KT.of_none (T := TR) (N := N) G5.out).trans ((KT.of_none GY.out).trans U1.out.2.1))
          clear P6 hB6 hb6 A1 q5 b0 cs6 G5 P5
          go_upto_region 13 with fail
          obtain ⟨w8, hw8⟩ : ∃ w8, w8 = w.setCell ⟨g0, i * 9 + 5, none⟩ (.int .u64 (ln : Int)) := ⟨_, rfl⟩
          have g8 : w.grownBy w8 (some g0) := by rw [hw8]; exact gr_set (gr_refl _ _)
          rw [← hw8] at U1 K2 ⊢
          have cs8 := g8.cell cs7 (by have := HGN.out; simpa using this)
          have HGR := hid (rgranted_x s n (by omega) w8)
          have hm := hid (map_set1 E i ({ e.1 with ends := ln }, e.2))
          clear r5 f5 cs7 g8 hw8
          go_wp2_with fail
          refine HGR.out.mono ?_
          rintro e' w9 ⟨v9, rfl, hf9, g9⟩
          have FIN := hid (And.intro hf9 (And.intro (U1.out.1.grow g9).all (K2.out.trans (KT.of_none g9))))
          clear hf9 g9 HGR
          go_wp2
          ((try simp only [Exit.inBlock, Exit.then]); refine bodyPost_ret (results_tmp2 rfl _ _ _) rfl ?_)
          exact ⟨v9, by rw [R.out]; rfl, by rw [R.out, HSX.out]; exact FIN.out.1, by rw [R.out]; show RAll _ _ _ _ ((E.map (·.1)).set i ({ e.1 with ends := ln })) _; rw [← hm.out]; exact FIN.out.2.1, FIN.out.2.2⟩
end Go.Proofs.YtfceodbpkghkaaaGreatDoor
