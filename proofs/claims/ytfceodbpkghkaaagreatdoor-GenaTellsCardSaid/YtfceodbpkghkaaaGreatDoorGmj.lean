/- The walk of GenaTells. -/
import Derived.Test.YtfceodbpkghkaaaGreatDoorGmi
import Derived.Test.YtfceodbpkghkaaaGreatDoorReg5
import Derived.Test.YtfceodbpkghkaaaGreatDoorB2s
namespace Go.Proofs.YtfceodbpkghkaaaGreatDoor
open Go.RowKit
set_option linter.unusedVariables false
set_option linter.unusedSimpArgs false

theorem and255 (x : Int) (h0 : 0 ≤ x) (h1 : x ≤ 18446744073709551615) : bits .and .u64 x 255 = ((x.toNat % 256 : Nat) : Int) := by
  have := bits_mask .u64 64 (by decide) wraps_u64 8 (by decide) x h0 (by omega)
  have h2 : bits .and .u64 x 255 = x % 256 := by simpa using this
  rw [h2]
  omega
/-- Between two values: as many as i have been told. -/
structure TeR (N B D : Nat) (a b : Nat) (w wr : World) (i now sq : Nat) (l : Gs) : Prop where
  k : KT TP N w wr
  dr : wr.heap[D]? = some (.cells #[.int .u64 (a : Int), .int .u64 (b : Int)] 43 (0, 0))
  one : ∃ x, OneAt wr N B x ∧ OneSub a b now sq (lastP sq l) x
  nowl : now ≤ i * 300
  sql : sq ≤ 2 * i
  pos : 0 < i → 0 < sq
  zero : sq = 0 → l = []
/-- Within the seconds of one value. -/
structure TiR (N B D : Nat) (a b : Nat) (w wr : World) (n1 k sq sq2 : Nat) (l l2 lv : Gs) : Prop where
  kt : KT TP N w wr
  dr : wr.heap[D]? = some (.cells #[.int .u64 (a : Int), .int .u64 (b : Int)] 43 (0, 0))
  one : ∃ x, OneAt wr N B x ∧ OneSub a b (n1 + k) sq2 (lastP sq2 l2) x ∧ x.ends = n1 + 1800
  sql : sq2 ≤ sq + k
  told : 0 < k → 0 < sq2 ∧ l2 = lv
  zero : k = 0 → sq2 = sq
set_option maxRecDepth 20000 in
set_option maxHeartbeats 4000000 in
theorem gena_tells_walk (va : Option Addr) (vl vc : Nat) (vs : Nat → ByteArray) (ga : Option Addr) (gl gc : Nat) (zs : List Int) (a b : Nat) (m : Int) (w : World)
    (ha : a < 18446744073709551616) (hb : b < 18446744073709551616) (hT : Tabs w.heap.size m w) (hv : StrsAt w va vl vs) (hg : IsRow .u64 w ga gl gc zs) :
    Calls Tryz.prog 4 #[.slice va vl vc, .slice ga gl gc, .agg #[.int .u64 (a : Int), .int .u64 (b : Int)]] w fun e w' => e = .returned (.bool true) ∧ w.grownBy w' none := by
  obtain ⟨N, hN⟩ : ∃ N, N = w.heap.size := ⟨_, rfl⟩
  rw [← hN] at hT
  have HN := hid hN
  have HT := hid hT
  have HV := hid hv
  have HG := hid hg
  have HAB := hid (And.intro ha hb)
  have ND := heap_alloc_new w (.cells #[.int .u64 (a : Int), .int .u64 (b : Int)] 43)
  have gD := World.grownBy_alloc w (.cells #[.int .u64 (a : Int), .int .u64 (b : Int)] 43) none
  obtain ⟨w0, hw0⟩ : ∃ w0, w0 = w.alloc (.cells #[.int .u64 (a : Int), .int .u64 (b : Int)] 43) := ⟨_, rfl⟩
  obtain ⟨D, hD⟩ : ∃ D, D = w.heap.size := ⟨_, rfl⟩
  rw [← hw0] at ND gD
  rw [← hD] at ND
  have HND := hid ND
  have GD := hid gD
  have HW0 := hid hw0
  have HDD := hid hD
  have HSP := hid (gspeaks_true m w0 (hid (HT.out.grow gD).max) (hid (HT.out.grow gD).p10))
  clear hw0 hD ND gD hT hv hg hN ha hb
  go_enter Tryz.func4, Tryz.ntmps4
  go_upto_region 1 with fail
  rw [← HW0.out, ← HDD.out]
  go_wp2_with fail
  refine HSP.out.mono ?_
  rintro e w1 ⟨rfl, g1⟩
  have G1 := hid (gr_trans GD.out g1)
  have ND1 := hid (gr_keep g1 HND.out (by simp))
  clear g1 HSP HW0 GD HND HDD
  by_cases h60 : (60 : Int) < (vl : Int)
  · have hd := decide_eq_true h60
    go_wp2
    go_ret
    exact ⟨rfl, G1.out⟩
  have hd := decide_eq_false h60
  have hvl : vl ≤ 60 := by omega
  have NEW := hid (new_x N (fun _ => True) 3 (by omega) (by omega) w1 (by rw [HN.out]; exact G1.out.size))
  rw [show (3 : Int).toNat = 3 from rfl] at NEW
  go_wp2_with fail
  refine NEW.out.mono ?_
  rintro e w2 ⟨rfl, hP2, g2⟩
  have G2 := hid (gr_trans G1.out g2)
  have ND2 := hid (gr_keep g2 ND1.out (by simp))
  have P2 := hid hP2
  obtain ⟨B, hB⟩ : ∃ B, B = w1.heap.size := ⟨_, rfl⟩
  rw [← hB] at P2 ⊢
  clear NEW hP2 g2 hB ND1 G1
  -- the first request
  have nF := heap_alloc_new w2 (.cells #[.string ⟨#[110, 116]⟩, .string ⟨#[117, 112, 110, 112, 58, 101, 118, 101, 110, 116]⟩, .string ⟨#[99, 97, 108, 108, 98, 97, 99, 107]⟩, .string ⟨#[60, 104, 116, 116, 112, 58, 47, 47, 49, 46, 50, 46, 51, 46, 52, 47, 101, 62]⟩] 47)
  have gF := World.grownBy_alloc w2 (.cells #[.string ⟨#[110, 116]⟩, .string ⟨#[117, 112, 110, 112, 58, 101, 118, 101, 110, 116]⟩, .string ⟨#[99, 97, 108, 108, 98, 97, 99, 107]⟩, .string ⟨#[60, 104, 116, 116, 112, 58, 47, 47, 49, 46, 50, 46, 51, 46, 52, 47, 101, 62]⟩] 47) none
  obtain ⟨w3, hw3⟩ : ∃ w3, w3 = w2.alloc (.cells #[.string ⟨#[110, 116]⟩, .string ⟨#[117, 112, 110, 112, 58, 101, 118, 101, 110, 116]⟩, .string ⟨#[99, 97, 108, 108, 98, 97, 99, 107]⟩, .string ⟨#[60, 104, 116, 116, 112, 58, 47, 47, 49, 46, 50, 46, 51, 46, 52, 47, 101, 62]⟩] 47) := ⟨_, rfl⟩
  obtain ⟨fb, hfb⟩ : ∃ fb, fb = w2.heap.size := ⟨_, rfl⟩
  rw [← hw3] at nF gF
  rw [← hfb] at nF
  have nR := heap_alloc_new w3 (.cells #[.string ⟨#[]⟩, .string ⟨#[]⟩, .int .i64 0, .slice (some ⟨fb, 0, none⟩) 2 2, .slice none 0 0, .bool false] 49)
  have gR := World.grownBy_alloc w3 (.cells #[.string ⟨#[]⟩, .string ⟨#[]⟩, .int .i64 0, .slice (some ⟨fb, 0, none⟩) 2 2, .slice none 0 0, .bool false] 49) none
  obtain ⟨w4, hw4⟩ : ∃ w4, w4 = w3.alloc (.cells #[.string ⟨#[]⟩, .string ⟨#[]⟩, .int .i64 0, .slice (some ⟨fb, 0, none⟩) 2 2, .slice none 0 0, .bool false] 49) := ⟨_, rfl⟩
  rw [← hw4] at nR gR
  have hsz3 : w3.heap.size = fb + 1 := by rw [hw3, hfb]; simp
  rw [hsz3] at nR
  have FS := hid (show FsAt w4 (.slice (some ⟨fb, 0, none⟩) 2 2) [(kNt, kEvent), (kCall, cbT)] from fs_two (gr_keep gR nF (by simp)))
  have gFR := gr_trans gF gR
  have G4 := hid (gr_trans G2.out gFR)
  have P4 := hid (P2.out.grow gFR)
  have ND4 := gr_keep gFR ND2.out (by simp)
  have d0 := (cell_of_block ND4 0).trans (show _ = some (Value.int .u64 (a : Int)) from rfl)
  have d1 := (cell_of_block ND4 1).trans (show _ = some (Value.int .u64 (b : Int)) from rfl)
  have HND := hid ND4
  have r0 := (cell_of_block nR 0).trans (show _ = some (Value.string ⟨#[]⟩) from rfl)
  have r1 := (cell_of_block nR 1).trans (show _ = some (Value.string ⟨#[]⟩) from rfl)
  have r2 := (cell_of_block nR 2).trans (show _ = some (Value.int .i64 0) from rfl)
  have r3 := (cell_of_block nR 3).trans (show _ = some (Value.slice (some ⟨fb, 0, none⟩) 2 2) from rfl)
  have r4 := (cell_of_block nR 4).trans (show _ = some (Value.slice none 0 0) from rfl)
  have r5 := (cell_of_block nR 5).trans (show _ = some (Value.bool false) from rfl)
  have SUB := hid (subscribe_x N (fun _ => True) B [] 3 ⟨#[]⟩ ⟨#[]⟩ 0 _ (.slice none 0 0) false _ 16909060 0 a b m w4 P4.out FS.out (by simp) (by simp [kEvent, cbT]) ⟨_, _, _, rfl⟩ (by simp) (by rw [HN.out]; exact G4.out.size) (by omega) HAB.out.1 HAB.out.2 (HT.out.grow G4.out))
  rw [show ([] : List (Nat × Sb)).map (·.2) = [] from rfl, tells_first a b] at SUB
  have HW3 := hid hw3
  have HW4 := hid hw4
  have HFB := hid hfb
  have HS3 := hid hsz3
  clear hw3 hw4 hfb hsz3 nF gF nR gR gFR ND4 P2 G2 ND2 FS P4
  go_upto_region 9 with fail
  rw [← HFB.out, ← HW3.out, ← HW4.out]
  go_wp2_with fail
  refine SUB.out.mono ?_
  rintro e w5 ⟨v5, rfl, hf5, hp5, hk5⟩
  obtain ⟨fa5, fc5, rfl⟩ := hf5.shape
  have K5 := hid ((KT.of_none (T := TP) (N := N) G4.out).trans hk5)
  have ONE := hid (OneAt.of_all hp5)
  have HND5 := hid (hk5.of_type HND.out (by decide))
  clear SUB hf5 hp5 hk5 r0 r1 r2 r3 r4 r5 d0 d1 HND G4 HW3 HW4 HFB HS3
  go_wp2_with fail
  go_loopw [11, 12, 13, 14, 15, 16, 17, 18, 19, 20, 21, 45] (fun v11 v12 v13 _ _ _ _ _ _ _ _ v45 wr => ∃ (i now sq : Nat) (l : Gs), v45 = .int .i64 (i : Int) ∧ v11 = .int .u64 (now : Int) ∧ v12 = .int .u32 (sq : Int) ∧ v13 = .string ⟨l.toArray⟩ ∧ i ≤ vl ∧ Hid (TeR N B D a b w wr i now sq l)) (fun _ _ _ _ _ _ _ _ _ _ _ v45 _ => vl - (intOf v45).toNat)
  case atStart => exact ⟨0, 0, 0, [], rfl, rfl, rfl, rfl, Nat.zero_le _, K5.out, HND5.out, ⟨_, ONE.out, ⟨rfl, rfl, rfl, rfl, Nat.le_refl _, rfl⟩⟩, by omega, by omega, by omega, fun _ => rfl⟩
  case round =>
    obtain ⟨i, now, sq, l, rfl, rfl, rfl, rfl, hi, hR⟩ := hrel
    by_cases hil : i < vl
    rotate_left
    · obtain ⟨x, ⟨d, hP⟩, -⟩ := hR.out.one
      have LEN := hid (len_x N (fun _ => True) B [(d, x)] 3 wr hP)
      have GF := hid (hR.out.k.gr (show w.heap.size ≤ N by rw [HN.out]; exact Nat.le_refl _))
      clear hR hP
      go_wp2_with fail
      refine LEN.out.mono ?_
      rintro e w' ⟨rfl, rfl⟩
      go_wp2_with fail
      go_ret
      exact ⟨rfl, GF.out⟩
    have hNw : w.heap.size ≤ N := by rw [HN.out]; exact Nat.le_refl _
    rcases HV.out.kt hR.out.k hNw with h0 | ⟨vb, vo, rfl, hvc⟩
    · omega
    have cv := hvc i hil
    obtain ⟨V, hV⟩ : ∃ V, V = vs i := ⟨_, rfl⟩
    rw [← hV] at cv
    have hiz : (i : Int) < (vl : Int) := by omega
    have hiz0 : (0 : Int) ≤ (i : Int) := by omega
    have HNw := hid hNw
    have GF := hid (hR.out.k.gr hNw)
    have hnl := hR.out.nowl
    have hnow : (now : Int) ≤ 18000 := by omega
    clear hvc hV hNw
    by_cases h300 : (300 : Int) < (V.size : Int)
    · have hd3 := decide_eq_true h300
      clear hR hnl
      go_wp2_with fail
      go_ret
      exact ⟨rfl, GF.out⟩
    have hd3 := decide_eq_false h300
    have hV300 : V.size ≤ 300 := by omega
    have ROW := hid (HG.out.kt hR.out.k HNw.out)
    obtain ⟨lv, hlv⟩ : ∃ lv, lv = V.data.toList := ⟨_, rfl⟩
    obtain rfl : V = ⟨lv.toArray⟩ := by rw [hlv]
    have hlv300 : lv.length ≤ 300 := by rw [Lib.size_eq] at hV300; simpa using hV300
    have HL3 := hid hlv300
    have hl3 := decide_eq_false (show ¬ (300 : Int) < (lv.length : Int) by omega)
    have hl4 : ¬ (300 : Int) < (lv.length : Int) := by omega
    have hl5 := decide_eq_false (show ¬ 300 < lv.length by omega)
    have hl6 : (⟨lv.toArray⟩ : ByteArray).size = lv.length := Lib.size_eq _
    clear hlv h300 hnl hlv300 hd3 hV300
    go_upto_if 56 with fail
    go_cut [11] (fun v11 wx => ∃ n1 : Nat, v11 = .int .u64 (n1 : Int) ∧ now ≤ n1 ∧ n1 ≤ now + 255 ∧ wr = wx)
    case first =>
      by_cases hgl : i < gl
      · rcases ROW.out with ⟨-, h0, -⟩ | ⟨x, rfl, h1, h2, h3, h4, h5⟩
        · omega
        have cg := h4 i (by omega)
        have hwf := h5 (zs.getD i 0) (by rw [List.getD_eq_getElem?_getD, List.getElem?_eq_getElem (by omega)]; exact List.getElem_mem _)
        have hbd := bounds_u64 hwf
        have hE := and255 (zs.getD i 0) hbd.1 hbd.2
        obtain ⟨gp, hgp⟩ : ∃ gp, gp = (zs.getD i 0).toNat % 256 := ⟨_, rfl⟩
        have hg256 : gp ≤ 255 := by omega
        rw [← hgp] at hE
        generalize zs.getD i 0 = z at cg hE
        have hgi : (i : Int) < (gl : Int) := by omega
        have hgd := decide_eq_true hgi
        have hgd2 := decide_eq_true hgl
        obtain ⟨xb, xo, xs⟩ := x
        obtain rfl : xs = none := by simpa [Addr.add] using World.cell?_spot (h4 0 (by omega))
        rw [Go.WideShapes.add_plain] at cg
        have hgpi : (gp : Int) ≤ 255 := by omega
        clear h1 h2 h3 h4 h5 hwf hbd hgp ROW hR
        go_wp2_with fail
        go_meet
        exact ⟨now + gp, by go_num, by omega, by omega, rfl⟩
      · have hgi : ¬ (i : Int) < (gl : Int) := by omega
        have hgd := decide_eq_false hgi
        have hgd2 := decide_eq_false hgl
        go_wp2_with fail
        go_meet
        exact ⟨now, rfl, by omega, by omega, rfl⟩
    case rest =>
      obtain ⟨n1, rfl, hn1, hn2, rfl⟩ := hcut
      obtain ⟨x, hone, hX⟩ := hR.out.one
      have HK := hid hR.out.k
      have HX := hid hX
      have ONEr := hid hone
      have HSQ := hid (And.intro hR.out.sql (And.intro hR.out.pos hR.out.zero))
      have HNL := hid hR.out.nowl
      have ND := hid hR.out.dr
      have d0 := (cell_of_block ND.out 0).trans (show _ = some (Value.int .u64 (a : Int)) from rfl)
      have d1 := (cell_of_block ND.out 1).trans (show _ = some (Value.int .u64 (b : Int)) from rfl)
      clear hR hone hX ROW cv hl3 hl4 hl5 hl6
      have RSI := hid (rsid_x a b HAB.out.1 HAB.out.2 wr)
      go_wp2_with fail
      refine RSI.out.mono ?_
      rintro e w6 ⟨rfl, g6⟩
      have ONE6 := hid (ONEr.out.grow g6)
      have K6 := hid (HK.out.trans (KT.of_none (N := N) (T := TP) g6))
      have ND6 := hid (gr_keep g6 ND.out (by simp))
      clear g6 RSI d0 d1 ONEr HK ND GF
      have nF := heap_alloc_new w6 (.cells #[.string ⟨#[115, 105, 100]⟩, .string ⟨(sidL a b).toArray⟩] 47)
      have gF := World.grownBy_alloc w6 (.cells #[.string ⟨#[115, 105, 100]⟩, .string ⟨(sidL a b).toArray⟩] 47) none
      obtain ⟨w7, hw7⟩ : ∃ w7, w7 = w6.alloc (.cells #[.string ⟨#[115, 105, 100]⟩, .string ⟨(sidL a b).toArray⟩] 47) := ⟨_, rfl⟩
      obtain ⟨fb, hfb⟩ : ∃ fb, fb = w6.heap.size := ⟨_, rfl⟩
      rw [← hw7] at nF gF
      rw [← hfb] at nF
      have nR := heap_alloc_new w7 (.cells #[.string ⟨#[]⟩, .string ⟨#[]⟩, .int .i64 0, .slice (some ⟨fb, 0, none⟩) 1 1, .slice none 0 0, .bool false] 49)
      have gR := World.grownBy_alloc w7 (.cells #[.string ⟨#[]⟩, .string ⟨#[]⟩, .int .i64 0, .slice (some ⟨fb, 0, none⟩) 1 1, .slice none 0 0, .bool false] 49) none
      obtain ⟨w8, hw8⟩ : ∃ w8, w8 = w7.alloc (.cells #[.string ⟨#[]⟩, .string ⟨#[]⟩, .int .i64 0, .slice (some ⟨fb, 0, none⟩) 1 1, .slice none 0 0, .bool false] 49) := ⟨_, rfl⟩
      rw [← hw8] at nR gR
      have hsz7 : w7.heap.size = fb + 1 := by rw [hw7, hfb]; simp
      rw [hsz7] at nR
      have FS := hid (show FsAt w8 (.slice (some ⟨fb, 0, none⟩) 1 1) [(kSid, sidL a b)] from fs_one (gr_keep gR nF (by simp)))
      have gFR := gr_trans gF gR
      have ONE8 := hid (ONE6.out.grow gFR)
      have K8 := hid (K6.out.trans (KT.of_none (N := N) (T := TP) gFR))
      have ND8 := hid (gr_keep gFR ND6.out (by simp))
      have d0 := (cell_of_block ND8.out 0).trans (show _ = some (Value.int .u64 (a : Int)) from rfl)
      have d1 := (cell_of_block ND8.out 1).trans (show _ = some (Value.int .u64 (b : Int)) from rfl)
      have r0 := (cell_of_block nR 0).trans (show _ = some (Value.string ⟨#[]⟩) from rfl)
      have r1 := (cell_of_block nR 1).trans (show _ = some (Value.string ⟨#[]⟩) from rfl)
      have r2 := (cell_of_block nR 2).trans (show _ = some (Value.int .i64 0) from rfl)
      have r3 := (cell_of_block nR 3).trans (show _ = some (Value.slice (some ⟨fb, 0, none⟩) 1 1) from rfl)
      have r4 := (cell_of_block nR 4).trans (show _ = some (Value.slice none 0 0) from rfl)
      have r5 := (cell_of_block nR 5).trans (show _ = some (Value.bool false) from rfl)
      obtain ⟨dx, P8⟩ := ONE8.out
      have SUB := hid (subscribe_x N (fun _ => True) B [(dx, x)] 3 ⟨#[]⟩ ⟨#[]⟩ 0 _ (.slice none 0 0) false _ 16909060 n1 a b m w8 P8 FS.out (by simp) (fun f hf => by
        obtain rfl : f = (kSid, sidL a b) := (by simpa using hf)
        show (sidL a b).length ≤ 2000
        rw [sidL_len]; omega) ⟨_, _, _, rfl⟩ (by simp) (Nat.le_trans (by rw [HN.out]; exact Nat.le_refl _) K8.out.size) (by omega) HAB.out.1 HAB.out.2 (HT.out.kt K8.out))
      rw [show [(dx, x)].map (·.2) = [x] from rfl, tells_renew x (sidL a b) HX.out.sid HX.out.host n1 a b] at SUB
      have HW7 := hid hw7
      have HW8 := hid hw8
      have HFB := hid hfb
      clear hw7 hw8 hfb hsz7 nF gF nR gR gFR FS P8 ONE6 K6 ND6 ONE8
      go_upto_region 21 with fail
      rw [← HFB.out, ← HW7.out, ← HW8.out]
      go_wp2_with fail
      refine SUB.out.mono ?_
      rintro e w9 ⟨v9, rfl, hf9, hp9, hk9⟩
      obtain ⟨fa9, fc9, rfl⟩ := hf9.shape
      have K9 := hid (K8.out.trans hk9)
      have ONE9 := hid (OneAt.of_all hp9)
      have ND9 := hid (hk9.of_type ND8.out (by decide))
      clear SUB hf9 hp9 hk9 r0 r1 r2 r3 r4 r5 d0 d1 K8 ND8 HW7 HW8 HFB
      go_wp2_with fail
      go_loopw [11, 12, 13, 19, 20, 21] (fun v11 v12 v13 v19 _ _ wy => ∃ (k sq2 : Nat) (l2 : Gs), v19 = .int .i64 (k : Int) ∧ v11 = .int .u64 ((n1 + k : Nat) : Int) ∧ v12 = .int .u32 (sq2 : Int) ∧ v13 = .string ⟨l2.toArray⟩ ∧ k ≤ 2 ∧ Hid (TiR N B D a b w wy n1 k sq sq2 l l2 lv)) (fun _ _ _ v19 _ _ _ => 2 - (intOf v19).toNat)
      case atStart => exact ⟨0, sq, l, rfl, rfl, rfl, rfl, by omega, K9.out, ND9.out, ⟨_, ONE9.out, ⟨HX.out.sid, HX.out.host, HX.out.seq, HX.out.busy, Nat.le_trans HX.out.ready (by omega), HX.out.last⟩, by show laterL n1 1800 = n1 + 1800; unfold laterL; omega⟩, by omega, fun h => by omega, fun _ => rfl⟩
      case round =>
        obtain ⟨k, sq2, l2, rfl, rfl, rfl, rfl, hk, hI⟩ := hrel
        by_cases hk2 : k < 2
        rotate_left
        · obtain rfl : k = 2 := by omega
          obtain ⟨hsp, rfl⟩ := hI.out.told (by omega)
          have hsq1 : ((sq2 : Int) == 0) = false := by simp; omega
          have NXT := hid (show TeR N B D a b w wr (i + 1) (n1 + 2) sq2 l2 from ⟨hI.out.kt, hI.out.dr, (by obtain ⟨y, h1, h2, -⟩ := hI.out.one; exact ⟨y, h1, h2⟩), by have := HNL.out; omega, by have := hI.out.sql; have := HSQ.out.1; omega, fun _ => hsp, fun h => by omega⟩)
          have hn1i : (n1 : Int) ≤ 20000 := by have := HNL.out; omega
          clear hI
          go_wp2_with fail
          go_roundw
          case rel => exact ⟨i + 1, n1 + 2, sq2, l2, by go_num, by first | rfl | go_num, rfl, rfl, by omega, NXT⟩
          case measure => simp [intOf]; omega
        obtain ⟨y, ⟨dy, hPy⟩, hY, hYE⟩ := hI.out.one
        have HI2 := hid (And.intro hI.out.kt hI.out.dr)
        have HSI := hid (And.intro hI.out.sql (And.intro hI.out.told hI.out.zero))
        have HY := hid (And.intro hY hYE)
        obtain ⟨n2, hn2⟩ : ∃ n2, n2 = n1 + k := ⟨_, rfl⟩
        have EXP := hid (expire_x N (fun _ => True) B [(dy, y)] 3 n2 wr hPy)
        rw [show [(dy, y)].filter (fun e => decide (n2 < e.2.ends)) = [(dy, y)] by rw [List.filter_cons_of_pos (by simp only [decide_eq_true_eq]; omega), List.filter_nil]] at EXP
        rw [← hn2]
        have HN2 := hid hn2
        clear hI hY hYE hPy hn2
        go_wp2_with fail
        refine EXP.out.mono ?_
        rintro e w10 ⟨rfl, hP10, hk10⟩
        have nV := heap_alloc_new w10 (.cells #[.string ⟨#[86]⟩, .string ⟨lv.toArray⟩] 58)
        have gV := World.grownBy_alloc w10 (.cells #[.string ⟨#[86]⟩, .string ⟨lv.toArray⟩] 58) none
        obtain ⟨w11, hw11⟩ : ∃ w11, w11 = w10.alloc (.cells #[.string ⟨#[86]⟩, .string ⟨lv.toArray⟩] 58) := ⟨_, rfl⟩
        obtain ⟨vg, hvg⟩ : ∃ vg, vg = w10.heap.size := ⟨_, rfl⟩
        rw [← hw11] at nV gV
        rw [← hvg] at nV
        have SM := hid (show SmP [(kV, lv)] from ⟨by simp, fun z hz => by
          obtain rfl : z = (kV, lv) := by simpa using hz
          exact ⟨by simp [kV], by have := HL3.out; simp only; omega⟩⟩)
        have NEX := hid (next_x N (fun _ => True) B [(dy, y)] 3 n2 [(kV, lv)] (.slice (some ⟨vg, 0, none⟩) 1 1) w11 (hP10.grow gV) (args_one nV 1) SM.out (fun a c e => by simp at e) (fun _ _ => trivial) (by simp))
        rw [show [(dy, y)].map (·.2) = [y] from rfl] at NEX
        have K11 := hid (HI2.out.1.trans (hk10.trans (KT.of_none gV)))
        have ND11 := hid (gr_keep gV (hk10.of_type HI2.out.2 (by decide)) (by simp))
        have HW11 := hid hw11
        have HVG := hid hvg
        clear EXP hP10 hk10 nV gV hw11 hvg HI2
        go_wp2_with fail
        rw [← HVG.out, ← HW11.out]
        refine NEX.out.mono ?_
        rintro e w12 ⟨hk12, hp12, hm⟩
        have K12 := hid (K11.out.trans hk12)
        have ND12 := hid (hk12.of_type ND11.out (by decide))
        clear NEX HVG HW11 K11 ND11 hk12
        by_cases hdue : dueB n2 [(kV, lv)] y = true
        rotate_left
        · have hdue : dueB n2 [(kV, lv)] y = false := by simpa using hdue
          rw [(told_no hdue).2] at hm
          rw [(told_no hdue).1] at hp12
          obtain rfl := hm
          have ONE12 := hid (OneAt.of_all hp12)
          have hlast : y.last = [(kV, lv)] := by
            unfold dueB at hdue
            rw [HY.out.1.busy, decide_eq_true (show y.ready ≤ n2 by have := HY.out.1.ready; have := HN2.out; omega)] at hdue
            simpa using hdue
          have hls : 0 < sq2 ∧ l2 = lv := by
            have h1 := HY.out.1.last
            rw [hlast] at h1
            unfold lastP at h1
            by_cases h0 : sq2 = 0
            · rw [if_pos h0] at h1; cases h1
            · rw [if_neg h0] at h1
              exact ⟨by omega, by simpa using h1.symm⟩
          have NXT := hid (fun (W : World) (g : w12.grownBy W none) => (show TiR N B D a b w W n1 (k + 1) sq sq2 l l2 lv from ⟨K12.out.trans (KT.of_none g), gr_keep g ND12.out (by simp), ⟨y, ONE12.out.grow g, ⟨HY.out.1.sid, HY.out.1.host, HY.out.1.seq, HY.out.1.busy, Nat.le_trans HY.out.1.ready (by omega), HY.out.1.last⟩, HY.out.2⟩, by have := HSI.out.1; omega, fun _ => hls, fun h => by omega⟩))
          have hn2i : (n2 : Int) ≤ 20000 := by have := HNL.out; have := HN2.out; omega
          clear hp12 hdue hlast hls ONE12 K12 ND12
          go_wp2_with fail
          go_roundw
          case rel => exact ⟨k + 1, sq2, l2, by go_num, by have := HN2.out; first | (congr 1; omega) | go_num, rfl, rfl, by omega, NXT.out _ (World.grownBy_alloc _ _ _)⟩
          case measure => simp [intOf]; omega
        · rw [(told_yes hdue).2] at hm
          rw [(told_yes hdue).1] at hp12
          obtain ⟨bv, he, hbv⟩ := hm
          rw [HY.out.1.seq] at he
          subst he
          have hlast : (kV, lv) ∉ y.last := by
            unfold dueB at hdue
            simp only [Bool.and_eq_true, decide_eq_true_eq] at hdue
            have h1 := HY.out.1.last
            have h2 := hdue.2
            rw [h1] at h2 ⊢
            unfold lastP at h2 ⊢
            by_cases h0 : sq2 = 0
            · rw [if_pos h0]; simp
            · rw [if_neg h0] at h2 ⊢
              simp only [List.mem_singleton]
              exact fun e => h2 (by rw [e])
          rw [news_one y _ hlast] at hbv
          obtain ⟨L, hL⟩ : ∃ L, L = bodL [(kV, lv)] := ⟨_, rfl⟩
          rw [← hL] at hbv
          have HBV12 := hid hbv
          obtain ⟨ba, bc, rfl, -⟩ := hbv
          obtain ⟨bl, hbl⟩ : ∃ bl, bl = L.length := ⟨_, rfl⟩
          rw [← hbl] at HBV12 ⊢
          have RB := hid (fun (W : World) (g : Nat) (hb : W.heap[g]? = some (.cells #[.string ⟨#[86]⟩, .string ⟨lv.toArray⟩] 58 (0, 0))) => rbody_x [(kV, lv)] (.slice (some ⟨g, 0, none⟩) 1 1) W (args_one hb 1) SM.out)
          rw [← hL] at RB
          obtain ⟨E', hE', hP'⟩ := hp12
          have hlen : E'.length = 1 := by have := congrArg List.length hE'; simpa using this
          obtain ⟨e', rfl⟩ := List.length_eq_one_iff.1 hlen
          obtain ⟨d', y'⟩ := e'
          obtain rfl : y' = { y with busy := true, last := [(kV, lv)] } := by simpa using hE'
          clear hlen
          have P12 := hid hP'
          have nN := heap_alloc_new w12 (.cells #[.string ⟨y.sid.toArray⟩, .int .u32 (sq2 : Int), .int .u32 (y.host : Int), .int .u16 (y.port : Int), .string ⟨y.target.toArray⟩, .slice ba bl bc] 55)
          have gN := World.grownBy_alloc w12 (.cells #[.string ⟨y.sid.toArray⟩, .int .u32 (sq2 : Int), .int .u32 (y.host : Int), .int .u16 (y.port : Int), .string ⟨y.target.toArray⟩, .slice ba bl bc] 55) none
          obtain ⟨w0, hw0⟩ : ∃ w0, w0 = w12.alloc (.cells #[.string ⟨y.sid.toArray⟩, .int .u32 (sq2 : Int), .int .u32 (y.host : Int), .int .u16 (y.port : Int), .string ⟨y.target.toArray⟩, .slice ba bl bc] 55) := ⟨_, rfl⟩
          obtain ⟨nb, hnb⟩ : ∃ nb, nb = w12.heap.size := ⟨_, rfl⟩
          rw [← hw0] at nN gN
          rw [← hnb] at nN
          have HW0 := hid hw0
          have HNB := hid hnb
          have HBV := hid (HBV12.out.grown gN)
          have P0 := hid (P12.out.grow gN)
          have K0 := hid (K12.out.trans (KT.of_none (T := TP) (N := N) gN))
          have ND0 := hid (gr_keep gN ND12.out (by simp))
          have n0c := (cell_of_block nN 0).trans (show _ = some (Value.string ⟨y.sid.toArray⟩) from rfl)
          have n1c := (cell_of_block nN 1).trans (show _ = some (Value.int .u32 (sq2 : Int)) from rfl)
          have n5c := (cell_of_block nN 5).trans (show _ = some (Value.slice ba bl bc) from rfl)
          have hsqb : sq2 ≤ 200 := by have := HSI.out.1; have := HSQ.out.1; omega
          have DON := hid (fun (W : World) (g : w0.grownBy W none) => done_x N (fun _ => True) B [(d', { y with busy := true, last := [(kV, lv)] })] 3 y.sid true n2 (Nat.lt_of_le_of_lt (show n2 ≤ 20000 by have := HNL.out; have := HN2.out; omega) (by decide)) W (P0.out.grow g) (by simp) (fun e he => by
            obtain rfl : e = (d', { y with busy := true, last := [(kV, lv)] }) := (by simpa using he)
            show y.seq < 4294967296
            rw [HY.out.1.seq]; exact Nat.lt_of_le_of_lt hsqb (by decide)))
          have hdone := done_one { y with busy := true, last := [(kV, lv)] } n2 rfl
          simp only at hdone
          have hseq : (if y.seq = 4294967295 then 1 else y.seq + 1) = sq2 + 1 := by rw [HY.out.1.seq, if_neg (by omega)]
          rw [hseq] at hdone
          rw [show [(d', ({ y with busy := true, last := [(kV, lv)] } : Sb))].map (·.2) = [{ y with busy := true, last := [(kV, lv)] }] from rfl, hdone] at DON
          have hn2b : n2 ≤ 20000 := by have := HNL.out; have := HN2.out; omega
          have hln : laterL n2 1 = n2 + 1 := Nat.min_eq_left (Nat.le_trans (Nat.succ_le_succ hn2b) (by decide))
          rw [hln] at DON
          clear hbl hL hdue hlast hE' hP' nN gN hw0 hnb hdone hseq hln P12 K12 ND12 HBV12
          go_upto_region 29 with fail
          rw [← HNB.out, ← HW0.out]
          clear HNB HW0
          go_wp2_with fail
          refine wp_region_spec5 (by kernel_rfl) (by kernel_rfl) (n := 14) (by kernel_rfl) [some 96, some 97, some 98, some 99, some 100, some 101, some 102, some 103, some 104, some 105, some 106, some 107, some 108, some 109] (by kernel_rfl) _ (fun u => (by simp only [fill, List.zipIdx_cons, List.zipIdx_nil, List.foldl_cons, List.foldl_nil, Act.put, List.setIfInBounds_toArray, List.set_cons_zero, List.set_cons_succ, Nat.zero_add, Nat.reduceAdd]; exact rfl)) (by kernel_rfl) (by kernel_rfl) (by kernel_rfl)
            (fun ri v w => match ri with | 0 => v = .pointer (some ⟨nb, 1, none⟩) | 1 => v = .int .u32 (sq2 : Int) | 2 => v = .int .u32 (sq2 : Int) | 3 => v = .bool false | 4 => v = .bool false | 5 => v = .pointer (some ⟨nb, 5, none⟩) | 6 => v = .slice ba bl bc | 7 => v = .string ⟨L.toArray⟩ | 8 => v = .string ⟨lv.toArray⟩ | 9 => v = .agg #[.string ⟨#[86]⟩, .string ⟨lv.toArray⟩] | 10 => ∃ g, v = .slice (some ⟨g, 0, none⟩) 1 1 ∧ w.heap[g]? = some (.cells #[.string ⟨#[86]⟩, .string ⟨lv.toArray⟩] 58 (0, 0)) | 11 => v = .string ⟨L.toArray⟩ | 12 => v = .bool false | 13 => v = .bool false | _ => True)
            (all_succ (all_succ (all_succ (all_succ (all_succ (all_succ (all_succ (all_succ (all_succ (all_succ (all_succ (all_succ (all_succ (all_succ (all_zero _) ?tm0) ?tm1) ?tm2) ?tm3) ?tm4) ?tm5) ?tm6) ?tm7) ?tm8) ?tm9) ?tm10) ?tm11) ?tm12) ?tm13)
            [[], [0], [], [1, 2], [3], [4], [5, 4], [6, 4], [4], [8, 4], [9, 4], [10, 4], [7, 11, 4], [4, 12]] (by kernel_rfl)
            ⟨?to0, ?to1, ?to2, ?to3, ?to4, ?to5, ?to6, ?to7, ?to8, ?to9, ?to10, ?to11, ?to12, ?to13, trivial⟩ ?tdone
          case tm0 => intro v w w' h g; first | exact h | (obtain ⟨g0, e, q⟩ := h; exact ⟨g0, e, gr_keep g q (by simp)⟩)
          case tm1 => intro v w w' h g; first | exact h | (obtain ⟨g0, e, q⟩ := h; exact ⟨g0, e, gr_keep g q (by simp)⟩)
          case tm2 => intro v w w' h g; first | exact h | (obtain ⟨g0, e, q⟩ := h; exact ⟨g0, e, gr_keep g q (by simp)⟩)
          case tm3 => intro v w w' h g; first | exact h | (obtain ⟨g0, e, q⟩ := h; exact ⟨g0, e, gr_keep g q (by simp)⟩)
          case tm4 => intro v w w' h g; first | exact h | (obtain ⟨g0, e, q⟩ := h; exact ⟨g0, e, gr_keep g q (by simp)⟩)
          case tm5 => intro v w w' h g; first | exact h | (obtain ⟨g0, e, q⟩ := h; exact ⟨g0, e, gr_keep g q (by simp)⟩)
          case tm6 => intro v w w' h g; first | exact h | (obtain ⟨g0, e, q⟩ := h; exact ⟨g0, e, gr_keep g q (by simp)⟩)
          case tm7 => intro v w w' h g; first | exact h | (obtain ⟨g0, e, q⟩ := h; exact ⟨g0, e, gr_keep g q (by simp)⟩)
          case tm8 => intro v w w' h g; first | exact h | (obtain ⟨g0, e, q⟩ := h; exact ⟨g0, e, gr_keep g q (by simp)⟩)
          case tm9 => intro v w w' h g; first | exact h | (obtain ⟨g0, e, q⟩ := h; exact ⟨g0, e, gr_keep g q (by simp)⟩)
          case tm10 => intro v w w' h g; first | exact h | (obtain ⟨g0, e, q⟩ := h; exact ⟨g0, e, gr_keep g q (by simp)⟩)
          case tm11 => intro v w w' h g; first | exact h | (obtain ⟨g0, e, q⟩ := h; exact ⟨g0, e, gr_keep g q (by simp)⟩)
          case tm12 => intro v w w' h g; first | exact h | (obtain ⟨g0, e, q⟩ := h; exact ⟨g0, e, gr_keep g q (by simp)⟩)
          case tm13 => intro v w w' h g; first | exact h | (obtain ⟨g0, e, q⟩ := h; exact ⟨g0, e, gr_keep g q (by simp)⟩)
          case to0 =>
            intro u w g hd K hK
            clear hd
            simp only [Act.put, List.setIfInBounds_toArray, List.set_cons_zero, List.set_cons_succ] at hK
            go_simp
            exact hK _ _ rfl (gr_refl _ _)
          case to1 =>
            intro u w g hd K hK
            have h0 : (u 0) = .pointer (some ⟨nb, 1, none⟩) := hd 0 (by simp)
            clear hd
            simp only [Act.put, List.setIfInBounds_toArray, List.set_cons_zero, List.set_cons_succ] at hK
            have c := g.cell n1c (by simp)
            simp only [h0] at hK ⊢
            go_simp
            exact hK _ _ rfl (gr_refl _ _)
          case to2 =>
            intro u w g hd K hK
            clear hd
            simp only [Act.put, List.setIfInBounds_toArray, List.set_cons_zero, List.set_cons_succ] at hK
            go_simp
            exact hK _ _ rfl (gr_refl _ _)
          case to3 =>
            intro u w g hd K hK
            have h1 : (u 1) = .int .u32 (sq2 : Int) := hd 1 (by simp)
            have h2 : (u 2) = .int .u32 (sq2 : Int) := hd 2 (by simp)
            clear hd
            simp only [Act.put, List.setIfInBounds_toArray, List.set_cons_zero, List.set_cons_succ] at hK
            simp only [h1, h2] at hK ⊢
            go_simp
            exact hK _ _ (by simp) (gr_refl _ _)
          case to4 =>
            intro u w g hd K hK
            have h3 : (u 3) = .bool false := hd 3 (by simp)
            clear hd
            simp only [Act.put, List.setIfInBounds_toArray, List.set_cons_zero, List.set_cons_succ] at hK
            simp only [h3] at hK ⊢
            go_simp
            exact hK _ _ rfl (gr_refl _ _)
          case to5 =>
            intro u w g hd K hK
            have h4 : (u 4) = .bool false := hd 4 (by simp)
            clear hd
            simp only [Act.put, List.setIfInBounds_toArray, List.set_cons_zero, List.set_cons_succ] at hK
            simp only [h4] at hK ⊢
            go_simp
            exact hK _ _ rfl (gr_refl _ _)
          case to6 =>
            intro u w g hd K hK
            have h5 : (u 5) = .pointer (some ⟨nb, 5, none⟩) := hd 5 (by simp)
            have h4 : (u 4) = .bool false := hd 4 (by simp)
            clear hd
            simp only [Act.put, List.setIfInBounds_toArray, List.set_cons_zero, List.set_cons_succ] at hK
            have c := g.cell n5c (by simp)
            simp only [h5, h4] at hK ⊢
            go_simp
            exact hK _ _ rfl (gr_refl _ _)
          case to7 =>
            intro u w g hd K hK
            have h6 : (u 6) = .slice ba bl bc := hd 6 (by simp)
            have h4 : (u 4) = .bool false := hd 4 (by simp)
            clear hd
            simp only [Act.put, List.setIfInBounds_toArray, List.set_cons_zero, List.set_cons_succ] at hK
            simp only [h6, h4] at hK ⊢
            go_simp
            rw [run_b2s (l := L) Tryz.underlying37 Tryz.underlying5 Tryz.underlying9 (v := .slice ba bl bc) (HBV.out.grown g)]
            unfold str
            go_simp
            exact hK _ _ rfl (gr_refl _ _)
          case to8 =>
            intro u w g hd K hK
            have h4 : (u 4) = .bool false := hd 4 (by simp)
            clear hd
            simp only [Act.put, List.setIfInBounds_toArray, List.set_cons_zero, List.set_cons_succ] at hK
            simp only [h4] at hK ⊢
            go_simp
            exact hK _ _ rfl (gr_refl _ _)
          case to9 =>
            intro u w g hd K hK
            have h8 : (u 8) = .string ⟨lv.toArray⟩ := hd 8 (by simp)
            have h4 : (u 4) = .bool false := hd 4 (by simp)
            clear hd
            simp only [Act.put, List.setIfInBounds_toArray, List.set_cons_zero, List.set_cons_succ] at hK
            simp only [h8, h4] at hK ⊢
            go_simp
            exact hK _ _ rfl (gr_refl _ _)
          case to10 =>
            intro u w g hd K hK
            have h9 : (u 9) = .agg #[.string ⟨#[86]⟩, .string ⟨lv.toArray⟩] := hd 9 (by simp)
            have h4 : (u 4) = .bool false := hd 4 (by simp)
            clear hd
            simp only [Act.put, List.setIfInBounds_toArray, List.set_cons_zero, List.set_cons_succ] at hK
            simp only [h9, h4] at hK ⊢
            go_simp
            exact hK _ _ ⟨w.heap.size, rfl, heap_alloc_new w _⟩ (gr_alloc (gr_refl _ _) _)
          case to11 =>
            intro u w g hd K hK
            have h10 : ∃ g, (u 10) = .slice (some ⟨g, 0, none⟩) 1 1 ∧ w.heap[g]? = some (.cells #[.string ⟨#[86]⟩, .string ⟨lv.toArray⟩] 58 (0, 0)) := hd 10 (by simp)
            have h4 : (u 4) = .bool false := hd 4 (by simp)
            clear hd
            simp only [Act.put, List.setIfInBounds_toArray, List.set_cons_zero, List.set_cons_succ] at hK
            obtain ⟨g10, e10, b10⟩ := h10
            have HRB := hid (RB.out w g10 b10)
            simp only [e10, h4] at hK ⊢
            go_simp
            refine HRB.out.mono ?_
            rintro e w' ⟨rfl, rfl⟩
            exact hK _ _ rfl (gr_refl _ _)
          case to12 =>
            intro u w g hd K hK
            have h7 : (u 7) = .string ⟨L.toArray⟩ := hd 7 (by simp)
            have h11 : (u 11) = .string ⟨L.toArray⟩ := hd 11 (by simp)
            have h4 : (u 4) = .bool false := hd 4 (by simp)
            clear hd
            simp only [Act.put, List.setIfInBounds_toArray, List.set_cons_zero, List.set_cons_succ] at hK
            simp only [h7, h11, h4] at hK ⊢
            go_simp
            exact hK _ _ (by simp) (gr_refl _ _)
          case to13 =>
            intro u w g hd K hK
            have h4 : (u 4) = .bool false := hd 4 (by simp)
            have h12 : (u 12) = .bool false := hd 12 (by simp)
            clear hd
            simp only [Act.put, List.setIfInBounds_toArray, List.set_cons_zero, List.set_cons_succ] at hK
            simp only [h4, h12] at hK ⊢
            go_simp
            exact hK _ _ rfl (gr_refl _ _)
          intro u w hS g
          have s0 : (u 0) = .pointer (some ⟨nb, 1, none⟩) := hS 0 (by decide)
          have s1 : (u 1) = .int .u32 (sq2 : Int) := hS 1 (by decide)
          have s2 : (u 2) = .int .u32 (sq2 : Int) := hS 2 (by decide)
          have s3 : (u 3) = .bool false := hS 3 (by decide)
          have s4 : (u 4) = .bool false := hS 4 (by decide)
          have s5 : (u 5) = .pointer (some ⟨nb, 5, none⟩) := hS 5 (by decide)
          have s6 : (u 6) = .slice ba bl bc := hS 6 (by decide)
          have s7 : (u 7) = .string ⟨L.toArray⟩ := hS 7 (by decide)
          have s8 : (u 8) = .string ⟨lv.toArray⟩ := hS 8 (by decide)
          have s9 : (u 9) = .agg #[.string ⟨#[86]⟩, .string ⟨lv.toArray⟩] := hS 9 (by decide)
          have s10 : ∃ g, (u 10) = .slice (some ⟨g, 0, none⟩) 1 1 ∧ w.heap[g]? = some (.cells #[.string ⟨#[86]⟩, .string ⟨lv.toArray⟩] 58 (0, 0)) := hS 10 (by decide)
          have s11 : (u 11) = .string ⟨L.toArray⟩ := hS 11 (by decide)
          have s12 : (u 12) = .bool false := hS 12 (by decide)
          have s13 : (u 13) = .bool false := hS 13 (by decide)
          clear hS
          have T13 := hid s13
          have GY := hid g
          clear s0 s1 s2 s3 s4 s5 s6 s7 s8 s9 s10 s11 s12 s13 g
          generalize u 0 = y0 at *
          generalize u 1 = y1 at *
          generalize u 2 = y2 at *
          generalize u 3 = y3 at *
          generalize u 4 = y4 at *
          generalize u 5 = y5 at *
          generalize u 6 = y6 at *
          generalize u 7 = y7 at *
          generalize u 8 = y8 at *
          generalize u 9 = y9 at *
          generalize u 10 = y10 at *
          generalize u 11 = y11 at *
          generalize u 12 = y12 at *
          generalize u 13 = y13 at *
          obtain rfl := T13.out
          have n0c := GY.out.cell n0c (by simp)
          have DON2 := hid (DON.out w GY.out)
          have K1 := hid (K0.out.trans (KT.of_none (T := TP) (N := N) GY.out))
          have ND1 := hid (gr_keep GY.out ND0.out (by simp))
          clear DON K0 ND0 P0 n1c n5c RB HBV
          go_wp2_with fail
          refine DON2.out.mono ?_
          rintro e w14 ⟨rfl, hp14, hk14⟩
          have ONE14 := hid (OneAt.of_all hp14)
          have NXT := hid (show TiR N B D a b _ w14 n1 (k + 1) sq (sq2 + 1) l lv lv from ⟨K1.out.trans hk14, hk14.of_type ND1.out (by decide), ⟨_, ONE14.out, ⟨HY.out.1.sid, HY.out.1.host, rfl, rfl, by show n2 + 1 ≤ n1 + (k + 1); have := HN2.out; omega, by unfold lastP; rw [if_neg (by omega)]⟩, HY.out.2⟩, by have := HSI.out.1; omega, fun _ => ⟨by omega, rfl⟩, fun h => by omega⟩)
          have hn2i : (n2 : Int) ≤ 20000 := by have := HNL.out; have := HN2.out; omega
          have hsqi : (sq2 : Int) ≤ 200 := by omega
          clear DON2 hp14 hk14 n0c GY ND1 K1
          go_wp2_with fail
          go_roundw
          case rel => exact ⟨k + 1, sq2 + 1, lv, by go_num, by have := HN2.out; first | (congr 1; omega) | go_num, by go_num, rfl, by omega, NXT⟩
          case measure => simp [intOf]; omega
end Go.Proofs.YtfceodbpkghkaaaGreatDoor
