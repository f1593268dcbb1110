/- HeadMade where the first line is one. -/
import Derived.Test.YtdfhdnnkpeodhaaDoorHead2a
import Derived.Test.YtdfhdnnkpeodhaaDoorReg
import Derived.Deep.RegionHeld3
import Derived.Deep.DeepCutAuto
import Derived.Deep.RegionWith
namespace Go.Proofs.YtdfhdnnkpeodhaaDoor
open Go.RowKit

set_option maxRecDepth 100000 in
set_option maxHeartbeats 4000000 in
theorem made_right (s t : ByteArray) (x y : UInt8) (m : Int) (w : World) (hm : w.cell? ⟨0, 0, none⟩ = some (.int .i64 m)) (hs : s.size ≤ 9223372036854775807) (hk0 : tokB s.data.toList = true) (hv1 : t.size ≤ 1000) (hr0 : 1 ≤ t.size ∧ t.size ≤ 512) :
    Calls Tryd.prog 6 #[.string s, .string t, .agg #[.int .u8 (x.toNat : Int), .int .u8 (y.toNat : Int)]] w fun e w' => e = .returned (.bool true) ∧ w.grownBy w' none := by
  obtain ⟨l, hl⟩ : ∃ l, l = s.data.toList := ⟨_, rfl⟩
  obtain ⟨v, hv⟩ : ∃ v, v = t.data.toList := ⟨_, rfl⟩
  have hlen : t.size = v.length := by rw [hv, ← Lib.size_eq]
  have hstr : ∀ k (h : k < t.size), t[k]'h = v.getD k 0 := by rw [hv]; exact strAt t
  have Hstr := hid hstr
  have htok := fun W => rtoken_any s W (by omega)
  rw [← hl] at htok
  have Hl := hid hl
  have Hv := hid hv
  have Hm := hid hm
  have G0 := World.grownBy_alloc w (.cells #[.int .u8 (x.toNat : Int), .int .u8 (y.toNat : Int)] 39) none
  have hblk := heap_alloc_new w (.cells #[.int .u8 (x.toNat : Int), .int .u8 (y.toNat : Int)] 39)
  have Hsp := hid (fun W => speaks_true W)
  have hk : tokB l = true := by rw [hl]; exact hk0
  have HR0 := hid hr0
  clear hr0 hk0
  rw [hk] at htok
  have Htok := hid htok
  have Hk := hid hk
  clear hk htok hstr hl hv hm
  have hl64 : l.length ≤ 64 := by have := Hk.out; unfold tokB at this; simp at this; omega
  have hv2 : v.length ≤ 1000 := by omega
  clear hv1
  go_enter Tryd.func6, Tryd.ntmps6
  go_wp2_with fail
  refine (Hsp.out _).mono ?_
  rintro e w1 ⟨rfl, g1⟩
  go_wp2_with fail
  refine (Htok.out _).mono ?_
  rintro e w2 ⟨rfl, rfl⟩
  go_wp2_with fail
  go_loop [7] (fun vk => ∃ k : Nat, k ≤ v.length ∧ vk = .int .i64 k ∧ Hid ((v.take k).all visC = true)) (fun vk => v.length - (intOf vk).toNat)
  case atStart => exact ⟨0, Nat.zero_le _, rfl, by show _ = _; simp⟩
  case round =>
    obtain ⟨k, hk, rfl, hb⟩ := hrel
    by_cases hlt : k < v.length
    · have hc := Hstr.out k (by omega)
      have hnext := all_snoc v visC k hlt
      have hvis : visC (v.getD k 0) = (decide ((33 : Int) ≤ ((v.getD k 0).toNat : Int)) && decide (((v.getD k 0).toNat : Int) ≤ 126)) := rfl
      generalize v.getD k 0 = c at hc hnext hvis
      have Hn := hid hnext
      have Hvi := hid hvis
      clear hnext hvis
      by_cases x1 : (c.toNat : Int) < 33
      · go_wp2
        go_ret
        exact ⟨rfl, gr_trans G0 g1⟩
      · by_cases x2 : (126 : Int) < (c.toNat : Int)
        · go_wp2
          go_ret
          exact ⟨rfl, gr_trans G0 g1⟩
        · have hy := hid (show (v.take (k + 1)).all visC = true by rw [Hn.out, hb.out, Hvi.out]; simp; omega)
          go_wp2
          go_round
          case rel => exact ⟨k + 1, by omega, by go_num, hy⟩
          case measure => simp [intOf]; omega
    · obtain rfl : k = v.length := by omega
      have hb' := hid (show v.all visC = true by have := hb.out; rw [List.take_length] at this; exact this)
      obtain ⟨i, hi, hi7⟩ := and7 x
      obtain ⟨j, hj, hj7⟩ := and7 y
      have B := gr_keep g1 hblk (by simp)
      have d0 := (cell_of_block B 0).trans (show _ = some (Value.int .u8 (x.toNat : Int)) from rfl)
      have d1 := (cell_of_block B 1).trans (show _ = some (Value.int .u8 (y.toNat : Int)) from rfl)
      have p1 : (ByteArray.mk #[9, 32, 9, 32, 9, 32, 9, 32]).extract 0 i = ⟨(pad8.take i).toArray⟩ := by
        apply ba_eq; rw [Lib.extract_from_zero]; rfl
      have p2 : (ByteArray.mk #[9, 32, 9, 32, 9, 32, 9, 32]).extract 0 j = ⟨(pad8.take j).toArray⟩ := by
        apply ba_eq; rw [Lib.extract_from_zero]; rfl
      have hX : (s ++ ByteArray.mk #[58] ++ ByteArray.mk (pad8.take i).toArray ++ t ++ ByteArray.mk (pad8.take j).toArray).data.toList = l ++ 58 :: (pad8.take i ++ v ++ pad8.take j) := by
        rw [Hl.out, Hv.out]; simp
      have HX := hid hX
      have hln := hid (line_made l (pad8.take i) v (pad8.take j) Hk.out (pad_blk i) hb'.out (pad_blk j))
      have hpi : (pad8.take i).length ≤ 8 := by have : pad8.length = 8 := rfl; rw [List.length_take]; omega
      have hpj : (pad8.take j).length ≤ 8 := by have : pad8.length = 8 := rfl; rw [List.length_take]; omega
      have hXl := hid (show (l ++ 58 :: (pad8.take i ++ v ++ pad8.take j)).length < 100000 by simp; omega)
      have hss : s.size ≤ 64 := by rw [Lib.size_eq, ← Hl.out]; exact hl64
      generalize pad8.take i = pi at *
      generalize pad8.take j = pj at *
      have wlt := lt_of_block B
      clear hb hlt hk hX B hblk
      have i1 : (0 : Int) ≤ (i : Int) := by omega
      have i2 : (i : Int) ≤ 8 := by omega
      have j1 : (0 : Int) ≤ (j : Int) := by omega
      have j2 : (j : Int) ≤ 8 := by omega
      have hne1 : ¬ w.heap.size = w1.heap.size := by omega
      have hne2 : ¬ w1.heap.size = w.heap.size := fun h => hne1 h.symm
      clear hs
      have cq1 : ¬ 9223372036854775807 < s.size + 1 := by omega
      have cq2 : ¬ 9223372036854775807 < s.size + 1 + pi.length := by omega
      have cq3 : ¬ 9223372036854775807 < s.size + 1 + pi.length + v.length := by omega
      have cq4 : ¬ 9223372036854775807 < s.size + 1 + pi.length + v.length + pj.length := by omega
      go_upto_region 11 with fail
      go_cut [9, 10] (fun v9 v10 wx => ∃ b : Nat, v9 = .pointer (some ⟨b, 0, none⟩) ∧ v10 = .bool true ∧ wx.heap[b]? = some (.cells #[.string ⟨(lowL l).toArray⟩, .string ⟨v.toArray⟩] 33 (0, 0)) ∧ w.grownBy wx none)
      case first =>
        go_region_held3 (fun w' => w'.cell? ⟨w.heap.size, 0, none⟩ = some (.int .u8 (x.toNat : Int)) ∧ w'.cell? ⟨w.heap.size, 1, none⟩ = some (.int .u8 (y.toNat : Int))) (first | go_keep | exact ⟨by assumption, by assumption⟩)
          (first | (go_at_call 15; refine (line_of _ _ _ _ _ _ HX.out hln.out hXl.out).mono ?_; rintro e w2 ⟨rfl, g2⟩; have GW := gr_trans (by (repeat (first | exact gr_refl _ _ | assumption | refine gr_drew ?_ | refine gr_drewN _ ?_ | refine gr_alloc ?_ _ | refine gr_set ?_ | refine gr_set_new ?_ (by first | omega | (simp; omega)))) : w1.grownBy _ none) g2; have q0 := GW.cell d0 (by simp); have q1 := GW.cell d1 (by simp); (try (have B2 : w2.heap[w1.heap.size]? = some (.cells #[.string ⟨#[]⟩, .string ⟨#[]⟩] 33 (0, 0)) := gr_keep g2 (heap_alloc_new w1 _) (by simp); have k0 := (cell_of_block B2 0).trans (show _ = some (Value.string ⟨#[]⟩) from rfl); have k1 := (cell_of_block B2 1).trans (show _ = some (Value.string ⟨#[]⟩) from rfl); have kf0 := free_of_block B2 0; have kf1 := free_of_block B2 1; have klt := lt_of_block B2))))
        all_goals
          have GW2 := gr_trans (gr_trans G0 g1) GW
          go_wp2_with fail
          go_meet
          first
            | exact ⟨w2.heap.size, rfl, rfl, heap_alloc_new w2 _, by (repeat (first | exact gr_refl _ _ | assumption | refine gr_drew ?_ | refine gr_drewN _ ?_ | refine gr_alloc ?_ _ | refine gr_set ?_ | refine gr_set_new ?_ (by first | omega | (simp; omega))))⟩
            | exact ⟨w1.heap.size, rfl, rfl, heap_set (heap_set B2), by (repeat (first | exact gr_refl _ _ | assumption | refine gr_drew ?_ | refine gr_drewN _ ?_ | refine gr_alloc ?_ _ | refine gr_set ?_ | refine gr_set_new ?_ (by first | omega | (simp; omega))))⟩
      case rest =>
        obtain ⟨b, rfl, rfl, hb, gw⟩ := hcut
        have hst := hid (start_made l v Hk.out hb'.out)
        have hX2 := hid (show (s ++ ByteArray.mk #[32] ++ t ++ ByteArray.mk #[32, 72, 84, 84, 80, 47, 49, 46, 49]).data.toList = l ++ 32 :: (v ++ 32 :: h11) by rw [Hl.out, Hv.out]; simp [h11])
        have hX2l := hid (show (l ++ 32 :: (v ++ 32 :: h11)).length < 4294967281 by simp [h11]; omega)
        have hlw := fun W => rlower_any s W (by omega)
        rw [← Hl.out] at hlw
        unfold str at hlw
        have Hlw := hid hlw
        have tl1 : (ByteArray.mk l.toArray) = s := by rw [Hl.out]
        have tl2 : (ByteArray.mk v.toArray) = t := by rw [Hv.out]
        have q0 := (cell_of_block hb 0).trans (show _ = some (Value.string ⟨(lowL l).toArray⟩) from rfl)
        have q1 := (cell_of_block hb 1).trans (show _ = some (Value.string ⟨v.toArray⟩) from rfl)
        have Hb := hid hb
        rw [tl2] at q1
        clear cq1 cq2 cq3 cq4 p1 p2 hi hj i1 i2 j1 j2 hi7 hj7 d0 d1 hne1 hne2 wlt hlw G0 g1 hln HX hXl hpi hpj hb
        have hr : 1 ≤ v.length ∧ v.length ≤ 512 := by have := HR0.out; omega
        have R : stR (l ++ 32 :: (v ++ 32 :: h11)) = (l, v, 1, true) := by
          rw [hst.out, if_pos]; cases v <;> simp_all
        have hR := hid R
        obtain ⟨r1, r2⟩ := hr
        have r3 : decide ((v.length : Int) ≤ 512) = true := by simp; omega
        have r4 : decide ((1 : Int) ≤ (v.length : Int)) = true := by simp; omega
        clear R
        go_wp2_with fail
        refine (start_of _ _ _ _ _ _ m _ hX2.out hR.out (gw.cell Hm.out (by simp)) hX2l.out).mono ?_
        rintro e w3 ⟨rfl, g3⟩
        rw [tl1, tl2]
        replace q0 := g3.cell q0 (by simp)
        replace q1 := g3.cell q1 (by simp)
        go_wp2_with fail
        go_region_held3 (fun w' => w'.cell? ⟨b, 0, none⟩ = some (.string ⟨(lowL l).toArray⟩) ∧ w'.cell? ⟨b, 1, none⟩ = some (.string t)) (first | go_keep | exact ⟨by assumption, by assumption⟩)
          (first | (go_at_call 14; refine (Hlw.out _).mono ?_; rintro e w4 ⟨rfl, g4⟩; have GW := gr_trans (by (repeat (first | exact gr_refl _ _ | assumption | refine gr_drew ?_ | refine gr_drewN _ ?_ | refine gr_alloc ?_ _ | refine gr_set ?_ | refine gr_set_new ?_ (by first | omega | (simp; omega)))) : w3.grownBy _ none) g4; have k0 := GW.cell q0 (by simp); have k1 := GW.cell q1 (by simp)))
        all_goals
          have GW2 := gr_trans (gr_trans gw g3) GW
          go_wp2
          go_ret
          exact ⟨rfl, by (repeat (first | exact gr_refl _ _ | assumption | refine gr_drew ?_ | refine gr_drewN _ ?_ | refine gr_alloc ?_ _ | refine gr_set ?_ | refine gr_set_new ?_ (by first | omega | (simp; omega))))⟩
end Go.Proofs.YtdfhdnnkpeodhaaDoor
