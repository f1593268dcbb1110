/- HeadMade where the value is empty. -/
import Derived.Test.YtdfhdnnkpeodhaaDoorHead2a
import Derived.Test.YtdfhdnnkpeodhaaDoorReg
import Derived.Deep.RegionHeld3
import Derived.Deep.DeepCutAuto
import Derived.Deep.RegionWith
namespace Go.Proofs.YtdfhdnnkpeodhaaDoor
open Go.RowKit

set_option maxRecDepth 100000 in
set_option maxHeartbeats 4000000 in
theorem made_empty (s t : ByteArray) (x y : UInt8) (m : Int) (w : World) (hm : w.cell? ⟨0, 0, none⟩ = some (.int .i64 m)) (hs : s.size ≤ 9223372036854775807) (hk0 : tokB s.data.toList = true) (hv1 : t.size ≤ 1000) (hr0 : t.size = 0) :
    Calls Tryd.prog 6 #[.string s, .string t, .agg #[.int .u8 (x.toNat : Int), .int .u8 (y.toNat : Int)]] w fun e w' => e = .returned (.bool true) ∧ w.grownBy w' none := by
  obtain ⟨l, hl⟩ : ∃ l, l = s.data.toList := ⟨_, rfl⟩
  obtain ⟨v, hv⟩ : ∃ v, v = t.data.toList := ⟨_, rfl⟩
  have hlen : t.size = v.length := by rw [hv, ← Lib.size_eq]
  have hstr : ∀ k (h : k < t.size), t[k]'h = v.getD k 0 := by rw [hv]; exact strAt t
  have Hstr := hid hstr
  have htok := fun W => rtoken_any s W (by omega)
  rw [← hl] at htok
  have Hl := hid hl
  have Hv := hid hv
  have Hm := hid hm
  have G0 := World.grownBy_alloc w (.cells #[.int .u8 (x.toNat : Int), .int .u8 (y.toNat : Int)] 39) none
  have hblk := heap_alloc_new w (.cells #[.int .u8 (x.toNat : Int), .int .u8 (y.toNat : Int)] 39)
  have Hsp := hid (fun W => speaks_true W)
  have hk : tokB l = true := by rw [hl]; exact hk0
  have HR0 := hid hr0
  clear hr0 hk0
  rw [hk] at htok
  have Htok := hid htok
  have Hk := hid hk
  clear hk htok hstr hl hv hm
  have hl64 : l.length ≤ 64 := by have := Hk.out; unfold tokB at this; simp at this; omega
  have hv2 : v.length ≤ 1000 := by omega
  clear hv1
  go_enter Tryd.func6, Tryd.ntmps6
  go_wp2_with fail
  refine (Hsp.out _).mono ?_
  rintro e w1 ⟨rfl, g1⟩
  go_wp2_with fail
  refine (Htok.out _).mono ?_
  rintro e w2 ⟨rfl, rfl⟩
  go_wp2_with fail
  go_loop [7] (fun vk => ∃ k : Nat, k ≤ v.length ∧ vk = .int .i64 k ∧ Hid ((v.take k).all visC = true)) (fun vk => v.length - (intOf vk).toNat)
  case atStart => exact ⟨0, Nat.zero_le _, rfl, by show _ = _; simp⟩
  case round =>
    obtain ⟨k, hk, rfl, hb⟩ := hrel
    by_cases hlt : k < v.length
    · have hc := Hstr.out k (by omega)
      have hnext := all_snoc v visC k hlt
      have hvis : visC (v.getD k 0) = (decide ((33 : Int) ≤ ((v.getD k 0).toNat : Int)) && decide (((v.getD k 0).toNat : Int) ≤ 126)) := rfl
      generalize v.getD k 0 = c at hc hnext hvis
      have Hn := hid hnext
      have Hvi := hid hvis
      clear hnext hvis
      by_cases x1 : (c.toNat : Int) < 33
      · go_wp2
        go_ret
        exact ⟨rfl, gr_trans G0 g1⟩
      · by_cases x2 : (126 : Int) < (c.toNat : Int)
        · go_wp2
          go_ret
          exact ⟨rfl, gr_trans G0 g1⟩
        · have hy := hid (show (v.take (k + 1)).all visC = true by rw [Hn.out, hb.out, Hvi.out]; simp; omega)
          go_wp2
          go_round
          case rel => exact ⟨k + 1, by omega, by go_num, hy⟩
          case measure => simp [intOf]; omega
    · obtain rfl : k = v.length := by omega
      have hb' := hid (show v.all visC = true by have := hb.out; rw [List.take_length] at this; exact this)
      obtain ⟨i, hi, hi7⟩ := and7 x
      obtain ⟨j, hj, hj7⟩ := and7 y
      have B := gr_keep g1 hblk (by simp)
      have d0 := (cell_of_block B 0).trans (show _ = some (Value.int .u8 (x.toNat : Int)) from rfl)
      have d1 := (cell_of_block B 1).trans (show _ = some (Value.int .u8 (y.toNat : Int)) from rfl)
      have p1 : (ByteArray.mk #[9, 32, 9, 32, 9, 32, 9, 32]).extract 0 i = ⟨(pad8.take i).toArray⟩ := by
        apply ba_eq; rw [Lib.extract_from_zero]; rfl
      have p2 : (ByteArray.mk #[9, 32, 9, 32, 9, 32, 9, 32]).extract 0 j = ⟨(pad8.take j).toArray⟩ := by
        apply ba_eq; rw [Lib.extract_from_zero]; rfl
      have hX : (s ++ ByteArray.mk #[58] ++ ByteArray.mk (pad8.take i).toArray ++ t ++ ByteArray.mk (pad8.take j).toArray).data.toList = l ++ 58 :: (pad8.take i ++ v ++ pad8.take j) := by
        rw [Hl.out, Hv.out]; simp
      have HX := hid hX
      have hln := hid (line_made l (pad8.take i) v (pad8.take j) Hk.out (pad_blk i) hb'.out (pad_blk j))
      have hpi : (pad8.take i).length ≤ 8 := by have : pad8.length = 8 := rfl; rw [List.length_take]; omega
      have hpj : (pad8.take j).length ≤ 8 := by have : pad8.length = 8 := rfl; rw [List.length_take]; omega
      have hXl := hid (show (l ++ 58 :: (pad8.take i ++ v ++ pad8.take j)).length < 100000 by simp; omega)
      have hss : s.size ≤ 64 := by rw [Lib.size_eq, ← Hl.out]; exact hl64
      generalize pad8.take i = pi at *
      generalize pad8.take j = pj at *
      have wlt := lt_of_block B
      clear hb hlt hk hX B hblk
      have i1 : (0 : Int) ≤ (i : Int) := by omega
      have i2 : (i : Int) ≤ 8 := by omega
      have j1 : (0 : Int) ≤ (j : Int) := by omega
      have j2 : (j : Int) ≤ 8 := by omega
      have hne1 : ¬ w.heap.size = w1.heap.size := by omega
      have hne2 : ¬ w1.heap.size = w.heap.size := fun h => hne1 h.symm
      clear hs
      have cq1 : ¬ 9223372036854775807 < s.size + 1 := by omega
      have cq2 : ¬ 9223372036854775807 < s.size + 1 + pi.length := by omega
      have cq3 : ¬ 9223372036854775807 < s.size + 1 + pi.length + v.length := by omega
      have cq4 : ¬ 9223372036854775807 < s.size + 1 + pi.length + v.length + pj.length := by omega
      go_upto_region 11 with fail
      go_cut [9, 10] (fun v9 v10 wx => ∃ b : Nat, v9 = .pointer (some ⟨b, 0, none⟩) ∧ v10 = .bool true ∧ wx.heap[b]? = some (.cells #[.string ⟨(lowL l).toArray⟩, .string ⟨v.toArray⟩] 33 (0, 0)) ∧ w.grownBy wx none)
      case first =>
        go_region_held3 (fun w' => w'.cell? ⟨w.heap.size, 0, none⟩ = some (.int .u8 (x.toNat : Int)) ∧ w'.cell? ⟨w.heap.size, 1, none⟩ = some (.int .u8 (y.toNat : Int))) (first | go_keep | exact ⟨by assumption, by assumption⟩)
          (first | (go_at_call 15; refine (line_of _ _ _ _ _ _ HX.out hln.out hXl.out).mono ?_; rintro e w2 ⟨rfl, g2⟩; have GW := gr_trans (by (repeat (first | exact gr_refl _ _ | assumption | refine gr_drew ?_ | refine gr_drewN _ ?_ | refine gr_alloc ?_ _ | refine gr_set ?_ | refine gr_set_new ?_ (by first | omega | (simp; omega)))) : w1.grownBy _ none) g2; have q0 := GW.cell d0 (by simp); have q1 := GW.cell d1 (by simp); (try (have B2 : w2.heap[w1.heap.size]? = some (.cells #[.string ⟨#[]⟩, .string ⟨#[]⟩] 33 (0, 0)) := gr_keep g2 (heap_alloc_new w1 _) (by simp); have k0 := (cell_of_block B2 0).trans (show _ = some (Value.string ⟨#[]⟩) from rfl); have k1 := (cell_of_block B2 1).trans (show _ = some (Value.string ⟨#[]⟩) from rfl); have kf0 := free_of_block B2 0; have kf1 := free_of_block B2 1; have klt := lt_of_block B2))))
        all_goals
          have GW2 := gr_trans (gr_trans G0 g1) GW
          go_wp2_with fail
          go_meet
          first
            | exact ⟨w2.heap.size, rfl, rfl, heap_alloc_new w2 _, by (repeat (first | exact gr_refl _ _ | assumption | refine gr_drew ?_ | refine gr_drewN _ ?_ | refine gr_alloc ?_ _ | refine gr_set ?_ | refine gr_set_new ?_ (by first | omega | (simp; omega))))⟩
            | exact ⟨w1.heap.size, rfl, rfl, heap_set (heap_set B2), by (repeat (first | exact gr_refl _ _ | assumption | refine gr_drew ?_ | refine gr_drewN _ ?_ | refine gr_alloc ?_ _ | refine gr_set ?_ | refine gr_set_new ?_ (by first | omega | (simp; omega))))⟩
      case rest =>
        obtain ⟨b, rfl, rfl, hb, gw⟩ := hcut
        have hst := hid (start_made l v Hk.out hb'.out)
        have hX2 := hid (show (s ++ ByteArray.mk #[32] ++ t ++ ByteArray.mk #[32, 72, 84, 84, 80, 47, 49, 46, 49]).data.toList = l ++ 32 :: (v ++ 32 :: h11) by rw [Hl.out, Hv.out]; simp [h11])
        have hX2l := hid (show (l ++ 32 :: (v ++ 32 :: h11)).length < 4294967281 by simp [h11]; omega)
        have hlw := fun W => rlower_any s W (by omega)
        rw [← Hl.out] at hlw
        unfold str at hlw
        have Hlw := hid hlw
        have tl1 : (ByteArray.mk l.toArray) = s := by rw [Hl.out]
        have tl2 : (ByteArray.mk v.toArray) = t := by rw [Hv.out]
        have q0 := (cell_of_block hb 0).trans (show _ = some (Value.string ⟨(lowL l).toArray⟩) from rfl)
        have q1 := (cell_of_block hb 1).trans (show _ = some (Value.string ⟨v.toArray⟩) from rfl)
        have Hb := hid hb
        rw [tl2] at q1
        clear cq1 cq2 cq3 cq4 p1 p2 hi hj i1 i2 j1 j2 hi7 hj7 d0 d1 hne1 hne2 wlt hlw G0 g1 hln HX hXl hpi hpj hb
        have hr : ¬ (1 ≤ v.length ∧ v.length ≤ 512) := by have := HR0.out; omega
        have R : stR (l ++ 32 :: (v ++ 32 :: h11)) = ([], [], 0, false) := by
          rw [hst.out, if_neg]; intro h; apply hr; cases v <;> simp_all
        have hR := hid R
        clear R
        have h0 : v.length = 0 := by have := HR0.out; omega
        have r4 : decide ((1 : Int) ≤ (v.length : Int)) = false := by simp; omega
        clear hr h0
        go_wp2_with fail
        refine (start_of _ _ _ _ _ _ m _ hX2.out hR.out (gw.cell Hm.out (by simp)) hX2l.out).mono ?_
        rintro e w3 ⟨rfl, g3⟩
        replace q0 := g3.cell q0 (by simp)
        replace q1 := g3.cell q1 (by simp)
        go_wp2_with fail
        clear hX2 hX2l hR
        refine wp_region_spec2 (by kernel_rfl) (by kernel_rfl) (n := 33) (by kernel_rfl) [some 81, some 82, some 83, some 84, some 85, some 86, some 87, some 88, some 89, some 90, some 91, some 92, some 93, some 94, some 95, some 96, some 97, some 98, some 99, some 100, some 101, some 102, some 103, some 104, some 105, some 106, some 107, some 108, some 109, some 110, some 111, some 112, some 6] (by kernel_rfl) _ (fun u => (by simp only [fill, List.zipIdx_cons, List.zipIdx_nil, List.foldl_cons, List.foldl_nil, Act.put, List.setIfInBounds_toArray, List.set_cons_zero, List.set_cons_succ, Nat.zero_add, Nat.reduceAdd]; exact rfl)) (by kernel_rfl)
          (all_succ (all_succ (all_succ (all_succ (all_succ (all_succ (all_succ (all_succ (all_succ (all_succ (all_succ (all_succ (all_succ (all_succ (all_succ (all_succ (all_succ (all_succ (all_succ (all_succ (all_succ (all_succ (all_succ (all_succ (all_succ (all_succ (all_succ (all_succ (all_succ (all_succ (all_succ (all_succ (all_succ (all_zero _) (fun u v => by kernel_rfl)) (fun u v => by kernel_rfl)) (fun u v => by kernel_rfl)) (fun u v => by kernel_rfl)) (fun u v => by kernel_rfl)) (fun u v => by kernel_rfl)) (fun u v => by kernel_rfl)) (fun u v => by kernel_rfl)) (fun u v => by kernel_rfl)) (fun u v => by kernel_rfl)) (fun u v => by kernel_rfl)) (fun u v => by kernel_rfl)) (fun u v => by kernel_rfl)) (fun u v => by kernel_rfl)) (fun u v => by kernel_rfl)) (fun u v => by kernel_rfl)) (fun u v => by kernel_rfl)) (fun u v => by kernel_rfl)) (fun u v => by kernel_rfl)) (fun u v => by kernel_rfl)) (fun u v => by kernel_rfl)) (fun u v => by kernel_rfl)) (fun u v => by kernel_rfl)) (fun u v => by kernel_rfl)) (fun u v => by kernel_rfl)) (fun u v => by kernel_rfl)) (fun u v => by kernel_rfl)) (fun u v => by kernel_rfl)) (fun u v => by kernel_rfl)) (fun u v => by kernel_rfl)) (fun u v => by kernel_rfl)) (fun u v => by kernel_rfl)) (fun u v => by kernel_rfl))
          (fun i v w => match i with | 0 => v = .bool true | 1 => v = .bool true | 2 => v = .agg #[.string ⟨(lowL l).toArray⟩, .string t] | 3 => v = .string s | 4 => v = .string ⟨(lowL l).toArray⟩ | 5 => v = .string t | 6 => v = .agg #[.string ⟨(lowL l).toArray⟩, .string t] | 7 => v = .bool true | 8 => v = .bool true | 9 => v = .bool true | 10 => v = .bool false | 11 => v = .bool false | 12 => v = .bool true | 13 => v = .bool true | 14 => v = .bool true | 15 => v = .bool false | 16 => v = .bool true | 17 => v = .bool true | 18 => v = undef | 19 => v = undef | 20 => v = undef | 21 => v = undef | 22 => v = undef | 23 => v = undef | 24 => v = undef | 25 => v = undef | 26 => v = undef | 27 => v = undef | 28 => v = undef | 29 => v = undef | 30 => v = .bool true | 31 => v = .bool true | 32 => v = .bool true | _ => True)
          (all_succ (all_succ (all_succ (all_succ (all_succ (all_succ (all_succ (all_succ (all_succ (all_succ (all_succ (all_succ (all_succ (all_succ (all_succ (all_succ (all_succ (all_succ (all_succ (all_succ (all_succ (all_succ (all_succ (all_succ (all_succ (all_succ (all_succ (all_succ (all_succ (all_succ (all_succ (all_succ (all_succ (all_zero _) ?m0) ?m1) ?m2) ?m3) ?m4) ?m5) ?m6) ?m7) ?m8) ?m9) ?m10) ?m11) ?m12) ?m13) ?m14) ?m15) ?m16) ?m17) ?m18) ?m19) ?m20) ?m21) ?m22) ?m23) ?m24) ?m25) ?m26) ?m27) ?m28) ?m29) ?m30) ?m31) ?m32)
          [[], [0], [1], [1], [3, 1], [1], [4, 5, 1], [2, 6, 1], [1, 7], [8], [9], [9], [10, 11, 9], [9, 12], [13], [14], [15, 14], [16, 14], [17], [17], [18, 19, 17], [20, 17], [21], [21], [22, 23, 21], [21, 24, 17], [25, 17], [26], [27, 26], [26, 28, 17], [17, 29, 14], [14, 30], [31]] (by kernel_rfl)
          ⟨?o0, ?o1, ?o2, ?o3, ?o4, ?o5, ?o6, ?o7, ?o8, ?o9, ?o10, ?o11, ?o12, ?o13, ?o14, ?o15, ?o16, ?o17, ?o18, ?o19, ?o20, ?o21, ?o22, ?o23, ?o24, ?o25, ?o26, ?o27, ?o28, ?o29, ?o30, ?o31, ?o32, trivial⟩ ?done
        case m0 => intro v w w' h g; exact h
        case m1 => intro v w w' h g; exact h
        case m2 => intro v w w' h g; exact h
        case m3 => intro v w w' h g; exact h
        case m4 => intro v w w' h g; exact h
        case m5 => intro v w w' h g; exact h
        case m6 => intro v w w' h g; exact h
        case m7 => intro v w w' h g; exact h
        case m8 => intro v w w' h g; exact h
        case m9 => intro v w w' h g; exact h
        case m10 => intro v w w' h g; exact h
        case m11 => intro v w w' h g; exact h
        case m12 => intro v w w' h g; exact h
        case m13 => intro v w w' h g; exact h
        case m14 => intro v w w' h g; exact h
        case m15 => intro v w w' h g; exact h
        case m16 => intro v w w' h g; exact h
        case m17 => intro v w w' h g; exact h
        case m18 => intro v w w' h g; exact h
        case m19 => intro v w w' h g; exact h
        case m20 => intro v w w' h g; exact h
        case m21 => intro v w w' h g; exact h
        case m22 => intro v w w' h g; exact h
        case m23 => intro v w w' h g; exact h
        case m24 => intro v w w' h g; exact h
        case m25 => intro v w w' h g; exact h
        case m26 => intro v w w' h g; exact h
        case m27 => intro v w w' h g; exact h
        case m28 => intro v w w' h g; exact h
        case m29 => intro v w w' h g; exact h
        case m30 => intro v w w' h g; exact h
        case m31 => intro v w w' h g; exact h
        case m32 => intro v w w' h g; exact h
        case o0 =>
          intro u w g hd K hK
          clear hd
          simp only [Act.put, List.setIfInBounds_toArray, List.set_cons_zero, List.set_cons_succ] at hK
          go_simp
          exact hK _ _ rfl (gr_refl _ _)
        case o1 =>
          intro u w g hd K hK
          have h0 : (u 0) = .bool true := hd 0 (by simp)
          clear hd
          simp only [Act.put, List.setIfInBounds_toArray, List.set_cons_zero, List.set_cons_succ] at hK
          simp only [h0] at hK ⊢
          go_simp
          exact hK _ _ rfl (gr_refl _ _)
        case o2 =>
          intro u w g hd K hK
          have h1 : (u 1) = .bool true := hd 1 (by simp)
          clear hd
          simp only [Act.put, List.setIfInBounds_toArray, List.set_cons_zero, List.set_cons_succ] at hK
          have c0 := g.cell q0 (by simp)
          have c1 := g.cell q1 (by simp)
          simp only [h1] at hK ⊢
          go_simp
          exact hK _ _ rfl (gr_refl _ _)
        case o3 =>
          intro u w g hd K hK
          have h1 : (u 1) = .bool true := hd 1 (by simp)
          clear hd
          simp only [Act.put, List.setIfInBounds_toArray, List.set_cons_zero, List.set_cons_succ] at hK
          simp only [h1] at hK ⊢
          go_simp
          exact hK _ _ rfl (gr_refl _ _)
        case o4 =>
          intro u w g hd K hK
          have h3 : (u 3) = .string s := hd 3 (by simp)
          have h1 : (u 1) = .bool true := hd 1 (by simp)
          clear hd
          simp only [Act.put, List.setIfInBounds_toArray, List.set_cons_zero, List.set_cons_succ] at hK
          simp only [h3, h1] at hK ⊢
          go_simp
          refine (Hlw.out w).mono ?_
          rintro e w' ⟨rfl, g'⟩
          exact hK _ _ rfl g'
        case o5 =>
          intro u w g hd K hK
          have h1 : (u 1) = .bool true := hd 1 (by simp)
          clear hd
          simp only [Act.put, List.setIfInBounds_toArray, List.set_cons_zero, List.set_cons_succ] at hK
          simp only [h1] at hK ⊢
          go_simp
          exact hK _ _ rfl (gr_refl _ _)
        case o6 =>
          intro u w g hd K hK
          have h4 : (u 4) = .string ⟨(lowL l).toArray⟩ := hd 4 (by simp)
          have h5 : (u 5) = .string t := hd 5 (by simp)
          have h1 : (u 1) = .bool true := hd 1 (by simp)
          clear hd
          simp only [Act.put, List.setIfInBounds_toArray, List.set_cons_zero, List.set_cons_succ] at hK
          simp only [h4, h5, h1] at hK ⊢
          go_simp
          exact hK _ _ rfl (gr_refl _ _)
        case o7 =>
          intro u w g hd K hK
          have h2 : (u 2) = .agg #[.string ⟨(lowL l).toArray⟩, .string t] := hd 2 (by simp)
          have h6 : (u 6) = .agg #[.string ⟨(lowL l).toArray⟩, .string t] := hd 6 (by simp)
          have h1 : (u 1) = .bool true := hd 1 (by simp)
          clear hd
          simp only [Act.put, List.setIfInBounds_toArray, List.set_cons_zero, List.set_cons_succ] at hK
          simp only [h2, h6, h1] at hK ⊢
          go_simp
          exact hK _ _ rfl (gr_refl _ _)
        case o8 =>
          intro u w g hd K hK
          have h1 : (u 1) = .bool true := hd 1 (by simp)
          have h7 : (u 7) = .bool true := hd 7 (by simp)
          clear hd
          simp only [Act.put, List.setIfInBounds_toArray, List.set_cons_zero, List.set_cons_succ] at hK
          simp only [h1, h7] at hK ⊢
          go_simp
          exact hK _ _ rfl (gr_refl _ _)
        case o9 =>
          intro u w g hd K hK
          have h8 : (u 8) = .bool true := hd 8 (by simp)
          clear hd
          simp only [Act.put, List.setIfInBounds_toArray, List.set_cons_zero, List.set_cons_succ] at hK
          simp only [h8] at hK ⊢
          go_simp
          exact hK _ _ rfl (gr_refl _ _)
        case o10 =>
          intro u w g hd K hK
          have h9 : (u 9) = .bool true := hd 9 (by simp)
          clear hd
          simp only [Act.put, List.setIfInBounds_toArray, List.set_cons_zero, List.set_cons_succ] at hK
          simp only [h9] at hK ⊢
          go_simp
          exact hK _ _ rfl (gr_refl _ _)
        case o11 =>
          intro u w g hd K hK
          have h9 : (u 9) = .bool true := hd 9 (by simp)
          clear hd
          simp only [Act.put, List.setIfInBounds_toArray, List.set_cons_zero, List.set_cons_succ] at hK
          simp only [h9] at hK ⊢
          go_simp
          exact hK _ _ rfl (gr_refl _ _)
        case o12 =>
          intro u w g hd K hK
          have h10 : (u 10) = .bool false := hd 10 (by simp)
          have h11 : (u 11) = .bool false := hd 11 (by simp)
          have h9 : (u 9) = .bool true := hd 9 (by simp)
          clear hd
          simp only [Act.put, List.setIfInBounds_toArray, List.set_cons_zero, List.set_cons_succ] at hK
          simp only [h10, h11, h9] at hK ⊢
          go_simp
          exact hK _ _ rfl (gr_refl _ _)
        case o13 =>
          intro u w g hd K hK
          have h9 : (u 9) = .bool true := hd 9 (by simp)
          have h12 : (u 12) = .bool true := hd 12 (by simp)
          clear hd
          simp only [Act.put, List.setIfInBounds_toArray, List.set_cons_zero, List.set_cons_succ] at hK
          simp only [h9, h12] at hK ⊢
          go_simp
          exact hK _ _ rfl (gr_refl _ _)
        case o14 =>
          intro u w g hd K hK
          have h13 : (u 13) = .bool true := hd 13 (by simp)
          clear hd
          simp only [Act.put, List.setIfInBounds_toArray, List.set_cons_zero, List.set_cons_succ] at hK
          simp only [h13] at hK ⊢
          go_simp
          exact hK _ _ rfl (gr_refl _ _)
        case o15 =>
          intro u w g hd K hK
          have h14 : (u 14) = .bool true := hd 14 (by simp)
          clear hd
          simp only [Act.put, List.setIfInBounds_toArray, List.set_cons_zero, List.set_cons_succ] at hK
          simp only [h14] at hK ⊢
          go_simp
          exact hK _ _ rfl (gr_refl _ _)
        case o16 =>
          intro u w g hd K hK
          have h15 : (u 15) = .bool false := hd 15 (by simp)
          have h14 : (u 14) = .bool true := hd 14 (by simp)
          clear hd
          simp only [Act.put, List.setIfInBounds_toArray, List.set_cons_zero, List.set_cons_succ] at hK
          simp only [h15, h14] at hK ⊢
          go_simp
          exact hK _ _ rfl (gr_refl _ _)
        case o17 =>
          intro u w g hd K hK
          have h16 : (u 16) = .bool true := hd 16 (by simp)
          have h14 : (u 14) = .bool true := hd 14 (by simp)
          clear hd
          simp only [Act.put, List.setIfInBounds_toArray, List.set_cons_zero, List.set_cons_succ] at hK
          simp only [h16, h14] at hK ⊢
          go_simp
          exact hK _ _ rfl (gr_refl _ _)
        case o18 =>
          intro u w g hd K hK
          have h17 : (u 17) = .bool true := hd 17 (by simp)
          clear hd
          simp only [Act.put, List.setIfInBounds_toArray, List.set_cons_zero, List.set_cons_succ] at hK
          simp only [h17] at hK ⊢
          go_simp
          exact hK _ _ rfl (gr_refl _ _)
        case o19 =>
          intro u w g hd K hK
          have h17 : (u 17) = .bool true := hd 17 (by simp)
          clear hd
          simp only [Act.put, List.setIfInBounds_toArray, List.set_cons_zero, List.set_cons_succ] at hK
          simp only [h17] at hK ⊢
          go_simp
          exact hK _ _ rfl (gr_refl _ _)
        case o20 =>
          intro u w g hd K hK
          have h18 : (u 18) = undef := hd 18 (by simp)
          have h19 : (u 19) = undef := hd 19 (by simp)
          have h17 : (u 17) = .bool true := hd 17 (by simp)
          clear hd
          simp only [Act.put, List.setIfInBounds_toArray, List.set_cons_zero, List.set_cons_succ] at hK
          simp only [h18, h19, h17] at hK ⊢
          go_simp
          exact hK _ _ rfl (gr_refl _ _)
        case o21 =>
          intro u w g hd K hK
          have h20 : (u 20) = undef := hd 20 (by simp)
          have h17 : (u 17) = .bool true := hd 17 (by simp)
          clear hd
          simp only [Act.put, List.setIfInBounds_toArray, List.set_cons_zero, List.set_cons_succ] at hK
          simp only [h20, h17] at hK ⊢
          go_simp
          exact hK _ _ rfl (gr_refl _ _)
        case o22 =>
          intro u w g hd K hK
          have h21 : (u 21) = undef := hd 21 (by simp)
          clear hd
          simp only [Act.put, List.setIfInBounds_toArray, List.set_cons_zero, List.set_cons_succ] at hK
          simp only [h21] at hK ⊢
          go_simp
          exact hK _ _ rfl (gr_refl _ _)
        case o23 =>
          intro u w g hd K hK
          have h21 : (u 21) = undef := hd 21 (by simp)
          clear hd
          simp only [Act.put, List.setIfInBounds_toArray, List.set_cons_zero, List.set_cons_succ] at hK
          simp only [h21] at hK ⊢
          go_simp
          exact hK _ _ rfl (gr_refl _ _)
        case o24 =>
          intro u w g hd K hK
          have h22 : (u 22) = undef := hd 22 (by simp)
          have h23 : (u 23) = undef := hd 23 (by simp)
          have h21 : (u 21) = undef := hd 21 (by simp)
          clear hd
          simp only [Act.put, List.setIfInBounds_toArray, List.set_cons_zero, List.set_cons_succ] at hK
          simp only [h22, h23, h21] at hK ⊢
          go_simp
          exact hK _ _ rfl (gr_refl _ _)
        case o25 =>
          intro u w g hd K hK
          have h21 : (u 21) = undef := hd 21 (by simp)
          have h24 : (u 24) = undef := hd 24 (by simp)
          have h17 : (u 17) = .bool true := hd 17 (by simp)
          clear hd
          simp only [Act.put, List.setIfInBounds_toArray, List.set_cons_zero, List.set_cons_succ] at hK
          simp only [h21, h24, h17] at hK ⊢
          go_simp
          exact hK _ _ rfl (gr_refl _ _)
        case o26 =>
          intro u w g hd K hK
          have h25 : (u 25) = undef := hd 25 (by simp)
          have h17 : (u 17) = .bool true := hd 17 (by simp)
          clear hd
          simp only [Act.put, List.setIfInBounds_toArray, List.set_cons_zero, List.set_cons_succ] at hK
          simp only [h25, h17] at hK ⊢
          go_simp
          exact hK _ _ rfl (gr_refl _ _)
        case o27 =>
          intro u w g hd K hK
          have h26 : (u 26) = undef := hd 26 (by simp)
          clear hd
          simp only [Act.put, List.setIfInBounds_toArray, List.set_cons_zero, List.set_cons_succ] at hK
          simp only [h26] at hK ⊢
          go_simp
          exact hK _ _ rfl (gr_refl _ _)
        case o28 =>
          intro u w g hd K hK
          have h27 : (u 27) = undef := hd 27 (by simp)
          have h26 : (u 26) = undef := hd 26 (by simp)
          clear hd
          simp only [Act.put, List.setIfInBounds_toArray, List.set_cons_zero, List.set_cons_succ] at hK
          simp only [h27, h26] at hK ⊢
          go_simp
          exact hK _ _ rfl (gr_refl _ _)
        case o29 =>
          intro u w g hd K hK
          have h26 : (u 26) = undef := hd 26 (by simp)
          have h28 : (u 28) = undef := hd 28 (by simp)
          have h17 : (u 17) = .bool true := hd 17 (by simp)
          clear hd
          simp only [Act.put, List.setIfInBounds_toArray, List.set_cons_zero, List.set_cons_succ] at hK
          simp only [h26, h28, h17] at hK ⊢
          go_simp
          exact hK _ _ rfl (gr_refl _ _)
        case o30 =>
          intro u w g hd K hK
          have h17 : (u 17) = .bool true := hd 17 (by simp)
          have h29 : (u 29) = undef := hd 29 (by simp)
          have h14 : (u 14) = .bool true := hd 14 (by simp)
          clear hd
          simp only [Act.put, List.setIfInBounds_toArray, List.set_cons_zero, List.set_cons_succ] at hK
          simp only [h17, h29, h14] at hK ⊢
          go_simp
          exact hK _ _ rfl (gr_refl _ _)
        case o31 =>
          intro u w g hd K hK
          have h14 : (u 14) = .bool true := hd 14 (by simp)
          have h30 : (u 30) = .bool true := hd 30 (by simp)
          clear hd
          simp only [Act.put, List.setIfInBounds_toArray, List.set_cons_zero, List.set_cons_succ] at hK
          simp only [h14, h30] at hK ⊢
          go_simp
          exact hK _ _ rfl (gr_refl _ _)
        case o32 =>
          intro u w g hd K hK
          have h31 : (u 31) = .bool true := hd 31 (by simp)
          clear hd
          simp only [Act.put, List.setIfInBounds_toArray, List.set_cons_zero, List.set_cons_succ] at hK
          simp only [h31] at hK ⊢
          go_simp
          exact hK _ _ rfl (gr_refl _ _)
        case done =>
          intro u w hS g
          have s0 : (u 0) = .bool true := hS 0 (by decide)
          have s1 : (u 1) = .bool true := hS 1 (by decide)
          have s2 : (u 2) = .agg #[.string ⟨(lowL l).toArray⟩, .string t] := hS 2 (by decide)
          have s3 : (u 3) = .string s := hS 3 (by decide)
          have s4 : (u 4) = .string ⟨(lowL l).toArray⟩ := hS 4 (by decide)
          have s5 : (u 5) = .string t := hS 5 (by decide)
          have s6 : (u 6) = .agg #[.string ⟨(lowL l).toArray⟩, .string t] := hS 6 (by decide)
          have s7 : (u 7) = .bool true := hS 7 (by decide)
          have s8 : (u 8) = .bool true := hS 8 (by decide)
          have s9 : (u 9) = .bool true := hS 9 (by decide)
          have s10 : (u 10) = .bool false := hS 10 (by decide)
          have s11 : (u 11) = .bool false := hS 11 (by decide)
          have s12 : (u 12) = .bool true := hS 12 (by decide)
          have s13 : (u 13) = .bool true := hS 13 (by decide)
          have s14 : (u 14) = .bool true := hS 14 (by decide)
          have s15 : (u 15) = .bool false := hS 15 (by decide)
          have s16 : (u 16) = .bool true := hS 16 (by decide)
          have s17 : (u 17) = .bool true := hS 17 (by decide)
          have s18 : (u 18) = undef := hS 18 (by decide)
          have s19 : (u 19) = undef := hS 19 (by decide)
          have s20 : (u 20) = undef := hS 20 (by decide)
          have s21 : (u 21) = undef := hS 21 (by decide)
          have s22 : (u 22) = undef := hS 22 (by decide)
          have s23 : (u 23) = undef := hS 23 (by decide)
          have s24 : (u 24) = undef := hS 24 (by decide)
          have s25 : (u 25) = undef := hS 25 (by decide)
          have s26 : (u 26) = undef := hS 26 (by decide)
          have s27 : (u 27) = undef := hS 27 (by decide)
          have s28 : (u 28) = undef := hS 28 (by decide)
          have s29 : (u 29) = undef := hS 29 (by decide)
          have s30 : (u 30) = .bool true := hS 30 (by decide)
          have s31 : (u 31) = .bool true := hS 31 (by decide)
          have s32 : (u 32) = .bool true := hS 32 (by decide)
          clear hS
          rw [s32]
          have GW2 := gr_trans (gr_trans gw g3) g
          clear s0 s1 s2 s3 s4 s5 s6 s7 s8 s9 s10 s11 s12 s13 s14 s15 s16 s17 s18 s19 s20 s21 s22 s23 s24 s25 s26 s27 s28 s29 s30 s31 s32
          go_wp2
          go_ret
          exact ⟨rfl, GW2⟩
end Go.Proofs.YtdfhdnnkpeodhaaDoor
