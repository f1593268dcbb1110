/- The walk of StreamWindow. -/
import Derived.Test.YtcgmbeibhingcaaSw9
namespace Go.Proofs.Ytcgmbeibhingcaa
open Go.RowKit

set_option maxRecDepth 20000 in
set_option maxHeartbeats 4000000 in
theorem window_walk (own : Int) (da : Option Addr) (dc : Nat) (D : List UInt8) (wa : Option Addr) (len cap : Nat) (ws : List Int) (w : World) (hD : Bytes w (.slice da D.length dc) D) (hz : IsRow .u16 w wa len cap ws) :
    Calls Try.prog 4 #[.int .u32 own, .slice da D.length dc, .slice wa len cap] w fun e w' => e = .returned (.bool true) ∧ w.grownBy w' none := by
  have HD := hid hD
  clear hD
  by_cases h9 : 9000 < D.length
  · have h9' : (9000 : Int) < (D.length : Int) := by omega
    go_enter Try.func4, Try.ntmps4
    go_wp2_with fail
    refine (speaks_true w).mono ?_
    rintro e w1 ⟨rfl, g1⟩
    go_wp2
    go_ret
    exact ⟨rfl, g1⟩
  have h9' : ¬ (9000 : Int) < (D.length : Int) := by omega
  by_cases h60 : 60 < len
  · have h60' : (60 : Int) < (len : Int) := by omega
    go_enter Try.func4, Try.ntmps4
    go_wp2_with fail
    refine (speaks_true w).mono ?_
    rintro e w1 ⟨rfl, g1⟩
    go_wp2
    go_ret
    exact ⟨rfl, g1⟩
  have h60' : ¬ (60 : Int) < (len : Int) := by omega
  go_enter Try.func4, Try.ntmps4
  go_wp2_with fail
  refine (speaks_true w).mono ?_
  rintro e w1 ⟨rfl, g1⟩
  go_wp2_with fail
  refine (accept_any w1 5 80 9 0 2 0 0 own 0 none none 0 0 0 0 (by omega) (by omega)).mono ?_
  rintro e w2 ⟨b, g, rfl, hg, hgs, hbs, h2, g2⟩
  have G2 := hid (gr_trans g1 g2)
  have hb0 : w.heap.size ≤ b := by have := g1.size; omega
  have HD2 := HD.out.grown G2.out
  obtain ⟨n, hn⟩ : ∃ n, n = min D.length 8192 := ⟨_, rfl⟩
  go_wp2_with fail
  refine (send_data b _ D da dc n w2 h2 rfl rfl rfl rfl HD2 (by omega) hn).mono ?_
  rintro e w3 ⟨v, rfl, hv, h3, g3⟩
  have HINV := hid (show SwInv w w3 b own D n 1 by
    have hlen : (D.take n).length = n := by simp; omega
    refine ⟨⟨_, 1, 0, 0, D.take n, h3, ⟨rfl, rfl, rfl, rfl, ?_, by omega, by omega, by omega, by omega, by omega, by omega, by omega, by omega, by omega⟩, by omega, by omega, by omega, rfl, (fun h => by omega), .inl rfl, rfl, rfl, rfl, rfl, rfl, hv.byAt, rfl, by simp, by omega⟩, by omega, by omega, gr_new G2.out g3 hb0, hb0⟩
    show (1 + (n : Int)) = _
    rw [hlen]; omega)
  clear hv h3 h2 g3 hg hgs G2 HD2 g1 g2 hbs
  generalize (decide ((9000 : Int) < (D.length : Int)) || decide ((60 : Int) < (len : Int))) = dy3
  generalize decide ((9000 : Int) < (D.length : Int)) = dy1
  generalize decide ((60 : Int) < (len : Int)) = dy2
  have HNN := hid hn
  have hn8 : n ≤ 8192 := by omega
  have hnD : n ≤ D.length := by omega
  clear hn
  go_wp2_with fail
  go_loopw [10, 11, 41] (fun v1 v2 vk wr => ∃ (k M : Nat), v1 = .int .u32 ((M - 1 : Nat) : Int) ∧ v2 = .int .u32 ((M - 1 : Nat) : Int) ∧ vk = .int .i64 k ∧ k ≤ len ∧ SwInv w wr b own D n M) (fun _ _ vk _ => len - (intOf vk).toNat)
  case atStart => exact ⟨0, 1, rfl, rfl, rfl, Nat.zero_le _, HINV.out⟩
  case round =>
    clear HINV
    obtain ⟨k, M, rfl, rfl, rfl, hk, hinv⟩ := hrel
    have m1 := hinv.m1
    have mn := hinv.mn
    have HI := hid hinv
    obtain ⟨c, B, U, Wn, l, hc, hcn, hU, hB, hM, htr, hph, hp2, hu, he, hclo, hot, hse, hby, how, hl, hBl⟩ := hinv.ex
    have hgr := hinv.gr
    clear hinv
    by_cases hkl : k < len
    · rcases hz with ⟨_, rfl, _⟩ | ⟨x, rfl, hwl, hwm, hzl, hcell, hwf⟩
      · omega
      obtain ⟨bb, off, rfl, hci⟩ := ints_at hcell (by omega)
      have hx := hgr.cell (hci k (by omega)) (by simp)
      obtain ⟨x, ex⟩ : ∃ x, x = ws.getD k 0 := ⟨_, rfl⟩
      rw [← ex] at hx
      have xb := bounds_u16 (hwf x (by rw [ex]; rw [List.getD_eq_getElem?_getD, List.getElem?_eq_getElem (by omega)]; exact List.getElem_mem _))
      clear ex hci hcell hwf
      obtain ⟨wi, rfl⟩ : ∃ wi : Nat, x = (wi : Int) := ⟨x.toNat, by omega⟩
      have hack : IntKind.u32.wrap (IntKind.u32.wrap (own + 1) + ((M - 1 : Nat) : Int)) = (own + M) % 4294967296 := by rw [IntKind.wrap_u32, IntKind.wrap_u32]; omega
      have HT := hid (fun now => take_ack b c wr now B U M Wn wi l 5 80 0 none 0 0 hc hcn hU hB m1 hM (by omega) (by omega) htr hph hp2 hu he hclo hot hse hby)
      rw [how] at HT
      have hHI : D.length ≤ 9000 := by omega
      go_wp2_with fail
      rw [show own + 1 + ((M - 1 : Nat) : Int) = own + (M : Int) by omega]
      refine (HT.out k).mono ?_
      rintro e w4 ⟨outv, segs, N', out, rfl, hrow, hdat, hch, hdone, ⟨ti, du, hc4⟩, g34, ho4⟩
      have hBM : B ≤ M := by omega
      have hlen' : (l.drop (M - B)).length = l.length - (M - B) := List.length_drop
      have hl' : l.drop (M - B) = (D.take n).drop (M - 1) := by rw [hl, List.drop_drop]; congr 1; omega
      have hcl := hch.le
      have hMN : M ≤ N' := by omega
      have hNT : N' ≤ 1 + n := by
        rcases segs with _ | ⟨a, r⟩
        · have : N' = M := hch
          omega
        · have := (hcl.2 (by simp)).1
          omega
      rw [hBl] at hch hdone
      rw [show max M N' = N' by omega] at hc4
      rw [hl'] at hdat ho4 hlen'
      have hinv4 : SwInv w w4 b own D n N' := ⟨⟨_, M, M, wi, (D.take n).drop (M - 1), hc4, ⟨rfl, rfl, rfl, rfl, by show c.tail = _; rw [hcn.tail]; omega, m1, hMN, by omega, by omega, by omega, by omega, by omega, by omega, by omega⟩, hMN, by omega, by omega, rfl, fun _ => rfl, .inr rfl, hu, he, hclo, hot, hse, ho4, how, rfl, by omega⟩, by omega, hNT, gr_new hgr g34 hb0, hb0⟩
      clear HT
      obtain ⟨va, vc, hov, hvc⟩ := row_shape hrow
      subst hov
      have HD4 := hid (HD.out.grown hinv4.gr)
      have HI4 := hid hinv4
      have HROW := hid hrow
      have HDAT := hid hdat
      have HCH := hid hch
      have hsl := hcl.1
      clear hrow hdat hch hinv4 hdone hc4 g34 ho4 hcl hl' hlen' hby hc hcn hl HI hgr hx
      go_wp2_with fail
      go_loopw [11, 58] (fun v2 vj wq => ∃ (j : Nat), v2 = .int .u32 ((chP M segs j - 1 : Nat) : Int) ∧ vj = .int .i64 j ∧ j ≤ segs.length ∧ w4.grownBy wq none) (fun _ vj _ => segs.length - (intOf vj).toNat)
      case atStart => exact ⟨0, by rw [chP_zero], rfl, Nat.zero_le _, gr_refl _ _⟩
      case round =>
        obtain ⟨j, rfl, rfl, hj, gq⟩ := hrel
        by_cases hjl : j < segs.length
        · obtain ⟨⟨p, m, vs⟩, hs, e1, e2, e3, e4, e5, e6, e7⟩ := chain_get HCH.out j hjl
          dsimp only at e1 e2 e3 e4 e5 e6 e7
          obtain ⟨gs, cs, eva, hcs, hms, hcell⟩ := own_cell HROW.out (by omega)
          have hd := HDAT.out _ (List.mem_of_getElem? hs)
          dsimp only at hd
          rw [List.drop_drop, show M - 1 + (p - M) = p - 1 by omega, take_part D n (p - 1) m (by omega)] at hd
          obtain ⟨xa, xc, rfl, hxm, hxc, -⟩ := hd.bytes
          have hlm : ((D.drop (p - 1)).take m).length = m := by simp; omega
          rw [hlm] at hd hs hxm
          have hseg := fun q u hq (h : (segL { c with phase := 2 } 0 (p, m, .slice xa m xc))[q]? = some u) => gq.cell (hcell (j * 9 + q) u (by rw [segsL_get _ _ _ _ _ hs q hq]; exact h)) (by simp)
          obtain ⟨rfl, rfl⟩ : va = some ⟨gs, 0, none⟩ ∧ vc = cs := by simpa using eva
          have p0 := hseg 0 (.int .u16 c.src) (by omega) rfl
          rw [Nat.add_zero] at p0
          have p1 := hseg 1 (.int .u16 c.dst) (by omega) rfl
          have p2 := hseg 2 (.int .u32 ((own + p) % 4294967296)) (by omega) (by rw [← how]; rfl)
          have p3 := hseg 3 (.int .u32 ((c.other + c.seen) % 4294967296)) (by omega) rfl
          have p4 := hseg 4 (.int .u8 (bits BinOp.or IntKind.u8 24 16)) (by omega) rfl
          have p5 := hseg 5 (.int .u16 4096) (by omega) rfl
          have p6 := hseg 6 (.int .u16 0) (by omega) rfl
          have p7 := hseg 7 (.slice none 0 0) (by omega) rfl
          have p8 := hseg 8 (.slice xa m xc) (by omega) rfl
          generalize bits BinOp.or IntKind.u8 24 16 = fl at p4
          have E1 := hid e1
          have E6 := hid e6
          have hpM : M ≤ p := e7
          clear hseg hcell eva e1 e6
          go_wp2_with fail
          have hatp : (own + (p : Int) - own) % 4294967296 - 1 = ((p - 1 : Nat) : Int) := by omega
          rw [hatp]
          have g45 := World.grownBy_alloc wr (.cells #[.int .u16 c.src, .int .u16 c.dst, .int .u32 ((own + p) % 4294967296), .int .u32 10, .int .u8 fl, .int .u16 4096, .int .u16 0, .slice none 0 0, .slice xa m xc] 34) none
          have hB5 := heap_alloc_new wr (.cells #[.int .u16 c.src, .int .u16 c.dst, .int .u32 ((own + p) % 4294967296), .int .u32 10, .int .u8 fl, .int .u16 4096, .int .u16 0, .slice none 0 0, .slice xa m xc] 34)
          have k8 := (cell_of_block hB5 8).trans (show _ = some (Value.slice xa m xc) from rfl)
          obtain ⟨db, dof, hda⟩ : ∃ db dof, da = some ⟨db, dof, none⟩ := by
            obtain ⟨-, -, -, h3⟩ := HD.out.at
            obtain ⟨b', o', e, -⟩ := h3 (by omega)
            exact ⟨b', o', e⟩
          have hDW := (HD4.out.grown gq).grown g45
          have hdc := HD.out.at
          subst hda
          have HBA := hid (show Bytes _ (.slice xa m xc) ((D.drop (p - 1)).take m) from ((hd.grow gq).grow g45).bytes)
          have HBB := hid (hDW.sub2 (p - 1) m (by omega))
          have hdc1 : D.length ≤ dc := hdc.2.1
          have hdc2 : dc ≤ 9223372036854775807 := hdc.2.2.1
          have q1 : p - 1 + m ≤ n := by omega
          have q2 : p - 1 + m ≤ M - 1 + max wi 1 := by omega
          have q3 : m ≤ 1000 := e3
          have q4 : 0 < m := e2
          obtain ⟨w5, hw5⟩ : ∃ x, x = wr.alloc (.cells #[.int .u16 c.src, .int .u16 c.dst, .int .u32 ((own + p) % 4294967296), .int .u32 10, .int .u8 fl, .int .u16 4096, .int .u16 0, .slice none 0 0, .slice xa m xc] 34) := ⟨_, rfl⟩
          rw [← hw5] at g45 hB5 k8 HBA HBB ⊢
          obtain ⟨A, hA⟩ : ∃ A, A = p - 1 := ⟨_, rfl⟩
          rw [← hA] at HBA HBB q1 q2 ⊢
          obtain ⟨Z, hZ⟩ : ∃ Z, Z = M - 1 := ⟨_, rfl⟩
          rw [← hZ] at q2 ⊢
          obtain ⟨L, hL⟩ : ∃ L, L = (D.drop A).take m := ⟨_, rfl⟩
          rw [← hL] at HBA HBB
          obtain ⟨dl, hdl⟩ : ∃ dl, dl = D.length := ⟨_, rfl⟩
          rw [← hdl] at hdc1 ⊢
          have q5 : n ≤ dl := by omega
          have q6 : dl ≤ 9000 := by omega
          have HAZ := hid (⟨hA, hZ⟩ : A = p - 1 ∧ Z = M - 1)
          have HDL := hid hdl
          obtain ⟨K16, hK16⟩ : ∃ K, K = wr.heap.size := ⟨_, rfl⟩
          rw [← hK16] at hB5 k8 ⊢
          have hZ8 : Z ≤ 9000 := by omega
          clear hw5 hA hZ hL hdl hDW hdc hatp p0 p1 p2 p3 p4 p5 p6 p7 p8 hd e2 e3 e4 e5 e7 hlm hK16 hs
          obtain ⟨Y, hY⟩ : ∃ Y, Y = chP M segs j - 1 := ⟨_, rfl⟩
          rw [← hY]
          have HY := hid hY
          clear hY
          generalize ((own + (p : Int)) % 4294967296 - own) % 4294967296 = zz
          generalize hzy : (own + 1 + (Z : Int)) % 4294967296 = zy
          have HZY := hid hzy
          clear hzy
          have w1 : IntKind.u32.wrap (m : Int) = (m : Int) := IntWalk.u32_in _ (by omega)
          have w2 : IntKind.u32.wrap ((A : Int) + (m : Int)) = (A : Int) + (m : Int) := IntWalk.u32_in _ (by omega)
          have w3 : IntKind.u32.wrap (wi : Int) = (wi : Int) := IntWalk.u32_in _ (by omega)
          have w4' : IntKind.u32.wrap ((Z : Int) + ((max wi 1 : Nat) : Int)) = (Z : Int) + ((max wi 1 : Nat) : Int) := IntWalk.u32_in _ (by omega)
          have d1 : decide ((1000 : Int) < (m : Int)) = false := by simp; omega
          have d2 : decide ((Z : Int) + ((max wi 1 : Nat) : Int) < (A : Int) + (m : Int)) = false := by simp; omega
          have d3 : ¬ dc = A := by omega
          have d4 : ((A : Int) + (m : Int)).toNat - A = m := by omega
          refine wp_region_spec2 (by kernel_rfl) (by kernel_rfl) (n := 34) (by kernel_rfl) [some 67, some 68, some 69, some 70, some 71, some 72, some 73, some 74, some 75, some 76, some 77, some 78, some 79, some 80, some 81, some 82, some 83, some 84, some 85, some 86, some 87, some 88, some 89, some 90, some 91, some 92, some 93, some 94, some 95, some 96, some 97, some 98, some 99, some 100] (by kernel_rfl) _ (fun u => (by simp only [fill, List.zipIdx_cons, List.zipIdx_nil, List.foldl_cons, List.foldl_nil, Act.put, List.setIfInBounds_toArray, List.set_cons_zero, List.set_cons_succ, Nat.zero_add, Nat.reduceAdd]; exact rfl)) (by kernel_rfl)
            (all_succ (all_succ (all_succ (all_succ (all_succ (all_succ (all_succ (all_succ (all_succ (all_succ (all_succ (all_succ (all_succ (all_succ (all_succ (all_succ (all_succ (all_succ (all_succ (all_succ (all_succ (all_succ (all_succ (all_succ (all_succ (all_succ (all_succ (all_succ (all_succ (all_succ (all_succ (all_succ (all_succ (all_succ (all_zero _) (fun u v => by kernel_rfl)) (fun u v => by kernel_rfl)) (fun u v => by kernel_rfl)) (fun u v => by kernel_rfl)) (fun u v => by kernel_rfl)) (fun u v => by kernel_rfl)) (fun u v => by kernel_rfl)) (fun u v => by kernel_rfl)) (fun u v => by kernel_rfl)) (fun u v => by kernel_rfl)) (fun u v => by kernel_rfl)) (fun u v => by kernel_rfl)) (fun u v => by kernel_rfl)) (fun u v => by kernel_rfl)) (fun u v => by kernel_rfl)) (fun u v => by kernel_rfl)) (fun u v => by kernel_rfl)) (fun u v => by kernel_rfl)) (fun u v => by kernel_rfl)) (fun u v => by kernel_rfl)) (fun u v => by kernel_rfl)) (fun u v => by kernel_rfl)) (fun u v => by kernel_rfl)) (fun u v => by kernel_rfl)) (fun u v => by kernel_rfl)) (fun u v => by kernel_rfl)) (fun u v => by kernel_rfl)) (fun u v => by kernel_rfl)) (fun u v => by kernel_rfl)) (fun u v => by kernel_rfl)) (fun u v => by kernel_rfl)) (fun u v => by kernel_rfl)) (fun u v => by kernel_rfl)) (fun u v => by kernel_rfl))
            (fun ri v w => match ri with | 0 => v = .pointer (some ⟨K16, 8, none⟩) | 1 => v = .slice xa m xc | 2 => v = .int .i64 (m : Int) | 3 => v = .bool false | 4 => v = .bool false | 5 => v = .int .u32 (A : Int) | 6 => v = .pointer (some ⟨K16, 8, none⟩) | 7 => v = .slice xa m xc | 8 => v = .int .i64 (m : Int) | 9 => v = .int .u32 (m : Int) | 10 => v = .int .u32 ((A + m : Nat) : Int) | 11 => v = .int .u32 (Z : Int) | 12 => v = .int .u16 (wi : Int) | 13 => v = .int .u32 (wi : Int) | 14 => v = .int .u32 ((max wi 1 : Nat) : Int) | 15 => v = .int .u32 ((Z + max wi 1 : Nat) : Int) | 16 => v = .bool false | 17 => v = .bool false | 18 => v = .bool false | 19 => v = .pointer (some ⟨K16, 8, none⟩) | 20 => v = .slice xa m xc | 21 => v = str L | 22 => v = .slice (some ⟨db, dof, none⟩) dl dc | 23 => v = .int .u32 (A : Int) | 24 => v = .int .u32 (A : Int) | 25 => v = .pointer (some ⟨K16, 8, none⟩) | 26 => v = .slice xa m xc | 27 => v = .int .i64 (m : Int) | 28 => v = .int .u32 (m : Int) | 29 => v = .int .u32 ((A + m : Nat) : Int) | 30 => v = .slice (some ⟨db, dof + A, none⟩) m (dc - A) | 31 => v = str L | 32 => v = .bool false | 33 => v = .bool false | _ => True)
            (all_succ (all_succ (all_succ (all_succ (all_succ (all_succ (all_succ (all_succ (all_succ (all_succ (all_succ (all_succ (all_succ (all_succ (all_succ (all_succ (all_succ (all_succ (all_succ (all_succ (all_succ (all_succ (all_succ (all_succ (all_succ (all_succ (all_succ (all_succ (all_succ (all_succ (all_succ (all_succ (all_succ (all_succ (all_zero _) ?m0) ?m1) ?m2) ?m3) ?m4) ?m5) ?m6) ?m7) ?m8) ?m9) ?m10) ?m11) ?m12) ?m13) ?m14) ?m15) ?m16) ?m17) ?m18) ?m19) ?m20) ?m21) ?m22) ?m23) ?m24) ?m25) ?m26) ?m27) ?m28) ?m29) ?m30) ?m31) ?m32) ?m33)
            [[], [0], [1], [2], [3], [4], [4], [6, 4], [7, 4], [8, 4], [5, 9, 4], [4], [4], [12, 4], [13, 4], [11, 14, 4], [10, 15, 4], [4, 16], [17], [18], [19, 18], [20, 18], [18], [18], [18], [18], [25, 18], [26, 18], [27, 18], [24, 28, 18], [22, 23, 29, 18], [30, 18], [21, 31, 18], [18, 32]] (by kernel_rfl)
            ⟨?o0, ?o1, ?o2, ?o3, ?o4, ?o5, ?o6, ?o7, ?o8, ?o9, ?o10, ?o11, ?o12, ?o13, ?o14, ?o15, ?o16, ?o17, ?o18, ?o19, ?o20, ?o21, ?o22, ?o23, ?o24, ?o25, ?o26, ?o27, ?o28, ?o29, ?o30, ?o31, ?o32, ?o33, trivial⟩ ?done
          case m0 => intro v w w' h g; exact h
          case m1 => intro v w w' h g; exact h
          case m2 => intro v w w' h g; exact h
          case m3 => intro v w w' h g; exact h
          case m4 => intro v w w' h g; exact h
          case m5 => intro v w w' h g; exact h
          case m6 => intro v w w' h g; exact h
          case m7 => intro v w w' h g; exact h
          case m8 => intro v w w' h g; exact h
          case m9 => intro v w w' h g; exact h
          case m10 => intro v w w' h g; exact h
          case m11 => intro v w w' h g; exact h
          case m12 => intro v w w' h g; exact h
          case m13 => intro v w w' h g; exact h
          case m14 => intro v w w' h g; exact h
          case m15 => intro v w w' h g; exact h
          case m16 => intro v w w' h g; exact h
          case m17 => intro v w w' h g; exact h
          case m18 => intro v w w' h g; exact h
          case m19 => intro v w w' h g; exact h
          case m20 => intro v w w' h g; exact h
          case m21 => intro v w w' h g; exact h
          case m22 => intro v w w' h g; exact h
          case m23 => intro v w w' h g; exact h
          case m24 => intro v w w' h g; exact h
          case m25 => intro v w w' h g; exact h
          case m26 => intro v w w' h g; exact h
          case m27 => intro v w w' h g; exact h
          case m28 => intro v w w' h g; exact h
          case m29 => intro v w w' h g; exact h
          case m30 => intro v w w' h g; exact h
          case m31 => intro v w w' h g; exact h
          case m32 => intro v w w' h g; exact h
          case m33 => intro v w w' h g; exact h
          case o0 =>
            intro u w g hd K hK
            clear hd
            simp only [Act.put, List.setIfInBounds_toArray, List.set_cons_zero, List.set_cons_succ] at hK
            go_simp
            exact hK _ _ (by first | rfl | (congr 1; omega) | simp) (gr_refl _ _)
          case o1 =>
            intro u w g hd K hK
            have h0 : (u 0) = .pointer (some ⟨K16, 8, none⟩) := hd 0 (by simp)
            clear hd
            simp only [Act.put, List.setIfInBounds_toArray, List.set_cons_zero, List.set_cons_succ] at hK
            have c' := g.cell k8 (by simp)
            simp only [h0] at hK ⊢
            go_simp
            exact hK _ _ rfl (gr_refl _ _)
          case o2 =>
            intro u w g hd K hK
            have h1 : (u 1) = .slice xa m xc := hd 1 (by simp)
            clear hd
            simp only [Act.put, List.setIfInBounds_toArray, List.set_cons_zero, List.set_cons_succ] at hK
            simp only [h1] at hK ⊢
            go_simp
            exact hK _ _ (by first | rfl | (congr 1; omega) | simp) (gr_refl _ _)
          case o3 =>
            intro u w g hd K hK
            have h2 : (u 2) = .int .i64 (m : Int) := hd 2 (by simp)
            clear hd
            simp only [Act.put, List.setIfInBounds_toArray, List.set_cons_zero, List.set_cons_succ] at hK
            simp only [h2] at hK ⊢
            go_simp
            exact hK _ _ (by first | rfl | (congr 1; omega) | simp) (gr_refl _ _)
          case o4 =>
            intro u w g hd K hK
            have h3 : (u 3) = .bool false := hd 3 (by simp)
            clear hd
            simp only [Act.put, List.setIfInBounds_toArray, List.set_cons_zero, List.set_cons_succ] at hK
            simp only [h3] at hK ⊢
            go_simp
            exact hK _ _ (by first | rfl | (congr 1; omega) | simp) (gr_refl _ _)
          case o5 =>
            intro u w g hd K hK
            have h4 : (u 4) = .bool false := hd 4 (by simp)
            clear hd
            simp only [Act.put, List.setIfInBounds_toArray, List.set_cons_zero, List.set_cons_succ] at hK
            simp only [h4] at hK ⊢
            go_simp
            exact hK _ _ (by first | rfl | (congr 1; omega) | simp) (gr_refl _ _)
          case o6 =>
            intro u w g hd K hK
            have h4 : (u 4) = .bool false := hd 4 (by simp)
            clear hd
            simp only [Act.put, List.setIfInBounds_toArray, List.set_cons_zero, List.set_cons_succ] at hK
            simp only [h4] at hK ⊢
            go_simp
            exact hK _ _ (by first | rfl | (congr 1; omega) | simp) (gr_refl _ _)
          case o7 =>
            intro u w g hd K hK
            have h6 : (u 6) = .pointer (some ⟨K16, 8, none⟩) := hd 6 (by simp)
            have h4 : (u 4) = .bool false := hd 4 (by simp)
            clear hd
            simp only [Act.put, List.setIfInBounds_toArray, List.set_cons_zero, List.set_cons_succ] at hK
            have c' := g.cell k8 (by simp)
            simp only [h6, h4] at hK ⊢
            go_simp
            exact hK _ _ rfl (gr_refl _ _)
          case o8 =>
            intro u w g hd K hK
            have h7 : (u 7) = .slice xa m xc := hd 7 (by simp)
            have h4 : (u 4) = .bool false := hd 4 (by simp)
            clear hd
            simp only [Act.put, List.setIfInBounds_toArray, List.set_cons_zero, List.set_cons_succ] at hK
            simp only [h7, h4] at hK ⊢
            go_simp
            exact hK _ _ (by first | rfl | (congr 1; omega) | simp) (gr_refl _ _)
          case o9 =>
            intro u w g hd K hK
            have h8 : (u 8) = .int .i64 (m : Int) := hd 8 (by simp)
            have h4 : (u 4) = .bool false := hd 4 (by simp)
            clear hd
            simp only [Act.put, List.setIfInBounds_toArray, List.set_cons_zero, List.set_cons_succ] at hK
            simp only [h8, h4] at hK ⊢
            go_simp
            exact hK _ _ (by first | rfl | (congr 1; omega) | simp) (gr_refl _ _)
          case o10 =>
            intro u w g hd K hK
            have h5 : (u 5) = .int .u32 (A : Int) := hd 5 (by simp)
            have h9 : (u 9) = .int .u32 (m : Int) := hd 9 (by simp)
            have h4 : (u 4) = .bool false := hd 4 (by simp)
            clear hd
            simp only [Act.put, List.setIfInBounds_toArray, List.set_cons_zero, List.set_cons_succ] at hK
            simp only [h5, h9, h4] at hK ⊢
            go_simp
            exact hK _ _ (by first | rfl | (congr 1; omega) | simp) (gr_refl _ _)
          case o11 =>
            intro u w g hd K hK
            have h4 : (u 4) = .bool false := hd 4 (by simp)
            clear hd
            simp only [Act.put, List.setIfInBounds_toArray, List.set_cons_zero, List.set_cons_succ] at hK
            simp only [h4] at hK ⊢
            go_simp
            exact hK _ _ (by first | rfl | (congr 1; omega) | simp) (gr_refl _ _)
          case o12 =>
            intro u w g hd K hK
            have h4 : (u 4) = .bool false := hd 4 (by simp)
            clear hd
            simp only [Act.put, List.setIfInBounds_toArray, List.set_cons_zero, List.set_cons_succ] at hK
            simp only [h4] at hK ⊢
            go_simp
            exact hK _ _ (by first | rfl | (congr 1; omega) | simp) (gr_refl _ _)
          case o13 =>
            intro u w g hd K hK
            have h12 : (u 12) = .int .u16 (wi : Int) := hd 12 (by simp)
            have h4 : (u 4) = .bool false := hd 4 (by simp)
            clear hd
            simp only [Act.put, List.setIfInBounds_toArray, List.set_cons_zero, List.set_cons_succ] at hK
            simp only [h12, h4] at hK ⊢
            go_simp
            exact hK _ _ (by first | rfl | (congr 1; omega) | simp) (gr_refl _ _)
          case o14 =>
            intro u w g hd K hK
            have h13 : (u 13) = .int .u32 (wi : Int) := hd 13 (by simp)
            have h4 : (u 4) = .bool false := hd 4 (by simp)
            clear hd
            simp only [Act.put, List.setIfInBounds_toArray, List.set_cons_zero, List.set_cons_succ] at hK
            simp only [h13, h4] at hK ⊢
            go_simp
            exact hK _ _ (by first | rfl | (congr 1; omega) | simp) (gr_refl _ _)
          case o15 =>
            intro u w g hd K hK
            have h11 : (u 11) = .int .u32 (Z : Int) := hd 11 (by simp)
            have h14 : (u 14) = .int .u32 ((max wi 1 : Nat) : Int) := hd 14 (by simp)
            have h4 : (u 4) = .bool false := hd 4 (by simp)
            clear hd
            simp only [Act.put, List.setIfInBounds_toArray, List.set_cons_zero, List.set_cons_succ] at hK
            simp only [h11, h14, h4] at hK ⊢
            go_simp
            exact hK _ _ (by first | rfl | (congr 1; omega) | simp) (gr_refl _ _)
          case o16 =>
            intro u w g hd K hK
            have h10 : (u 10) = .int .u32 ((A + m : Nat) : Int) := hd 10 (by simp)
            have h15 : (u 15) = .int .u32 ((Z + max wi 1 : Nat) : Int) := hd 15 (by simp)
            have h4 : (u 4) = .bool false := hd 4 (by simp)
            clear hd
            simp only [Act.put, List.setIfInBounds_toArray, List.set_cons_zero, List.set_cons_succ] at hK
            simp only [h10, h15, h4] at hK ⊢
            go_simp
            exact hK _ _ (by first | rfl | (congr 1; omega) | simp) (gr_refl _ _)
          case o17 =>
            intro u w g hd K hK
            have h4 : (u 4) = .bool false := hd 4 (by simp)
            have h16 : (u 16) = .bool false := hd 16 (by simp)
            clear hd
            simp only [Act.put, List.setIfInBounds_toArray, List.set_cons_zero, List.set_cons_succ] at hK
            simp only [h4, h16] at hK ⊢
            go_simp
            exact hK _ _ (by first | rfl | (congr 1; omega) | simp) (gr_refl _ _)
          case o18 =>
            intro u w g hd K hK
            have h17 : (u 17) = .bool false := hd 17 (by simp)
            clear hd
            simp only [Act.put, List.setIfInBounds_toArray, List.set_cons_zero, List.set_cons_succ] at hK
            simp only [h17] at hK ⊢
            go_simp
            exact hK _ _ (by first | rfl | (congr 1; omega) | simp) (gr_refl _ _)
          case o19 =>
            intro u w g hd K hK
            have h18 : (u 18) = .bool false := hd 18 (by simp)
            clear hd
            simp only [Act.put, List.setIfInBounds_toArray, List.set_cons_zero, List.set_cons_succ] at hK
            simp only [h18] at hK ⊢
            go_simp
            exact hK _ _ (by first | rfl | (congr 1; omega) | simp) (gr_refl _ _)
          case o20 =>
            intro u w g hd K hK
            have h19 : (u 19) = .pointer (some ⟨K16, 8, none⟩) := hd 19 (by simp)
            have h18 : (u 18) = .bool false := hd 18 (by simp)
            clear hd
            simp only [Act.put, List.setIfInBounds_toArray, List.set_cons_zero, List.set_cons_succ] at hK
            have c' := g.cell k8 (by simp)
            simp only [h19, h18] at hK ⊢
            go_simp
            exact hK _ _ rfl (gr_refl _ _)
          case o21 =>
            intro u w g hd K hK
            have h20 : (u 20) = .slice xa m xc := hd 20 (by simp)
            have h18 : (u 18) = .bool false := hd 18 (by simp)
            clear hd
            simp only [Act.put, List.setIfInBounds_toArray, List.set_cons_zero, List.set_cons_succ] at hK
            simp only [h20, h18] at hK ⊢
            go_simp
            rw [run_b2s (l := L) Try.underlying32 Try.underlying5 Try.underlying9 (v := .slice xa m xc) (HBA.out.grown g)]
            go_simp
            exact hK _ _ rfl (gr_refl _ _)
          case o22 =>
            intro u w g hd K hK
            have h18 : (u 18) = .bool false := hd 18 (by simp)
            clear hd
            simp only [Act.put, List.setIfInBounds_toArray, List.set_cons_zero, List.set_cons_succ] at hK
            simp only [h18] at hK ⊢
            go_simp
            exact hK _ _ (by first | rfl | (congr 1; omega) | simp) (gr_refl _ _)
          case o23 =>
            intro u w g hd K hK
            have h18 : (u 18) = .bool false := hd 18 (by simp)
            clear hd
            simp only [Act.put, List.setIfInBounds_toArray, List.set_cons_zero, List.set_cons_succ] at hK
            simp only [h18] at hK ⊢
            go_simp
            exact hK _ _ (by first | rfl | (congr 1; omega) | simp) (gr_refl _ _)
          case o24 =>
            intro u w g hd K hK
            have h18 : (u 18) = .bool false := hd 18 (by simp)
            clear hd
            simp only [Act.put, List.setIfInBounds_toArray, List.set_cons_zero, List.set_cons_succ] at hK
            simp only [h18] at hK ⊢
            go_simp
            exact hK _ _ (by first | rfl | (congr 1; omega) | simp) (gr_refl _ _)
          case o25 =>
            intro u w g hd K hK
            have h18 : (u 18) = .bool false := hd 18 (by simp)
            clear hd
            simp only [Act.put, List.setIfInBounds_toArray, List.set_cons_zero, List.set_cons_succ] at hK
            simp only [h18] at hK ⊢
            go_simp
            exact hK _ _ (by first | rfl | (congr 1; omega) | simp) (gr_refl _ _)
          case o26 =>
            intro u w g hd K hK
            have h25 : (u 25) = .pointer (some ⟨K16, 8, none⟩) := hd 25 (by simp)
            have h18 : (u 18) = .bool false := hd 18 (by simp)
            clear hd
            simp only [Act.put, List.setIfInBounds_toArray, List.set_cons_zero, List.set_cons_succ] at hK
            have c' := g.cell k8 (by simp)
            simp only [h25, h18] at hK ⊢
            go_simp
            exact hK _ _ rfl (gr_refl _ _)
          case o27 =>
            intro u w g hd K hK
            have h26 : (u 26) = .slice xa m xc := hd 26 (by simp)
            have h18 : (u 18) = .bool false := hd 18 (by simp)
            clear hd
            simp only [Act.put, List.setIfInBounds_toArray, List.set_cons_zero, List.set_cons_succ] at hK
            simp only [h26, h18] at hK ⊢
            go_simp
            exact hK _ _ (by first | rfl | (congr 1; omega) | simp) (gr_refl _ _)
          case o28 =>
            intro u w g hd K hK
            have h27 : (u 27) = .int .i64 (m : Int) := hd 27 (by simp)
            have h18 : (u 18) = .bool false := hd 18 (by simp)
            clear hd
            simp only [Act.put, List.setIfInBounds_toArray, List.set_cons_zero, List.set_cons_succ] at hK
            simp only [h27, h18] at hK ⊢
            go_simp
            exact hK _ _ (by first | rfl | (congr 1; omega) | simp) (gr_refl _ _)
          case o29 =>
            intro u w g hd K hK
            have h24 : (u 24) = .int .u32 (A : Int) := hd 24 (by simp)
            have h28 : (u 28) = .int .u32 (m : Int) := hd 28 (by simp)
            have h18 : (u 18) = .bool false := hd 18 (by simp)
            clear hd
            simp only [Act.put, List.setIfInBounds_toArray, List.set_cons_zero, List.set_cons_succ] at hK
            simp only [h24, h28, h18] at hK ⊢
            go_simp
            exact hK _ _ (by first | rfl | (congr 1; omega) | simp) (gr_refl _ _)
          case o30 =>
            intro u w g hd K hK
            have h22 : (u 22) = .slice (some ⟨db, dof, none⟩) dl dc := hd 22 (by simp)
            have h23 : (u 23) = .int .u32 (A : Int) := hd 23 (by simp)
            have h29 : (u 29) = .int .u32 ((A + m : Nat) : Int) := hd 29 (by simp)
            have h18 : (u 18) = .bool false := hd 18 (by simp)
            clear hd
            simp only [Act.put, List.setIfInBounds_toArray, List.set_cons_zero, List.set_cons_succ] at hK
            simp only [h22, h23, h29, h18] at hK ⊢
            go_simp
            rw [if_pos (show (0 : Int) ≤ (A : Int) + (m : Int) ∧ (A : Int) + (m : Int) ≤ (dc : Int) from ⟨by omega, by omega⟩), if_pos (show A ≤ ((A : Int) + (m : Int)).toNat by omega)]
            exact hK _ _ rfl (gr_refl _ _)
          case o31 =>
            intro u w g hd K hK
            have h30 : (u 30) = .slice (some ⟨db, dof + A, none⟩) m (dc - A) := hd 30 (by simp)
            have h18 : (u 18) = .bool false := hd 18 (by simp)
            clear hd
            simp only [Act.put, List.setIfInBounds_toArray, List.set_cons_zero, List.set_cons_succ] at hK
            simp only [h30, h18] at hK ⊢
            go_simp
            rw [run_b2s (l := L) Try.underlying32 Try.underlying5 Try.underlying9 (v := .slice (some ⟨db, dof + A, none⟩) m (dc - A)) (HBB.out.grown g)]
            go_simp
            exact hK _ _ rfl (gr_refl _ _)
          case o32 =>
            intro u w g hd K hK
            have h21 : (u 21) = str L := hd 21 (by simp)
            have h31 : (u 31) = str L := hd 31 (by simp)
            have h18 : (u 18) = .bool false := hd 18 (by simp)
            clear hd
            simp only [Act.put, List.setIfInBounds_toArray, List.set_cons_zero, List.set_cons_succ] at hK
            simp only [h21, h31, h18] at hK ⊢
            unfold str at hK ⊢
            go_simp
            exact hK _ _ (by simp) (gr_refl _ _)
          case o33 =>
            intro u w g hd K hK
            have h18 : (u 18) = .bool false := hd 18 (by simp)
            have h32 : (u 32) = .bool false := hd 32 (by simp)
            clear hd
            simp only [Act.put, List.setIfInBounds_toArray, List.set_cons_zero, List.set_cons_succ] at hK
            simp only [h18, h32] at hK ⊢
            go_simp
            exact hK _ _ (by first | rfl | (congr 1; omega) | simp) (gr_refl _ _)
          case done =>
            intro u w hS g
            have s0 : (u 0) = .pointer (some ⟨K16, 8, none⟩) := hS 0 (by decide)
            have s1 : (u 1) = .slice xa m xc := hS 1 (by decide)
            have s2 : (u 2) = .int .i64 (m : Int) := hS 2 (by decide)
            have s3 : (u 3) = .bool false := hS 3 (by decide)
            have s4 : (u 4) = .bool false := hS 4 (by decide)
            have s5 : (u 5) = .int .u32 (A : Int) := hS 5 (by decide)
            have s6 : (u 6) = .pointer (some ⟨K16, 8, none⟩) := hS 6 (by decide)
            have s7 : (u 7) = .slice xa m xc := hS 7 (by decide)
            have s8 : (u 8) = .int .i64 (m : Int) := hS 8 (by decide)
            have s9 : (u 9) = .int .u32 (m : Int) := hS 9 (by decide)
            have s10 : (u 10) = .int .u32 ((A + m : Nat) : Int) := hS 10 (by decide)
            have s11 : (u 11) = .int .u32 (Z : Int) := hS 11 (by decide)
            have s12 : (u 12) = .int .u16 (wi : Int) := hS 12 (by decide)
            have s13 : (u 13) = .int .u32 (wi : Int) := hS 13 (by decide)
            have s14 : (u 14) = .int .u32 ((max wi 1 : Nat) : Int) := hS 14 (by decide)
            have s15 : (u 15) = .int .u32 ((Z + max wi 1 : Nat) : Int) := hS 15 (by decide)
            have s16 : (u 16) = .bool false := hS 16 (by decide)
            have s17 : (u 17) = .bool false := hS 17 (by decide)
            have s18 : (u 18) = .bool false := hS 18 (by decide)
            have s19 : (u 19) = .pointer (some ⟨K16, 8, none⟩) := hS 19 (by decide)
            have s20 : (u 20) = .slice xa m xc := hS 20 (by decide)
            have s21 : (u 21) = str L := hS 21 (by decide)
            have s22 : (u 22) = .slice (some ⟨db, dof, none⟩) dl dc := hS 22 (by decide)
            have s23 : (u 23) = .int .u32 (A : Int) := hS 23 (by decide)
            have s24 : (u 24) = .int .u32 (A : Int) := hS 24 (by decide)
            have s25 : (u 25) = .pointer (some ⟨K16, 8, none⟩) := hS 25 (by decide)
            have s26 : (u 26) = .slice xa m xc := hS 26 (by decide)
            have s27 : (u 27) = .int .i64 (m : Int) := hS 27 (by decide)
            have s28 : (u 28) = .int .u32 (m : Int) := hS 28 (by decide)
            have s29 : (u 29) = .int .u32 ((A + m : Nat) : Int) := hS 29 (by decide)
            have s30 : (u 30) = .slice (some ⟨db, dof + A, none⟩) m (dc - A) := hS 30 (by decide)
            have s31 : (u 31) = str L := hS 31 (by decide)
            have s32 : (u 32) = .bool false := hS 32 (by decide)
            have s33 : (u 33) = .bool false := hS 33 (by decide)
            clear hS
            have haz := HAZ.out
            obtain ⟨hA, hZ⟩ := haz
            have hdl := HDL.out
            have hzy' := HZY.out
            have G6 := hid (gr_trans g45 g)
            clear s0 s1 s2 s3 s4 s5 s6 s7 s8 s9 s10 s11 s12 s13 s14 s15 s16 s17 s18 s19 s20 s21 s22 s23 s24 s25 s26 s27 s28 s29 s30 s31 s32
            rw [s33]
            clear s33
            clear HAZ HDL HZY
            subst hZ hdl hzy'
            have k8' := g.cell k8 (by simp)
            have k16lt := lt_of_block (gr_keep g hB5 (by simp))
            go_wp2_with fail
            go_roundw
            case rel =>
              refine ⟨j + 1, ?_, by go_num, by omega, gr_trans gq G6.out⟩
              have h1 := E6.out
              have h2 := E1.out
              have h3 := HY.out
              rw [h1]
              congr 1
              split <;> omega
            case measure => simp [intOf]; omega
        · obtain rfl : j = segs.length := by omega
          have HE := hid (chP_end HCH.out)
          rw [HE.out]
          go_wp2_with fail
          go_roundw
          case rel => exact ⟨k + 1, N', rfl, rfl, by go_num, by omega, HI4.out.grow gq⟩
          case measure => simp [intOf]; omega
    · have dm : decide (((M - 1 : Nat) : Int) ≤ (n : Int)) = true := by simp; omega
      have HI' := HI.out.gr
      have hnn : (n : Int) = (if (8192 : Int) < (D.length : Int) then (8192 : Int) else (D.length : Int)) := by have := HNN.out; split <;> omega
      have hnb : ((n : Int) == (if (8192 : Int) < (D.length : Int) then (8192 : Int) else (D.length : Int))) = true := by rw [← hnn]; simp
      clear hnn
      go_wp2_with fail
      all_goals
        go_ret
        exact ⟨rfl, HI'⟩
end Go.Proofs.Ytcgmbeibhingcaa
