/- (*stream.Conn).piece: the next segment with bytes, or none. -/
import Derived.Test.YtcgmbeibhingcaaSw3
namespace Go.Proofs.Ytcgmbeibhingcaa
open Go.RowKit

/-- The numbers of a connection that sends: bytes l from place B on are not acknowledged. -/
structure CnN (c : Cn) (B U N M W un : Nat) (l : List UInt8) : Prop where
  una : c.una = U
  next : c.next = N
  most : c.most = M
  win : c.window = W
  tail : c.tail = (B + l.length : Nat)
  b1 : 1 ≤ B
  bn : B ≤ N
  hl : l.length ≤ 9000
  hB : B ≤ 20000
  hU : U ≤ 20000
  hN : N ≤ 40000
  hM : M ≤ 40000
  hW : W ≤ 65535
  un : un ≤ 4096

theorem Bytes.sub {w : World} {b o n c : Nat} {l : List UInt8} (h : Bytes w (.slice (some ⟨b, o, none⟩) n c) l) (k m : Nat) (hk : k + m ≤ n) : Bytes w (.slice (some ⟨b, o + k, none⟩) m m) ((l.drop k).take m) := by
  obtain ⟨h0, h1, h2, h3⟩ := h.at
  have hlen : ((l.drop k).take m).length = m := by simp; omega
  refine ⟨_, m, by rw [hlen], by omega, by omega, fun hne => ?_⟩
  have hm : 0 < m := by rw [← hlen]; exact List.length_pos_iff.2 hne
  obtain ⟨b', o', e, hc⟩ := h3 (by omega)
  simp only [Option.some.injEq, Addr.mk.injEq] at e
  obtain ⟨rfl, rfl, -⟩ := e
  refine ⟨b, o + k, rfl, fun i hi => ?_⟩
  rw [hlen] at hi
  rw [show o + k + i = o + (k + i) by omega, hc (k + i) (by omega)]
  have : ((l.drop k).take m).getD i 0 = l.getD (k + i) 0 := by
    simp only [List.getD_eq_getElem?_getD]
    rw [List.getElem?_take_of_lt hi, List.getElem?_drop]
  rw [this]

set_option maxRecDepth 20000 in
set_option maxHeartbeats 2000000 in
theorem piece_sends (b : Nat) (c : Cn) (w : World) (B U N M W un n : Nat) (l : List UInt8) (ua : Option Addr) (uc : Nat) (h : ConnAt w b c) (hc : CnN c B U N M W un l) (hu : c.unread = .slice ua un uc) (hp : (c.phase != 0) = true)
    (ho : Bytes w c.out l) (h1 : N < B + l.length) (h2 : N < U + max W 1) (hn : n = min (min (B + l.length - N) (U + max W 1 - N)) 1000) :
    Calls Try.prog 25 #[.pointer (some ⟨b, 0, none⟩)] w fun e w' =>
      ∃ v, e = .returned (.tuple #[.agg (c.seg N 24 un v), .bool true]) ∧ Own8 w' w.heap.size v ((l.drop (N - B)).take n) ∧ ConnAt w' b { c with next := (N + n : Nat), most := (max M (N + n) : Nat) } ∧ w.grownBy w' (some b) := by
  obtain ⟨z1, z2, z3, z4, z5, z6, z7, z8, z9, z10, z11, z12, z13, z14⟩ := hc
  have h5 := h.all.c5
  have h6 := h.all.c6
  have h7 := h.all.c7
  have h8 := h.all.c8
  have h9 := h.all.c9
  have h11 := h.all.c11
  rw [z1] at h5
  rw [z2] at h6
  rw [z3] at h7
  rw [z5] at h9
  rw [z4] at h11
  obtain ⟨ob, oo, oc, eo, hlc, hoc⟩ : ∃ ob oo oc, c.out = .slice (some ⟨ob, oo, none⟩) l.length oc ∧ l.length ≤ oc ∧ oc ≤ maxLen := by
    obtain ⟨oa, oc, e, o1, o2, o3⟩ := ho
    obtain ⟨ob, oo, rfl, -⟩ := o3 (by intro e; rw [e] at h1; simp at h1; omega)
    exact ⟨ob, oo, oc, e, o1, o2⟩
  rw [eo] at ho h8
  have HO := hid (fun W (g : w.grownBy W none) (k m : Nat) (hk : k + m ≤ l.length) => (ho.grown g).sub k m hk)
  have hoc' : oc ≤ 9223372036854775807 := hoc
  have HC := hid h
  have hlt := h.lt
  have f6 := h.free 6
  have f7 := h.free 7
  clear ho h hoc
  go_enter Try.func25, Try.ntmps25
  go_wp2_with fail
  generalize hw1 : w.alloc _ = w1
  have g01 : w.grownBy w1 none := by rw [← hw1]; exact World.grownBy_alloc w _ none
  have HR := hid (show w1.heap[w.heap.size]? = some (.cells #[.int .u16 0, .int .u16 0, .int .u32 0, .int .u32 0, .int .u8 0, .int .u16 0, .int .u16 0, .slice none 0 0, .slice none 0 0] 34 (0, 0)) by rw [← hw1]; exact heap_alloc_new w _)
  clear hw1
  have k5 := g01.cell h5 (by simp)
  have k6 := g01.cell h6 (by simp)
  have k8 := g01.cell h8 (by simp)
  have k9 := g01.cell h9 (by simp)
  have k11 := g01.cell h11 (by simp)
  clear h5 h6 h8 h9 h11
  go_region
  rw [show ((U : Int) + if (W : Int) < 1 then 1 else (W : Int)) = ((U + max W 1 : Nat) : Int) by split <;> omega]
  obtain ⟨w2, hw2⟩ : ∃ x, x = w1.drew := ⟨_, rfl⟩
  rw [← hw2]
  have g12 : w1.grownBy w2 none := by rw [hw2]; exact gr_drew (gr_refl _ _)
  replace k6 := g12.cell k6 (by simp)
  replace k8 := g12.cell k8 (by simp)
  replace k9 := g12.cell k9 (by simp)
  have HR2 := hid (gr_keep g12 HR.out (by simp))
  have G2 := hid (gr_trans g01 g12)
  clear hw2 k5 k11 HR g01 g12
  generalize (if (W : Int) < 1 then (1 : Int) else W) = x16
  have hE : U + max W 1 ≤ 90000 := by omega
  generalize U + max W 1 = E at *
  have hT : B + l.length ≤ 29000 := by omega
  obtain ⟨T, hT2⟩ : ∃ x, x = B + l.length := ⟨_, rfl⟩
  rw [← hT2] at h1 hn hT k9 z5
  have HT := hid hT2
  have d1 : (decide ((N : Int) < (T : Int))) = true := by simpa using h1
  have d2 : (decide ((N : Int) < (E : Int))) = true := by simpa using h2
  have en : (if (1000 : Int) < (if E < T then (E : Int) - N else (T : Int) - N) then (1000 : Int) else (if E < T then (E : Int) - N else (T : Int) - N)) = (n : Int) := by
    repeat' split
    all_goals omega
  have EN := hid en
  have hn1 : n ≤ 1000 := by omega
  have hn2 : N + n ≤ T := by omega
  have hn0 : 0 < n := by omega
  have HN := hid hn
  clear hn
  have HB0 : (B : Int) = (T : Int) - (l.length : Int) := by omega
  clear hT2 en
  go_upto_region 6 with fail
  rw [EN.out]
  go_region
  obtain ⟨w3, hw3⟩ : ∃ x, x = w2.drew := ⟨_, rfl⟩
  rw [← hw3]
  have g23 : w2.grownBy w3 none := by rw [hw3]; exact gr_drew (gr_refl _ _)
  replace k6 := g23.cell k6 (by simp)
  replace k8 := g23.cell k8 (by simp)
  have HR3 := hid (gr_keep g23 HR2.out (by simp))
  have G3 := hid (gr_trans G2.out g23)
  clear hw3 g23 HR2 G2 k9
  go_wp2_with fail
  rw [show T - l.length = B by have := HT.out; omega]
  have hlen : ((l.drop (N - B)).take n).length = n := by have := HT.out; simp; omega
  have hS := segment_data b c w3 N 24 ua un uc (HC.out.keep G3.out (by simp)) hu z14 ((l.drop (N - B)).take n) ⟨ob, oo + (N - B), none⟩ n (by rw [hlen]; exact HO.out w3 G3.out (N - B) n (by have := HT.out; omega)) (by rw [hlen]; omega) hp
  rw [hlen] at hS
  refine hS.mono ?_
  rintro e w4 ⟨v, rfl, hv, g34⟩
  obtain ⟨va, vc, ev, -, -, -⟩ := hv.bytes
  rw [hlen] at ev
  rw [ev] at hv ⊢
  have HV4 := hid (Own8.base hv G3.out.size)
  clear ev
  have G4 := hid (gr_trans G3.out g34)
  have HR4 := hid (gr_keep g34 HR3.out (by simp))
  have HC4 := hid (HC.out.keep G4.out (by simp))
  clear hS hv g34 G3 HR3 k6 k8 hlen
  have k6 := HC4.out.all.c6
  have k7 := HC4.out.all.c7
  rw [z2] at k6
  rw [z3] at k7
  have b4lt := HC4.out.lt
  have f6 := HC4.out.free 6
  have f7 := HC4.out.free 7
  have n4lt := lt_of_block HR4.out
  have n0 := (cell_of_block HR4.out 0).trans (show _ = some (Value.int .u16 0) from rfl)
  have y0 := free_of_block HR4.out 0
  have n1 := (cell_of_block HR4.out 1).trans (show _ = some (Value.int .u16 0) from rfl)
  have y1 := free_of_block HR4.out 1
  have n2 := (cell_of_block HR4.out 2).trans (show _ = some (Value.int .u32 0) from rfl)
  have y2 := free_of_block HR4.out 2
  have n3 := (cell_of_block HR4.out 3).trans (show _ = some (Value.int .u32 0) from rfl)
  have y3 := free_of_block HR4.out 3
  have n4 := (cell_of_block HR4.out 4).trans (show _ = some (Value.int .u8 0) from rfl)
  have y4 := free_of_block HR4.out 4
  have n5 := (cell_of_block HR4.out 5).trans (show _ = some (Value.int .u16 0) from rfl)
  have y5 := free_of_block HR4.out 5
  have n6 := (cell_of_block HR4.out 6).trans (show _ = some (Value.int .u16 0) from rfl)
  have y6 := free_of_block HR4.out 6
  have n7 := (cell_of_block HR4.out 7).trans (show _ = some (Value.slice none 0 0) from rfl)
  have y7 := free_of_block HR4.out 7
  have n8 := (cell_of_block HR4.out 8).trans (show _ = some (Value.slice none 0 0) from rfl)
  have y8 := free_of_block HR4.out 8
  have hp0 : ¬ c.phase = 0 := by simpa using hp
  unfold Cn.seg
  rw [if_neg hp0, if_neg hp0]
  generalize hbits : bits BinOp.or IntKind.u8 24 16 = fl
  have hun16 : IntKind.u16.wrap (4096 - (un : Int)) = 4096 - (un : Int) := IntWalk.u16_in _ (by omega)
  go_wp2_with fail
  have H9 := seg_set9 (.int .u16 c.src) (.int .u16 c.dst) (.int .u32 ((c.own + (N : Int)) % 4294967296)) (.int .u32 ((c.other + c.seen) % 4294967296)) (.int .u8 fl) (.int .u16 (4096 - (un : Int))) (.int .u16 0) (.slice none 0 0) (.slice va n vc) HR4.out
  revert H9
  generalize (((((((((w4.setCell _ _).setCell _ _).setCell _ _).setCell _ _).setCell _ _).setCell _ _).setCell _ _).setCell _ _).setCell _ _) = w5
  rintro ⟨hn5, gn⟩
  have hbn : some b ≠ some w.heap.size := by have := hlt; simp; omega
  have HC5 := hid (HC4.out.keep gn hbn)
  have HV5 := hid (Own8.kept_ty HV4.out gn HR4.out (by decide))
  have G5 := hid (gr_new G4.out gn (Nat.le_refl _))
  have HR5 := hid hn5
  clear hn5 gn HC4 HV4 G4 HR4 k6 k7 b4lt f6 f7 n4lt y0 y1 y2 y3 y4 y5 y6 y7 y8 n0 n1 n2 n3 n4 n5 n6 n7 n8
  obtain ⟨w6, hw6⟩ : ∃ x, x = w5.setCell { block := b, off := 6 } (Value.int IntKind.u32 ((N : Int) + (n : Int))) := ⟨_, rfl⟩
  rw [← hw6]
  have hc6 : ConnAt w6 b { c with next := (N : Int) + (n : Int) } := by rw [hw6]; exact heap_set HC5.out
  have gk : w5.grownBy w6 (some b) := by rw [hw6]; exact gr_set (gr_refl _ _)
  have HR6 := hid (gr_keep gk HR5.out hbn.symm)
  have HV6 := hid (Own8.kept2 HV5.out gk hlt)
  have G6 := hid (gr_trans (gr_none G5.out) gk)
  have k6 := hc6.all.c6
  have k7 := hc6.all.c7
  have f7 := hc6.free 7
  replace k7 : _ = some (Value.int .u32 c.most) := k7
  replace k6 : _ = some (Value.int .u32 ((N : Int) + (n : Int))) := k6
  rw [z3] at k7
  have b6lt := hc6.lt
  have HC6 := hid hc6
  clear hw6 hc6 gk HR5 HV5 G5 HC5
  go_region
  rw [show (if (M : Int) < (N : Int) + (n : Int) then (N : Int) + (n : Int) else (M : Int)) = ((max M (N + n) : Nat) : Int) by split <;> omega]
  obtain ⟨w7, hw7⟩ : ∃ x, x = (w6.setCell { block := b, off := 7 } (Value.int IntKind.u32 ((max M (N + n) : Nat) : Int))).drew := ⟨_, rfl⟩
  rw [← hw7]
  have hc7 : ConnAt w7 b { c with next := (N + n : Nat), most := (max M (N + n) : Nat) } := by
    rw [hw7, show ((N + n : Nat) : Int) = (N : Int) + (n : Int) by omega]; exact heap_set HC6.out
  have gk : w6.grownBy w7 (some b) := by rw [hw7]; exact gr_drew (gr_set (gr_refl _ _))
  have HR7 := hid (gr_keep gk HR6.out hbn.symm)
  have HV7 := hid (Own8.kept2 HV6.out gk hlt)
  have G7 := hid (gr_trans G6.out gk)
  have HC7 := hid hc7
  clear hw7 hc7 gk HR6 HV6 G6 HC6 k6 k7 f7 b6lt
  have n7lt := lt_of_block HR7.out
  have n0 := (cell_of_block HR7.out 0).trans (show _ = some (Value.int .u16 c.src) from rfl)
  have y0 := free_of_block HR7.out 0
  have n1 := (cell_of_block HR7.out 1).trans (show _ = some (Value.int .u16 c.dst) from rfl)
  have y1 := free_of_block HR7.out 1
  have n2 := (cell_of_block HR7.out 2).trans (show _ = some (Value.int .u32 ((c.own + (N : Int)) % 4294967296)) from rfl)
  have y2 := free_of_block HR7.out 2
  have n3 := (cell_of_block HR7.out 3).trans (show _ = some (Value.int .u32 ((c.other + c.seen) % 4294967296)) from rfl)
  have y3 := free_of_block HR7.out 3
  have n4 := (cell_of_block HR7.out 4).trans (show _ = some (Value.int .u8 fl) from rfl)
  have y4 := free_of_block HR7.out 4
  have n5 := (cell_of_block HR7.out 5).trans (show _ = some (Value.int .u16 (4096 - (un : Int))) from rfl)
  have y5 := free_of_block HR7.out 5
  have n6 := (cell_of_block HR7.out 6).trans (show _ = some (Value.int .u16 0) from rfl)
  have y6 := free_of_block HR7.out 6
  have n7 := (cell_of_block HR7.out 7).trans (show _ = some (Value.slice none 0 0) from rfl)
  have y7 := free_of_block HR7.out 7
  have n8 := (cell_of_block HR7.out 8).trans (show _ = some (Value.slice va n vc) from rfl)
  have y8 := free_of_block HR7.out 8
  go_wp2_with fail
  have H9 := seg_set9 (.int .u16 c.src) (.int .u16 c.dst) (.int .u32 ((c.own + (N : Int)) % 4294967296)) (.int .u32 ((c.other + c.seen) % 4294967296)) (.int .u8 fl) (.int .u16 (4096 - (un : Int))) (.int .u16 0) (.slice none 0 0) (.slice va n vc) HR7.out
  clear n0 y0 n1 y1 n2 y2 n3 y3 n4 y4 n5 y5 n6 y6 n7 y7 n8 y8
  revert H9
  generalize (((((((((w7.setCell _ _).setCell _ _).setCell _ _).setCell _ _).setCell _ _).setCell _ _).setCell _ _).setCell _ _).setCell _ _) = w8
  rintro ⟨hn8, gn⟩
  have e0 := cell_of_block hn8 0
  have e1 := cell_of_block hn8 1
  have e2 := cell_of_block hn8 2
  have e3 := cell_of_block hn8 3
  have e4 := cell_of_block hn8 4
  have e5 := cell_of_block hn8 5
  have e6 := cell_of_block hn8 6
  have e7 := cell_of_block hn8 7
  have e8 := cell_of_block hn8 8
  refine bodyPost_ret (v := .tuple #[.agg (c.seg N 24 un (.slice va n vc)), .bool true]) ?_ rfl ⟨_, rfl, Own8.kept_ty HV7.out gn HR7.out (by decide), HC7.out.keep gn hbn, gr_new G7.out gn (Nat.le_refl _)⟩
  unfold Cn.seg
  rw [if_neg hp0, if_neg hp0, hbits]
  simp [results, Try.results25, go_sem, e0, e1, e2, e3, e4, e5, e6, e7, e8]

set_option maxRecDepth 20000 in
set_option maxHeartbeats 2000000 in
theorem piece_none (b : Nat) (c : Cn) (w : World) (B U N M W un : Nat) (l : List UInt8) (h : ConnAt w b c) (hc : CnN c B U N M W un l)
    (hcl : c.closing = false) (h12 : B + l.length ≤ N ∨ U + max W 1 ≤ N) :
    Calls Try.prog 25 #[.pointer (some ⟨b, 0, none⟩)] w fun e w' =>
      e = .returned (.tuple #[.agg #[.int .u16 0, .int .u16 0, .int .u32 0, .int .u32 0, .int .u8 0, .int .u16 0, .int .u16 0, .slice none 0 0, .slice none 0 0], .bool false]) ∧ w.grownBy w' none := by
  obtain ⟨z1, z2, z3, z4, z5, z6, z7, z8, z9, z10, z11, z12, z13, z14⟩ := hc
  have h5 := h.all.c5
  have h6 := h.all.c6
  have h9 := h.all.c9
  have h11 := h.all.c11
  rw [z1] at h5
  rw [z2] at h6
  rw [z5] at h9
  rw [z4] at h11
  have h10 := h.all.c10
  rw [hcl] at h10
  have HC := hid h
  have hlt := h.lt
  clear h
  go_enter Try.func25, Try.ntmps25
  go_wp2_with fail
  generalize hw1 : w.alloc _ = w1
  have g01 : w.grownBy w1 none := by rw [← hw1]; exact World.grownBy_alloc w _ none
  have HR := hid (show w1.heap[w.heap.size]? = some (.cells #[.int .u16 0, .int .u16 0, .int .u32 0, .int .u32 0, .int .u8 0, .int .u16 0, .int .u16 0, .slice none 0 0, .slice none 0 0] 34 (0, 0)) by rw [← hw1]; exact heap_alloc_new w _)
  clear hw1
  have k5 := g01.cell h5 (by simp)
  have k6 := g01.cell h6 (by simp)
  have k10 := g01.cell h10 (by simp)
  have k9 := g01.cell h9 (by simp)
  have k11 := g01.cell h11 (by simp)
  clear h5 h6 h9 h10 h11
  go_region
  rw [show ((U : Int) + if (W : Int) < 1 then 1 else (W : Int)) = ((U + max W 1 : Nat) : Int) by split <;> omega]
  obtain ⟨w2, hw2⟩ : ∃ x, x = w1.drew := ⟨_, rfl⟩
  rw [← hw2]
  have g12 : w1.grownBy w2 none := by rw [hw2]; exact gr_drew (gr_refl _ _)
  replace k6 := g12.cell k6 (by simp)
  replace k9 := g12.cell k9 (by simp)
  replace k10 := g12.cell k10 (by simp)
  have HR2 := hid (gr_keep g12 HR.out (by simp))
  have G2 := hid (gr_trans g01 g12)
  have n2lt := lt_of_block HR2.out
  have n0 := (cell_of_block HR2.out 0).trans (show _ = some (Value.int .u16 0) from rfl)
  have y0 := free_of_block HR2.out 0
  have n1 := (cell_of_block HR2.out 1).trans (show _ = some (Value.int .u16 0) from rfl)
  have y1 := free_of_block HR2.out 1
  have n2 := (cell_of_block HR2.out 2).trans (show _ = some (Value.int .u32 0) from rfl)
  have y2 := free_of_block HR2.out 2
  have n3 := (cell_of_block HR2.out 3).trans (show _ = some (Value.int .u32 0) from rfl)
  have y3 := free_of_block HR2.out 3
  have n4 := (cell_of_block HR2.out 4).trans (show _ = some (Value.int .u8 0) from rfl)
  have y4 := free_of_block HR2.out 4
  have n5 := (cell_of_block HR2.out 5).trans (show _ = some (Value.int .u16 0) from rfl)
  have y5 := free_of_block HR2.out 5
  have n6 := (cell_of_block HR2.out 6).trans (show _ = some (Value.int .u16 0) from rfl)
  have y6 := free_of_block HR2.out 6
  have n7 := (cell_of_block HR2.out 7).trans (show _ = some (Value.slice none 0 0) from rfl)
  have y7 := free_of_block HR2.out 7
  have n8 := (cell_of_block HR2.out 8).trans (show _ = some (Value.slice none 0 0) from rfl)
  have y8 := free_of_block HR2.out 8
  clear hw2 k5 k11 HR g01 g12
  generalize (if (W : Int) < 1 then (1 : Int) else W) = x16
  have hE : U + max W 1 ≤ 90000 := by omega
  generalize U + max W 1 = E at *
  have hT : B + l.length ≤ 29000 := by omega
  generalize B + l.length = T at *
  have hn16 : some b ≠ some w.heap.size := by simp; omega
  clear z1 z2 z3 z4 z5 z6 z7 z8
  have HCL := hid hcl
  clear hcl
  by_cases d1 : T ≤ N
  · have d1' : (decide ((N : Int) < (T : Int))) = false := by simpa using d1
    have d3 : (N : Int) = (T : Int) ∨ ¬ (N : Int) = (T : Int) := Classical.em _
    rcases d3 with d3 | d3
    · go_wp2_with fail
      all_goals
        have H9 := seg_set9 (.int .u16 0) (.int .u16 0) (.int .u32 0) (.int .u32 0) (.int .u8 0) (.int .u16 0) (.int .u16 0) (.slice none 0 0) (.slice none 0 0) HR2.out
        revert H9
        generalize (((((((((w2.setCell _ _).setCell _ _).setCell _ _).setCell _ _).setCell _ _).setCell _ _).setCell _ _).setCell _ _).setCell _ _) = w8
        rintro ⟨hn8, gn⟩
        have e0 := cell_of_block hn8 0
        have e1 := cell_of_block hn8 1
        have e2 := cell_of_block hn8 2
        have e3 := cell_of_block hn8 3
        have e4 := cell_of_block hn8 4
        have e5 := cell_of_block hn8 5
        have e6 := cell_of_block hn8 6
        have e7 := cell_of_block hn8 7
        have e8 := cell_of_block hn8 8
        exact bodyPost_ret (v := .tuple #[.agg #[.int .u16 0, .int .u16 0, .int .u32 0, .int .u32 0, .int .u8 0, .int .u16 0, .int .u16 0, .slice none 0 0, .slice none 0 0], .bool false]) (by simp [results, Try.results25, go_sem, e0, e1, e2, e3, e4, e5, e6, e7, e8]) rfl ⟨rfl, gr_new G2.out gn (Nat.le_refl _)⟩
    · go_wp2_with fail
      all_goals
        have H9 := seg_set9 (.int .u16 0) (.int .u16 0) (.int .u32 0) (.int .u32 0) (.int .u8 0) (.int .u16 0) (.int .u16 0) (.slice none 0 0) (.slice none 0 0) HR2.out
        revert H9
        generalize (((((((((w2.setCell _ _).setCell _ _).setCell _ _).setCell _ _).setCell _ _).setCell _ _).setCell _ _).setCell _ _).setCell _ _) = w8
        rintro ⟨hn8, gn⟩
        have e0 := cell_of_block hn8 0
        have e1 := cell_of_block hn8 1
        have e2 := cell_of_block hn8 2
        have e3 := cell_of_block hn8 3
        have e4 := cell_of_block hn8 4
        have e5 := cell_of_block hn8 5
        have e6 := cell_of_block hn8 6
        have e7 := cell_of_block hn8 7
        have e8 := cell_of_block hn8 8
        exact bodyPost_ret (v := .tuple #[.agg #[.int .u16 0, .int .u16 0, .int .u32 0, .int .u32 0, .int .u8 0, .int .u16 0, .int .u16 0, .slice none 0 0, .slice none 0 0], .bool false]) (by simp [results, Try.results25, go_sem, e0, e1, e2, e3, e4, e5, e6, e7, e8]) rfl ⟨rfl, gr_new G2.out gn (Nat.le_refl _)⟩
  · have d2 : E ≤ N := by omega
    have d1' : (decide ((N : Int) < (T : Int))) = true := by simp; omega
    have d2' : (decide ((N : Int) < (E : Int))) = false := by simpa using d2
    have d3 : ¬ (N : Int) = (T : Int) := by omega
    go_wp2_with fail
    all_goals
      have H9 := seg_set9 (.int .u16 0) (.int .u16 0) (.int .u32 0) (.int .u32 0) (.int .u8 0) (.int .u16 0) (.int .u16 0) (.slice none 0 0) (.slice none 0 0) HR2.out
      revert H9
      generalize (((((((((w2.setCell _ _).setCell _ _).setCell _ _).setCell _ _).setCell _ _).setCell _ _).setCell _ _).setCell _ _).setCell _ _) = w8
      rintro ⟨hn8, gn⟩
      have e0 := cell_of_block hn8 0
      have e1 := cell_of_block hn8 1
      have e2 := cell_of_block hn8 2
      have e3 := cell_of_block hn8 3
      have e4 := cell_of_block hn8 4
      have e5 := cell_of_block hn8 5
      have e6 := cell_of_block hn8 6
      have e7 := cell_of_block hn8 7
      have e8 := cell_of_block hn8 8
      exact bodyPost_ret (v := .tuple #[.agg #[.int .u16 0, .int .u16 0, .int .u32 0, .int .u32 0, .int .u8 0, .int .u16 0, .int .u16 0, .slice none 0 0, .slice none 0 0], .bool false]) (by simp [results, Try.results25, go_sem, e0, e1, e2, e3, e4, e5, e6, e7, e8]) rfl ⟨rfl, gr_new G2.out gn (Nat.le_refl _)⟩
end Go.Proofs.Ytcgmbeibhingcaa
