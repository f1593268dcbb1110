/- The walk of InetWrites. -/
import Derived.Test.YtjpkmbgpkdomnaaDoorIt1
import Derived.Test.YtjpkmbgpkdomnaaDoorWr5
import Derived.Test.YtjpkmbgpkdomnaaDoorSa1
namespace Go.Proofs.YtjpkmbgpkdomnaaDoor
open Go.RowKit

set_option maxRecDepth 20000 in
set_option maxHeartbeats 4000000 in
theorem inet_writes_walk (p : Pk) (vb : Value) (m : Int) (w : World) (hb : Bytes w vb p.body) (ok : p.Ok) (hm : Hid (MaxCell m w)) (h10 : Hid (P10 w)) :
    Calls Tryd.prog 9 #[p.val vb] w fun e w' => e = .returned (.bool true) ∧ w.grownBy w' none := by
  have HW := hid (fun W v (h : Bytes W v p.body) => iwrite_any p v W h ok)
  have HRW := hid (fun W v (h : Bytes W v p.body) (hl : p.body.length ≤ 100000) => rwrite_any p v W h ok hl)
  have HSM := hid (fun W va vb (ha : Bytes W va p.body) (hb : Bytes W vb p.body) => same_any p p va vb W ha hb)
  rw [show Pk.same p p = true from pk_same.2 rfl] at HSM
  have hpl := hid (wrF_len p 16384)
  have HCD := hid (fun hl => wrL_code p hl)
  have HPK := hid (fun hl => wrL_pk p ok hl)
  obtain ⟨x1, x2, x3, x4, x5, lb⟩ := p
  dsimp only [Pk.val] at *
  have HBd := hid hb
  obtain ⟨ab, cb, rfl, y1, y2, -⟩ := hb
  have y2' : cb ≤ 9223372036854775807 := y2
  clear y2
  have A0 := heap_alloc_new w (.cells #[.int .u8 x1, .int .u8 x2, .int .u16 x3, .int .u32 x4, .int .u32 x5, .slice ab lb.length cb] 48)
  have G0 := World.grownBy_alloc w (.cells #[.int .u8 x1, .int .u8 x2, .int .u16 x3, .int .u32 x4, .int .u32 x5, .slice ab lb.length cb] 48) none
  have hsp := hid (ispeaks_true m _ (G0.cell hm.out (by simp)) (h10.out.grown G0))
  go_enter Tryd.func9, Tryd.ntmps9
  go_wp2_with fail
  generalize w.alloc (.cells #[.int .u8 x1, .int .u8 x2, .int .u16 x3, .int .u32 x4, .int .u32 x5, .slice ab lb.length cb] 48) = w1 at *
  refine hsp.out.mono ?_
  rintro e w2 ⟨rfl, g2⟩
  have A2 := hid (gr_keep g2 A0 (by simp))
  have G2 := hid (gr_trans G0 g2)
  clear A0 G0 g2
  have p0 := (cell_of_block A2.out 0).trans (show _ = some (Value.int .u8 x1) from rfl)
  have p1 := (cell_of_block A2.out 1).trans (show _ = some (Value.int .u8 x2) from rfl)
  have p2 := (cell_of_block A2.out 2).trans (show _ = some (Value.int .u16 x3) from rfl)
  have p3 := (cell_of_block A2.out 3).trans (show _ = some (Value.int .u32 x4) from rfl)
  have p4 := (cell_of_block A2.out 4).trans (show _ = some (Value.int .u32 x5) from rfl)
  have p5 := (cell_of_block A2.out 5).trans (show _ = some (Value.slice ab lb.length cb) from rfl)
  by_cases hbig : 3000 < lb.length
  · have hbi : (3000 : Int) < (lb.length : Int) := by omega
    go_wp2
    go_ret
    exact ⟨rfl, G2.out⟩
  have hbi : ¬ (3000 : Int) < (lb.length : Int) := by omega
  have hsz : (w2.alloc (.cells #[.int .u8 x1, .int .u8 x2, .int .u16 x3, .int .u32 x4, .int .u32 x5, .slice ab lb.length cb] 48)).heap.size = w2.heap.size + 1 := by
    show (w2.heap.push _).size = _
    exact Array.size_push _
  have hnew := heap_alloc_new (w2.alloc (.cells #[.int .u8 x1, .int .u8 x2, .int .u16 x3, .int .u32 x4, .int .u32 x5, .slice ab lb.length cb] 48)) (.cells #[] 5)
  rw [hsz] at hnew
  have A3 := heap_alloc_new w2 (.cells #[.int .u8 x1, .int .u8 x2, .int .u16 x3, .int .u32 x4, .int .u32 x5, .slice ab lb.length cb] 48)
  have g3 := World.grownBy_alloc w2 (.cells #[.int .u8 x1, .int .u8 x2, .int .u16 x3, .int .u32 x4, .int .u32 x5, .slice ab lb.length cb] 48) none
  have g4 := World.grownBy_alloc (w2.alloc (.cells #[.int .u8 x1, .int .u8 x2, .int .u16 x3, .int .u32 x4, .int .u32 x5, .slice ab lb.length cb] 48)) (.cells #[] 5) none
  have A4 := hid (gr_keep g4 A3 (by simp))
  have G4 := hid (gr_trans g3 g4)
  have HO := hid (own8_of (base := w2.heap.size + 1) (l := []) hnew (Nat.le_refl _) rfl rfl (by simp [maxLen]))
  have hs4 : w2.heap.size + 1 ≤ ((w2.alloc (.cells #[.int .u8 x1, .int .u8 x2, .int .u16 x3, .int .u32 x4, .int .u32 x5, .slice ab lb.length cb] 48)).alloc (.cells #[] 5)).heap.size := by rw [← hsz]; exact g4.size
  have HS4 := hid hs4
  have hblt : w.heap.size < w2.heap.size := lt_of_block A2.out
  have hbne : ¬ w.heap.size = w2.heap.size := by omega
  have hbne2 : ¬ w.heap.size = w2.heap.size + 1 := by omega
  clear hsz hnew A3 g3 g4 hs4
  go_wp2_with (at_builtin; refine wpl_app8 rfl _ _ rfl rfl rfl HO.out (HBd.out.grown (gr_trans G2.out G4.out)) (by simp; omega) HS4.out ?_; intro v5 w5 hown5 g5; rw [List.nil_append] at hown5; replace g5 : World.grownBy _ w5 (some (w2.heap.size + 1)) := g5; have A5 := gr_keep g5 A4.out (by simp); have G5 := hid (gr_new G4.out g5 (Nat.le_succ _)); have HV5 := hid hown5.bytes; have HFv := hid (far_of_own hown5); obtain ⟨a5, c5, rfl, z1, z2, -⟩ := hown5.shape8; clear hown5 g5; have r0 := (cell_of_block A5 0).trans (show _ = some (Value.int .u8 x1) from rfl); have r1 := (cell_of_block A5 1).trans (show _ = some (Value.int .u8 x2) from rfl); have r2 := (cell_of_block A5 2).trans (show _ = some (Value.int .u16 x3) from rfl); have r3 := (cell_of_block A5 3).trans (show _ = some (Value.int .u32 x4) from rfl); have r4 := (cell_of_block A5 4).trans (show _ = some (Value.int .u32 x5) from rfl); have r5 := (cell_of_block A5 5).trans (show _ = some (Value.slice ab lb.length cb) from rfl); have rf5 := free_of_block A5 5; have rlt := lt_of_block A5; have HA5 := hid A5; clear A5)
  have P6 := PkAt.set5 HA5.out (.slice a5 lb.length c5)
  have gs6 : w5.grownBy (w5.setCell ⟨w2.heap.size, 5, none⟩ (.slice a5 lb.length c5)) (some w2.heap.size) := gr_set (gr_refl w5 (some w2.heap.size))
  have HV6 := hid (HV5.out.kept gs6 (fun b o e hl => by have := HFv.out b o _ _ (by rw [e]) hl; omega))
  have HB6 := hid (gr_keep gs6 (gr_keep G5.out A2.out (by simp)) (by simp; exact hbne))
  have G6 := hid (gr_new (gr_trans G2.out G5.out) gs6 G2.out.size)
  have HP6 := hid P6
  clear P6 gs6 r0 r1 r2 r3 r4 r5 rf5 rlt p0 p1 p2 p3 p4 p5 HA5 HV5 HFv G5 A4 G4 HO HS4
  generalize w5.setCell ⟨w2.heap.size, 5, none⟩ (.slice a5 lb.length c5) = w6 at *
  obtain ⟨T, hT⟩ : ∃ T, T = w2.heap.size := ⟨_, rfl⟩
  rw [← hT] at HP6 ⊢
  clear hT hblt hbne hbne2
  refine (HW.out w6 _ HV6.out).mono ?_
  intro e w7 hpost
  by_cases hlen : 1480 < lb.length
  · obtain ⟨rfl, g7⟩ := wr_long hpost hlen
    have HP7 := hid (gr_keep g7 HP6.out (by simp))
    have HB7 := hid (gr_keep g7 HB6.out (by simp))
    have HV7 := hid (HV6.out.grown g7)
    have G7 := hid (gr_trans G6.out g7)
    clear HP6 HB6 HV6 G6 g7 hpost
    have p0 := (cell_of_block HB7.out 0).trans (show _ = some (Value.int .u8 x1) from rfl)
    have p1 := (cell_of_block HB7.out 1).trans (show _ = some (Value.int .u8 x2) from rfl)
    have p2 := (cell_of_block HB7.out 2).trans (show _ = some (Value.int .u16 x3) from rfl)
    have p3 := (cell_of_block HB7.out 3).trans (show _ = some (Value.int .u32 x4) from rfl)
    have p4 := (cell_of_block HB7.out 4).trans (show _ = some (Value.int .u32 x5) from rfl)
    have p5 := (cell_of_block HB7.out 5).trans (show _ = some (Value.slice ab lb.length cb) from rfl)
    go_wp2_with fail
    refine (HRW.out w7 _ (HBd.out.grown G7.out) (by omega)).mono ?_
    rintro e w8 ⟨v8, rfl, hv8, g8⟩
    rw [if_pos hlen] at hv8 ⊢
    have HL := hid hlen
    have HV8 := hid (HV7.out.grown g8)
    have hP8 := gr_keep g8 HP7.out (by simp)
    have hB8 := gr_keep g8 HB7.out (by simp)
    clear p0 p1 p2 p3 p4 p5
    have p0 := (cell_of_block hB8 0).trans (show _ = some (Value.int .u8 x1) from rfl)
    have p1 := (cell_of_block hB8 1).trans (show _ = some (Value.int .u8 x2) from rfl)
    have p2 := (cell_of_block hB8 2).trans (show _ = some (Value.int .u16 x3) from rfl)
    have p3 := (cell_of_block hB8 3).trans (show _ = some (Value.int .u32 x4) from rfl)
    have p4 := (cell_of_block hB8 4).trans (show _ = some (Value.int .u32 x5) from rfl)
    have p5 := (cell_of_block hB8 5).trans (show _ = some (Value.slice ab lb.length cb) from rfl)
    have r0 := (cell_of_block hP8 0).trans (show _ = some (Value.int .u8 x1) from rfl)
    have r1 := (cell_of_block hP8 1).trans (show _ = some (Value.int .u8 x2) from rfl)
    have r2 := (cell_of_block hP8 2).trans (show _ = some (Value.int .u16 x3) from rfl)
    have r3 := (cell_of_block hP8 3).trans (show _ = some (Value.int .u32 x4) from rfl)
    have r4 := (cell_of_block hP8 4).trans (show _ = some (Value.int .u32 x5) from rfl)
    have r5 := (cell_of_block hP8 5).trans (show _ = some (Value.slice a5 lb.length c5) from rfl)
    clear hP8 hB8
    obtain ⟨a8, c8, rfl, -, -, -⟩ := id hv8
    have HN8 := hid hv8
    have HBd8 := hid ((HBd.out.grown G7.out).grown g8)
    have G8 := hid (gr_trans G7.out g8)
    clear hv8 g8 hlen HV7 G7 HP7 HB7
    go_wp2_with (first | (rw [run_b2s (l := []) Tryd.underlying45 Tryd.underlying5 Tryd.underlying9 (v := .slice none 0 0) (Bytes.nil _)]; unfold str; go_simp) | (rw [run_b2s (l := []) Tryd.underlying45 Tryd.underlying5 Tryd.underlying9 (v := .slice a8 0 c8) HN8.out]; unfold str; go_simp))
    refine (HSM.out w8 _ _ HV8.out HBd8.out).mono ?_
    rintro e w9 ⟨rfl, g9⟩
    go_wp2
    go_ret
    exact ⟨rfl, gr_trans G8.out g9⟩
  · obtain ⟨v7, rfl, hf, g7⟩ := wr_ok hpost hlen
    have hln : (wrL ⟨x1, x2, x3, x4, x5, lb⟩).length = 20 + lb.length := hpl.out
    have HCD' := hid (HCD.out (show lb.length ≤ 1480 by omega))
    have HPK' := hid (HPK.out (show lb.length ≤ 1480 by omega))
    have hb7 := bytes_fresh hf
    have HL := hid hlen
    have HRD := hid (fun W (h : w7.grownBy W none) => iread_any (wrL ⟨x1, x2, x3, x4, x5, lb⟩) v7 W (hb7.grown h) (by rw [hln]; omega))
    unfold RdFar at HRD
    rw [HCD'.out, HPK'.out] at HRD
    obtain ⟨a7, c7, rfl, -, -, -⟩ := id hb7
    have HB7b := hid hb7
    have HP7 := hid (gr_keep g7 HP6.out (by simp))
    have HB7 := hid (gr_keep g7 HB6.out (by simp))
    have HV7 := hid (HV6.out.grown g7)
    have G7 := hid (gr_trans G6.out g7)
    clear HP6 HB6 HV6 G6 g7 hpost hf hb7 hln HCD HPK HCD' HPK'
    generalize hlq : wrL ⟨x1, x2, x3, x4, x5, lb⟩ = l at *
    have HLQ := hid hlq
    clear hlq
    have p0 := (cell_of_block HB7.out 0).trans (show _ = some (Value.int .u8 x1) from rfl)
    have p1 := (cell_of_block HB7.out 1).trans (show _ = some (Value.int .u8 x2) from rfl)
    have p2 := (cell_of_block HB7.out 2).trans (show _ = some (Value.int .u16 x3) from rfl)
    have p3 := (cell_of_block HB7.out 3).trans (show _ = some (Value.int .u32 x4) from rfl)
    have p4 := (cell_of_block HB7.out 4).trans (show _ = some (Value.int .u32 x5) from rfl)
    have p5 := (cell_of_block HB7.out 5).trans (show _ = some (Value.slice ab lb.length cb) from rfl)
    go_wp2_with fail
    refine (HRW.out w7 _ (HBd.out.grown G7.out) (by omega)).mono ?_
    rintro e w8 ⟨v8, rfl, hv8, g8⟩
    rw [if_neg hlen] at hv8 ⊢
    rw [HLQ.out] at hv8
    have HV8 := hid (HV7.out.grown g8)
    have hP8 := gr_keep g8 HP7.out (by simp)
    have hB8 := gr_keep g8 HB7.out (by simp)
    clear p0 p1 p2 p3 p4 p5
    have p0 := (cell_of_block hB8 0).trans (show _ = some (Value.int .u8 x1) from rfl)
    have p1 := (cell_of_block hB8 1).trans (show _ = some (Value.int .u8 x2) from rfl)
    have p2 := (cell_of_block hB8 2).trans (show _ = some (Value.int .u16 x3) from rfl)
    have p3 := (cell_of_block hB8 3).trans (show _ = some (Value.int .u32 x4) from rfl)
    have p4 := (cell_of_block hB8 4).trans (show _ = some (Value.int .u32 x5) from rfl)
    have p5 := (cell_of_block hB8 5).trans (show _ = some (Value.slice ab lb.length cb) from rfl)
    have r0 := (cell_of_block hP8 0).trans (show _ = some (Value.int .u8 x1) from rfl)
    have r1 := (cell_of_block hP8 1).trans (show _ = some (Value.int .u8 x2) from rfl)
    have r2 := (cell_of_block hP8 2).trans (show _ = some (Value.int .u16 x3) from rfl)
    have r3 := (cell_of_block hP8 3).trans (show _ = some (Value.int .u32 x4) from rfl)
    have r4 := (cell_of_block hP8 4).trans (show _ = some (Value.int .u32 x5) from rfl)
    have r5 := (cell_of_block hP8 5).trans (show _ = some (Value.slice a5 lb.length c5) from rfl)
    clear hP8 hB8
    obtain ⟨a8, c8, rfl, -, -, -⟩ := id hv8
    have HN8 := hid hv8
    have HM8 := hid (HB7b.out.grown g8)
    have HBd8 := hid ((HBd.out.grown G7.out).grown g8)
    have G8 := hid (gr_trans G7.out g8)
    have G78 := hid g8
    have HB8 := hid (gr_keep g8 HB7.out (by simp))
    clear hv8 g8 hlen HV7 G7 HP7 HB7
    go_wp2_with (first | (rw [run_b2s (l := l) Tryd.underlying45 Tryd.underlying5 Tryd.underlying9 (v := .slice a7 l.length c7) HM8.out]; unfold str; go_simp) | (rw [run_b2s (l := l) Tryd.underlying45 Tryd.underlying5 Tryd.underlying9 (v := .slice a8 l.length c8) HN8.out]; unfold str; go_simp))
    refine (HSM.out w8 _ _ HV8.out HBd8.out).mono ?_
    rintro e w9 ⟨rfl, g9⟩
    have HB9 := gr_keep g9 HB8.out (by simp)
    have HBd9 := hid (HBd8.out.grown g9)
    have G9 := hid (gr_trans G8.out g9)
    have G79 := gr_trans G78.out g9
    clear p0 p1 p2 p3 p4 p5 r0 r1 r2 r3 r4 r5
    go_wp2_with fail
    refine (HRD.out w9 G79).mono ?_
    rintro e w10 ⟨bd, rfl, hbd, -, g10⟩
    obtain ⟨a10, c10, rfl, -, -, -⟩ := id hbd
    have HB10 := hid (gr_keep g10 HB9 (by simp))
    have HBd10 := hid (HBd9.out.grown g10)
    have HD10 := hid hbd
    have G10 := hid (gr_trans G9.out g10)
    have hblt := lt_of_block HB10.out
    have hbne : ¬ w.heap.size = w10.heap.size := by omega
    clear hbd g10 HB9 G79 g9
    have p0 := (cell_of_block HB10.out 0).trans (show _ = some (Value.int .u8 x1) from rfl)
    have p1 := (cell_of_block HB10.out 1).trans (show _ = some (Value.int .u8 x2) from rfl)
    have p2 := (cell_of_block HB10.out 2).trans (show _ = some (Value.int .u16 x3) from rfl)
    have p3 := (cell_of_block HB10.out 3).trans (show _ = some (Value.int .u32 x4) from rfl)
    have p4 := (cell_of_block HB10.out 4).trans (show _ = some (Value.int .u32 x5) from rfl)
    have p5 := (cell_of_block HB10.out 5).trans (show _ = some (Value.slice ab lb.length cb) from rfl)
    dsimp only [Pk.val]
    go_wp2_with fail
    have ga := World.grownBy_alloc w10 (.cells #[.int .u8 x1, .int .u8 x2, .int .u16 x3, .int .u32 x4, .int .u32 x5, .slice a10 lb.length c10] 48) none
    refine (HSM.out _ _ _ (HD10.out.grown ga) (HBd10.out.grown ga)).mono ?_
    rintro e w11 ⟨rfl, g11⟩
    go_wp2
    go_ret
    exact ⟨rfl, gr_trans (gr_trans G10.out ga) g11⟩
end Go.Proofs.YtjpkmbgpkdomnaaDoor
