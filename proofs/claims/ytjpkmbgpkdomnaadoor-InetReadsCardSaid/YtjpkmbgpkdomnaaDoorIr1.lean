/- The walk of InetReads. -/
import Derived.Test.YtjpkmbgpkdomnaaDoorRd2
import Derived.Test.YtjpkmbgpkdomnaaDoorRd3
import Derived.Test.YtjpkmbgpkdomnaaDoorSa1
import Derived.Test.YtjpkmbgpkdomnaaDoorAp1
import Derived.Test.YtjpkmbgpkdomnaaDoorWr1
import Derived.Test.YtjpkmbgpkdomnaaDoorIn8
namespace Go.Proofs.YtjpkmbgpkdomnaaDoor
open Go.RowKit

theorem Own8.shape {w : World} {base : Nat} {v : Value} {l : List UInt8} (h : Own8 w base v l) : ∃ a cap, v = .slice a l.length cap ∧ l.length ≤ cap ∧ cap ≤ maxLen ∧ (0 < l.length → ∃ g cs, a = some ⟨g, 0, none⟩ ∧ base ≤ g ∧ w.heap[g]? = some (.cells cs 5 (0, 0)) ∧ cs.size = cap) := by
  rcases h.2 with ⟨rfl, h0⟩ | ⟨g, cap, cur, rfl, hb, hh, hc, hm, hs, _⟩
  · exact ⟨none, 0, by rw [h0], by omega, by simp [maxLen], fun h => by omega⟩
  · exact ⟨_, cap, rfl, hc, hm, fun _ => ⟨g, cur, rfl, hb, hh, by omega⟩⟩
theorem cell_some {w : World} {g : Nat} {cs : Array Value} {t : TypeId} (h : w.heap[g]? = some (.cells cs t (0, 0))) {i : Nat} (hi : i < cs.size) : ∃ v, w.cell? ⟨g, i, none⟩ = some v := by
  rw [cell_of_block h]; exact ⟨_, Array.getElem?_eq_getElem hi⟩
set_option maxRecDepth 20000 in
set_option maxHeartbeats 2000000 in
theorem inet_reads_walk (l : List UInt8) (v : Value) (m : Int) (w : World) (hb : Bytes w v l) (hm : Hid (MaxCell m w)) (h10 : Hid (P10 w)) :
    Calls Tryd.prog 8 #[v] w fun e w' => e = .returned (.bool true) ∧ w.grownBy w' none := by
  have hsp := hid (ispeaks_true m w hm h10)
  have HB := hid hb
  obtain ⟨a, c, rfl, h1, h2, -⟩ := hb
  have h2' : c ≤ 9223372036854775807 := h2
  clear h2
  by_cases hl : 4000 < l.length
  · go_enter Tryd.func8, Tryd.ntmps8
    go_wp2_with fail
    refine hsp.out.mono ?_
    rintro e w1 ⟨rfl, g1⟩
    go_wp2
    go_ret
    exact ⟨rfl, g1⟩
  go_enter Tryd.func8, Tryd.ntmps8
  go_wp2_with fail
  refine hsp.out.mono ?_
  rintro e w1 ⟨rfl, g1⟩
  go_wp2_with (at_builtin; refine wpl_app8 (base := w1.heap.size) (xs := []) (l := l) rfl _ _ rfl rfl rfl (own8_of (heap_alloc_new w1 _) (Nat.le_refl _) rfl rfl (by decide)) (HB.out.grown (by (repeat (first | exact gr_refl _ _ | assumption | refine gr_drew ?_ | refine gr_drewN _ ?_ | refine gr_alloc ?_ _ | refine gr_set ?_ | refine gr_set_new ?_ (by first | omega | (simp; omega)))))) (by simp; omega) (World.grownBy_alloc _ _ none).size ?_; intro v2 w2 hown g2)
  have G2 := gr_new (gr_alloc g1 _) g2 g1.size
  rw [List.nil_append] at hown
  obtain ⟨a2, c2, rfl, s1, s2, s3⟩ := hown.shape
  have HI := hid (iread_any l _ w2 hown.bytes (by omega))
  have S3 := hid s3
  have s2' : c2 ≤ 9223372036854775807 := s2
  clear hown s3 g2 s2
  refine HI.out.mono ?_
  clear HI
  rintro e w3 ⟨body, rfl, hbody, hfar, g3⟩
  have HR := hid (fun W g => rread_any l (.slice a l.length c) W (HB.out.grown g) (by omega) : ∀ W, w.grownBy W none → _)
  have hk : ((rdCode l : Nat) : Int) ≤ 14 := by have := rdCode_le l; omega
  have hsame := pk_same (p := rdPk l) (q := rdPk l)
  have HS := fun va vb W => same_any (rdPk l) (rdPk l) va vb W
  rw [show Pk.same (rdPk l) (rdPk l) = true from hsame.2 rfl] at HS
  have HSM := hid HS
  clear hsame HS
  unfold RdPost at HR
  generalize rdCode l = code at *
  generalize rdPk l = pk at *
  obtain ⟨x1, x2, x3, x4, x5, lb⟩ := pk
  dsimp only [Pk.val] at *
  obtain ⟨ab, cb, rfl, y1, y2, y3⟩ := hbody
  have HBd := hid (show Bytes w3 (.slice ab lb.length cb) lb from ⟨ab, cb, rfl, y1, y2, y3⟩)
  have HF := hid hfar
  have G3 := gr_trans G2 g3
  have G3' := hid g3
  clear y1 y2 y3 hfar g3
  go_wp2_with fail
  have A4 := heap_alloc_new w3 (.cells #[.int .u8 x1, .int .u8 x2, .int .u16 x3, .int .u32 x4, .int .u32 x5, .slice ab lb.length cb] 48)
  have g34 := World.grownBy_alloc w3 (.cells #[.int .u8 x1, .int .u8 x2, .int .u16 x3, .int .u32 x4, .int .u32 x5, .slice ab lb.length cb] 48) none
  have k4 := lt_of_block A4
  generalize w3.alloc (.cells #[.int .u8 x1, .int .u8 x2, .int .u16 x3, .int .u32 x4, .int .u32 x5, .slice ab lb.length cb] 48) = w4 at *
  refine (HR.out w4 (gr_trans G3 g34)).mono ?_
  rintro e w5 ⟨body2, rfl, hbody2, hfar2, g5⟩
  obtain ⟨ab2, cb2, rfl, y1, y2, y3⟩ := hbody2
  have HBd2 := hid (show Bytes w5 (.slice ab2 lb.length cb2) lb from ⟨ab2, cb2, rfl, y1, y2, y3⟩)
  have HF2 := hid hfar2
  clear y1 y2 y3 hfar2
  have A5 := gr_keep g5 A4 (by simp)
  have A6 := heap_alloc_new w5 (.cells #[.int .u8 x1, .int .u8 x2, .int .u16 x3, .int .u32 x4, .int .u32 x5, .slice ab2 lb.length cb2] 48)
  have g56 := World.grownBy_alloc w5 (.cells #[.int .u8 x1, .int .u8 x2, .int .u16 x3, .int .u32 x4, .int .u32 x5, .slice ab2 lb.length cb2] 48) none
  have K4 := hid k4
  have K6 := hid (lt_of_block A6)
  have A56 := gr_keep g56 A5 (by simp)
  have G36 := hid (gr_trans g34 (gr_trans g5 g56))
  have G56 := hid g56
  have H4 := hid A56
  have H6 := hid A6
  have K5 := hid g5.size
  clear A4 A5 A56 A6 g34 g5 g56 k4
  rcases Nat.eq_zero_or_pos l.length with h0 | h0
  · have h0' : (l.length : Int) = 0 := by omega
    go_wp2_with fail
    generalize w5.alloc (.cells #[.int .u8 x1, .int .u8 x2, .int .u16 x3, .int .u32 x4, .int .u32 x5, .slice ab2 lb.length cb2] 48) = w6 at *
    go_loopw [29] (fun vj wr => vj = .int .i64 0 ∧ wr = w6) (fun _ _ => 0)
    case atStart => exact ⟨rfl, rfl⟩
    case round =>
      obtain ⟨rfl, rfl⟩ := hrel
      have GW := gr_trans G3 G36.out
      have B1 := HBd.out.grown G36.out
      have B2 := HBd2.out.grown G56.out
      have C4 := H4.out
      have C6 := H6.out
      have p0 := (cell_of_block C4 0).trans (show _ = some (Value.int .u8 x1) from rfl)
      have p1 := (cell_of_block C4 1).trans (show _ = some (Value.int .u8 x2) from rfl)
      have p2 := (cell_of_block C4 2).trans (show _ = some (Value.int .u16 x3) from rfl)
      have p3 := (cell_of_block C4 3).trans (show _ = some (Value.int .u32 x4) from rfl)
      have p4 := (cell_of_block C4 4).trans (show _ = some (Value.int .u32 x5) from rfl)
      have p5 := (cell_of_block C4 5).trans (show _ = some (Value.slice ab lb.length cb) from rfl)
      have q0 := (cell_of_block C6 0).trans (show _ = some (Value.int .u8 x1) from rfl)
      have q1 := (cell_of_block C6 1).trans (show _ = some (Value.int .u8 x2) from rfl)
      have q2 := (cell_of_block C6 2).trans (show _ = some (Value.int .u16 x3) from rfl)
      have q3 := (cell_of_block C6 3).trans (show _ = some (Value.int .u32 x4) from rfl)
      have q4 := (cell_of_block C6 4).trans (show _ = some (Value.int .u32 x5) from rfl)
      have q5 := (cell_of_block C6 5).trans (show _ = some (Value.slice ab2 lb.length cb2) from rfl)
      clear C4 C6
      go_wp2_with fail
      refine (HSM.out _ _ _ B1 B2).mono ?_
      rintro e w7 ⟨rfl, g7⟩
      go_wp2
      go_ret
      exact ⟨rfl, gr_trans GW g7⟩
  · obtain ⟨gb, cs0, rfl, t1, t2, t3⟩ := S3.out h0
    have T2 := hid (lt_of_block t2)
    have T0 := hid (gr_keep G36.out (gr_keep G3'.out t2 (by simp)) (by simp))
    have T3 := hid t3
    have T1 := hid t1
    have KG := hid G3'.out.size
    clear t1 t2 t3
    go_wp2_with fail
    generalize w5.alloc (.cells #[.int .u8 x1, .int .u8 x2, .int .u16 x3, .int .u32 x4, .int .u32 x5, .slice ab2 lb.length cb2] 48) = w6 at *
    go_loopw [8, 29] (fun _ vj wr => ∃ j : Nat, vj = .int .i64 j ∧ j ≤ l.length ∧ w6.grownBy wr (some gb) ∧ ∃ cs, wr.heap[gb]? = some (.cells cs 5 (0, 0)) ∧ cs.size = c2) (fun _ vj _ => l.length - (intOf vj).toNat)
    case atStart => exact ⟨0, rfl, Nat.zero_le _, gr_refl _ _, cs0, T0.out, T3.out⟩
    case round =>
      obtain ⟨j, rfl, hj, gw, cs, hcs, hsz⟩ := hrel
      by_cases hlt : j < l.length
      · obtain ⟨vj, hvj⟩ := cell_some hcs (show j < cs.size by omega)
        have fj := free_of_block hcs j
        have ltj := lt_of_block hcs
        have HC := hid hcs
        clear hcs
        go_wp2
        go_round
        case rel => exact ⟨j + 1, by go_num, by omega, gr_set gw, _, heap_set HC.out, by simp; exact hsz⟩
        case measure => simp [intOf]; omega
      · obtain rfl : j = l.length := by omega
        have GW := gr_new (gr_trans G3 G36.out) gw (Nat.le_trans g1.size T1.out)
        have B1 := (HBd.out.grown G36.out).kept gw (fun b o e hl => by have := HF.out b o _ _ (by rw [e]) hl; have := T2.out; omega)
        have B2 := (HBd2.out.grown G56.out).kept gw (fun b o e hl => by have := HF2.out b o _ _ (by rw [e]) hl; have := T2.out; have := KG.out; have := K4.out; omega)
        have C4 := gr_keep gw H4.out (by have := T2.out; have := KG.out; simp; omega)
        have C6 := gr_keep gw H6.out (by have := T2.out; have := KG.out; have := K4.out; have := K5.out; simp; omega)
        clear hcs gw hlt
        have p0 := (cell_of_block C4 0).trans (show _ = some (Value.int .u8 x1) from rfl)
        have p1 := (cell_of_block C4 1).trans (show _ = some (Value.int .u8 x2) from rfl)
        have p2 := (cell_of_block C4 2).trans (show _ = some (Value.int .u16 x3) from rfl)
        have p3 := (cell_of_block C4 3).trans (show _ = some (Value.int .u32 x4) from rfl)
        have p4 := (cell_of_block C4 4).trans (show _ = some (Value.int .u32 x5) from rfl)
        have p5 := (cell_of_block C4 5).trans (show _ = some (Value.slice ab lb.length cb) from rfl)
        have q0 := (cell_of_block C6 0).trans (show _ = some (Value.int .u8 x1) from rfl)
        have q1 := (cell_of_block C6 1).trans (show _ = some (Value.int .u8 x2) from rfl)
        have q2 := (cell_of_block C6 2).trans (show _ = some (Value.int .u16 x3) from rfl)
        have q3 := (cell_of_block C6 3).trans (show _ = some (Value.int .u32 x4) from rfl)
        have q4 := (cell_of_block C6 4).trans (show _ = some (Value.int .u32 x5) from rfl)
        have q5 := (cell_of_block C6 5).trans (show _ = some (Value.slice ab2 lb.length cb2) from rfl)
        clear C4 C6
        go_wp2_with fail
        refine (HSM.out _ _ _ B1 B2).mono ?_
        rintro e w7 ⟨rfl, g7⟩
        go_wp2
        go_ret
        exact ⟨rfl, gr_trans GW g7⟩
end Go.Proofs.YtjpkmbgpkdomnaaDoor
