/- hearthref09.Check: 0 tells that the UUID is one. -/
import Derived.Test.YtnapfecalckajaaDoorCk1
import Derived.Deep.QuietTactic
import Derived.BigQuiet
namespace Go.Proofs.YtnapfecalckajaaDoor
open Go.RowKit

def CheckPost (w : World) (u : List UInt8) (e : Ending) (w' : World) : Prop :=
  ∃ r, e = .returned (.int .i64 r) ∧ (r = 0 → u.length = 36 ∧ ∀ c ∈ u, 33 ≤ c.toNat ∧ c.toNat ≤ 126) ∧ w.grownBy w' none
theorem check_no {w w' : World} {u : List UInt8} (g : w.grownBy w' none) : CheckPost w u (.returned (.int .i64 40)) w' := ⟨40, rfl, (fun h => absurd h (by decide)), g⟩
def CkI (w : World) (bc : Nat) (cs : Array Value) (fa : Option Addr) (fl : Nat) (v3 : Value) (wr : World) : Prop :=
  ∃ i : Nat, i ≤ fl ∧ v3 = .int .i64 (i : Int) ∧ w.grownBy wr none ∧ wr.heap[bc]? = some (.cells cs 28 (0, 0)) ∧ FwAt wr fa fl
def CkJ (w5 : World) (i : Nat) (v5 : Value) (wx : World) : Prop := ∃ k : Nat, k ≤ i ∧ v5 = .int .i64 (k : Int) ∧ w5.grownBy wx none
section
variable {P : Program} {ops : Array Oper} {rest : List Oper} {o : Oper} {a : Act} {w : World} {Q : Exit → Act → World → Prop}
/-- A whole struct is read, behind a guard. -/
theorem wpl_load_row_g (ty : TypeId) (x : Operand) (ho : o.op = .load ty x) (hw : Region.wanted o (yielded ops a.tmps) = true)
    (g : Nat) (hx : a.eval x = .pointer (some ⟨g, 0, none⟩)) (t : TypeId) (cs : Array Value) (fr : Nat × Nat) (d : TypeDesc) (hg : w.heap[g]? = some (.cells cs t fr))
    (hu : P.underlying ty = some d) (hd : (match d with | .struct _ | .array _ _ => true | _ => false) = true) (hi : (P.info? ty).map (·.size) = some cs.size)
    (h : wpList P ops Q rest (a.put o.dst (.agg cs)) w) : wpList P ops Q (o :: rest) a w := by
  show (if Region.wanted o (yielded ops a.tmps) then o.wp P a w (wpList P ops Q rest) Q ∨ (o.asks P a w ∧ LetsOut Q) else wpList P ops Q rest (a.put o.dst undef) w)
  rw [if_pos hw]
  exact .inl (wp_load_row ty x ho g hx t cs fr d hg hu hd hi h)
end
set_option maxRecDepth 100000 in
set_option maxHeartbeats 8000000 in
theorem check_any (cs : Array Value) (x : Cfv) (w : World) (hc : CfAll cs x) (hf : FwAt w x.fa x.fl) (hu : x.u.length ≤ 9223372036854775807) :
    Calls Tryd.prog 10 #[.agg cs] w (CheckPost w x.u) := by
  obtain ⟨m1, m2, m3, lan, wan, dmz, bits, n1, n2, n3, n4, fa, fl, fc, u⟩ := x
  have HC := hid hc
  have HF := hid hf
  have hl : lan < 4294967296 := hc.hl
  have hw : wan < 4294967296 := hc.hw
  have hd : dmz < 4294967296 := hc.hd
  have HL := hid hl
  have HW := hid hw
  have HD := hid hd
  have c0 : cs[0]? = some (.int .u8 (m1 : Int)) := hc.c0
  have c6 : cs[6]? = some (.int .u8 (m2 : Int)) := hc.c6
  have c12 : cs[12]? = some (.int .u8 (m3 : Int)) := hc.c12
  have c18 : cs[18]? = some (.int .u32 (lan : Int)) := hc.c18
  have c19 : cs[19]? = some (.int .u32 (wan : Int)) := hc.c19
  have c20 : cs[20]? = some (.int .i64 bits) := hc.c20
  have c21 : cs[21]? = some (.int .i64 n1) := hc.c21
  have c22 : cs[22]? = some (.int .i64 n2) := hc.c22
  have c23 : cs[23]? = some (.int .i64 n3) := hc.c23
  have c24 : cs[24]? = some (.int .i64 n4) := hc.c24
  have G0 := hid (World.grownBy_alloc w (.cells cs 28) none)
  clear hc hf hl hw hd
  dsimp only at hu ⊢
  go_enter Tryd.func10, Tryd.ntmps10
  go_upto_region 9 with (first
    | ((with_reducible refine (inner_any lan HL.out bits _).mono ?_); rintro e w' ⟨b1, rfl, rfl⟩)
    | ((with_reducible refine (rwithin_any wan lan HW.out HL.out bits _).mono ?_); rintro e w' ⟨rfl, rfl⟩))
  all_goals first
    | (go_ret; exact check_no G0.out)
    | skip
  clear c0 c6 c12 c18 c19 c20 c21 c22 c23 c24
  obtain ⟨w1, hw1⟩ : ∃ x, w.alloc (.cells cs 28) = x := ⟨_, rfl⟩
  have hcb : w1.heap[w.heap.size]? = some (.cells cs 28 (0, 0)) := by rw [← hw1]; exact heap_alloc_new w _
  rw [hw1] at G0 ⊢
  obtain ⟨bc, hbc⟩ : ∃ x, x = w.heap.size := ⟨_, rfl⟩
  rw [← hbc] at hcb ⊢
  clear hw1 hbc
  have HCB := hid hcb
  have q25 := (cell_of_block hcb 25).trans HC.out.c25
  have q26 := (cell_of_block hcb 26).trans HC.out.c26
  have q27 := (cell_of_block hcb 27).trans HC.out.c27
  have HF1 := hid (HF.out.grow G0.out)
  have HSZ28 := hid (show (Tryd.prog.info? 28).map (·.size) = some cs.size by rw [HC.out.sz]; kernel_rfl)
  dsimp only at q25 q26 q27 HF1
  clear hcb
  by_cases h32 : (fl : Int) ≤ 32
  · by_cases hdz : (dmz : Int) = 0
    · have hdz2 : ((dmz : Int) != 0) = false := by simpa using hdz
      clear hdz
      obtain ⟨w2, rfl⟩ : ∃ w2, w2 = w1 := ⟨_, rfl⟩
      have HCB2 := HCB
      have G2 := G0
      go_wp2_with ((with_reducible refine (uuid_any ⟨u.toArray⟩ _ (by rw [Lib.size_eq]; simpa using hu)).mono ?_); rintro e w' ⟨b3, rfl, rfl, hb3⟩; have HB3 := hid hb3; clear hb3)
      all_goals first
        | (go_ret; exact check_no G2.out)
        | skip
      clear HF1 q26 q27 hdz2
      have HF2 := hid (HF.out.grow G2.out)
      try dsimp only at HF2
      have hbt : b3 = true := by cases b3 <;> simp_all
      have HB5 := hid (HB3.out hbt)
      clear HB3
      subst hbt
      rw [Bool.not_true]
      repeat rw [Bool.or_false]
      go_loopw [3] (fun v3 wr => CkI w bc cs fa fl v3 wr) (fun v3 _ => fl - (intOf v3).toNat)
      case atStart => exact ⟨0, Nat.zero_le _, rfl, G2.out, HCB2.out, HF2.out⟩
      case round =>
        obtain ⟨i, hi, rfl, gw, hcb3, hf3⟩ := hrel
        have q25' := (cell_of_block hcb3 25).trans HC.out.c25
        try dsimp only at q25'
        clear q25
        have HCB3 := hid hcb3
        have GW := hid gw
        by_cases hlt : i < fl
        · rcases hf3 with h0 | ⟨b, o, rfl, hfw⟩
          · omega
          obtain ⟨p, q, r, h, e1, e2, e3, e4, e5⟩ := hfw i hlt
          have HFW := hid hfw
          have HFL := hid hlt
          have HE5 := hid e5
          have hii : (i : Int) < (fl : Int) := by omega
          have hcb4 := hid (fun o => gr_keep (World.grownBy_alloc wr o none) HCB3.out (by simp))
          clear hfw hcb3 gw hi HF2 HF e5
          by_cases hp6 : (p : Int) = 6
          · have hp7 : ((p : Int) != 6) = false := by simpa using hp6
            clear hp6
            by_cases hq0 : (q : Int) = 0
            · have hq1 : ((q : Int) == 0) = true := by simpa using hq0
              clear hq0
              go_wp2_with fail
              go_ret
              exact check_no (gr_alloc GW.out _)
            · have hq1 : ((q : Int) == 0) = false := by simpa using hq0
              clear hq0
              by_cases hr0 : (r : Int) = 0
              · have hr1 : ((r : Int) == 0) = true := by simpa using hr0
                clear hr0
                go_wp2_with fail
                go_ret
                exact check_no (gr_alloc GW.out _)
              · have hr1 : ((r : Int) == 0) = false := by simpa using hr0
                clear hr0
                go_wp2_with (first
                  | ((with_reducible refine wpl_load_row_g (o := ⟨some 149, _, _, _, _, _⟩) 28 (.tmp 1) rfl ?hwlx bc ?hxlx 28 cs (0, 0) _ (hcb4.out _) Tryd.underlying28 ?hdlx HSZ28.out ?hmlx); (case hwlx => rfl); (case hxlx => rfl); (case hdlx => rfl))
                  | ((with_reducible refine (host_any cs _ h HE5.out HC.out _).mono ?_); rintro e w5 ⟨b4, rfl, g5⟩; have G5 := hid g5; clear g5))
                all_goals first
                  | (go_ret; exact check_no (gr_trans (gr_alloc GW.out _) G5.out))
                  | skip
                have hfb := gr_keep G5.out (heap_alloc_new wr (.cells #[.int .u8 (p : Int), .int .u16 (q : Int), .int .u16 (r : Int), .int .u32 (h : Int)] 69)) (by simp)
                have HFB := hid hfb
                have HCB5 := hid (gr_keep G5.out (hcb4.out (.cells #[.int .u8 (p : Int), .int .u16 (q : Int), .int .u16 (r : Int), .int .u32 (h : Int)] 69)) (by simp))
                have G6 := hid (gr_trans (gr_alloc GW.out (.cells #[.int .u8 (p : Int), .int .u16 (q : Int), .int .u16 (r : Int), .int .u32 (h : Int)] 69)) G5.out)
                have HFW5 := hid (fun j (hj : j < fl) => (HFW.out j hj).imp fun p1 h1 => h1.imp fun q1 h2 => h2.imp fun r1 h3 => h3.imp fun a1 h4 => (⟨G5.out.cell ((World.grownBy_alloc wr _ none).cell h4.1 (by simp)) (by simp), G5.out.cell ((World.grownBy_alloc wr _ none).cell h4.2.1 (by simp)) (by simp)⟩ : w5.cell? ⟨b, o + j * 4, none⟩ = some (.int .u8 (p1 : Int)) ∧ w5.cell? ⟨b, o + j * 4 + 1, none⟩ = some (.int .u16 (q1 : Int))))
                have HFX := hid (((show FwAt wr (some ⟨b, o, none⟩) fl from .inr ⟨b, o, rfl, HFW.out⟩).grow (World.grownBy_alloc wr (.cells #[.int .u8 (p : Int), .int .u16 (q : Int), .int .u16 (r : Int), .int .u32 (h : Int)] 69) none)).grow G5.out)
                obtain ⟨bf, hbf⟩ : ∃ x, x = wr.heap.size := ⟨_, rfl⟩
                rw [← hbf] at HFB ⊢
                clear hfb hbf e1 e2 e3 e4 q25'
                have hi9 : i ≤ 32 := by omega
                go_loopw [5] (fun v5 wx => CkJ w5 i v5 wx) (fun v5 _ => i - (intOf v5).toNat)
                case atStart => exact ⟨0, Nat.zero_le _, rfl, gr_refl _ _⟩
                case round =>
                  obtain ⟨k, hk, rfl, gx⟩ := hrel
                  by_cases hkl : k < i
                  · obtain ⟨p1, q1, r1, a1, e1, e2⟩ := HFW5.out k (by have := HFL.out; omega)
                    have d1 := gx.cell e1 (by simp)
                    have d2 := gx.cell e2 (by simp)
                    have f0 := (cell_of_block (gr_keep gx HFB.out (by simp)) 0).trans (show _ = some (Value.int .u8 (p : Int)) from rfl)
                    have f1 := (cell_of_block (gr_keep gx HFB.out (by simp)) 1).trans (show _ = some (Value.int .u16 (q : Int)) from rfl)
                    have q25x := (cell_of_block (gr_keep gx HCB5.out (by simp)) 25).trans HC.out.c25
                    try dsimp only at q25x
                    have GX := hid gx
                    have hki : (k : Int) < (fl : Int) := by have := HFL.out; omega
                    have hkn : k < fl := by have := HFL.out; omega
                    clear e1 e2 gx
                    by_cases hpp : (p1 : Int) = (p : Int)
                    · have hpe : ((p1 : Int) == (p : Int)) = true := by simpa using hpp
                      clear hpp
                      by_cases hqq : (q1 : Int) = (q : Int)
                      · have hqe : ((q1 : Int) == (q : Int)) = true := by simpa using hqq
                        clear hqq
                        go_wp2_with fail
                        go_quiet (fail)
                        go_wp2_with fail
                        go_ret
                        exact check_no (gr_trans G6.out (gr_drewN _ GX.out))
                      · have hqe : ((q1 : Int) == (q : Int)) = false := by simpa using hqq
                        clear hqq
                        go_wp2_with fail
                        go_quiet (fail)
                        go_wp2_with fail
                        go_roundw
                        case rel => exact ⟨k + 1, by omega, by go_num, gr_drewN _ GX.out⟩
                        case measure => simp [intOf]; omega
                    · have hpe : ((p1 : Int) == (p : Int)) = false := by simpa using hpp
                      clear hpp
                      go_wp2_with fail
                      go_quiet (fail)
                      go_wp2_with fail
                      go_roundw
                      case rel => exact ⟨k + 1, by omega, by go_num, gr_drewN _ GX.out⟩
                      case measure => simp [intOf]; omega
                  · obtain rfl : k = i := by omega
                    have hcx := gr_keep gx HCB5.out (by simp)
                    have G7 := hid (gr_trans G6.out gx)
                    go_wp2_with fail
                    go_roundw
                    case rel => first
                      | exact ⟨k + 1, by have := HFL.out; omega, by go_num, G7.out, hcx, HFX.out.grow gx⟩
                      | ((repeat apply Exists.intro); exact ⟨⟨k + 1, by have := HFL.out; omega, by go_num, G7.out, hcx, HFX.out.grow gx⟩, rfl⟩)
                    case measure => simp [intOf]; omega
          · have hp7 : ((p : Int) != 6) = true := by simpa using hp6
            clear hp6
            by_cases hp17 : (p : Int) = 17
            · have hp18 : ((p : Int) != 17) = false := by simpa using hp17
              clear hp17
              by_cases hq0 : (q : Int) = 0
              · have hq1 : ((q : Int) == 0) = true := by simpa using hq0
                clear hq0
                go_wp2_with fail
                go_ret
                exact check_no (gr_alloc GW.out _)
              · have hq1 : ((q : Int) == 0) = false := by simpa using hq0
                clear hq0
                by_cases hr0 : (r : Int) = 0
                · have hr1 : ((r : Int) == 0) = true := by simpa using hr0
                  clear hr0
                  go_wp2_with fail
                  go_ret
                  exact check_no (gr_alloc GW.out _)
                · have hr1 : ((r : Int) == 0) = false := by simpa using hr0
                  clear hr0
                  go_wp2_with (first
                    | ((with_reducible refine wpl_load_row_g (o := ⟨some 149, _, _, _, _, _⟩) 28 (.tmp 1) rfl ?hwly bc ?hxly 28 cs (0, 0) _ (hcb4.out _) Tryd.underlying28 ?hdly HSZ28.out ?hmly); (case hwly => rfl); (case hxly => rfl); (case hdly => rfl))
                    | ((with_reducible refine (host_any cs _ h HE5.out HC.out _).mono ?_); rintro e w5 ⟨b4, rfl, g5⟩; have G5 := hid g5; clear g5))
                  all_goals first
                    | (go_ret; exact check_no (gr_trans (gr_alloc GW.out _) G5.out))
                    | skip
                  have hfb := gr_keep G5.out (heap_alloc_new wr (.cells #[.int .u8 (p : Int), .int .u16 (q : Int), .int .u16 (r : Int), .int .u32 (h : Int)] 69)) (by simp)
                  have HFB := hid hfb
                  have HCB5 := hid (gr_keep G5.out (hcb4.out (.cells #[.int .u8 (p : Int), .int .u16 (q : Int), .int .u16 (r : Int), .int .u32 (h : Int)] 69)) (by simp))
                  have G6 := hid (gr_trans (gr_alloc GW.out (.cells #[.int .u8 (p : Int), .int .u16 (q : Int), .int .u16 (r : Int), .int .u32 (h : Int)] 69)) G5.out)
                  have HFW5 := hid (fun j (hj : j < fl) => (HFW.out j hj).imp fun p1 h1 => h1.imp fun q1 h2 => h2.imp fun r1 h3 => h3.imp fun a1 h4 => (⟨G5.out.cell ((World.grownBy_alloc wr _ none).cell h4.1 (by simp)) (by simp), G5.out.cell ((World.grownBy_alloc wr _ none).cell h4.2.1 (by simp)) (by simp)⟩ : w5.cell? ⟨b, o + j * 4, none⟩ = some (.int .u8 (p1 : Int)) ∧ w5.cell? ⟨b, o + j * 4 + 1, none⟩ = some (.int .u16 (q1 : Int))))
                  have HFX := hid (((show FwAt wr (some ⟨b, o, none⟩) fl from .inr ⟨b, o, rfl, HFW.out⟩).grow (World.grownBy_alloc wr (.cells #[.int .u8 (p : Int), .int .u16 (q : Int), .int .u16 (r : Int), .int .u32 (h : Int)] 69) none)).grow G5.out)
                  obtain ⟨bf, hbf⟩ : ∃ x, x = wr.heap.size := ⟨_, rfl⟩
                  rw [← hbf] at HFB ⊢
                  clear hfb hbf e1 e2 e3 e4 q25'
                  have hi9 : i ≤ 32 := by omega
                  go_loopw [5] (fun v5 wx => CkJ w5 i v5 wx) (fun v5 _ => i - (intOf v5).toNat)
                  case atStart => exact ⟨0, Nat.zero_le _, rfl, gr_refl _ _⟩
                  case round =>
                    obtain ⟨k, hk, rfl, gx⟩ := hrel
                    by_cases hkl : k < i
                    · obtain ⟨p1, q1, r1, a1, e1, e2⟩ := HFW5.out k (by have := HFL.out; omega)
                      have d1 := gx.cell e1 (by simp)
                      have d2 := gx.cell e2 (by simp)
                      have f0 := (cell_of_block (gr_keep gx HFB.out (by simp)) 0).trans (show _ = some (Value.int .u8 (p : Int)) from rfl)
                      have f1 := (cell_of_block (gr_keep gx HFB.out (by simp)) 1).trans (show _ = some (Value.int .u16 (q : Int)) from rfl)
                      have q25x := (cell_of_block (gr_keep gx HCB5.out (by simp)) 25).trans HC.out.c25
                      try dsimp only at q25x
                      have GX := hid gx
                      have hki : (k : Int) < (fl : Int) := by have := HFL.out; omega
                      have hkn : k < fl := by have := HFL.out; omega
                      clear e1 e2 gx
                      by_cases hpp : (p1 : Int) = (p : Int)
                      · have hpe : ((p1 : Int) == (p : Int)) = true := by simpa using hpp
                        clear hpp
                        by_cases hqq : (q1 : Int) = (q : Int)
                        · have hqe : ((q1 : Int) == (q : Int)) = true := by simpa using hqq
                          clear hqq
                          go_wp2_with fail
                          go_quiet (fail)
                          go_wp2_with fail
                          go_ret
                          exact check_no (gr_trans G6.out (gr_drewN _ GX.out))
                        · have hqe : ((q1 : Int) == (q : Int)) = false := by simpa using hqq
                          clear hqq
                          go_wp2_with fail
                          go_quiet (fail)
                          go_wp2_with fail
                          go_roundw
                          case rel => exact ⟨k + 1, by omega, by go_num, gr_drewN _ GX.out⟩
                          case measure => simp [intOf]; omega
                      · have hpe : ((p1 : Int) == (p : Int)) = false := by simpa using hpp
                        clear hpp
                        go_wp2_with fail
                        go_quiet (fail)
                        go_wp2_with fail
                        go_roundw
                        case rel => exact ⟨k + 1, by omega, by go_num, gr_drewN _ GX.out⟩
                        case measure => simp [intOf]; omega
                    · obtain rfl : k = i := by omega
                      have hcx := gr_keep gx HCB5.out (by simp)
                      have G7 := hid (gr_trans G6.out gx)
                      go_wp2_with fail
                      go_roundw
                      case rel => first
                        | exact ⟨k + 1, by have := HFL.out; omega, by go_num, G7.out, hcx, HFX.out.grow gx⟩
                        | ((repeat apply Exists.intro); exact ⟨⟨k + 1, by have := HFL.out; omega, by go_num, G7.out, hcx, HFX.out.grow gx⟩, rfl⟩)
                      case measure => simp [intOf]; omega
            · have hp18 : ((p : Int) != 17) = true := by simpa using hp17
              clear hp17
              go_wp2_with fail
              go_ret
              exact check_no (gr_alloc GW.out _)
        · obtain rfl : i = fl := by omega
          go_wp2_with fail
          go_ret
          exact ⟨0, rfl, (fun _ => HB5.out), GW.out⟩
    · have hdz2 : ((dmz : Int) != 0) = true := by simpa using hdz
      clear hdz
      go_wp2_with (first
        | ((with_reducible refine wpl_load_row_g (o := ⟨some 105, _, _, _, _, _⟩) 28 (.tmp 1) rfl ?hwz bc ?hxz 28 cs (0, 0) _ HCB.out Tryd.underlying28 ?hdz9 HSZ28.out ?hmz); (case hwz => rfl); (case hxz => rfl); (case hdz9 => rfl))
        | ((with_reducible refine (host_any cs _ dmz HD.out HC.out _).mono ?_); rintro e w2 ⟨b4, rfl, g2⟩; have hcb2 := gr_keep g2 HCB.out (by simp); have q27x := (cell_of_block hcb2 27).trans HC.out.c27; (try dsimp only at q27x); have G2 := hid (gr_trans G0.out g2); have HCB2 := hid hcb2; clear hcb2 g2)
        | ((with_reducible refine (uuid_any ⟨u.toArray⟩ _ (by rw [Lib.size_eq]; simpa using hu)).mono ?_); rintro e w' ⟨b3, rfl, rfl, hb3⟩; have HB3 := hid hb3; clear hb3))
      all_goals first
        | (go_ret; exact check_no G2.out)
        | skip
      have hb4t : b4 = true := by cases b4 <;> simp_all
      subst hb4t
      clear q27x
      clear HF1 q26 q27 hdz2
      have HF2 := hid (HF.out.grow G2.out)
      try dsimp only at HF2
      have hbt : b3 = true := by cases b3 <;> simp_all
      have HB5 := hid (HB3.out hbt)
      clear HB3
      subst hbt
      rw [Bool.not_true]
      repeat rw [Bool.or_false]
      go_loopw [3] (fun v3 wr => CkI w bc cs fa fl v3 wr) (fun v3 _ => fl - (intOf v3).toNat)
      case atStart => exact ⟨0, Nat.zero_le _, rfl, G2.out, HCB2.out, HF2.out⟩
      case round =>
        obtain ⟨i, hi, rfl, gw, hcb3, hf3⟩ := hrel
        have q25' := (cell_of_block hcb3 25).trans HC.out.c25
        try dsimp only at q25'
        clear q25
        have HCB3 := hid hcb3
        have GW := hid gw
        by_cases hlt : i < fl
        · rcases hf3 with h0 | ⟨b, o, rfl, hfw⟩
          · omega
          obtain ⟨p, q, r, h, e1, e2, e3, e4, e5⟩ := hfw i hlt
          have HFW := hid hfw
          have HFL := hid hlt
          have HE5 := hid e5
          have hii : (i : Int) < (fl : Int) := by omega
          have hcb4 := hid (fun o => gr_keep (World.grownBy_alloc wr o none) HCB3.out (by simp))
          clear hfw hcb3 gw hi HF2 HF e5
          by_cases hp6 : (p : Int) = 6
          · have hp7 : ((p : Int) != 6) = false := by simpa using hp6
            clear hp6
            by_cases hq0 : (q : Int) = 0
            · have hq1 : ((q : Int) == 0) = true := by simpa using hq0
              clear hq0
              go_wp2_with fail
              go_ret
              exact check_no (gr_alloc GW.out _)
            · have hq1 : ((q : Int) == 0) = false := by simpa using hq0
              clear hq0
              by_cases hr0 : (r : Int) = 0
              · have hr1 : ((r : Int) == 0) = true := by simpa using hr0
                clear hr0
                go_wp2_with fail
                go_ret
                exact check_no (gr_alloc GW.out _)
              · have hr1 : ((r : Int) == 0) = false := by simpa using hr0
                clear hr0
                go_wp2_with (first
                  | ((with_reducible refine wpl_load_row_g (o := ⟨some 149, _, _, _, _, _⟩) 28 (.tmp 1) rfl ?hwmx bc ?hxmx 28 cs (0, 0) _ (hcb4.out _) Tryd.underlying28 ?hdmx HSZ28.out ?hmmx); (case hwmx => rfl); (case hxmx => rfl); (case hdmx => rfl))
                  | ((with_reducible refine (host_any cs _ h HE5.out HC.out _).mono ?_); rintro e w5 ⟨b4, rfl, g5⟩; have G5 := hid g5; clear g5))
                all_goals first
                  | (go_ret; exact check_no (gr_trans (gr_alloc GW.out _) G5.out))
                  | skip
                have hfb := gr_keep G5.out (heap_alloc_new wr (.cells #[.int .u8 (p : Int), .int .u16 (q : Int), .int .u16 (r : Int), .int .u32 (h : Int)] 69)) (by simp)
                have HFB := hid hfb
                have HCB5 := hid (gr_keep G5.out (hcb4.out (.cells #[.int .u8 (p : Int), .int .u16 (q : Int), .int .u16 (r : Int), .int .u32 (h : Int)] 69)) (by simp))
                have G6 := hid (gr_trans (gr_alloc GW.out (.cells #[.int .u8 (p : Int), .int .u16 (q : Int), .int .u16 (r : Int), .int .u32 (h : Int)] 69)) G5.out)
                have HFW5 := hid (fun j (hj : j < fl) => (HFW.out j hj).imp fun p1 h1 => h1.imp fun q1 h2 => h2.imp fun r1 h3 => h3.imp fun a1 h4 => (⟨G5.out.cell ((World.grownBy_alloc wr _ none).cell h4.1 (by simp)) (by simp), G5.out.cell ((World.grownBy_alloc wr _ none).cell h4.2.1 (by simp)) (by simp)⟩ : w5.cell? ⟨b, o + j * 4, none⟩ = some (.int .u8 (p1 : Int)) ∧ w5.cell? ⟨b, o + j * 4 + 1, none⟩ = some (.int .u16 (q1 : Int))))
                have HFX := hid (((show FwAt wr (some ⟨b, o, none⟩) fl from .inr ⟨b, o, rfl, HFW.out⟩).grow (World.grownBy_alloc wr (.cells #[.int .u8 (p : Int), .int .u16 (q : Int), .int .u16 (r : Int), .int .u32 (h : Int)] 69) none)).grow G5.out)
                obtain ⟨bf, hbf⟩ : ∃ x, x = wr.heap.size := ⟨_, rfl⟩
                rw [← hbf] at HFB ⊢
                clear hfb hbf e1 e2 e3 e4 q25'
                have hi9 : i ≤ 32 := by omega
                go_loopw [5] (fun v5 wx => CkJ w5 i v5 wx) (fun v5 _ => i - (intOf v5).toNat)
                case atStart => exact ⟨0, Nat.zero_le _, rfl, gr_refl _ _⟩
                case round =>
                  obtain ⟨k, hk, rfl, gx⟩ := hrel
                  by_cases hkl : k < i
                  · obtain ⟨p1, q1, r1, a1, e1, e2⟩ := HFW5.out k (by have := HFL.out; omega)
                    have d1 := gx.cell e1 (by simp)
                    have d2 := gx.cell e2 (by simp)
                    have f0 := (cell_of_block (gr_keep gx HFB.out (by simp)) 0).trans (show _ = some (Value.int .u8 (p : Int)) from rfl)
                    have f1 := (cell_of_block (gr_keep gx HFB.out (by simp)) 1).trans (show _ = some (Value.int .u16 (q : Int)) from rfl)
                    have q25x := (cell_of_block (gr_keep gx HCB5.out (by simp)) 25).trans HC.out.c25
                    try dsimp only at q25x
                    have GX := hid gx
                    have hki : (k : Int) < (fl : Int) := by have := HFL.out; omega
                    have hkn : k < fl := by have := HFL.out; omega
                    clear e1 e2 gx
                    by_cases hpp : (p1 : Int) = (p : Int)
                    · have hpe : ((p1 : Int) == (p : Int)) = true := by simpa using hpp
                      clear hpp
                      by_cases hqq : (q1 : Int) = (q : Int)
                      · have hqe : ((q1 : Int) == (q : Int)) = true := by simpa using hqq
                        clear hqq
                        go_wp2_with fail
                        go_quiet (fail)
                        go_wp2_with fail
                        go_ret
                        exact check_no (gr_trans G6.out (gr_drewN _ GX.out))
                      · have hqe : ((q1 : Int) == (q : Int)) = false := by simpa using hqq
                        clear hqq
                        go_wp2_with fail
                        go_quiet (fail)
                        go_wp2_with fail
                        go_roundw
                        case rel => exact ⟨k + 1, by omega, by go_num, gr_drewN _ GX.out⟩
                        case measure => simp [intOf]; omega
                    · have hpe : ((p1 : Int) == (p : Int)) = false := by simpa using hpp
                      clear hpp
                      go_wp2_with fail
                      go_quiet (fail)
                      go_wp2_with fail
                      go_roundw
                      case rel => exact ⟨k + 1, by omega, by go_num, gr_drewN _ GX.out⟩
                      case measure => simp [intOf]; omega
                  · obtain rfl : k = i := by omega
                    have hcx := gr_keep gx HCB5.out (by simp)
                    have G7 := hid (gr_trans G6.out gx)
                    go_wp2_with fail
                    go_roundw
                    case rel => first
                      | exact ⟨k + 1, by have := HFL.out; omega, by go_num, G7.out, hcx, HFX.out.grow gx⟩
                      | ((repeat apply Exists.intro); exact ⟨⟨k + 1, by have := HFL.out; omega, by go_num, G7.out, hcx, HFX.out.grow gx⟩, rfl⟩)
                    case measure => simp [intOf]; omega
          · have hp7 : ((p : Int) != 6) = true := by simpa using hp6
            clear hp6
            by_cases hp17 : (p : Int) = 17
            · have hp18 : ((p : Int) != 17) = false := by simpa using hp17
              clear hp17
              by_cases hq0 : (q : Int) = 0
              · have hq1 : ((q : Int) == 0) = true := by simpa using hq0
                clear hq0
                go_wp2_with fail
                go_ret
                exact check_no (gr_alloc GW.out _)
              · have hq1 : ((q : Int) == 0) = false := by simpa using hq0
                clear hq0
                by_cases hr0 : (r : Int) = 0
                · have hr1 : ((r : Int) == 0) = true := by simpa using hr0
                  clear hr0
                  go_wp2_with fail
                  go_ret
                  exact check_no (gr_alloc GW.out _)
                · have hr1 : ((r : Int) == 0) = false := by simpa using hr0
                  clear hr0
                  go_wp2_with (first
                    | ((with_reducible refine wpl_load_row_g (o := ⟨some 149, _, _, _, _, _⟩) 28 (.tmp 1) rfl ?hwmy bc ?hxmy 28 cs (0, 0) _ (hcb4.out _) Tryd.underlying28 ?hdmy HSZ28.out ?hmmy); (case hwmy => rfl); (case hxmy => rfl); (case hdmy => rfl))
                    | ((with_reducible refine (host_any cs _ h HE5.out HC.out _).mono ?_); rintro e w5 ⟨b4, rfl, g5⟩; have G5 := hid g5; clear g5))
                  all_goals first
                    | (go_ret; exact check_no (gr_trans (gr_alloc GW.out _) G5.out))
                    | skip
                  have hfb := gr_keep G5.out (heap_alloc_new wr (.cells #[.int .u8 (p : Int), .int .u16 (q : Int), .int .u16 (r : Int), .int .u32 (h : Int)] 69)) (by simp)
                  have HFB := hid hfb
                  have HCB5 := hid (gr_keep G5.out (hcb4.out (.cells #[.int .u8 (p : Int), .int .u16 (q : Int), .int .u16 (r : Int), .int .u32 (h : Int)] 69)) (by simp))
                  have G6 := hid (gr_trans (gr_alloc GW.out (.cells #[.int .u8 (p : Int), .int .u16 (q : Int), .int .u16 (r : Int), .int .u32 (h : Int)] 69)) G5.out)
                  have HFW5 := hid (fun j (hj : j < fl) => (HFW.out j hj).imp fun p1 h1 => h1.imp fun q1 h2 => h2.imp fun r1 h3 => h3.imp fun a1 h4 => (⟨G5.out.cell ((World.grownBy_alloc wr _ none).cell h4.1 (by simp)) (by simp), G5.out.cell ((World.grownBy_alloc wr _ none).cell h4.2.1 (by simp)) (by simp)⟩ : w5.cell? ⟨b, o + j * 4, none⟩ = some (.int .u8 (p1 : Int)) ∧ w5.cell? ⟨b, o + j * 4 + 1, none⟩ = some (.int .u16 (q1 : Int))))
                  have HFX := hid (((show FwAt wr (some ⟨b, o, none⟩) fl from .inr ⟨b, o, rfl, HFW.out⟩).grow (World.grownBy_alloc wr (.cells #[.int .u8 (p : Int), .int .u16 (q : Int), .int .u16 (r : Int), .int .u32 (h : Int)] 69) none)).grow G5.out)
                  obtain ⟨bf, hbf⟩ : ∃ x, x = wr.heap.size := ⟨_, rfl⟩
                  rw [← hbf] at HFB ⊢
                  clear hfb hbf e1 e2 e3 e4 q25'
                  have hi9 : i ≤ 32 := by omega
                  go_loopw [5] (fun v5 wx => CkJ w5 i v5 wx) (fun v5 _ => i - (intOf v5).toNat)
                  case atStart => exact ⟨0, Nat.zero_le _, rfl, gr_refl _ _⟩
                  case round =>
                    obtain ⟨k, hk, rfl, gx⟩ := hrel
                    by_cases hkl : k < i
                    · obtain ⟨p1, q1, r1, a1, e1, e2⟩ := HFW5.out k (by have := HFL.out; omega)
                      have d1 := gx.cell e1 (by simp)
                      have d2 := gx.cell e2 (by simp)
                      have f0 := (cell_of_block (gr_keep gx HFB.out (by simp)) 0).trans (show _ = some (Value.int .u8 (p : Int)) from rfl)
                      have f1 := (cell_of_block (gr_keep gx HFB.out (by simp)) 1).trans (show _ = some (Value.int .u16 (q : Int)) from rfl)
                      have q25x := (cell_of_block (gr_keep gx HCB5.out (by simp)) 25).trans HC.out.c25
                      try dsimp only at q25x
                      have GX := hid gx
                      have hki : (k : Int) < (fl : Int) := by have := HFL.out; omega
                      have hkn : k < fl := by have := HFL.out; omega
                      clear e1 e2 gx
                      by_cases hpp : (p1 : Int) = (p : Int)
                      · have hpe : ((p1 : Int) == (p : Int)) = true := by simpa using hpp
                        clear hpp
                        by_cases hqq : (q1 : Int) = (q : Int)
                        · have hqe : ((q1 : Int) == (q : Int)) = true := by simpa using hqq
                          clear hqq
                          go_wp2_with fail
                          go_quiet (fail)
                          go_wp2_with fail
                          go_ret
                          exact check_no (gr_trans G6.out (gr_drewN _ GX.out))
                        · have hqe : ((q1 : Int) == (q : Int)) = false := by simpa using hqq
                          clear hqq
                          go_wp2_with fail
                          go_quiet (fail)
                          go_wp2_with fail
                          go_roundw
                          case rel => exact ⟨k + 1, by omega, by go_num, gr_drewN _ GX.out⟩
                          case measure => simp [intOf]; omega
                      · have hpe : ((p1 : Int) == (p : Int)) = false := by simpa using hpp
                        clear hpp
                        go_wp2_with fail
                        go_quiet (fail)
                        go_wp2_with fail
                        go_roundw
                        case rel => exact ⟨k + 1, by omega, by go_num, gr_drewN _ GX.out⟩
                        case measure => simp [intOf]; omega
                    · obtain rfl : k = i := by omega
                      have hcx := gr_keep gx HCB5.out (by simp)
                      have G7 := hid (gr_trans G6.out gx)
                      go_wp2_with fail
                      go_roundw
                      case rel => first
                        | exact ⟨k + 1, by have := HFL.out; omega, by go_num, G7.out, hcx, HFX.out.grow gx⟩
                        | ((repeat apply Exists.intro); exact ⟨⟨k + 1, by have := HFL.out; omega, by go_num, G7.out, hcx, HFX.out.grow gx⟩, rfl⟩)
                      case measure => simp [intOf]; omega
            · have hp18 : ((p : Int) != 17) = true := by simpa using hp17
              clear hp17
              go_wp2_with fail
              go_ret
              exact check_no (gr_alloc GW.out _)
        · obtain rfl : i = fl := by omega
          go_wp2_with fail
          go_ret
          exact ⟨0, rfl, (fun _ => HB5.out), GW.out⟩
  · go_wp2_with fail
    go_ret
    exact check_no G0.out
end Go.Proofs.YtnapfecalckajaaDoor
