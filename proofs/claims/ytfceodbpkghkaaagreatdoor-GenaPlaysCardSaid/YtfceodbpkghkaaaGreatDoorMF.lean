/- Texts of one proof, put together: Gmn, Gmo. -/
import Derived.Test.YtfceodbpkghkaaaGreatDoorGmg
import Derived.Test.YtfceodbpkghkaaaGreatDoorSl
import Derived.RegionTactic
/- gena.(*Subs).Drop, All. -/
namespace Go.Proofs.YtfceodbpkghkaaaGreatDoor
open Go.RowKit
set_option linter.unusedVariables false
set_option linter.unusedSimpArgs false

theorem own_take {w : World} {N n : Nat} {T : TypeId} {v : Value} {a : Option Addr} {cap : Nat} {xs : List Value} (h : w.ownsRow N T 1 (.slice a n cap) n xs) (k : Nat) (hk : k ≤ n) : w.ownsRow N T 1 (.slice a k cap) k (xs.take k) := by
  refine ⟨by rw [List.length_take, h.1]; omega, ?_⟩
  rcases h.2 with ⟨e, rfl⟩ | ⟨g, cap', cur, e, hN, hg, h1, h2, h3, h4⟩
  · obtain rfl : k = 0 := by omega
    obtain ⟨rfl, rfl⟩ : a = none ∧ cap = 0 := by simpa using e
    exact .inl ⟨rfl, rfl⟩
  · obtain ⟨rfl, rfl⟩ : a = some ⟨g, 0, none⟩ ∧ cap = cap' := by simpa using e
    refine .inr ⟨g, cap, cur, rfl, hN, hg, by omega, h2, h3, ?_⟩
    rw [← h4, List.take_take]
    congr 1; omega
/-- The list is shortened, and the bound set. -/
theorem PAt.cut {w : World} {N : Nat} {F : Nat → Prop} {B : Nat} {E : List (Nat × Sb)} {most most' : Nat} {a : Option Addr} {cap : Nat} (h : PAt w N F B E most) (hB : w.heap[B]? = some (.cells #[.slice a E.length cap, .int .i64 most] 89 (0, 0)))
    (hm : most' ≤ 9223372036854775807) (k : Nat) (hk : k = min E.length most') :
    PAt ((w.setCell ⟨B, 1, none⟩ (.int .i64 most')).setCell ⟨B, 0, none⟩ (.slice a k cap)) N F B (E.take most') most' ∧ KT TP N w ((w.setCell ⟨B, 1, none⟩ (.int .i64 most')).setCell ⟨B, 0, none⟩ (.slice a k cap)) := by
  obtain ⟨lv, h1, hr⟩ := h.head
  obtain rfl : lv = .slice a E.length cap := by rw [hB] at h1; simpa using h1.symm
  clear h1
  have g1 : w.grownBy (w.setCell ⟨B, 1, none⟩ (.int .i64 most')) (some B) := gr_set (gr_refl _ _)
  have g2 : w.grownBy ((w.setCell ⟨B, 1, none⟩ (.int .i64 most')).setCell ⟨B, 0, none⟩ (.slice a k cap)) (some B) := gr_set g1
  have hB1 : (w.setCell ⟨B, 1, none⟩ (.int .i64 most')).heap[B]? = some (.cells #[.slice a E.length cap, .int .i64 most'] 89 (0, 0)) := by rw [heap_set hB]; rfl
  have k2 : KT TL N w ((w.setCell ⟨B, 1, none⟩ (.int .i64 most')).setCell ⟨B, 0, none⟩ (.slice a k cap)) := KT.of_row g2 hB h.low rfl
  have hlen : (E.take most').length = k := by rw [List.length_take, hk, Nat.min_comm]
  refine ⟨⟨h.low, ⟨.slice a k cap, by rw [heap_set hB1]; rfl, ?_⟩, ?_, fun e he => (h.each e (List.mem_of_mem_take he)).kt2 tl_ta rfl k2, hm, by rw [List.length_take]; omega⟩, k2.mono tl_tp⟩
  · rw [hlen, show (E.take most').map ptV = (E.map ptV).take k by rw [List.map_take, hk, List.take_eq_take_iff]; simp only [List.length_map]; omega]
    exact own_take (v := .nilFunc) (hr.kept g2 (.inr (own_ne_fs hr hB (by decide)).symm)) k (by omega)
  · rw [List.map_take]
    exact h.nodup.sublist (List.take_sublist ..)
theorem dropc_x (N : Nat) (F : Nat → Prop) (d : Nat) (x : Sb) (b : Bool) (f : FuncId) (lb : Array Value) (eg : ∀ args w, (callFunc f args).run Tryz.prog w = .ok (.enter f args) w) (q : Nat) (w : World) (h : PSub w N F d x) (hq : w.cell? ⟨q, 0, none⟩ = some (.func (.func f) #[] lb))
    (hf : ∀ W, w.grownBy W none → Calls Tryz.prog f (#[.int .u32 (x.host : Int)] ++ lb) W fun r w' => r = .returned (.bool b) ∧ W = w') :
    Calls Tryz.prog 93 (#[ptV (d, x)] ++ #[.pointer (some ⟨q, 0, none⟩)]) w fun e w' => e = .returned (.bool b) ∧ w.grownBy w' none := by
  have c1 := h.cells.2.1
  have HF := hid hf
  clear h hf
  obtain ⟨X, hX⟩ : ∃ X, X = x.host := ⟨_, rfl⟩
  rw [← hX] at c1 HF
  clear hX
  unfold ptV
  go_enter Tryz.func93, Tryz.ntmps93
  go_wp2_with fail
  go_region_with (refine (HF.out _ (by (repeat (first | exact gr_refl _ _ | assumption | refine gr_drew ?_ | refine gr_drewN _ ?_ | refine gr_alloc ?_ _ | refine gr_set ?_ | refine gr_set_new ?_ (by first | omega | (simp; omega)))))).mono ?_; rintro r w' ⟨rfl, rfl⟩)
  all_goals
    trace_state
    go_wp2
    trace_state
    go_ret
    exact ⟨rfl, by (repeat (first | exact gr_refl _ _ | assumption | refine gr_drew ?_ | refine gr_drewN _ ?_ | refine gr_alloc ?_ _ | refine gr_set ?_ | refine gr_set_new ?_ (by first | omega | (simp; omega))))⟩
set_option maxRecDepth 20000 in
set_option maxHeartbeats 4000000 in
theorem drop_x (N : Nat) (F : Nat → Prop) (B : Nat) (E : List (Nat × Sb)) (most : Nat) (m' : Int) (hm1 : -9223372036854775808 ≤ m') (hm2 : m' ≤ 9223372036854775807) (p : Nat → Bool) (f : FuncId) (lb : Array Value) (eg : ∀ args w, (callFunc f args).run Tryz.prog w = .ok (.enter f args) w) (w : World) (h : PAt w N F B E most)
    (hp : ∀ lv, w.heap[B]? = some (.cells #[lv, .int .i64 most] 89 (0, 0)) → ∀ W e, w.grownBy W lv.ownBlock → e ∈ E → Calls Tryz.prog f (#[.int .u32 (e.2.host : Int)] ++ lb) W fun r w' => r = .returned (.bool (p e.2.host)) ∧ W = w') :
    Calls Tryz.prog 57 #[.pointer (some ⟨B, 0, none⟩), .int .i64 m', .func (.func f) #[] lb] w fun e w' => e = .returned (.tuple #[]) ∧ PAt w' N F B ((E.filter fun e => p e.2.host).take m'.toNat) m'.toNat ∧ KT TP N w w' := by
  have hmf : ∀ (fn : Fn) (first cap : Array Value) (w : World), (Instr.makeFunc fn first cap).run Tryz.prog w = .ok (.func fn first cap) w := fun _ _ _ _ => rfl
  have nb := heap_alloc_new w (.cells #[.func (.func f) #[] lb] 115)
  have g1 := World.grownBy_alloc w (.cells #[.func (.func f) #[] lb] 115) none
  have hP := h.grow g1
  obtain ⟨lv0, h10, h20⟩ := h.head
  have h11 := gr_keep g1 h10 (by simp)
  have HK := hid (keep_x N F B E most (fun x => p x.host) 93 #[.pointer (some ⟨w.heap.size, 0, none⟩)] (fun _ _ => rfl) _ hP (by
    intro lv h1 W e g he
    obtain ⟨lv', h1', h2'⟩ := hP.head
    obtain rfl : lv = lv' := by rw [h1] at h1'; simpa using h1'
    obtain rfl : lv = lv0 := by rw [h1] at h11; simpa using h11
    refine dropc_x N F e.1 e.2 (p e.2.host) f lb eg w.heap.size W ((hP.each e he).own h2' g) (g.cell ((cell_of_block nb 0).trans rfl) (own_ne_fs h2' nb (by decide))) (fun W' g' => ?_)
    exact hp lv h10 W' e (gr_trans (gr_ge g1 g) (gr_none g')) he))
  have HM := hid (show (max m' 0 : Int) = (m'.toNat : Int) by omega)
  have hm3 : m'.toNat ≤ 9223372036854775807 := by omega
  have hEl : E.length ≤ 9223372036854775807 := by have := h.n; have := h.mo; omega
  clear nb hP h hp h10 h20 h11
  have G1 := hid g1
  clear g1
  go_enter Tryz.func57, Tryz.ntmps57
  go_wp2_with fail
  refine HK.out.mono ?_
  rintro e w2 ⟨rfl, hP, hk⟩
  have HK2 := hid ((KT.of_none G1.out).trans hk)
  clear hk HK G1
  obtain ⟨E2, hE2⟩ : ∃ E2, E2 = List.filter (fun e => p e.2.host) E := ⟨_, rfl⟩
  have hl2 : E2.length ≤ 9223372036854775807 := by rw [hE2]; exact Nat.le_trans (List.length_filter_le _ _) hEl
  have hP2 := hid hP
  rw [← hE2] at hP
  clear hEl
  obtain ⟨lv, h1, h2⟩ := hP.head
  obtain ⟨a, cap, rfl, hcap, -⟩ := PAt.ptr (B := 0) (most := 0) (F := fun _ => True) h2
  have c0 := (cell_of_block h1 0).trans (show _ = some (Value.slice a E2.length cap) from rfl)
  have c1 := (cell_of_block h1 1).trans (show _ = some (Value.int .i64 most) from rfl)
  have f1 := free_of_block h1 1
  have f0 := free_of_block h1 0
  have CUT := hid (fun k hk => hP.cut h1 hm3 k hk)
  obtain ⟨M, hM⟩ : ∃ M, M = m'.toNat := ⟨_, rfl⟩
  rw [← hM] at CUT HM hm3
  clear h1 h2 hP hP2
  have HME := hid (And.intro hM hE2)
  clear hM hE2
  go_wp2_with fail
  rw [HM.out]
  obtain ⟨k, hk⟩ : ∃ k, k = min E2.length M := ⟨_, rfl⟩
  have hmin := hid (show (min (E2.length : Int) (M : Int)) = (k : Int) by omega)
  have hk1 : k ≤ E2.length := by omega
  have hk2 : (k : Int) ≤ (cap : Int) := by omega
  have REL := hid (CUT.out k hk)
  clear hk CUT
  go_region
  rw [hmin.out, Int.toNat_natCast]
  obtain ⟨hM, hE2⟩ := HME.out
  subst hM hE2
  refine bodyPost_end (results_none rfl _ _ _) rfl ?_
  exact ⟨rfl, REL.out.1.grow (by (repeat (first | exact gr_refl _ _ | assumption | refine gr_drew ?_ | refine gr_drewN _ ?_ | refine gr_alloc ?_ _ | refine gr_set ?_ | refine gr_set_new ?_ (by first | omega | (simp; omega))))), (HK2.out.trans REL.out.2).trans (KT.of_none (by (repeat (first | exact gr_refl _ _ | assumption | refine gr_drew ?_ | refine gr_drewN _ ?_ | refine gr_alloc ?_ _ | refine gr_set ?_ | refine gr_set_new ?_ (by first | omega | (simp; omega))))))⟩
end Go.Proofs.YtfceodbpkghkaaaGreatDoor
/- gena.(*Subs).All. -/
namespace Go.Proofs.YtfceodbpkghkaaaGreatDoor
open Go.RowKit
set_option linter.unusedVariables false
set_option linter.unusedSimpArgs false

/-- The blocks that a counting yield writes. -/
def TB (t : TypeId) : Bool := t == 4 || t == 3
theorem ptSize (w : World) : (Go.sizeOf 95).run Tryz.prog w = .ok 1 w := by first | exact Tryz.sizeOf95 w | kernel_rfl
theorem all_x (w : World) (B : Nat) : Calls Tryz.prog 62 #[.pointer (some ⟨B, 0, none⟩)] w fun e w' => e = .returned (.func (.func 95) #[] #[.pointer (some ⟨w.heap.size, 0, none⟩)]) ∧ w'.cell? ⟨w.heap.size, 0, none⟩ = some (.pointer (some ⟨B, 0, none⟩)) ∧ w.grownBy w' none := by
  have hmf : ∀ (fn : Fn) (first cap : Array Value) (w : World), (Instr.makeFunc fn first cap).run Tryz.prog w = .ok (.func fn first cap) w := fun _ _ _ _ => rfl
  go_enter Tryz.func62, Tryz.ntmps62
  go_wp2
  go_ret
  exact ⟨rfl, (cell_of_block (heap_alloc_new w _) 0).trans rfl, by (repeat (first | exact gr_refl _ _ | assumption | refine gr_drew ?_ | refine gr_drewN _ ?_ | refine gr_alloc ?_ _ | refine gr_set ?_ | refine gr_set_new ?_ (by first | omega | (simp; omega))))⟩
def AllR (J : Nat → World → Prop) (n : Nat) (w : World) (vk : Value) (wr : World) : Prop :=
  ∃ k : Nat, vk = .int .i64 k ∧ k ≤ n ∧ KT TB 0 w wr ∧ J k wr
set_option maxRecDepth 20000 in
set_option maxHeartbeats 2000000 in
theorem allc_x (N : Nat) (F : Nat → Prop) (B : Nat) (E : List (Nat × Sb)) (most : Nat) (q : Nat) (w : World) (h : PAt w N F B E most) (hq : w.cell? ⟨q, 0, none⟩ = some (.pointer (some ⟨B, 0, none⟩))) (hn : E.length ≤ 1000000)
    (J : Nat → World → Prop) (Je : World → Prop) (f : FuncId) (lb : Array Value) (eg : ∀ args w, (callFunc f args).run Tryz.prog w = .ok (.enter f args) w) (h0 : ∀ W, w.grownBy W none → J 0 W)
    (hy : ∀ i x W, (E.map (·.2))[i]? = some x → J i W → Calls Tryz.prog f (#[str x.sid] ++ lb) W fun r w' => ∃ b, r = .returned (.bool b) ∧ KT TB 0 W w' ∧ (b = true → J (i + 1) w') ∧ (b = false → Je w')) :
    Calls Tryz.prog 95 #[.func (.func f) #[] lb, .pointer (some ⟨q, 0, none⟩)] w fun e w' => e = .returned (.tuple #[]) ∧ (J E.length w' ∨ Je w') := by
  obtain ⟨lv, h1, h2⟩ := h.head
  obtain ⟨a, cap, rfl, hcap, hc⟩ := PAt.ptr (B := 0) (most := 0) (F := fun _ => True) h2
  have c0 := (cell_of_block h1 0).trans (show _ = some (Value.slice a E.length cap) from rfl)
  have HS := hid (fun (i : Nat) (e : Nat × Sb) (hi : E[i]? = some e) => (h.each e (List.mem_of_getElem? hi)))
  have HCL := hid (show Calls Tryz.prog 96 #[.slice a E.length cap] w fun e w' => ∃ v', e = .returned v' ∧ w'.ownsRow w.heap.size 95 1 v' E.length (E.map ptV) ∧ w.grownBy w' none by
    rcases h2.2 with ⟨e, e0⟩ | ⟨g, cap', cur, e, hN, hg, k1, k2, k3, k4⟩
    · obtain ⟨rfl, -⟩ : a = none ∧ cap = 0 := by simpa [e0] using e
      obtain rfl : E = [] := List.eq_nil_of_length_eq_zero e0
      refine (Tryz.slices_Clone_nil_f96 0 cap w).mono ?_
      rintro e w' ⟨rfl, rfl⟩
      exact ⟨_, rfl, World.ownsRow_nil _ _ _ _, gr_refl _ _⟩
    · obtain ⟨rfl, rfl⟩ : a = some ⟨g, 0, none⟩ ∧ cap = cap' := by simpa using e
      obtain ⟨i0, hi0, hz0, hz1, hz2⟩ := info_parts infoPt
      refine (Tryz.slices_Clone_f96 i0 _ 1 8 hi0 hz0 hz1 hz2 rfl (by omega) ptSize g 0 E.length cap (E.map ptV) w (by simp) (by unfold maxLen; omega) (by omega) (fun j u hu => ?_) (fun u hu => ?_)).mono ?_
      · obtain ⟨b, hb, hcell⟩ := hc j _ (show E[j]? = some _ from (List.getElem?_eq_getElem (by simpa using (List.getElem?_eq_some_iff.1 hu).1)))
        obtain rfl : b = g := by simpa using hb.symm
        rw [Nat.zero_add, hcell]
        have hjl : j < E.length := by simpa using (List.getElem?_eq_some_iff.1 hu).1
        rw [List.getElem?_map, List.getElem?_eq_getElem hjl] at hu
        exact hu
      · obtain ⟨e, -, rfl⟩ := List.mem_map.1 hu
        rfl
      · rintro e w' ⟨v', rfl, ho, -, hb⟩
        exact ⟨v', rfl, ho, gr_of_below hb⟩)
  have HY := hid hy
  have HJ := hid h0
  have HH := hid h
  clear h1 h2 hc hy h0 h
  go_enter Tryz.func95, Tryz.ntmps95
  go_wp2_with fail
  refine HCL.out.mono ?_
  rintro e w1 ⟨v', rfl, hr1, g1⟩
  have HR := hid hr1
  have HJ1 := hid (HJ.out w1 g1)
  have HB1 := hid (fun (i : Nat) (e : Nat × Sb) (hi : E[i]? = some e) => show PSub w1 N F e.1 e.2 from (HS.out i e hi).kt (T := fun _ => false) (fun _ h => by cases h) (KT.of_none g1))
  obtain ⟨a', cap', rfl, -⟩ := PAt.ptr (B := 0) (most := 0) (F := fun _ => True) hr1
  clear hr1 g1 HCL HJ HS HH c0
  go_wp2_with fail
  go_loopw [11] (fun vk wr => AllR J E.length w1 vk wr) (fun vk _ => E.length - (intOf vk).toNat)
  case atStart => exact ⟨0, rfl, Nat.zero_le _, KT.refl _, HJ1.out⟩
  case round =>
    obtain ⟨k, rfl, hk, kt, hj⟩ := hrel
    have HKT := hid kt
    have HJK := hid hj
    clear kt hj
    by_cases hkl : k < E.length
    · obtain ⟨e, hek⟩ : ∃ e, E[k]? = some e := ⟨_, List.getElem?_eq_getElem hkl⟩
      have hrk : wr.ownsRow w.heap.size 95 1 (.slice a' E.length cap') E.length (E.map ptV) := by
        refine ⟨HR.out.1, ?_⟩
        rcases HR.out.2 with h | ⟨g, c, cur, e1, e2, e3, e4⟩
        · exact .inl h
        · exact .inr ⟨g, c, cur, e1, e2, HKT.out.of_type e3 rfl, e4⟩
      obtain ⟨a2, c2, e2, -, hc2⟩ := PAt.ptr (B := 0) (most := 0) (F := fun _ => True) hrk
      obtain ⟨rfl, rfl⟩ : a' = a2 ∧ cap' = c2 := by simpa using e2
      obtain ⟨b, rfl, hcell⟩ := hc2 k e hek
      obtain ⟨-, lv, hb, -⟩ := HB1.out k e hek
      have hcs := (cell_of_block (HKT.out.of_type hb rfl) 0).trans (show _ = some (str e.2.sid) from rfl)
      have HF := hid (HY.out k e.2 wr (by rw [List.getElem?_map, hek]; rfl) HJK.out)
      obtain ⟨sd, hsd⟩ : ∃ sd, sd = e.2.sid := ⟨_, rfl⟩
      rw [← hsd] at hcs HF
      unfold str at hcs HF
      clear hek hrk hc2 hb hsd e2
      go_wp2_with fail
      refine HF.out.mono ?_
      rintro r w2 ⟨b, rfl, k2, ht, hf⟩
      have K2 := hid (HKT.out.trans k2)
      have HT := hid ht
      have HFF := hid hf
      clear k2 ht hf hcell hcs HF
      cases b
      · go_wp2
        refine bodyPost_ret (results_none rfl _ _ _) rfl ?_
        exact ⟨rfl, .inr (HFF.out (by trivial))⟩
      · go_wp2_with fail
        go_roundw
        case rel => exact ⟨k + 1, by go_num, by omega, K2.out, HT.out trivial⟩
        case measure =>
          show E.length - ((k : Int) + 1).toNat < E.length - (k : Int).toNat
          omega
    · obtain rfl : k = E.length := by omega
      go_wp2
      first
        | (go_ret; exact ⟨rfl, .inl HJK.out⟩)
        | (refine bodyPost_end (results_none rfl _ _ _) rfl ?_; exact ⟨rfl, .inl HJK.out⟩)
end Go.Proofs.YtfceodbpkghkaaaGreatDoor
