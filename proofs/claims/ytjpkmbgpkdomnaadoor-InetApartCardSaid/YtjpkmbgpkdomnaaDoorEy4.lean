/- hearthref01's Eye: Bytes, Num. -/
import Derived.Test.YtjpkmbgpkdomnaaDoorEy3
import Derived.Deep.RegionHeld3
import Derived.Deep.RegionLawGrows
namespace Go.Proofs.YtjpkmbgpkdomnaaDoor
open Go.RowKit

def REyeAt (w : World) (p : Nat) (l : List UInt8) (i : Nat) (bad : Bool) : Prop := ∃ a c, w.heap[p]? = some (.cells #[.slice a l.length c, .int .i64 i, .bool bad] 78 (0, 0)) ∧ Bytes w (.slice a l.length c) l ∧ (∀ b o, a = some ⟨b, o, none⟩ → 0 < l.length → b ≠ p)
def REyePost (w : World) (p : Nat) (t l : List UInt8) (i : Nat) (bad : Bool) (e : Ending) (w' : World) : Prop := ∃ v, e = .returned v ∧ Bytes w' v t ∧ REyeAt w' p l i bad ∧ w.grownBy w' (some p)
theorem eye_far3 {w : World} {p : Nat} {x y z : Value} {t : TypeId} (h : w.heap[p]? = some (.cells #[x, y, z] t (0, 0))) (hx : ∀ n, x ≠ .int .u8 n) (hy : ∀ n, y ≠ .int .u8 n) (hz : ∀ n, z ≠ .int .u8 n) {a : Option Addr} {n c : Nat} {l : List UInt8} (hb : Bytes w (.slice a n c) l) :
    ∀ b o, a = some ⟨b, o, none⟩ → 0 < l.length → b ≠ p := fun b o e hl => by
  obtain ⟨b', o', e2, hc⟩ := hb.cellAt hl
  rw [e] at e2
  simp only [Option.some.injEq, Addr.mk.injEq, and_true] at e2
  obtain ⟨rfl, rfl⟩ := e2
  have h0 := hc 0 hl
  intro e3
  subst e3
  rw [cell_of_block h] at h0
  match o, h0 with
  | 0, h0 => simp at h0; exact hx _ h0
  | 1, h0 => simp at h0; exact hy _ h0
  | 2, h0 => simp at h0; exact hz _ h0
  | o + 3, h0 => simp at h0
theorem reye_end {w w2 : World} {p c i n : Nat} {a : Option Addr} {l t : List UInt8} {bad : Bool} {v2 : Value} (hb : Bytes w (.slice a l.length c) l) (hbp : ∀ b o, a = some ⟨b, o, none⟩ → 0 < l.length → b ≠ p)
    (B2 : w2.heap[p]? = some (.cells #[.slice a l.length c, .int .i64 i, .bool bad] 78 (0, 0))) (hv2 : Bytes w2 v2 t) (GW : w.grownBy w2 none) :
    Bytes (w2.setCell ⟨p, 1, none⟩ (.int .i64 (n : Int))) v2 t ∧ REyeAt (w2.setCell ⟨p, 1, none⟩ (.int .i64 (n : Int))) p l n bad ∧ w.grownBy (w2.setCell ⟨p, 1, none⟩ (.int .i64 (n : Int))) (some p) := by
  have gs : w2.grownBy (w2.setCell ⟨p, 1, none⟩ (.int .i64 (n : Int))) (some p) := gr_set (gr_refl w2 (some p))
  refine ⟨?_, ⟨a, c, ?_, ?_, hbp⟩, gr_trans (gr_none GW) gs⟩
  · obtain ⟨va, vc, rfl, h1, h2, h3⟩ := hv2
    have hv : Bytes w2 (.slice va t.length vc) t := ⟨va, vc, rfl, h1, h2, h3⟩
    exact hv.kept gs (eye_far3 B2 (by simp) (by simp) (by simp) hv)
  · rw [heap_set B2]; simp
  · exact (hb.grown GW).kept gs hbp
theorem part_cells {w : World} {b o m c : Nat} {l : List UInt8} (h : Bytes w (.slice (some ⟨b, o, none⟩) m c) l) (i n : Nat) (hn : i + n ≤ l.length) : ∀ W, w.grownBy W none → ∀ j u, (((l.drop i).take n).map bv)[j]? = some u → W.cell? (Addr.add ⟨b, o + i, none⟩ j) = some u := fun W g j u hu => by
  have hj : j < n := by have := (List.getElem?_eq_some_iff.1 hu).1; simp at this; omega
  obtain ⟨b', o', e, hc⟩ := h.cellAt (by omega)
  simp only [Option.some.injEq, Addr.mk.injEq, and_true] at e
  obtain ⟨rfl, rfl⟩ := e
  rw [Go.WideShapes.add_plain, Nat.add_assoc, g.cell (hc (i + j) (by omega)) (by simp)]
  rw [List.getElem?_map, List.getElem?_take, if_pos hj, List.getElem?_drop, List.getElem?_eq_getElem (by omega)] at hu
  rw [List.getD_eq_getElem?_getD, List.getElem?_eq_getElem (by omega)]
  exact hu
set_option maxRecDepth 20000 in
set_option maxHeartbeats 4000000 in
theorem reye_bytes (p : Nat) (l : List UInt8) (bad : Bool) (i n : Nat) (w : World) (hE : REyeAt w p l i bad) (hn1 : 1 ≤ n) (hn : i + n ≤ l.length) (hl : l.length ≤ 100000) :
    Calls Tryd.prog 67 #[.pointer (some ⟨p, 0, none⟩), .int .i64 n] w (REyePost w p ((l.drop i).take n) l (i + n) bad) := by
  obtain ⟨i0, hi, hz0, hz1, hz2⟩ := info_parts infoU8
  obtain ⟨a, c, hh, hb, hne⟩ := hE
  obtain ⟨b, o, rfl, hcb⟩ := hb.cellAt (by omega)
  have hcc := hb.at
  have hcp : c ≤ 9223372036854775807 := hcc.2.2.1
  have hlc : l.length ≤ c := hcc.2.1
  have HB := hid hb
  have HH := hid hh
  have Hne := hid hne
  have HCB := hid hcb
  have k0 := (cell_of_block hh 0).trans (show _ = some (Value.slice (some ⟨b, o, none⟩) l.length c) from rfl)
  have k1 := (cell_of_block hh 1).trans (show _ = some (Value.int .i64 i) from rfl)
  have f1 := free_of_block hh 1
  have hlt := lt_of_block hh
  clear hb hcc hh hne hcb
  have z1 : (0 : Int) ≤ (i : Int) := by omega
  have z2 : (i : Int) ≤ (c : Int) := by omega
  have z3 : (i : Int) < (c : Int) := by omega
  have z4 : (i : Int) + (n : Int) ≤ (l.length : Int) := by omega
  have z5 : (i : Int) + (n : Int) ≤ (c : Int) := by omega
  have z6 : (i : Int) ≤ (i : Int) + (n : Int) := by omega
  have z7 : (0 : Int) ≤ (i : Int) + (n : Int) := by omega
  have z8 : IntKind.i64.wrap ((i : Int) + (n : Int)) = (i : Int) + (n : Int) := IntWalk.i64_in _ (by omega)
  have z9 : IntKind.i64.wrap ((l.length : Int) - (i : Int)) = (l.length : Int) - (i : Int) := IntWalk.i64_in _ (by omega)
  go_enter Tryd.func67, Tryd.ntmps67
  have hN := hid (part_cells (HB.out) i n hn)
  have hNl := hid (show (((l.drop i).take n).map bv).length = n * 1 by simp; omega)
  have hN1 := hid (show ∀ u ∈ ((l.drop i).take n).map bv, u.oneCell' = true from fun u hu => by
    obtain ⟨x, _, rfl⟩ := List.mem_map.1 hu; rfl)
  have hnp : 0 < n := hn1
  have hnn : 0 + n ≤ maxLen ∧ (0 + n) * 1 ≤ 140737488355328 := by unfold maxLen; omega
  have HNN := hid hnn
  clear hnn
  go_wp2_with fail
  go_quiet (fail)
  go_wp2_with fail
  go_region_held3 (fun w' => w'.cell? ⟨p, 0, none⟩ = some (.slice (some ⟨b, o, none⟩) l.length c) ∧ w'.cell? ⟨p, 1, none⟩ = some (.int .i64 i)) (first | go_keep | exact ⟨by assumption, by assumption⟩)
    (first | (refine step_append_grows rfl (.tmp 33) (.tmp 48) 45 rfl 5 i0 _ 1 1 Tryd.underlying45 hi hz0 hz1 hz2 rfl (by decide) _ 0 0 [] rfl (by simp) rfl (by intro _ _ j u h; simp at h) ⟨b, o + i, none⟩ n (c - i) (((l.drop i).take n).map bv) (by simp [Act.eval]; exact ⟨fun h => by omega, by omega⟩) hNl.out (hN.out _ (by (repeat (first | exact gr_refl _ _ | assumption | refine gr_drew ?_ | refine gr_drewN _ ?_ | refine gr_alloc ?_ _ | refine gr_set ?_ | refine gr_set_new ?_ (by first | omega | (simp; omega)))))) hN1.out (Nat.lt_of_lt_of_eq hnp (Nat.zero_add n).symm) HNN.out.1 HNN.out.2 ?_; intro v2 w2 hown g2; have GW := gr_trans (by (repeat (first | exact gr_refl _ _ | assumption | refine gr_drew ?_ | refine gr_drewN _ ?_ | refine gr_alloc ?_ _ | refine gr_set ?_ | refine gr_set_new ?_ (by first | omega | (simp; omega)))) : w.grownBy _ none) g2; have q0 := GW.cell k0 (by simp); have q1 := GW.cell k1 (by simp)))
  all_goals
    rw [Nat.zero_add, List.nil_append] at hown
    have hlt2 := (gr_keep GW HH.out (by simp))
    have B2 := hid hlt2
    have qf := free_of_block hlt2 1
    have qlt := lt_of_block hlt2
    clear hlt2 z8 z9
    have hv2 : Bytes w2 v2 ((l.drop i).take n) := bytes_of_own hown
    obtain ⟨r1, r2, r3⟩ := reye_end (n := i + n) HB.out Hne.out B2.out hv2 GW
    have hsum : ((i + n : Nat) : Int) = (i : Int) + (n : Int) := by omega
    rw [hsum] at r1 r2 r3
    go_wp2
    go_ret
    exact ⟨v2, rfl, r1, r2, r3⟩
end Go.Proofs.YtjpkmbgpkdomnaaDoor
