/- (*octet.Eye).Bytes of no bytes. -/
import Derived.Test.YtjpkmbgpkdomnaaDoorEy3
namespace Go.Proofs.YtjpkmbgpkdomnaaDoor
open Go.RowKit

theorem eye_end0 {w w2 : World} {p c : Nat} {a : Option Addr} {bad : Bool} {v2 : Value} (hc : c ≤ maxLen)
    (B2 : w2.heap[p]? = some (.cells #[.slice a 0 c, .bool bad] 97 (0, 0))) (hv2 : Bytes w2 v2 []) (GW : w.grownBy w2 none) (k : Nat) (a' : Option Addr) :
    Bytes (w2.setCell ⟨p, 0, none⟩ (.slice a' 0 c)) v2 [] ∧ EyeAt k (w2.setCell ⟨p, 0, none⟩ (.slice a' 0 c)) p [] bad ∧ w.grownBy (w2.setCell ⟨p, 0, none⟩ (.slice a' 0 c)) (some p) := by
  have gs : w2.grownBy (w2.setCell ⟨p, 0, none⟩ (.slice a' 0 c)) (some p) := gr_set (gr_refl w2 (some p))
  refine ⟨?_, ⟨a', c, ?_, ⟨_, c, rfl, by simp, hc, fun h => absurd rfl h⟩, fun b o _ h => by simp at h⟩, gr_trans (gr_none GW) gs⟩
  · obtain ⟨va, vc, rfl, h1, h2, h3⟩ := hv2
    exact ⟨va, vc, rfl, h1, h2, fun h => absurd rfl h⟩
  · rw [heap_set B2]; simp
set_option maxRecDepth 20000 in
set_option maxHeartbeats 4000000 in
theorem eye_bytes0 (k p : Nat) (bad : Bool) (w : World) (hE : EyeAt k w p [] bad) :
    Calls Tryd.prog 52 #[.pointer (some ⟨p, 0, none⟩), .int .i64 0] w (EyePost k w p [] [] bad) := by
  obtain ⟨a, c, hh, hb, hne⟩ := hE
  have hcc := hb.at
  have hpart := hb.part 0 (Nat.le_refl _)
  have hcl := fun W (g : w.grownBy W none) => clone_far [] (.slice a 0 c) w W g (hpart.grown g) (by simp)
  have hcp : c ≤ 9223372036854775807 := hcc.2.2.1
  have HB := hid hb
  have HH := hid hh
  have Hcl := hid hcl
  have k0 := (cell_of_block hh 0).trans (show _ = some (Value.slice a 0 c) from rfl)
  have f0 := free_of_block hh 0
  have hlt := lt_of_block hh
  have Hcm := hid hcc.2.2.1
  clear hb hcc hpart hcl hh hne
  have i1 : (0 : Int) ≤ (c : Int) := by omega
  by_cases hc0 : c = 0
  · subst hc0
    cases a
    all_goals
      go_enter Tryd.func52, Tryd.ntmps52
      go_wp2_with fail
      go_region_with (go_at_call 66; refine (Hcl.out _ (by (repeat (first | exact gr_refl _ _ | assumption | refine gr_drew ?_ | refine gr_drewN _ ?_ | refine gr_alloc ?_ _ | refine gr_set ?_ | refine gr_set_new ?_ (by first | omega | (simp; omega)))))).mono ?_; rintro e w2 ⟨v2, rfl, hv2, hf2, g2⟩; have GW := gr_trans (by (repeat (first | exact gr_refl _ _ | assumption | refine gr_drew ?_ | refine gr_drewN _ ?_ | refine gr_alloc ?_ _ | refine gr_set ?_ | refine gr_set_new ?_ (by first | omega | (simp; omega)))) : w.grownBy _ none) g2; have B2 := gr_keep GW HH.out (by simp); have q0 := (cell_of_block B2 0).trans (show _ = some (Value.slice _ 0 0) from rfl); have qf := free_of_block B2 0; have qlt := lt_of_block B2)
      all_goals
        obtain ⟨r1, r2, r3⟩ := eye_end0 Hcm.out B2 hv2 GW k _
        go_wp2
        go_ret
        exact ⟨v2, rfl, r1, r2, r3, hf2⟩
  · have i2 : (0 : Int) < (c : Int) := by omega
    cases a
    all_goals
      go_enter Tryd.func52, Tryd.ntmps52
      go_wp2_with fail
      go_region_with (go_at_call 66; refine (Hcl.out _ (by (repeat (first | exact gr_refl _ _ | assumption | refine gr_drew ?_ | refine gr_drewN _ ?_ | refine gr_alloc ?_ _ | refine gr_set ?_ | refine gr_set_new ?_ (by first | omega | (simp; omega)))))).mono ?_; rintro e w2 ⟨v2, rfl, hv2, hf2, g2⟩; have GW := gr_trans (by (repeat (first | exact gr_refl _ _ | assumption | refine gr_drew ?_ | refine gr_drewN _ ?_ | refine gr_alloc ?_ _ | refine gr_set ?_ | refine gr_set_new ?_ (by first | omega | (simp; omega)))) : w.grownBy _ none) g2; have B2 := gr_keep GW HH.out (by simp); have q0 := (cell_of_block B2 0).trans (show _ = some (Value.slice _ 0 c) from rfl); have qf := free_of_block B2 0; have qlt := lt_of_block B2)
      all_goals
        obtain ⟨r1, r2, r3⟩ := eye_end0 Hcm.out B2 hv2 GW k _
        go_wp2
        go_ret
        exact ⟨v2, rfl, r1, r2, r3, hf2⟩
end Go.Proofs.YtjpkmbgpkdomnaaDoor
