/- http.keep: its closures; slices.ContainsFunc with them. -/
import Derived.Test.YtldbcdiomkkinaaGreatDoorHt9
namespace Go.Proofs.YtldbcdiomkkinaaGreatDoor
open Go.RowKit

theorem same_http (s t : List UInt8) (w : World) (hs : s.length ≤ 1000000) (ht : t.length ≤ 1000000) :
    Calls Tryz.prog 82 #[.string ⟨s.toArray⟩, .string ⟨t.toArray⟩] w fun e w' => e = .returned (.bool (sameL s t)) ∧ w.grownBy w' none :=
  same_any ⟨s.toArray⟩ ⟨t.toArray⟩ w (by rw [Lib.size_eq]; simp; omega) (by rw [Lib.size_eq]; simp; omega)
set_option maxHeartbeats 1000000 in
theorem inner_http (s t : List UInt8) (p : Nat) (w : World) (hs : s.length ≤ 1000000) (ht : t.length ≤ 1000000) (hp : w.cell? ⟨p, 0, none⟩ = some (.string ⟨t.toArray⟩)) :
    Calls Tryz.prog 85 #[.string ⟨s.toArray⟩, .pointer (some ⟨p, 0, none⟩)] w fun e w' => e = .returned (.bool (sameL s t)) ∧ w.grownBy w' none := by
  go_enter Tryz.func85, Tryz.ntmps85
  go_wp2_with fail
  refine (same_http s t w hs ht).mono ?_
  rintro e w' ⟨rfl, g⟩
  obtain ⟨q, hq⟩ : ∃ q, q = sameL s t := ⟨_, rfl⟩
  rw [← hq]
  have HQ := hid hq
  clear hq
  go_wp2_with fail
  go_ret
  exact ⟨by rw [← HQ.out]; rfl, g⟩
def IfR (xs : List (List UInt8)) (t : List UInt8) (w : World) (vk : Value) (wr : World) : Prop :=
  ∃ k : Nat, vk = .int .i64 k ∧ k ≤ xs.length ∧ w.grownBy wr none ∧ ∀ j x, xs[j]? = some x → j < k → sameL x t = false
set_option maxRecDepth 20000 in
set_option maxHeartbeats 2000000 in
theorem indexfunc_http (xs : List (List UInt8)) (t : List UInt8) (v : Value) (p : Nat) (w : World) (h : SAt w v xs) (hn : xs.length ≤ 200000) (hx : ∀ x ∈ xs, x.length ≤ 1000000) (ht : t.length ≤ 1000000) (hp : w.cell? ⟨p, 0, none⟩ = some (.string ⟨t.toArray⟩)) :
    Calls Tryz.prog 99 #[v, .func (Fn.func 85) #[] #[.pointer (some ⟨p, 0, none⟩)]] w fun e w' => ∃ i : Int, e = .returned (.int .i64 i) ∧ decide (0 ≤ i) = xs.any (fun x => sameL x t) ∧ w.grownBy w' none := by
  obtain ⟨a, cap, rfl, hcap, hc⟩ := h
  have HC := hid hc
  have HX := hid hx
  clear hc hx
  go_enter Tryz.func99, Tryz.ntmps99
  go_wp2_with fail
  go_loopw [8] (fun vk wr => IfR xs t w vk wr) (fun vk _ => xs.length - (intOf vk).toNat)
  case atStart => exact ⟨0, rfl, Nat.zero_le _, gr_refl _ _, fun j x _ h => absurd h (Nat.not_lt_zero _)⟩
  case round =>
    obtain ⟨k, rfl, hk, gw, hno⟩ := hrel
    have HNO := hid hno
    clear hno
    by_cases hkl : k < xs.length
    · obtain ⟨x, hxk⟩ : ∃ x, xs[k]? = some x := ⟨_, List.getElem?_eq_getElem hkl⟩
      obtain ⟨g, rfl, hcell⟩ := HC.out k x hxk
      have hcell2 := gw.cell hcell (by simp)
      have hp2 := gw.cell hp (by simp)
      have hxl := HX.out x (List.mem_of_getElem? hxk)
      have HXK := hid hxk
      clear hxk hcell
      unfold str at hcell2
      go_wp2_with fail
      refine (inner_http x t p wr hxl ht hp2).mono ?_
      rintro e w2 ⟨rfl, g2⟩
      have GW := hid (gr_trans gw g2)
      cases hsm : sameL x t
      · have HSM := hid hsm
        clear hsm
        go_wp2_with fail
        go_roundw
        case rel =>
          refine ⟨k + 1, by go_num, by omega, GW.out, fun j x' hj hlt => ?_⟩
          rcases Nat.lt_succ_iff_lt_or_eq.1 hlt with h1 | rfl
          · exact HNO.out j x' hj h1
          · rw [HXK.out] at hj
            obtain rfl := Option.some.inj hj
            exact HSM.out
        case measure => simp [intOf]; omega
      · have hany : xs.any (fun x => sameL x t) = true := List.any_eq_true.2 ⟨x, List.mem_of_getElem? HXK.out, hsm⟩
        have HA := hid hany
        clear hsm hany
        go_wp2_with fail
        go_ret
        exact ⟨k, rfl, by rw [HA.out]; simp, GW.out⟩
    · have hany : xs.any (fun x => sameL x t) = false := by
        rw [List.any_eq_false]
        intro x hx
        obtain ⟨j, hj⟩ := List.getElem?_of_mem hx
        rw [HNO.out j x hj (by have := (List.getElem?_eq_some_iff.1 hj).1; omega)]
        simp
      have HA := hid hany
      clear hany
      go_wp2_with fail
      go_ret
      exact ⟨-1, rfl, by rw [HA.out]; rfl, gw⟩
theorem containsfunc_http (xs : List (List UInt8)) (t : List UInt8) (v : Value) (p : Nat) (w : World) (h : SAt w v xs) (hn : xs.length ≤ 200000) (hx : ∀ x ∈ xs, x.length ≤ 1000000) (ht : t.length ≤ 1000000) (hp : w.cell? ⟨p, 0, none⟩ = some (.string ⟨t.toArray⟩)) :
    Calls Tryz.prog 84 #[v, .func (Fn.func 85) #[] #[.pointer (some ⟨p, 0, none⟩)]] w fun e w' => e = .returned (.bool (xs.any (fun x => sameL x t))) ∧ w.grownBy w' none := by
  have HI := hid (indexfunc_http xs t v p w h hn hx ht hp)
  obtain ⟨a, cap, rfl, -, -⟩ := h
  go_enter Tryz.func84, Tryz.ntmps84
  go_wp2_with fail
  refine HI.out.mono ?_
  rintro e w' ⟨i, rfl, hi, g⟩
  have HI2 := hid hi
  clear hi
  go_wp2_with fail
  go_ret
  exact ⟨by rw [← HI2.out]; rfl, g⟩
end Go.Proofs.YtldbcdiomkkinaaGreatDoor
