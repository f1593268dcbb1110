/- hearthref17.space. -/
import Derived.Test.YtmofnoconhgjmaaGreatDoorXmi
namespace Go.Proofs.YtmofnoconhgjmaaGreatDoor
open Go.RowKit
set_option linter.unusedVariables false
set_option linter.unusedSimpArgs false

def bn0 : Bs × Bs := ([], [])
/-- Prefixes' spaces as a slice, in their order. -/
def BnAt (w : World) (v : Value) (L : List (Bs × Bs)) : Prop := ∃ a c, v = .slice a L.length c ∧ ∀ i, i < L.length → ∃ g o, a = some ⟨g, o, none⟩ ∧ w.cell? ⟨g, o + i * 2, none⟩ = some (.string ⟨(L.getD i bn0).1.toArray⟩) ∧ w.cell? ⟨g, o + i * 2 + 1, none⟩ = some (.string ⟨(L.getD i bn0).2.toArray⟩)
theorem BnAt.grow {w w' : World} {v : Value} {L : List (Bs × Bs)} (h : BnAt w v L) (g : w.grownBy w' none) : BnAt w' v L := by
  obtain ⟨a, c, rfl, h⟩ := h
  exact ⟨a, c, rfl, fun i hi => by obtain ⟨k, o, rfl, h1, h2⟩ := h i hi; exact ⟨k, o, rfl, g.cell h1 (by simp), g.cell h2 (by simp)⟩⟩
set_option maxRecDepth 20000 in
set_option maxHeartbeats 2000000 in
theorem space_r (v : Value) (L : List (Bs × Bs)) (p : Bs) (w : World) (h : BnAt w v L) (hl : L.length ≤ 1000000) :
    Calls Tryz.prog 123 #[v, .string ⟨p.toArray⟩] w fun e w' => e = .returned (.tuple #[str (spcL L.reverse p).1, .bool (spcL L.reverse p).2]) ∧ w = w' := by
  obtain ⟨R, hR⟩ : ∃ R, R = spcL L.reverse p := ⟨_, rfl⟩
  rw [← hR]
  have HR := hid hR
  obtain ⟨a, c, rfl, hc⟩ := h
  have HC := hid hc
  clear hR hc
  have hw : IntKind.i64.wrap ((L.length : Int) - 1) = (L.length : Int) - 1 := IntWalk.i64_in _ (by omega)
  go_enter Tryz.func123, Tryz.ntmps123
  go_wp2_with fail
  go_loop [6] (fun v6 => ∃ k : Nat, v6 = .int .i64 ((k : Int) - 1) ∧ k ≤ L.length ∧ Hid (R = spcL (L.take k).reverse p)) (fun v6 => (intOf v6 + 1).toNat)
  case atStart => exact ⟨L.length, rfl, Nat.le_refl _, by rw [List.take_length]; exact HR.out⟩
  case round =>
    obtain ⟨k, rfl, hk, hr⟩ := hrel
    clear hw
    cases k with
    | zero =>
      have hfin := hid (show R = ([], decide (p = [])) from hr.out)
      have q1 : p.isEmpty = decide (p = []) := by cases p <;> rfl
      generalize decide (p = []) = d at *
      go_wp2
      ((try simp only [Exit.inBlock, Exit.then]); refine bodyPost_ret (results_tmp2 rfl _ _ _) rfl ?_)
      rw [hfin.out]
      exact ⟨rfl, rfl⟩
    | succ k =>
      obtain ⟨g, o, rfl, c0, c1⟩ := HC.out k (by omega)
      have hr' := hr.out
      have htk : L.take (k + 1) = L.take k ++ [L.getD k bn0] := by
        rw [List.take_succ_eq_append_getElem (by omega), List.getD_eq_getElem?_getD, List.getElem?_eq_getElem (by omega)]; rfl
      rw [htk, List.reverse_append, List.reverse_cons, List.reverse_nil, List.nil_append, List.singleton_append, spcL_cons] at hr'
      generalize L.getD k bn0 = x at *
      obtain ⟨x1, x2⟩ := x
      simp only at c0 c1 hr'
      have hkk : ((k + 1 : Nat) : Int) - 1 = (k : Int) := by omega
      rw [hkk]
      have HKK := hid hkk
      have hk1 : (k : Int) < (L.length : Int) := by omega
      clear hkk htk hr
      by_cases hx : x1 = p
      · have q1 : (x1 == p) = true := by rw [beq_dec, decide_eq_true hx]
        have hfin := hid (show R = (x2, true) by rw [hr', if_pos hx])
        clear hx hr'
        go_wp2
        ((try simp only [Exit.inBlock, Exit.then]); refine bodyPost_ret (results_tmp2 rfl _ _ _) rfl ?_)
        rw [hfin.out]
        exact ⟨rfl, rfl⟩
      · have q1 : (x1 == p) = false := by rw [beq_dec, decide_eq_false hx]
        have hfin := hid (show R = spcL (L.take k).reverse p by rw [hr', if_neg hx])
        clear hx hr'
        go_wp2
        go_round
        case rel => exact ⟨k, rfl, by omega, hfin⟩
        case measure => simp [intOf]
end Go.Proofs.YtmofnoconhgjmaaGreatDoor
