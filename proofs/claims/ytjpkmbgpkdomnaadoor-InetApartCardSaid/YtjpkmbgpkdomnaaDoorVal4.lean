/- The walk of ValueWrites. -/
import Derived.Test.YtjpkmbgpkdomnaaDoorVal3
import Derived.Lib.ItoaLen
namespace Go.Proofs.YtjpkmbgpkdomnaaDoor
open Go.RowKit

theorem vspeaks_true (w : World) : Calls Tryd.prog 13 #[] w fun e w' => e = .returned (.bool true) ∧ w.grownBy w' none := by
  go_enter Tryd.func13, Tryd.ntmps13
  go_wp2_with fail
  refine (num_any ⟨#[48, 48, 55]⟩ 65535 w (by decide)).mono ?_
  rintro e w1 ⟨rfl, g1⟩
  rw [show vnum 65535 (ByteArray.mk #[48, 48, 55]).data.toList = (7, true) by decide +kernel]
  go_wp2_with fail
  refine (flag_any ⟨#[84, 114, 117, 101]⟩ w1).mono ?_
  rintro e w2 ⟨rfl, rfl⟩
  rw [show flagR (ByteArray.mk #[84, 114, 117, 101]).data.toList = (false, false) by decide +kernel]
  go_wp2
  go_ret
  exact ⟨rfl, g1⟩
theorem flag_yes (b : Bool) : flagR (yesR b) = (b, true) := by cases b <;> decide
theorem proto_way (p : Int) : protoR (wayR p) = (if p = 6 then (6, true) else if p = 17 then (17, true) else (0, false)) := by
  unfold wayR
  split
  · decide
  · split <;> decide
def P10 (w : World) : Prop := Lib.TabIs Tryd.prog w "internal/strconv.uint64pow10" .u64 Lib.pow10Tab
theorem P10.grown {w w' : World} (h : P10 w) (g : w.grownBy w' none) : P10 w' := by
  unfold P10 Lib.TabIs World.var? at *
  cases hg : Tryd.prog.globalNamed "internal/strconv.uint64pow10" with
  | none => simp [hg] at h
  | some i =>
    simp only [hg, Option.bind_some] at h ⊢
    have hlt : i < w.heap.size := by
      rcases Nat.lt_or_ge i w.heap.size with h' | h'
      · exact h'
      · simp [Array.getElem?_eq_none h'] at h
    rw [g.block i hlt (by simp)]
    exact h
theorem bnat (n : Nat) (hn : n < 18446744073709551616) : (n : Int) ≤ mostI := by unfold mostI; omega
theorem pow_nd (n : Nat) : 1 ≤ n → 10 ^ (Lib.nDigits n - 1) ≤ n := by
  induction n using Nat.strongRecOn with
  | _ n ih =>
    intro h
    by_cases h10 : n < 10
    · rw [Lib.nDigits_small h10]; exact h
    · have := ih (n / 10) (by omega) (by omega)
      have hp := Lib.nDigits_pos (n / 10)
      rw [Lib.nDigits_big h10, Nat.add_sub_cancel]
      obtain ⟨j, hj⟩ : ∃ j, Lib.nDigits (n / 10) = j + 1 := ⟨Lib.nDigits (n / 10) - 1, by omega⟩
      rw [hj] at this ⊢
      rw [Nat.add_sub_cancel] at this
      rw [Nat.pow_succ]; omega
theorem vnum_own (n : Nat) (hn : n < 18446744073709551616) : vnum mostI (Lib.decDigits n) = if n < 10000000000 then ((n : Int), true) else (0, false) := by
  have hne : Lib.decDigits n ≠ [] := by
    by_cases h : n < 10
    · rw [dd_small h]; simp
    · rw [dd_big h]; simp
  have hlen : (Lib.decDigits n).length ≤ 10 ↔ n < 10000000000 := by
    rw [Lib.decDigits_length]
    constructor
    · intro h
      have h2 := Lib.lt_pow_nDigits n
      have h3 : 10 ^ Lib.nDigits n ≤ 10 ^ 10 := Nat.pow_le_pow_right (by omega) h
      omega
    · intro h
      by_cases h1 : 1 ≤ n
      · have := pow_nd n h1
        rcases Nat.lt_or_ge 10 (Lib.nDigits n) with h4 | h4
        · have h3 : 10 ^ 10 ≤ 10 ^ (Lib.nDigits n - 1) := Nat.pow_le_pow_right (by omega) (by omega)
          omega
        · exact h4
      · obtain rfl : n = 0 := by omega
        decide +kernel
  unfold vnum
  by_cases h : n < 10000000000
  · rw [if_neg (by rintro (h' | h'); exact hne h'; have := hlen.2 h; omega), dgo_digits, if_pos h, dFin, if_neg (by have := bnat n hn; omega)]
  · rw [if_pos (.inr (by rcases Nat.lt_or_ge 10 (Lib.decDigits n).length with h' | h'; exact h'; exact absurd (hlen.1 h') h)), if_neg h]
set_option maxRecDepth 20000 in
set_option maxHeartbeats 4000000 in
theorem value_writes_walk (n : Nat) (hn : n < 18446744073709551616) (b : Bool) (p : Int) (w : World) (h10 : P10 w) :
    Calls Tryd.prog 3 #[.int .u64 n, .bool b, .int .u8 p] w fun e w' => e = .returned (.bool true) ∧ w.grownBy w' none := by
  have hv := vnum_own n hn
  have T := hid (fun W (h : P10 W) => text_any n hn W h)
  have RT := hid (fun W => rtext_any n hn W)
  have Nm := fun W => num_any ⟨(Lib.decDigits n).toArray⟩ mostI W (by
    have : (Lib.decDigits n).length ≤ 20 := by rw [Lib.decDigits_length]; exact Lib.nDigits_le20 n hn
    rw [Lib.size_eq]; simp; omega)
  rw [show (ByteArray.mk (Lib.decDigits n).toArray).data.toList = Lib.decDigits n from rfl, hv] at Nm
  have NM := hid Nm
  have Fl := fun W => flag_any ⟨(yesR b).toArray⟩ W
  rw [show (ByteArray.mk (yesR b).toArray).data.toList = yesR b from rfl, flag_yes] at Fl
  have FL := hid Fl
  have Pr := fun W => proto_any ⟨(wayR p).toArray⟩ W
  rw [show (ByteArray.mk (wayR p).toArray).data.toList = wayR p from rfl, proto_way] at Pr
  have PR := hid Pr
  clear Nm Fl Pr hv
  have H10 := hid h10
  clear h10
  generalize hdd : Lib.decDigits n = dd at *
  clear hdd
  have hlt : ((n : Int) < 10000000000) ↔ n < 10000000000 := by omega
  have Hn := hid hn
  clear hn
  by_cases hs : n < 10000000000
  · rw [if_pos hs] at NM
    have hs' : (n : Int) < 10000000000 := by omega
    by_cases q1 : p = 6
    · subst q1
      clear hs hlt
      go_enter Tryd.func3, Tryd.ntmps3
      go_wp2_with fail
      refine (vspeaks_true w).mono ?_
      rintro e w1 ⟨rfl, g1⟩
      go_wp2_with fail
      refine (T.out w1 (H10.out.grown g1)).mono ?_
      rintro e w2 ⟨rfl, g2⟩
      unfold str
      go_wp2_with fail
      refine (NM.out w2).mono ?_
      rintro e w3 ⟨rfl, g3⟩
      go_wp2_with fail
      refine (yes_any b w3).mono ?_
      rintro e w4 ⟨rfl, rfl⟩
      unfold str
      go_wp2_with fail
      refine (FL.out w3).mono ?_
      rintro e w4 ⟨rfl, rfl⟩
      go_wp2_with fail
      refine (way_any _ w3).mono ?_
      rintro e w4 ⟨rfl, rfl⟩
      unfold str
      go_wp2_with fail
      refine (PR.out w3).mono ?_
      rintro e w4 ⟨rfl, rfl⟩
      have G3 := gr_trans (gr_trans g1 g2) g3
      go_wp2_with fail
      refine (T.out w3 (H10.out.grown G3)).mono ?_
      rintro e w4 ⟨rfl, g4⟩
      unfold str
      go_wp2_with fail
      refine (RT.out w4).mono ?_
      rintro e w5 ⟨rfl, g5⟩
      unfold str
      have G5 := gr_trans (gr_trans G3 g4) g5
      clear g1 g2 g3 g4 g5
      go_wp2_with fail
      refine (yes_any b w5).mono ?_
      rintro e w6 ⟨rfl, rfl⟩
      unfold str
      go_wp2_with fail
      refine (ryes_any b w5).mono ?_
      rintro e w6 ⟨rfl, rfl⟩
      unfold str
      go_wp2_with fail
      refine (way_any _ w5).mono ?_
      rintro e w6 ⟨rfl, rfl⟩
      unfold str
      go_wp2_with fail
      refine (rway_any _ w5).mono ?_
      rintro e w6 ⟨rfl, rfl⟩
      unfold str
      cases b
      all_goals
        go_wp2
        go_ret
        exact ⟨rfl, G5⟩
    · by_cases q2 : p = 17
      · subst q2
        clear hs hlt
        go_enter Tryd.func3, Tryd.ntmps3
        go_wp2_with fail
        refine (vspeaks_true w).mono ?_
        rintro e w1 ⟨rfl, g1⟩
        go_wp2_with fail
        refine (T.out w1 (H10.out.grown g1)).mono ?_
        rintro e w2 ⟨rfl, g2⟩
        unfold str
        go_wp2_with fail
        refine (NM.out w2).mono ?_
        rintro e w3 ⟨rfl, g3⟩
        go_wp2_with fail
        refine (yes_any b w3).mono ?_
        rintro e w4 ⟨rfl, rfl⟩
        unfold str
        go_wp2_with fail
        refine (FL.out w3).mono ?_
        rintro e w4 ⟨rfl, rfl⟩
        go_wp2_with fail
        refine (way_any _ w3).mono ?_
        rintro e w4 ⟨rfl, rfl⟩
        unfold str
        go_wp2_with fail
        refine (PR.out w3).mono ?_
        rintro e w4 ⟨rfl, rfl⟩
        have G3 := gr_trans (gr_trans g1 g2) g3
        go_wp2_with fail
        refine (T.out w3 (H10.out.grown G3)).mono ?_
        rintro e w4 ⟨rfl, g4⟩
        unfold str
        go_wp2_with fail
        refine (RT.out w4).mono ?_
        rintro e w5 ⟨rfl, g5⟩
        unfold str
        have G5 := gr_trans (gr_trans G3 g4) g5
        clear g1 g2 g3 g4 g5
        go_wp2_with fail
        refine (yes_any b w5).mono ?_
        rintro e w6 ⟨rfl, rfl⟩
        unfold str
        go_wp2_with fail
        refine (ryes_any b w5).mono ?_
        rintro e w6 ⟨rfl, rfl⟩
        unfold str
        go_wp2_with fail
        refine (way_any _ w5).mono ?_
        rintro e w6 ⟨rfl, rfl⟩
        unfold str
        go_wp2_with fail
        refine (rway_any _ w5).mono ?_
        rintro e w6 ⟨rfl, rfl⟩
        unfold str
        cases b
        all_goals
          go_wp2
          go_ret
          exact ⟨rfl, G5⟩
      · rw [if_neg q1, if_neg q2] at PR
        have q1' : (p == 6) = false := by simpa using q1
        have q2' : (p == 17) = false := by simpa using q2
        clear q1 q2
        skip
        clear hs hlt
        go_enter Tryd.func3, Tryd.ntmps3
        go_wp2_with fail
        refine (vspeaks_true w).mono ?_
        rintro e w1 ⟨rfl, g1⟩
        go_wp2_with fail
        refine (T.out w1 (H10.out.grown g1)).mono ?_
        rintro e w2 ⟨rfl, g2⟩
        unfold str
        go_wp2_with fail
        refine (NM.out w2).mono ?_
        rintro e w3 ⟨rfl, g3⟩
        go_wp2_with fail
        refine (yes_any b w3).mono ?_
        rintro e w4 ⟨rfl, rfl⟩
        unfold str
        go_wp2_with fail
        refine (FL.out w3).mono ?_
        rintro e w4 ⟨rfl, rfl⟩
        go_wp2_with fail
        refine (way_any _ w3).mono ?_
        rintro e w4 ⟨rfl, rfl⟩
        unfold str
        go_wp2_with fail
        refine (PR.out w3).mono ?_
        rintro e w4 ⟨rfl, rfl⟩
        have G3 := gr_trans (gr_trans g1 g2) g3
        go_wp2_with fail
        refine (T.out w3 (H10.out.grown G3)).mono ?_
        rintro e w4 ⟨rfl, g4⟩
        unfold str
        go_wp2_with fail
        refine (RT.out w4).mono ?_
        rintro e w5 ⟨rfl, g5⟩
        unfold str
        have G5 := gr_trans (gr_trans G3 g4) g5
        clear g1 g2 g3 g4 g5
        go_wp2_with fail
        refine (yes_any b w5).mono ?_
        rintro e w6 ⟨rfl, rfl⟩
        unfold str
        go_wp2_with fail
        refine (ryes_any b w5).mono ?_
        rintro e w6 ⟨rfl, rfl⟩
        unfold str
        go_wp2_with fail
        refine (way_any _ w5).mono ?_
        rintro e w6 ⟨rfl, rfl⟩
        unfold str
        go_wp2_with fail
        refine (rway_any _ w5).mono ?_
        rintro e w6 ⟨rfl, rfl⟩
        unfold str
        cases b
        all_goals
          go_wp2
          go_ret
          exact ⟨rfl, G5⟩
  · rw [if_neg hs] at NM
    have hs' : (10000000000 : Int) ≤ (n : Int) := by omega
    have hd : decide ((n : Int) < 10000000000) = false := decide_eq_false (by omega)
    by_cases q1 : p = 6
    · subst q1
      clear hs hlt
      go_enter Tryd.func3, Tryd.ntmps3
      go_wp2_with fail
      refine (vspeaks_true w).mono ?_
      rintro e w1 ⟨rfl, g1⟩
      go_wp2_with fail
      refine (T.out w1 (H10.out.grown g1)).mono ?_
      rintro e w2 ⟨rfl, g2⟩
      unfold str
      go_wp2_with fail
      refine (NM.out w2).mono ?_
      rintro e w3 ⟨rfl, g3⟩
      go_wp2_with fail
      refine (yes_any b w3).mono ?_
      rintro e w4 ⟨rfl, rfl⟩
      unfold str
      go_wp2_with fail
      refine (FL.out w3).mono ?_
      rintro e w4 ⟨rfl, rfl⟩
      go_wp2_with fail
      refine (way_any _ w3).mono ?_
      rintro e w4 ⟨rfl, rfl⟩
      unfold str
      go_wp2_with fail
      refine (PR.out w3).mono ?_
      rintro e w4 ⟨rfl, rfl⟩
      have G3 := gr_trans (gr_trans g1 g2) g3
      go_wp2_with fail
      refine (T.out w3 (H10.out.grown G3)).mono ?_
      rintro e w4 ⟨rfl, g4⟩
      unfold str
      go_wp2_with fail
      refine (RT.out w4).mono ?_
      rintro e w5 ⟨rfl, g5⟩
      unfold str
      have G5 := gr_trans (gr_trans G3 g4) g5
      clear g1 g2 g3 g4 g5
      go_wp2_with fail
      refine (yes_any b w5).mono ?_
      rintro e w6 ⟨rfl, rfl⟩
      unfold str
      go_wp2_with fail
      refine (ryes_any b w5).mono ?_
      rintro e w6 ⟨rfl, rfl⟩
      unfold str
      go_wp2_with fail
      refine (way_any _ w5).mono ?_
      rintro e w6 ⟨rfl, rfl⟩
      unfold str
      go_wp2_with fail
      refine (rway_any _ w5).mono ?_
      rintro e w6 ⟨rfl, rfl⟩
      unfold str
      cases b
      all_goals
        go_wp2
        go_ret
        exact ⟨rfl, G5⟩
    · by_cases q2 : p = 17
      · subst q2
        clear hs hlt
        go_enter Tryd.func3, Tryd.ntmps3
        go_wp2_with fail
        refine (vspeaks_true w).mono ?_
        rintro e w1 ⟨rfl, g1⟩
        go_wp2_with fail
        refine (T.out w1 (H10.out.grown g1)).mono ?_
        rintro e w2 ⟨rfl, g2⟩
        unfold str
        go_wp2_with fail
        refine (NM.out w2).mono ?_
        rintro e w3 ⟨rfl, g3⟩
        go_wp2_with fail
        refine (yes_any b w3).mono ?_
        rintro e w4 ⟨rfl, rfl⟩
        unfold str
        go_wp2_with fail
        refine (FL.out w3).mono ?_
        rintro e w4 ⟨rfl, rfl⟩
        go_wp2_with fail
        refine (way_any _ w3).mono ?_
        rintro e w4 ⟨rfl, rfl⟩
        unfold str
        go_wp2_with fail
        refine (PR.out w3).mono ?_
        rintro e w4 ⟨rfl, rfl⟩
        have G3 := gr_trans (gr_trans g1 g2) g3
        go_wp2_with fail
        refine (T.out w3 (H10.out.grown G3)).mono ?_
        rintro e w4 ⟨rfl, g4⟩
        unfold str
        go_wp2_with fail
        refine (RT.out w4).mono ?_
        rintro e w5 ⟨rfl, g5⟩
        unfold str
        have G5 := gr_trans (gr_trans G3 g4) g5
        clear g1 g2 g3 g4 g5
        go_wp2_with fail
        refine (yes_any b w5).mono ?_
        rintro e w6 ⟨rfl, rfl⟩
        unfold str
        go_wp2_with fail
        refine (ryes_any b w5).mono ?_
        rintro e w6 ⟨rfl, rfl⟩
        unfold str
        go_wp2_with fail
        refine (way_any _ w5).mono ?_
        rintro e w6 ⟨rfl, rfl⟩
        unfold str
        go_wp2_with fail
        refine (rway_any _ w5).mono ?_
        rintro e w6 ⟨rfl, rfl⟩
        unfold str
        cases b
        all_goals
          go_wp2
          go_ret
          exact ⟨rfl, G5⟩
      · rw [if_neg q1, if_neg q2] at PR
        have q1' : (p == 6) = false := by simpa using q1
        have q2' : (p == 17) = false := by simpa using q2
        clear q1 q2
        skip
        clear hs hlt
        go_enter Tryd.func3, Tryd.ntmps3
        go_wp2_with fail
        refine (vspeaks_true w).mono ?_
        rintro e w1 ⟨rfl, g1⟩
        go_wp2_with fail
        refine (T.out w1 (H10.out.grown g1)).mono ?_
        rintro e w2 ⟨rfl, g2⟩
        unfold str
        go_wp2_with fail
        refine (NM.out w2).mono ?_
        rintro e w3 ⟨rfl, g3⟩
        go_wp2_with fail
        refine (yes_any b w3).mono ?_
        rintro e w4 ⟨rfl, rfl⟩
        unfold str
        go_wp2_with fail
        refine (FL.out w3).mono ?_
        rintro e w4 ⟨rfl, rfl⟩
        go_wp2_with fail
        refine (way_any _ w3).mono ?_
        rintro e w4 ⟨rfl, rfl⟩
        unfold str
        go_wp2_with fail
        refine (PR.out w3).mono ?_
        rintro e w4 ⟨rfl, rfl⟩
        have G3 := gr_trans (gr_trans g1 g2) g3
        go_wp2_with fail
        refine (T.out w3 (H10.out.grown G3)).mono ?_
        rintro e w4 ⟨rfl, g4⟩
        unfold str
        go_wp2_with fail
        refine (RT.out w4).mono ?_
        rintro e w5 ⟨rfl, g5⟩
        unfold str
        have G5 := gr_trans (gr_trans G3 g4) g5
        clear g1 g2 g3 g4 g5
        go_wp2_with fail
        refine (yes_any b w5).mono ?_
        rintro e w6 ⟨rfl, rfl⟩
        unfold str
        go_wp2_with fail
        refine (ryes_any b w5).mono ?_
        rintro e w6 ⟨rfl, rfl⟩
        unfold str
        go_wp2_with fail
        refine (way_any _ w5).mono ?_
        rintro e w6 ⟨rfl, rfl⟩
        unfold str
        go_wp2_with fail
        refine (rway_any _ w5).mono ?_
        rintro e w6 ⟨rfl, rfl⟩
        unfold str
        cases b
        all_goals
          go_wp2
          go_ret
          exact ⟨rfl, G5⟩
end Go.Proofs.YtjpkmbgpkdomnaaDoor
