/- hearthref15.Number: it computes numR too. -/
import Derived.Test.YtfceodbpkghkaaaGreatDoorHead2
namespace Go.Proofs.YtfceodbpkghkaaaGreatDoor
open Go.RowKit

/-- A byte as a small letter. -/
def smI (c : UInt8) : Int := if (65 : Int) ≤ (c.toNat : Int) ∧ (c.toNat : Int) ≤ 90 then (c.toNat : Int) + 32 else (c.toNat : Int)
theorem small_any (c : UInt8) (w : World) :
    Calls Tryz.prog 70 #[.int .u8 (c.toNat : Int)] w fun e w' => e = .returned (.int .u8 (smI c)) ∧ w = w' := by
  have hb := UInt8.toNat_lt c
  unfold smI
  by_cases h1 : (65 : Int) ≤ (c.toNat : Int)
  · by_cases h2 : (c.toNat : Int) ≤ 90
    · rw [if_pos ⟨h1, h2⟩]
      go_enter Tryz.func70, Tryz.ntmps70
      go_wp2
      go_ret
      exact ⟨rfl, rfl⟩
    · rw [if_neg (by omega)]
      go_enter Tryz.func70, Tryz.ntmps70
      go_wp2
      go_ret
      exact ⟨rfl, rfl⟩
  · rw [if_neg (by omega)]
    go_enter Tryz.func70, Tryz.ntmps70
    go_wp2
    go_ret
    exact ⟨rfl, rfl⟩
theorem smI_bd : ∀ c, 0 ≤ smI c ∧ smI c ≤ 255 := all_bytes (by decide +kernel)
theorem val10 : ∀ c, (48 ≤ smI c ∧ smI c ≤ 57 ∧ valN c = smI c - 48) ∨ (¬ (48 ≤ smI c ∧ smI c ≤ 57) ∧ 10 ≤ valN c) := all_bytes (by decide +kernel)
theorem val16 : ∀ c, (48 ≤ smI c ∧ smI c ≤ 57 ∧ valN c = smI c - 48) ∨ (97 ≤ smI c ∧ smI c ≤ 102 ∧ valN c = smI c - 87) ∨ (¬ (48 ≤ smI c ∧ smI c ≤ 57) ∧ ¬ (97 ≤ smI c ∧ smI c ≤ 102) ∧ 16 ≤ valN c) := all_bytes (by decide +kernel)
set_option maxHeartbeats 2000000 in
theorem rnumber_any (s : ByteArray) (base most : Int) (w : World) (hs : s.size ≤ 9223372036854775807) :
    Calls Tryz.prog 32 #[.string s, .int .i64 base, .int .i64 most] w fun e w' =>
      e = .returned (.tuple #[.int .i64 (numR base most s.data.toList).1, .bool (numR base most s.data.toList).2]) ∧ w.grownBy w' none := by
  obtain ⟨l, hl⟩ : ∃ l, l = s.data.toList := ⟨_, rfl⟩
  have hlen : s.size = l.length := by rw [hl, ← Lib.size_eq]
  rw [← hl]
  have Hl := hid hl
  clear hl
  by_cases h2 : l = []
  · have R := hid (show numR base most l = (0, false) by rw [numR, if_pos (.inl h2)])
    rw [R.out]
    have hs0 : s.size < 1 := by rw [hlen, h2]; simp
    clear hlen h2
    go_enter Tryz.func32, Tryz.ntmps32
    go_wp2
    go_ret2
    exact ⟨rfl, by (repeat (first | exact gr_refl _ _ | assumption | refine gr_drew ?_ | refine gr_drewN _ ?_ | refine gr_alloc ?_ _ | refine gr_set ?_ | refine gr_set_new ?_ (by first | omega | (simp; omega))))⟩
  have hs0 : 1 ≤ s.size := by rw [hlen]; exact List.length_pos_iff.2 h2
  by_cases h3 : 7 < l.length
  · have R := hid (show numR base most l = (0, false) by rw [numR, if_pos (.inr (.inl h3))])
    rw [R.out]
    have h3' : 7 < s.size := by omega
    clear h2 h3 hlen
    go_enter Tryz.func32, Tryz.ntmps32
    go_wp2
    go_ret2
    exact ⟨rfl, by (repeat (first | exact gr_refl _ _ | assumption | refine gr_drew ?_ | refine gr_drewN _ ?_ | refine gr_alloc ?_ _ | refine gr_set ?_ | refine gr_set_new ?_ (by first | omega | (simp; omega))))⟩
  have h3' : s.size ≤ 7 := by omega
  by_cases h4 : base ≠ 10 ∧ base ≠ 16
  · have R := hid (show numR base most l = (0, false) by rw [numR, if_pos (.inr (.inr h4))])
    rw [R.out]
    have b1 : (base != 10) = true := by simpa using h4.1
    have b2 : (base != 16) = true := by simpa using h4.2
    clear h2 h3 hlen h4
    go_enter Tryz.func32, Tryz.ntmps32
    go_wp2
    go_ret2
    exact ⟨rfl, by (repeat (first | exact gr_refl _ _ | assumption | refine gr_drew ?_ | refine gr_drewN _ ?_ | refine gr_alloc ?_ _ | refine gr_set ?_ | refine gr_set_new ?_ (by first | omega | (simp; omega))))⟩
  have hb : base = 10 ∨ base = 16 := by omega
  have R := hid (show numR base most l = numFin most (numGo base 0 l) by rw [numR, if_neg (by rintro (h | h | h); exact h2 h; exact h3 h; exact h4 h)])
  rw [R.out]
  clear h2 h4
  have Hlen := hid hlen
  clear hlen h3
  rcases hb with rfl | rfl
  · go_enter Tryz.func32, Tryz.ntmps32
    go_wp2_with fail
    go_loop [8, 9] (fun vn vk => ∃ (k : Nat) (n : Int), k ≤ s.size ∧ vk = .int .i64 k ∧ vn = .int .i64 n ∧ 0 ≤ n ∧ n + 1 ≤ pw k ∧ Hid (numGo 10 0 l = numGo 10 n (l.drop k))) (fun _ vk => s.size - (intOf vk).toNat)
    case atStart => exact ⟨0, 0, Nat.zero_le _, rfl, rfl, by omega, by decide, rfl⟩
    case round =>
      obtain ⟨k, n, hk, rfl, rfl, n0, n1, hgo⟩ := hrel
      have pk := pw_le k (by omega)
      by_cases hlt : k < s.size
      · have hc : s[k]'hlt = l.getD k 0 := by rw [strAt, ← Hl.out]
        have hd := hid (numGo_drop (base := 10) (n := n) (l := l) (k := k) (by rw [← Hlen.out]; exact hlt))
        generalize l.getD k 0 = c at hc hd
        have vb := smI_bd c
        have hva := small_any c w
        have hcase := val10 c
        obtain ⟨v, hv⟩ : ∃ v, v = valN c := ⟨_, rfl⟩
        have Hv := hid hv
        rw [← hv] at hcase
        generalize smI c = m at hva vb hcase
        have Hva := hid hva
        clear hv hva
        have hgo2 : ¬ 10 ≤ v → Hid (numGo 10 0 l = numGo 10 (10 * n + v) (l.drop (k + 1))) := fun hvb => by
          show numGo 10 0 l = _
          rw [hgo.out, hd.out, ← Hv.out, if_neg hvb, Int.mul_comm]
        have R0 : 10 ≤ v → Hid (numGo 10 0 l = none) := fun hvb => by
          show numGo 10 0 l = _
          rw [hgo.out, hd.out, ← Hv.out, if_pos hvb]
        have hpk : pw (k + 1) = 16 * pw k := rfl
        generalize hp1 : pw (k + 1) = p1 at *
        have P1 := hid hp1
        clear hp1
        generalize pw k = p0 at *
        rcases hcase with ⟨a1, a2, hv⟩ | ⟨a1, a2⟩
        · have hg := hgo2 (by omega)
          have n2 : 10 * n + v + 1 ≤ p1 := by omega
          clear R0 hgo2 hgo
          subst hv
          clear hpk
          go_wp2_with fail
          refine Hva.out.mono ?_
          rintro e w2 ⟨rfl, rfl⟩
          go_wp2
          go_round
          case rel => exact ⟨k + 1, _, by omega, by go_num, rfl, by omega, by rw [P1.out]; omega, by first | exact hg | (rw [show 10 + (m - 97) = m - 87 by omega]; exact hg)⟩
          case measure => simp [intOf]; omega
        · by_cases a3 : m < 48
          · have R2 := R0 (by omega)
            clear R0 hgo2 hgo hpk
            go_wp2_with fail
            refine Hva.out.mono ?_
            rintro e w2 ⟨rfl, rfl⟩
            go_wp2
            go_ret2
            exact ⟨by rw [R2.out]; rfl, gr_refl _ _⟩
          · have a4 : 57 < m := by omega
            have R2 := R0 (by omega)
            clear R0 hgo2 hgo hpk
            go_wp2_with fail
            refine Hva.out.mono ?_
            rintro e w2 ⟨rfl, rfl⟩
            go_wp2
            go_ret2
            exact ⟨by rw [R2.out]; rfl, gr_refl _ _⟩
      · have hke : k = l.length := by have := Hlen.out; omega
        have R2 := hid (show numGo 10 0 l = some n by rw [hgo.out, hke]; simp [numGo])
        clear hke
        by_cases hm : most < n
        · have R3 := hid (show numFin most (some n) = (0, false) by rw [numFin, if_pos hm])
          go_wp2
          go_ret2
          exact ⟨by rw [R2.out, R3.out]; rfl, gr_refl _ _⟩
        · have R3 := hid (show numFin most (some n) = (n, true) by rw [numFin, if_neg hm])
          go_wp2
          go_ret2
          exact ⟨by rw [R2.out, R3.out]; rfl, gr_refl _ _⟩
  · go_enter Tryz.func32, Tryz.ntmps32
    go_wp2_with fail
    go_loop [8, 9] (fun vn vk => ∃ (k : Nat) (n : Int), k ≤ s.size ∧ vk = .int .i64 k ∧ vn = .int .i64 n ∧ 0 ≤ n ∧ n + 1 ≤ pw k ∧ Hid (numGo 16 0 l = numGo 16 n (l.drop k))) (fun _ vk => s.size - (intOf vk).toNat)
    case atStart => exact ⟨0, 0, Nat.zero_le _, rfl, rfl, by omega, by decide, rfl⟩
    case round =>
      obtain ⟨k, n, hk, rfl, rfl, n0, n1, hgo⟩ := hrel
      have pk := pw_le k (by omega)
      by_cases hlt : k < s.size
      · have hc : s[k]'hlt = l.getD k 0 := by rw [strAt, ← Hl.out]
        have hd := hid (numGo_drop (base := 16) (n := n) (l := l) (k := k) (by rw [← Hlen.out]; exact hlt))
        generalize l.getD k 0 = c at hc hd
        have vb := smI_bd c
        have hva := small_any c w
        have hcase := val16 c
        obtain ⟨v, hv⟩ : ∃ v, v = valN c := ⟨_, rfl⟩
        have Hv := hid hv
        rw [← hv] at hcase
        generalize smI c = m at hva vb hcase
        have Hva := hid hva
        clear hv hva
        have hgo2 : ¬ 16 ≤ v → Hid (numGo 16 0 l = numGo 16 (16 * n + v) (l.drop (k + 1))) := fun hvb => by
          show numGo 16 0 l = _
          rw [hgo.out, hd.out, ← Hv.out, if_neg hvb, Int.mul_comm]
        have R0 : 16 ≤ v → Hid (numGo 16 0 l = none) := fun hvb => by
          show numGo 16 0 l = _
          rw [hgo.out, hd.out, ← Hv.out, if_pos hvb]
        have hpk : pw (k + 1) = 16 * pw k := rfl
        generalize hp1 : pw (k + 1) = p1 at *
        have P1 := hid hp1
        clear hp1
        generalize pw k = p0 at *
        rcases hcase with ⟨a1, a2, hv⟩ | ⟨a1, a2, hv⟩ | ⟨a1, a2, a22⟩
        · have hg := hgo2 (by omega)
          have n2 : 16 * n + v + 1 ≤ p1 := by omega
          clear R0 hgo2 hgo
          subst hv
          clear hpk
          go_wp2_with fail
          refine Hva.out.mono ?_
          rintro e w2 ⟨rfl, rfl⟩
          go_wp2
          go_round
          case rel => exact ⟨k + 1, _, by omega, by go_num, rfl, by omega, by rw [P1.out]; omega, by first | exact hg | (rw [show 10 + (m - 97) = m - 87 by omega]; exact hg)⟩
          case measure => simp [intOf]; omega
        · have hg := hgo2 (by omega)
          have n2 : 16 * n + v + 1 ≤ p1 := by omega
          clear R0 hgo2 hgo
          subst hv
          clear hpk
          go_wp2_with fail
          refine Hva.out.mono ?_
          rintro e w2 ⟨rfl, rfl⟩
          go_wp2
          go_round
          case rel => exact ⟨k + 1, _, by omega, by go_num, rfl, by omega, by rw [P1.out]; omega, by first | exact hg | (rw [show 10 + (m - 97) = m - 87 by omega]; exact hg)⟩
          case measure => simp [intOf]; omega
        · by_cases a3 : m < 48
          · have R2 := R0 (by omega)
            clear R0 hgo2 hgo hpk
            go_wp2_with fail
            refine Hva.out.mono ?_
            rintro e w2 ⟨rfl, rfl⟩
            go_wp2
            go_ret2
            exact ⟨by rw [R2.out]; rfl, gr_refl _ _⟩
          · have a4 : 57 < m := by omega
            by_cases a5 : m < 97
            · have R2 := R0 (by omega)
              clear R0 hgo2 hgo hpk
              go_wp2_with fail
              refine Hva.out.mono ?_
              rintro e w2 ⟨rfl, rfl⟩
              go_wp2
              go_ret2
              exact ⟨by rw [R2.out]; rfl, gr_refl _ _⟩
            · have a6 : 102 < m := by omega
              have R2 := R0 (by omega)
              clear R0 hgo2 hgo hpk
              go_wp2_with fail
              refine Hva.out.mono ?_
              rintro e w2 ⟨rfl, rfl⟩
              go_wp2
              go_ret2
              exact ⟨by rw [R2.out]; rfl, gr_refl _ _⟩
      · have hke : k = l.length := by have := Hlen.out; omega
        have R2 := hid (show numGo 16 0 l = some n by rw [hgo.out, hke]; simp [numGo])
        clear hke
        by_cases hm : most < n
        · have R3 := hid (show numFin most (some n) = (0, false) by rw [numFin, if_pos hm])
          go_wp2
          go_ret2
          exact ⟨by rw [R2.out, R3.out]; rfl, gr_refl _ _⟩
        · have R3 := hid (show numFin most (some n) = (n, true) by rw [numFin, if_neg hm])
          go_wp2
          go_ret2
          exact ⟨by rw [R2.out, R3.out]; rfl, gr_refl _ _⟩
end Go.Proofs.YtfceodbpkghkaaaGreatDoor
