/- hearthref04.Parse: its walk. -/
import Derived.Test.YtfceodbpkghkaaaGreatDoorIn6
namespace Go.Proofs.YtfceodbpkghkaaaGreatDoor
open Go.RowKit

theorem strAt (s : ByteArray) (k : Nat) (h : k < s.size) : s[k]'h = s.data.toList.getD k 0 := by
  rw [List.getD_eq_getElem?_getD, List.getElem?_eq_getElem (by simpa using h)]
  rfl
theorem drop_at (l : List UInt8) (k : Nat) (h : k < l.length) : l.drop k = l.getD k 0 :: l.drop (k + 1) := by
  rw [List.drop_eq_getElem_cons h]
  rw [show l.getD k 0 = l[k] by rw [List.getD_eq_getElem?_getD, List.getElem?_eq_getElem h]; rfl]
structure PS (k a n d z len : Nat) : Prop where
  hk : k ≤ len
  ha : a < 256 ^ d
  hn : n < 10 ^ z
  hd : d ≤ 3
  hz : z ≤ 3
theorem PS.abd {k a n d z len : Nat} (h : PS k a n d z len) : a < 16777216 ∧ n < 1000 := by
  have h1 : 256 ^ d ≤ 256 ^ 3 := Nat.pow_le_pow_right (by omega) h.hd
  have h2 : 10 ^ z ≤ 10 ^ 3 := Nat.pow_le_pow_right (by omega) h.hz
  have := h.ha
  have := h.hn
  exact ⟨by omega, by omega⟩
def PRel (l : List UInt8) (va vn vd vz vk : Value) : Prop :=
  (∃ k a n d z : Nat, PS k a n d z l.length ∧ prsR l = prs (l.drop k) a n d z ∧ va = .int .u64 a ∧ vn = .int .i64 n ∧ vd = .int .i64 d ∧ vz = .int .i64 z ∧ vk = .int .i64 k) ∨
  (∃ a d : Nat, a < 4294967296 ∧ d ≤ 3 ∧ prsR l = (if d ≠ 3 then (0, false) else (a, true)) ∧ va = .int .u64 a ∧ vn = .int .i64 0 ∧ vd = .int .i64 d ∧ vz = .int .i64 0 ∧ vk = .int .i64 (l.length + 1 : Nat))
set_option maxRecDepth 20000 in
set_option maxHeartbeats 4000000 in
theorem rparse_in (s : ByteArray) (w : World) (hs : s.size ≤ 100000) :
    Calls Tryz.prog 29 #[.string s] w fun e w' => e = .returned (.tuple #[.int .u32 (prsR s.data.toList).1, .bool (prsR s.data.toList).2]) ∧ w = w' := by
  obtain ⟨l, hl⟩ : ∃ l, l = s.data.toList := ⟨_, rfl⟩
  have hlen : s.size = l.length := by rw [hl, ← Lib.size_eq]
  have hstr : ∀ k (h : k < s.size), s[k]'h = l.getD k 0 := by rw [hl]; exact strAt s
  rw [← hl]
  have Hstr := hid hstr
  clear hstr hl
  go_enter Tryz.func29, Tryz.ntmps29
  go_wp2_with fail
  go_loop [4, 5, 6, 7, 8] (fun va vn vd vz vk => PRel l va vn vd vz vk) (fun _ _ _ _ vk => l.length + 2 - (intOf vk).toNat)
  case atStart => exact .inl ⟨0, 0, 0, 0, 0, ⟨Nat.zero_le _, by decide, by decide, by omega, by omega⟩, rfl, rfl, rfl, rfl, rfl, rfl⟩
  case round =>
    rcases hrel with ⟨k, a, n, d, z, ps, hp, rfl, rfl, rfl, rfl, rfl⟩ | ⟨a, d, ha, hd, hp, rfl, rfl, rfl, rfl, rfl⟩
    · obtain ⟨hab, hnb⟩ := ps.abd
      obtain ⟨hk, hpa, hpn, hd, hz⟩ := ps
      have Hpa := hid hpa
      have Hpn := hid hpn
      clear hpa hpn
      by_cases hlt : k < l.length
      · have hc : s[k]'(by omega) = l.getD k 0 := Hstr.out k (by omega)
        rw [drop_at l k hlt] at hp
        generalize l.getD k 0 = c at hc hp
        rw [prs] at hp
        by_cases h46 : c = 46
        · rw [if_pos h46] at hp
          subst h46
          by_cases hz0 : z = 0
          · rw [if_pos (.inl hz0)] at hp
            have R := hid hp
            have t0 : ((z : Int) == 0) = true := by simp; omega
            clear hp hz0
            go_wp2
            go_ret2
            exact ⟨by rw [R.out]; rfl, rfl⟩
          · have t0 : ((z : Int) == 0) = false := by simp; omega
            by_cases hn5 : 255 < n
            · rw [if_pos (.inr (.inl hn5))] at hp
              have R := hid hp
              clear hp hz0
              go_wp2
              go_ret2
              exact ⟨by rw [R.out]; rfl, rfl⟩
            · by_cases hd3 : 3 ≤ d
              · rw [if_pos (.inr (.inr hd3))] at hp
                have R := hid hp
                clear hp hz0
                go_wp2
                go_ret2
                exact ⟨by rw [R.out]; rfl, rfl⟩
              · rw [if_neg (by omega)] at hp
                have R := hid hp
                have K := hid (show PS (k + 1) (256 * a + n) 0 (d + 1) 0 l.length from ⟨by omega, by have := Hpa.out; rw [Nat.pow_succ]; omega, by decide, by omega, by omega⟩)
                clear hp hz0
                go_wp2
                go_round
                case rel => exact .inl ⟨k + 1, 256 * a + n, 0, d + 1, 0, K.out, R.out, by go_num, rfl, by go_num, rfl, by go_num⟩
                case measure => simp [intOf]; omega
        · rw [if_neg h46] at hp
          have n46 : ((c.toNat : Int) == 46) = false := by
            simp only [beq_eq_false_iff_ne, ne_eq]; intro h; apply h46; apply UInt8.toNat_inj.1; simpa using (by omega : c.toNat = 46)
          clear h46
          by_cases c1 : c.toNat < 48
          · rw [if_pos (.inl c1)] at hp
            have R := hid hp
            clear hp
            have c1i : (c.toNat : Int) < 48 := by omega
            go_wp2
            go_ret2
            exact ⟨by rw [R.out]; rfl, rfl⟩
          · by_cases c2 : 57 < c.toNat
            · rw [if_pos (.inr (.inl c2))] at hp
              have R := hid hp
              clear hp
              have c2i : (57 : Int) < (c.toNat : Int) := by omega
              have c1i : ¬ (c.toNat : Int) < 48 := by omega
              go_wp2
              go_ret2
              exact ⟨by rw [R.out]; rfl, rfl⟩
            · have c1i : ¬ (c.toNat : Int) < 48 := by omega
              have c2i : ¬ (57 : Int) < (c.toNat : Int) := by omega
              by_cases hz3 : z = 3
              · rw [if_pos (.inr (.inr (.inl hz3)))] at hp
                have R := hid hp
                clear hp
                have t3 : ((z : Int) == 3) = true := by simp; omega
                clear hz3
                go_wp2
                go_ret2
                exact ⟨by rw [R.out]; rfl, rfl⟩
              · have t3 : ((z : Int) == 3) = false := by simp; omega
                by_cases hz0 : 0 < z
                · by_cases hn0 : n = 0
                  · rw [if_pos (.inr (.inr (.inr ⟨hz0, hn0⟩)))] at hp
                    have R := hid hp
                    clear hp
                    have t0 : ((n : Int) == 0) = true := by simp; omega
                    clear hz3 hn0
                    go_wp2
                    go_ret2
                    exact ⟨by rw [R.out]; rfl, rfl⟩
                  · have t0 : ((n : Int) == 0) = false := by simp; omega
                    rw [if_neg (by omega)] at hp
                    have R := hid hp
                    have K := hid (show PS (k + 1) a (10 * n + (c.toNat - 48)) d (z + 1) l.length from ⟨by omega, Hpa.out, by have := Hpn.out; rw [Nat.pow_succ]; omega, hd, by omega⟩)
                    clear hp hz3
                    go_wp2
                    go_round
                    case rel => exact .inl ⟨k + 1, a, 10 * n + (c.toNat - 48), d, z + 1, K.out, R.out, rfl, by first | go_num | (congr 1; omega), rfl, by go_num, by go_num⟩
                    case measure => simp [intOf]; omega
                · rw [if_neg (by omega)] at hp
                  have R := hid hp
                  have K := hid (show PS (k + 1) a (10 * n + (c.toNat - 48)) d (z + 1) l.length from ⟨by omega, Hpa.out, by have := Hpn.out; rw [Nat.pow_succ]; omega, hd, by omega⟩)
                  clear hp hz3
                  go_wp2
                  go_round
                  case rel => exact .inl ⟨k + 1, a, 10 * n + (c.toNat - 48), d, z + 1, K.out, R.out, rfl, by first | go_num | (congr 1; omega), rfl, by go_num, by go_num⟩
                  case measure => simp [intOf]; omega
      · obtain rfl : k = l.length := by omega
        rw [List.drop_length, prs] at hp
        by_cases hz0 : z = 0
        · rw [if_pos (.inl hz0)] at hp
          have R := hid hp
          have t0 : ((z : Int) == 0) = true := by simp; omega
          clear hp hz0
          go_wp2
          go_ret2
          exact ⟨by rw [R.out]; rfl, rfl⟩
        · have t0 : ((z : Int) == 0) = false := by simp; omega
          by_cases hn5 : 255 < n
          · rw [if_pos (.inr (.inl hn5))] at hp
            have R := hid hp
            clear hp hz0
            go_wp2
            go_ret2
            exact ⟨by rw [R.out]; rfl, rfl⟩
          · have R := hid (show prsR l = if d ≠ 3 then (0, false) else (256 * a + n, true) by
              rw [hp]
              by_cases hd3 : d = 3
              · rw [if_neg (by omega), if_neg (by omega)]
              · rw [if_pos (by omega), if_pos hd3])
            clear hp hz0
            go_wp2
            go_round
            case rel => exact .inr ⟨256 * a + n, d, by omega, hd, R.out, by go_num, rfl, rfl, rfl, by go_num⟩
            case measure => simp [intOf]
    · by_cases hd3 : d = 3
      · have R := hid (show prsR l = (a, true) by rw [hp, if_neg (by omega)])
        subst hd3
        clear hp
        go_wp2
        go_ret2
        exact ⟨by rw [R.out]; rfl, rfl⟩
      · have R := hid (show prsR l = (0, false) by rw [hp, if_pos hd3])
        have t3 : ((d : Int) != 3) = true := by simp only [bne_iff_ne, ne_eq]; omega
        clear hp hd3
        go_wp2
        go_ret2
        exact ⟨by rw [R.out]; rfl, rfl⟩
end Go.Proofs.YtfceodbpkghkaaaGreatDoor
