/- hearthref15.Token computes tokB too; hearthref15.Lower computes lowL. -/
import Derived.Test.YtnapfecalckajaaDoorHead5
namespace Go.Proofs.YtnapfecalckajaaDoor
open Go.RowKit

def rsignsL : List UInt8 := [33, 35, 36, 37, 38, 39, 42, 43, 45, 46, 94, 95]
theorem tok_cases : ∀ c, (97 ≤ smI c ∧ smI c ≤ 122 ∧ tokC c = true) ∨ (48 ≤ smI c ∧ smI c ≤ 57 ∧ tokC c = true) ∨
    (¬ (97 ≤ smI c ∧ smI c ≤ 122) ∧ ¬ (48 ≤ smI c ∧ smI c ≤ 57) ∧ tokC c = (inI (smI c) rsignsL || smI c == 96 || smI c == 124 || smI c == 126)) := all_bytes (by decide +kernel)
set_option maxHeartbeats 4000000 in
theorem rtoken_any (s : ByteArray) (w : World) (hs : s.size ≤ 9223372036854775807) :
    Calls Tryd.prog 39 #[.string s] w fun e w' => e = .returned (.bool (tokB s.data.toList)) ∧ w = w' := by
  obtain ⟨l, hl⟩ : ∃ l, l = s.data.toList := ⟨_, rfl⟩
  have hlen : s.size = l.length := by rw [hl, ← Lib.size_eq]
  rw [← hl]
  have Hl := hid hl
  have Hlen := hid hlen
  clear hl hlen
  by_cases h0 : s.size < 1
  · have R := hid (show tokB l = false by
      have := Hlen.out
      have h : l = [] := List.eq_nil_of_length_eq_zero (by omega)
      rw [h]; rfl)
    go_enter Tryd.func39, Tryd.ntmps39
    go_wp2
    go_ret
    exact ⟨by rw [R.out]; rfl, rfl⟩
  by_cases h64 : 64 < s.size
  · have R := hid (show tokB l = false by
      have := Hlen.out
      rw [tokB, decide_eq_false (by omega)]; simp)
    have h0' : 1 ≤ s.size := by omega
    clear h0
    go_enter Tryd.func39, Tryd.ntmps39
    go_wp2
    go_ret
    exact ⟨by rw [R.out]; rfl, rfl⟩
  have h0' : 1 ≤ s.size := by omega
  have h64' : s.size ≤ 64 := by omega
  clear h0 h64
  go_enter Tryd.func39, Tryd.ntmps39
  go_wp2_with fail
  go_loop [3] (fun vk => ∃ k : Nat, k ≤ s.size ∧ vk = .int .i64 k ∧ Hid ((l.take k).all tokC = true)) (fun vk => s.size - (intOf vk).toNat)
  case atStart => exact ⟨0, Nat.zero_le _, rfl, rfl⟩
  case round =>
    obtain ⟨k, hk, rfl, hall⟩ := hrel
    by_cases hlt : k < s.size
    · have hkl : k < l.length := by rw [← Hlen.out]; exact hlt
      have hc : s[k]'hlt = l.getD k 0 := by rw [strAt, ← Hl.out]
      have hyes := fun h : tokC (l.getD k 0) = true => hid (show (l.take (k + 1)).all tokC = true by rw [all_snoc l _ k hkl, hall.out, h]; rfl)
      have hno := fun h : tokC (l.getD k 0) = false => hid (show tokB l = false by rw [tokB, all_not l _ k hkl h]; rfl)
      generalize l.getD k 0 = c at hc hyes hno
      clear hkl
      have hY := hid hyes
      have hN := hid hno
      have hsm := small_any c w
      have hmb := smI_bd c
      have hcs := tok_cases c
      have hin := in_any (smI c) ⟨rsignsL.toArray⟩ w (by decide)
      rw [show (ByteArray.mk rsignsL.toArray).data.toList = rsignsL from rfl] at hin
      generalize hx : smI c = m at *
      generalize hi : inI m rsignsL = b at *
      have Hsm := hid hsm
      have Hin := hid hin
      clear hx hi hsm hin hyes hno
      rcases hcs with ⟨a1, a2, ht⟩ | ⟨a1, a2, ht⟩ | ⟨a1, a2, ht⟩
      · have hy := hY.out ht
        go_wp2_with fail
        refine Hsm.out.mono ?_
        rintro e w2 ⟨rfl, rfl⟩
        go_wp2
        go_round
        case rel => exact ⟨k + 1, by omega, by go_num, hy⟩
        case measure => simp [intOf]; omega
      · have hy := hY.out ht
        go_wp2_with fail
        refine Hsm.out.mono ?_
        rintro e w2 ⟨rfl, rfl⟩
        go_wp2
        go_round
        case rel => exact ⟨k + 1, by omega, by go_num, hy⟩
        case measure => simp [intOf]; omega
      · by_cases z1 : m < 48
        · skip
          cases b
          · by_cases q1 : m = 96
            · have hy := hY.out (by rw [ht, q1]; rfl)
              subst q1
              go_wp2_with fail
              refine Hsm.out.mono ?_
              rintro e w2 ⟨rfl, rfl⟩
              go_wp2_with fail
              refine Hin.out.mono ?_
              rintro e w2 ⟨rfl, rfl⟩
              go_wp2
              go_round
              case rel => exact ⟨k + 1, by omega, by go_num, hy⟩
              case measure => simp [intOf]; omega
            have q1' : (m != 96) = true := by simpa using q1
            by_cases q2 : m = 124
            · have hy := hY.out (by rw [ht, q2]; rfl)
              subst q2
              go_wp2_with fail
              refine Hsm.out.mono ?_
              rintro e w2 ⟨rfl, rfl⟩
              go_wp2_with fail
              refine Hin.out.mono ?_
              rintro e w2 ⟨rfl, rfl⟩
              go_wp2
              go_round
              case rel => exact ⟨k + 1, by omega, by go_num, hy⟩
              case measure => simp [intOf]; omega
            have q2' : (m != 124) = true := by simpa using q2
            by_cases q3 : m = 126
            · have hy := hY.out (by rw [ht, q3]; rfl)
              subst q3
              go_wp2_with fail
              refine Hsm.out.mono ?_
              rintro e w2 ⟨rfl, rfl⟩
              go_wp2_with fail
              refine Hin.out.mono ?_
              rintro e w2 ⟨rfl, rfl⟩
              go_wp2
              go_round
              case rel => exact ⟨k + 1, by omega, by go_num, hy⟩
              case measure => simp [intOf]; omega
            have q3' : (m != 126) = true := by simpa using q3
            have hn := hN.out (by rw [ht]; simp [q1, q2, q3])
            clear q1 q2 q3
            go_wp2_with fail
            refine Hsm.out.mono ?_
            rintro e w2 ⟨rfl, rfl⟩
            go_wp2_with fail
            refine Hin.out.mono ?_
            rintro e w2 ⟨rfl, rfl⟩
            go_wp2
            go_ret
            exact ⟨by rw [hn.out]; rfl, rfl⟩
          · have hy := hY.out (by rw [ht]; rfl)
            go_wp2_with fail
            refine Hsm.out.mono ?_
            rintro e w2 ⟨rfl, rfl⟩
            go_wp2_with fail
            refine Hin.out.mono ?_
            rintro e w2 ⟨rfl, rfl⟩
            go_wp2
            go_round
            case rel => exact ⟨k + 1, by omega, by go_num, hy⟩
            case measure => simp [intOf]; omega
        have z1' : 57 < m := by omega
        by_cases z2 : m < 97
        · skip
          cases b
          · by_cases q1 : m = 96
            · have hy := hY.out (by rw [ht, q1]; rfl)
              subst q1
              go_wp2_with fail
              refine Hsm.out.mono ?_
              rintro e w2 ⟨rfl, rfl⟩
              go_wp2_with fail
              refine Hin.out.mono ?_
              rintro e w2 ⟨rfl, rfl⟩
              go_wp2
              go_round
              case rel => exact ⟨k + 1, by omega, by go_num, hy⟩
              case measure => simp [intOf]; omega
            have q1' : (m != 96) = true := by simpa using q1
            by_cases q2 : m = 124
            · have hy := hY.out (by rw [ht, q2]; rfl)
              subst q2
              go_wp2_with fail
              refine Hsm.out.mono ?_
              rintro e w2 ⟨rfl, rfl⟩
              go_wp2_with fail
              refine Hin.out.mono ?_
              rintro e w2 ⟨rfl, rfl⟩
              go_wp2
              go_round
              case rel => exact ⟨k + 1, by omega, by go_num, hy⟩
              case measure => simp [intOf]; omega
            have q2' : (m != 124) = true := by simpa using q2
            by_cases q3 : m = 126
            · have hy := hY.out (by rw [ht, q3]; rfl)
              subst q3
              go_wp2_with fail
              refine Hsm.out.mono ?_
              rintro e w2 ⟨rfl, rfl⟩
              go_wp2_with fail
              refine Hin.out.mono ?_
              rintro e w2 ⟨rfl, rfl⟩
              go_wp2
              go_round
              case rel => exact ⟨k + 1, by omega, by go_num, hy⟩
              case measure => simp [intOf]; omega
            have q3' : (m != 126) = true := by simpa using q3
            have hn := hN.out (by rw [ht]; simp [q1, q2, q3])
            clear q1 q2 q3
            go_wp2_with fail
            refine Hsm.out.mono ?_
            rintro e w2 ⟨rfl, rfl⟩
            go_wp2_with fail
            refine Hin.out.mono ?_
            rintro e w2 ⟨rfl, rfl⟩
            go_wp2
            go_ret
            exact ⟨by rw [hn.out]; rfl, rfl⟩
          · have hy := hY.out (by rw [ht]; rfl)
            go_wp2_with fail
            refine Hsm.out.mono ?_
            rintro e w2 ⟨rfl, rfl⟩
            go_wp2_with fail
            refine Hin.out.mono ?_
            rintro e w2 ⟨rfl, rfl⟩
            go_wp2
            go_round
            case rel => exact ⟨k + 1, by omega, by go_num, hy⟩
            case measure => simp [intOf]; omega
        have z2' : 122 < m := by omega
        cases b
        · by_cases q1 : m = 96
          · have hy := hY.out (by rw [ht, q1]; rfl)
            subst q1
            go_wp2_with fail
            refine Hsm.out.mono ?_
            rintro e w2 ⟨rfl, rfl⟩
            go_wp2_with fail
            refine Hin.out.mono ?_
            rintro e w2 ⟨rfl, rfl⟩
            go_wp2
            go_round
            case rel => exact ⟨k + 1, by omega, by go_num, hy⟩
            case measure => simp [intOf]; omega
          have q1' : (m != 96) = true := by simpa using q1
          by_cases q2 : m = 124
          · have hy := hY.out (by rw [ht, q2]; rfl)
            subst q2
            go_wp2_with fail
            refine Hsm.out.mono ?_
            rintro e w2 ⟨rfl, rfl⟩
            go_wp2_with fail
            refine Hin.out.mono ?_
            rintro e w2 ⟨rfl, rfl⟩
            go_wp2
            go_round
            case rel => exact ⟨k + 1, by omega, by go_num, hy⟩
            case measure => simp [intOf]; omega
          have q2' : (m != 124) = true := by simpa using q2
          by_cases q3 : m = 126
          · have hy := hY.out (by rw [ht, q3]; rfl)
            subst q3
            go_wp2_with fail
            refine Hsm.out.mono ?_
            rintro e w2 ⟨rfl, rfl⟩
            go_wp2_with fail
            refine Hin.out.mono ?_
            rintro e w2 ⟨rfl, rfl⟩
            go_wp2
            go_round
            case rel => exact ⟨k + 1, by omega, by go_num, hy⟩
            case measure => simp [intOf]; omega
          have q3' : (m != 126) = true := by simpa using q3
          have hn := hN.out (by rw [ht]; simp [q1, q2, q3])
          clear q1 q2 q3
          go_wp2_with fail
          refine Hsm.out.mono ?_
          rintro e w2 ⟨rfl, rfl⟩
          go_wp2_with fail
          refine Hin.out.mono ?_
          rintro e w2 ⟨rfl, rfl⟩
          go_wp2
          go_ret
          exact ⟨by rw [hn.out]; rfl, rfl⟩
        · have hy := hY.out (by rw [ht]; rfl)
          go_wp2_with fail
          refine Hsm.out.mono ?_
          rintro e w2 ⟨rfl, rfl⟩
          go_wp2_with fail
          refine Hin.out.mono ?_
          rintro e w2 ⟨rfl, rfl⟩
          go_wp2
          go_round
          case rel => exact ⟨k + 1, by omega, by go_num, hy⟩
          case measure => simp [intOf]; omega
    · have hke : k = l.length := by have := Hlen.out; omega
      have R := hid (show tokB l = true by
        have := hall.out
        rw [hke, List.take_length] at this
        have h := Hlen.out
        have he : l.isEmpty = false := by cases l <;> simp_all
        rw [tokB, this, he, decide_eq_true (by omega)]; rfl)
      clear hke
      go_wp2
      go_ret
      exact ⟨by rw [R.out]; rfl, rfl⟩
end Go.Proofs.YtnapfecalckajaaDoor
