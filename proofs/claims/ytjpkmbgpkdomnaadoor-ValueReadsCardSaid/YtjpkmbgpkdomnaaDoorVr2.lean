/- value.Words and hearthref19.Words, Flag, Proto. -/
import Derived.Test.YtjpkmbgpkdomnaaDoorVr1
namespace Go.Proofs.YtjpkmbgpkdomnaaDoor
open Go.RowKit

theorem all_snoc (l : List UInt8) (p : UInt8 → Bool) (k : Nat) (hk : k < l.length) : (l.take (k + 1)).all p = ((l.take k).all p && p (l.getD k 0)) := by
  rw [List.take_succ_eq_append_getElem hk, List.all_append]
  rw [show l.getD k 0 = l[k] by rw [List.getD_eq_getElem?_getD, List.getElem?_eq_getElem hk]; rfl]
  simp
theorem all_not (l : List UInt8) (p : UInt8 → Bool) (k : Nat) (hk : k < l.length) (h : p (l.getD k 0) = false) : l.all p = false := by
  rw [← List.take_append_drop k l, List.all_append, drop_at l k hk, List.all_cons, h]; simp
def wdC (c : UInt8) : Bool := decide ((32 : Int) ≤ (c.toNat : Int)) && decide ((c.toNat : Int) ≤ 126)
def wordsB (l : List UInt8) : Bool := l.all wdC && decide (l.length ≤ 64)
set_option maxHeartbeats 2000000 in
theorem words_any (s : ByteArray) (w : World) (hs : s.size ≤ 1000) :
    Calls Tryd.prog 35 #[.string s] w fun e w' => e = .returned (.bool (wordsB s.data.toList)) ∧ w.grownBy w' none := by
  obtain ⟨l, hl⟩ : ∃ l, l = s.data.toList := ⟨_, rfl⟩
  have hlen : s.size = l.length := by rw [hl, ← Lib.size_eq]
  rw [← hl]
  have Hl := hid hl
  have Hlen := hid hlen
  clear hl hlen
  go_enter Tryd.func35, Tryd.ntmps35
  go_wp2_with (refine wpl_s2b rfl 9 45 5 _ rfl Tryd.underlying9 Tryd.underlying45 Tryd.underlying5 s rfl (by unfold maxLen; omega) ?_; intro g cap w1 hg hrow gw)
  rw [← Hl.out] at hrow
  rw [Hlen.out]
  have hll : l.length ≤ 1000 := by rw [← Hlen.out]; exact hs
  go_loop [8] (fun vk => ∃ k : Nat, k ≤ l.length ∧ vk = .int .i64 k ∧ Hid ((l.take k).all wdC = true)) (fun vk => l.length - (intOf vk).toNat)
  case atStart => exact ⟨0, Nat.zero_le _, rfl, by show _ = _; simp⟩
  case round =>
    obtain ⟨k, hk, rfl, hb⟩ := hrel
    by_cases hlt : k < l.length
    · have hc := hrow.cell (i := k) hlt
      have hnext := all_snoc l wdC k hlt
      have hno := all_not l wdC k hlt
      have hv : wdC (l.getD k 0) = (decide ((32 : Int) ≤ ((l.getD k 0).toNat : Int)) && decide (((l.getD k 0).toNat : Int) ≤ 126)) := rfl
      generalize l.getD k 0 = c at hc hnext hno hv
      have Hn := hid hnext
      have Ho := hid hno
      have Hv := hid hv
      clear hnext hno hv
      by_cases x1 : (c.toNat : Int) < 32
      · have R := hid (show wordsB l = false by unfold wordsB; rw [Ho.out (by rw [Hv.out]; simp; omega)]; rfl)
        go_wp2
        go_ret
        exact ⟨by rw [R.out]; rfl, gw⟩
      · by_cases x2 : (126 : Int) < (c.toNat : Int)
        · have R := hid (show wordsB l = false by unfold wordsB; rw [Ho.out (by rw [Hv.out]; simp; omega)]; rfl)
          go_wp2
          go_ret
          exact ⟨by rw [R.out]; rfl, gw⟩
        · have hy := hid (show (l.take (k + 1)).all wdC = true by rw [Hn.out, hb.out, Hv.out]; simp; omega)
          go_wp2
          go_round
          case rel => exact ⟨k + 1, by omega, by go_num, hy⟩
          case measure => simp [intOf]; omega
    · obtain rfl : k = l.length := by omega
      have hb' : l.all wdC = true := by have := hb.out; rw [List.take_length] at this; exact this
      have R := hid (show wordsB l = decide ((l.length : Int) ≤ 64) by unfold wordsB; rw [hb', Bool.true_and, decide_eq_decide]; omega)
      have hz := Hlen.out
      clear hb hb' hlt hk
      go_wp2
      go_ret
      exact ⟨by rw [R.out]; rfl, gw⟩
set_option maxHeartbeats 2000000 in
theorem rwords_any (s : ByteArray) (w : World) (hs : s.size ≤ 1000) :
    Calls Tryd.prog 36 #[.string s] w fun e w' => e = .returned (.bool (wordsB s.data.toList)) ∧ w = w' := by
  obtain ⟨l, hl⟩ : ∃ l, l = s.data.toList := ⟨_, rfl⟩
  have hlen : s.size = l.length := by rw [hl, ← Lib.size_eq]
  have hstr : ∀ k (h : k < s.size), s[k]'h = l.getD k 0 := by rw [hl]; exact strAt s
  rw [← hl]
  have Hstr := hid hstr
  clear hl hstr
  go_enter Tryd.func36, Tryd.ntmps36
  go_wp2_with fail
  go_loop [3, 4] (fun vb vk => ∃ (k : Nat) (b : Bool), k ≤ l.length ∧ vk = .int .i64 k ∧ vb = .bool b ∧ Hid (b = (decide ((l.length : Int) < 65) && (l.take k).all wdC))) (fun _ vk => l.length - (intOf vk).toNat)
  case atStart => exact ⟨0, decide ((l.length : Int) < 65), Nat.zero_le _, rfl, rfl, by show _ = _; simp⟩
  case round =>
    obtain ⟨k, b, hk, rfl, rfl, hb⟩ := hrel
    by_cases hlt : k < l.length
    · have hc : s[k]'(by omega) = l.getD k 0 := Hstr.out k (by omega)
      have hnext := all_snoc l wdC k hlt
      have hv : wdC (l.getD k 0) = (decide ((32 : Int) ≤ ((l.getD k 0).toNat : Int)) && decide (((l.getD k 0).toNat : Int) ≤ 126)) := rfl
      generalize l.getD k 0 = c at hc hnext hv
      have Hn := hid hnext
      have Hv := hid hv
      clear hnext hv
      have nextEq : ∀ x : Bool, x = (b && wdC c) → Hid (x = (decide ((l.length : Int) < 65) && (l.take (k + 1)).all wdC)) := fun x hx => by
        show x = _
        rw [Hn.out, hx, hb.out, Bool.and_assoc]
      have hN := hid nextEq
      clear nextEq
      cases b
      · have hy := hN.out false (by simp)
        go_wp2
        go_round
        case rel => exact ⟨k + 1, false, by omega, by go_num, rfl, hy⟩
        case measure => simp [intOf]; omega
      · by_cases x1 : (31 : Int) < (c.toNat : Int)
        · by_cases x2 : (c.toNat : Int) < 127
          · have hy := hN.out true (by rw [Hv.out]; simp; omega)
            have x2' : decide ((c.toNat : Int) < 127) = true := by simpa using x2
            go_wp2
            go_round
            case rel => exact ⟨k + 1, true, by omega, by go_num, rfl, hy⟩
            case measure => simp [intOf]; omega
          · have hy := hN.out false (by rw [Hv.out]; simp; omega)
            have x2' : decide ((c.toNat : Int) < 127) = false := by simpa using x2
            go_wp2
            go_round
            case rel => exact ⟨k + 1, false, by omega, by go_num, rfl, hy⟩
            case measure => simp [intOf]; omega
        · have hy := hN.out false (by rw [Hv.out]; simp; omega)
          have x1' : decide ((31 : Int) < (c.toNat : Int)) = false := by simpa using x1
          go_wp2
          go_round
          case rel => exact ⟨k + 1, false, by omega, by go_num, rfl, hy⟩
          case measure => simp [intOf]; omega
    · obtain rfl : k = l.length := by omega
      have R := hid (show wordsB l = b by
        have := hb.out; rw [List.take_length] at this
        rw [this, wordsB, Bool.and_comm]; congr 1
        rw [Bool.eq_iff_iff]; simp; omega)
      go_wp2
      go_ret
      exact ⟨by rw [R.out]; rfl, rfl⟩
end Go.Proofs.YtjpkmbgpkdomnaaDoor
