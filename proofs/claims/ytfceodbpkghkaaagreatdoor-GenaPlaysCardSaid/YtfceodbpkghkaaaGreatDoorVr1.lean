/- hearthref19.Num, Flag, Addr, Proto, Words; value.Addr, Words. -/
import Derived.Test.YtfceodbpkghkaaaGreatDoorMI
namespace Go.Proofs.YtfceodbpkghkaaaGreatDoor
open Go.RowKit

/-- What the digits make, the last one first. -/
def vD : List UInt8 → Int
  | [] => 0
  | c :: l => ((c.toNat : Int) - 48) * pt l.length + vD l
theorem dgo_val : ∀ (l : List UInt8) (n : Int), l.all dgB = true → dgo n l = some (n * pt l.length + vD l)
  | [], n, _ => by simp [dgo, pt, vD]
  | c :: l, n, h => by
    simp only [List.all_cons, Bool.and_eq_true] at h
    rw [dgo, if_pos h.1, dgo_val l _ h.2]
    show some ((n * 10 + ((c.toNat : Int) - 48)) * pt l.length + vD l) = some (n * (10 * pt l.length) + (((c.toNat : Int) - 48) * pt l.length + vD l))
    congr 1
    rw [Int.add_mul, Int.mul_assoc, Int.add_assoc]
theorem dgo_none : ∀ (l : List UInt8) (n : Int), l.all dgB = false → dgo n l = none
  | [], n, h => by simp at h
  | c :: l, n, h => by
    rw [dgo]
    cases hc : dgB c
    · rw [if_neg (by simp)]
    · rw [if_pos rfl]
      exact dgo_none l _ (by simpa [hc] using h)
theorem vD_bd : ∀ (l : List UInt8), l.all dgB = true → 0 ≤ vD l ∧ vD l + 1 ≤ pt l.length
  | [], _ => by decide
  | c :: l, h => by
    simp only [List.all_cons, Bool.and_eq_true] at h
    have ih := vD_bd l h.2
    have hc : (48 : Int) ≤ (c.toNat : Int) ∧ (c.toNat : Int) ≤ 57 := by have := h.1; unfold dgB at this; simpa using this
    show 0 ≤ ((c.toNat : Int) - 48) * pt l.length + vD l ∧ ((c.toNat : Int) - 48) * pt l.length + vD l + 1 ≤ 10 * pt l.length
    have h1 : 0 ≤ ((c.toNat : Int) - 48) * pt l.length := Int.mul_nonneg (by omega) (by omega)
    have h2 : ((c.toNat : Int) - 48) * pt l.length ≤ 9 * pt l.length := Int.mul_le_mul_of_nonneg_right (by omega) (by omega)
    omega
set_option maxRecDepth 20000 in
set_option maxHeartbeats 2000000 in
theorem rnum_any (s : ByteArray) (most : Int) (w : World) (hs : s.size ≤ 100000) :
    Calls Tryz.prog 30 #[.string s, .int .u64 most] w fun e w' =>
      e = .returned (.tuple #[.int .u64 (vnum most s.data.toList).1, .bool (vnum most s.data.toList).2]) ∧ w = w' := by
  obtain ⟨l, hl⟩ : ∃ l, l = s.data.toList := ⟨_, rfl⟩
  have hlen : s.size = l.length := by rw [hl, ← Lib.size_eq]
  have hstr : ∀ k (h : k < s.size), s[k]'h = l.getD k 0 := by rw [hl]; exact strAt s
  rw [← hl]
  have Hstr := hid hstr
  clear hl hstr
  by_cases h0 : l.length < 1
  · have R := hid (show vnum most l = (0, false) by rw [vnum, if_pos (.inl (List.eq_nil_of_length_eq_zero (by omega)))])
    go_enter Tryz.func30, Tryz.ntmps30
    go_wp2
    go_ret2
    exact ⟨by rw [R.out]; rfl, rfl⟩
  by_cases h10 : 10 < l.length
  · have R := hid (show vnum most l = (0, false) by rw [vnum, if_pos (.inr h10)])
    go_enter Tryz.func30, Tryz.ntmps30
    go_wp2
    go_ret2
    exact ⟨by rw [R.out]; rfl, rfl⟩
  have R0 := hid (show vnum most l = dFin most (dgo 0 l) by rw [vnum, if_neg (by rintro (h | h); rw [h] at h0; exact h0 (by simp); omega)])
  have hl10 : l.length ≤ 10 := by omega
  go_enter Tryz.func30, Tryz.ntmps30
  go_wp2_with fail
  go_loop [6, 7, 8] (fun vn vu vi => ∃ j : Nat, j ≤ l.length ∧ vi = .int .i64 ((j : Int) - 1) ∧ vn = .int .u64 (vD (l.drop j)) ∧ vu = .int .u64 (pt (l.length - j)) ∧ Hid ((l.drop j).all dgB = true)) (fun _ _ vi => (intOf vi + 1).toNat)
  case atStart => exact ⟨l.length, Nat.le_refl _, rfl, by simp [vD], by simp [pt], by show _ = _; simp⟩
  case round =>
    obtain ⟨j, hj, rfl, rfl, rfl, hb⟩ := hrel
    have hbd := vD_bd _ hb.out
    have hpt := pt_le (l.length - j) (by omega)
    rw [List.length_drop] at hbd
    by_cases hj0 : 0 < j
    · obtain ⟨k, rfl⟩ : ∃ k, j = k + 1 := ⟨j - 1, by omega⟩
      have hc : s[k]'(by omega) = l.getD k 0 := Hstr.out k (by omega)
      have hdr : l.drop k = l.getD k 0 :: l.drop (k + 1) := drop_at l k (by omega)
      have hvd : vD (l.drop k) = ((((l.getD k 0).toNat : Nat) : Int) - 48) * pt (l.length - (k + 1)) + vD (l.drop (k + 1)) := by
        rw [hdr, vD, List.length_drop]
      have hall : (l.drop k).all dgB = (dgB (l.getD k 0) && (l.drop (k + 1)).all dgB) := by rw [hdr, List.all_cons]
      have hp1 : pt (l.length - k) = 10 * pt (l.length - (k + 1)) := by rw [show l.length - k = (l.length - (k + 1)) + 1 by omega]; rfl
      have hno : dgB (l.getD k 0) = false → l.all dgB = false := fun h => by
        rw [← List.take_append_drop k l, List.all_append, hdr, List.all_cons, h]; simp
      have hdg : dgB (l.getD k 0) = (decide ((48 : Int) ≤ (((l.getD k 0).toNat : Nat) : Int)) && decide ((((l.getD k 0).toNat : Nat) : Int) ≤ 57)) := rfl
      generalize l.getD k 0 = c at hc hvd hall hno hdg
      have Hvd := hid hvd
      have Hall := hid hall
      have Hp1 := hid hp1
      have Hno := hid hno
      have Hdg := hid hdg
      clear hdr hvd hall hp1 hno hdg
      generalize vD (l.drop (k + 1)) = v at *
      generalize pt (l.length - (k + 1)) = u at *
      by_cases c1 : (c.toNat : Int) < 48
      · have R := hid (show vnum most l = (0, false) by rw [R0.out, dgo_none l 0 (Hno.out (by rw [Hdg.out]; simp; omega))]; rfl)
        go_wp2
        go_ret2
        exact ⟨by rw [R.out]; rfl, rfl⟩
      · by_cases c2 : (57 : Int) < (c.toNat : Int)
        · have R := hid (show vnum most l = (0, false) by rw [R0.out, dgo_none l 0 (Hno.out (by rw [Hdg.out]; simp; omega))]; rfl)
          go_wp2
          go_ret2
          exact ⟨by rw [R.out]; rfl, rfl⟩
        · have hy := hid (show (l.drop k).all dgB = true by rw [Hall.out, hb.out, Hdg.out]; simp; omega)
          obtain ⟨d, hd, hd1, hd2⟩ : ∃ d : Int, d = (c.toNat : Int) - 48 ∧ 0 ≤ d ∧ d ≤ 9 := ⟨_, rfl, by omega, by omega⟩
          have hm1 : 0 ≤ u * d := Int.mul_nonneg (by omega) hd1
          have hm2 : u * d ≤ u * 9 := Int.mul_le_mul_of_nonneg_left hd2 (by omega)
          have hv2 := hid (show v + u * d = vD (l.drop k) by rw [Hvd.out, hd]; rw [Int.mul_comm]; omega)
          have hd' : (c.toNat : Int) - 48 = d := hd.symm
          clear hd
          go_wp2
          go_round
          case rel => exact ⟨k, by omega, by first | go_num | (congr 1; omega), by rw [← hv2.out], by rw [Hp1.out]; congr 1; omega, hy⟩
          case measure => simp [intOf]
    · obtain rfl : j = 0 := by omega
      have R := hid (show vnum most l = dFin most (some (vD l)) by
        rw [R0.out, dgo_val l 0 (by simpa using hb.out)]; simp)
      rw [List.drop_zero] at hbd ⊢
      generalize vD l = v at *
      by_cases hm : most < v
      · have R2 := hid (show vnum most l = (0, false) by rw [R.out]; simp [dFin, hm])
        go_wp2
        go_ret2
        exact ⟨by rw [R2.out]; rfl, rfl⟩
      · have R2 := hid (show vnum most l = (v, true) by rw [R.out]; simp [dFin, hm])
        go_wp2
        go_ret2
        exact ⟨by rw [R2.out]; rfl, rfl⟩
theorem toList_nil (s : ByteArray) (l : List UInt8) (h : l = s.data.toList) : (s.toList == [] ) = decide (l = []) ∧ s.toList.isEmpty = decide (l = []) := by
  rw [Lib.toList_data, ← h]; cases l <;> exact ⟨rfl, rfl⟩
def addrR (l : List UInt8) : Nat × Bool := if l = [] then (0, true) else prsR l
end Go.Proofs.YtfceodbpkghkaaaGreatDoor
