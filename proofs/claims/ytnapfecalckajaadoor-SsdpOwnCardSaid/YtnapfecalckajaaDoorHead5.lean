/- head.Token, hearthref15.in, Token: both Tokens compute tokB. -/
import Derived.Test.YtnapfecalckajaaDoorHead4
namespace Go.Proofs.YtnapfecalckajaaDoor
open Go.RowKit

def signsL : List UInt8 := [33, 35, 36, 37, 38, 39, 42, 43, 45, 46, 94, 95, 96, 124, 126]
def tokC (c : UInt8) : Bool := letterB c || digitB c || decide (0 ≤ Lib.indexByte signsL c)
def tokB (l : List UInt8) : Bool := l.all tokC && !l.isEmpty && decide (l.length ≤ 64)
theorem all_snoc (l : List UInt8) (p : UInt8 → Bool) (k : Nat) (hk : k < l.length) : (l.take (k + 1)).all p = ((l.take k).all p && p (l.getD k 0)) := by
  rw [List.take_succ_eq_append_getElem hk, List.all_append]
  rw [show l.getD k 0 = l[k] by rw [List.getD_eq_getElem?_getD, List.getElem?_eq_getElem hk]; rfl]
  simp
theorem all_not (l : List UInt8) (p : UInt8 → Bool) (k : Nat) (hk : k < l.length) (h : p (l.getD k 0) = false) : l.all p = false := by
  rw [show l.getD k 0 = l[k] by rw [List.getD_eq_getElem?_getD, List.getElem?_eq_getElem hk]; rfl] at h
  rw [List.all_eq_false]
  exact ⟨l[k], List.getElem_mem _, by simp [h]⟩
set_option maxHeartbeats 1000000 in
theorem token_any (s : ByteArray) (w : World) (hs : s.size ≤ 9223372036854775807) :
    Calls Tryd.prog 46 #[.string s] w fun e w' => e = .returned (.bool (tokB s.data.toList)) ∧ w.grownBy w' none := by
  obtain ⟨l, hl⟩ : ∃ l, l = s.data.toList := ⟨_, rfl⟩
  have hlen : s.size = l.length := by rw [hl, ← Lib.size_eq]
  have hemp : s.toList.isEmpty = l.isEmpty := by rw [Lib.toList_data, ← hl]
  rw [← hl]
  have Hl := hid hl
  have Hlen := hid hlen
  have Hemp := hid hemp
  clear hl hlen hemp
  go_enter Tryd.func46, Tryd.ntmps46
  go_wp2_with (refine wpl_s2b rfl 9 29 5 _ rfl Tryd.underlying9 Tryd.underlying29 Tryd.underlying5 s rfl (by unfold maxLen; omega) ?_; intro g cap w1 hg hrow gw)
  rw [← Hl.out] at hrow
  go_loop [8] (fun vk => ∃ k : Nat, k ≤ s.size ∧ vk = .int .i64 k ∧ Hid ((l.take k).all tokC = true)) (fun vk => s.size - (intOf vk).toNat)
  case atStart => exact ⟨0, Nat.zero_le _, rfl, rfl⟩
  case round =>
    obtain ⟨k, hk, rfl, hall⟩ := hrel
    by_cases hlt : k < s.size
    · have hkl : k < l.length := by rw [← Hlen.out]; exact hlt
      have hc := hrow.cell (i := k) hkl
      have hyes := fun h : tokC (l.getD k 0) = true => hid (show (l.take (k + 1)).all tokC = true by rw [all_snoc l _ k hkl, hall.out, h]; rfl)
      have hno := fun h : tokC (l.getD k 0) = false => hid (show tokB l = false by rw [tokB, all_not l _ k hkl h]; rfl)
      generalize l.getD k 0 = c at hc hyes hno
      clear hkl
      have hib := Tryd.strings_IndexByte ⟨signsL.toArray⟩ (c.toNat : Int) w1
      rw [show ((c.toNat : Int)).toNat.toUInt8 = c by simp] at hib
      have hla := letter_any c w1
      have hda := digit_any c w1
      have hY := hid hyes
      have hN := hid hno
      have htc : tokC c = (letterB c || digitB c || decide (0 ≤ Lib.indexByte signsL c)) := rfl
      generalize letterB c = b1 at hla htc
      generalize digitB c = b2 at hda htc
      rw [show (ByteArray.mk signsL.toArray).data.toList = signsL from rfl] at hib
      generalize Lib.indexByte signsL c = i3 at hib htc
      have Hib := hid hib
      have Hla := hid hla
      have Hda := hid hda
      have Htc := hid htc
      clear hib hla hda htc hyes hno
      cases b1
      · cases b2
        · by_cases h3 : 0 ≤ i3
          · have hy := hY.out (by rw [Htc.out]; simpa using h3)
            go_wp2_with fail
            refine Hla.out.mono ?_
            rintro e w2 ⟨rfl, rfl⟩
            go_wp2_with fail
            refine Hda.out.mono ?_
            rintro e w2 ⟨rfl, rfl⟩
            go_wp2_with fail
            refine Hib.out.mono ?_
            rintro e w2 ⟨rfl, rfl⟩
            go_wp2
            go_round
            case rel => exact ⟨k + 1, by omega, by go_num, hy⟩
            case measure => simp [intOf]; omega
          · have hn := hN.out (by rw [Htc.out]; simpa using h3)
            go_wp2_with fail
            refine Hla.out.mono ?_
            rintro e w2 ⟨rfl, rfl⟩
            go_wp2_with fail
            refine Hda.out.mono ?_
            rintro e w2 ⟨rfl, rfl⟩
            go_wp2_with fail
            refine Hib.out.mono ?_
            rintro e w2 ⟨rfl, rfl⟩
            go_wp2
            go_ret
            exact ⟨by rw [hn.out]; rfl, gw⟩
        · have hy := hY.out (by rw [Htc.out]; rfl)
          go_wp2_with fail
          refine Hla.out.mono ?_
          rintro e w2 ⟨rfl, rfl⟩
          go_wp2_with fail
          refine Hda.out.mono ?_
          rintro e w2 ⟨rfl, rfl⟩
          go_wp2
          go_round
          case rel => exact ⟨k + 1, by omega, by go_num, hy⟩
          case measure => simp [intOf]; omega
      · have hy := hY.out (by rw [Htc.out]; rfl)
        go_wp2_with fail
        refine Hla.out.mono ?_
        rintro e w2 ⟨rfl, rfl⟩
        go_wp2
        go_round
        case rel => exact ⟨k + 1, by omega, by go_num, hy⟩
        case measure => simp [intOf]; omega
    · have hke : k = l.length := by have := Hlen.out; omega
      have hall' := hid (show l.all tokC = true by have := hall.out; rw [hke, List.take_length] at this; exact this)
      by_cases he : l.isEmpty = true
      · have h0 : s.toList.isEmpty = true := by rw [Hemp.out]; exact he
        have R := hid (show tokB l = false by rw [tokB, he]; simp)
        clear he hke
        go_wp2
        go_ret
        exact ⟨by rw [R.out]; rfl, gw⟩
      · have h0 : s.toList.isEmpty = false := by rw [Hemp.out]; simpa using he
        have R := hid (show tokB l = decide ((s.size : Int) ≤ 64) by rw [tokB, hall'.out, Hlen.out]; simp [he]; omega)
        clear he hke
        go_wp2
        go_ret
        exact ⟨by rw [R.out]; rfl, gw⟩
def inI (m : Int) (l : List UInt8) : Bool := l.any fun x => (x.toNat : Int) == m
set_option maxHeartbeats 1000000 in
theorem in_any (m : Int) (s : ByteArray) (w : World) (hs : s.size ≤ 9223372036854775807) :
    Calls Tryd.prog 56 #[.int .u8 m, .string s] w fun e w' => e = .returned (.bool (inI m s.data.toList)) ∧ w = w' := by
  obtain ⟨l, hl⟩ : ∃ l, l = s.data.toList := ⟨_, rfl⟩
  have hlen : s.size = l.length := by rw [hl, ← Lib.size_eq]
  rw [← hl]
  have Hl := hid hl
  have Hlen := hid hlen
  clear hl hlen
  go_enter Tryd.func56, Tryd.ntmps56
  go_wp2_with fail
  go_loop [5] (fun vk => ∃ k : Nat, k ≤ s.size ∧ vk = .int .i64 k ∧ Hid (inI m (l.take k) = false)) (fun vk => s.size - (intOf vk).toNat)
  case atStart => exact ⟨0, Nat.zero_le _, rfl, rfl⟩
  case round =>
    obtain ⟨k, hk, rfl, hall⟩ := hrel
    by_cases hlt : k < s.size
    · have hkl : k < l.length := by rw [← Hlen.out]; exact hlt
      have hc : s[k]'hlt = l[k] := by rw [strAt, ← Hl.out, List.getD_eq_getElem?_getD, List.getElem?_eq_getElem hkl]; rfl
      have hyes := fun h : ((l[k].toNat : Int) == m) = true => hid (show inI m l = true by rw [inI, List.any_eq_true]; exact ⟨l[k], List.getElem_mem _, h⟩)
      have hno := fun h : ((l[k].toNat : Int) == m) = false => hid (show inI m (l.take (k + 1)) = false by rw [List.take_succ_eq_append_getElem hkl, inI, List.any_append]; have := hall.out; rw [inI] at this; rw [this]; simp [h])
      generalize l[k] = c at hc hyes hno
      have hY := hid hyes
      have hN := hid hno
      clear hyes hno hkl
      by_cases h : ((c.toNat : Int) == m) = true
      · have hy := hY.out h
        go_wp2
        go_ret
        exact ⟨by rw [hy.out]; rfl, rfl⟩
      · have h' : ((c.toNat : Int) == m) = false := by simpa using h
        have hn := hN.out h'
        clear h
        go_wp2
        go_round
        case rel => exact ⟨k + 1, by omega, by go_num, hn⟩
        case measure => simp [intOf]; omega
    · have hke : k = l.length := by have := Hlen.out; omega
      have R := hid (show inI m l = false by have := hall.out; rw [hke, List.take_length] at this; exact this)
      clear hke
      go_wp2
      go_ret
      exact ⟨by rw [R.out]; rfl, rfl⟩
end Go.Proofs.YtnapfecalckajaaDoor
