/- xml: bytes that begin names and stand in them; names; texts that may stand in a document. -/
import Derived.Test.YtllmdlpogjjmcaaDoorHead3
import Derived.Test.YtllmdlpogjjmcaaDoorStrs
import Derived.Test.YtllmdlpogjjmcaaDoorPairs
namespace Go.Proofs.YtllmdlpogjjmcaaDoor
open Go.RowKit
set_option linter.unusedSimpArgs false

def begB (c : UInt8) : Bool := decide ((c.toNat : Int) = 95) || (decide ((97 : Int) ≤ ((c ||| 32).toNat : Int)) && decide (((c ||| 32).toNat : Int) ≤ 122))
def innB (c : UInt8) : Bool := begB c || (decide ((48 : Int) ≤ (c.toNat : Int)) && decide ((c.toNat : Int) ≤ 57)) || decide ((c.toNat : Int) = 45) || decide ((c.toNat : Int) = 46)
def rbegB (c : UInt8) : Bool := (decide ((97 : Int) ≤ (c.toNat : Int)) && decide ((c.toNat : Int) ≤ 122)) || (decide ((65 : Int) ≤ (c.toNat : Int)) && decide ((c.toNat : Int) ≤ 90)) || decide ((c.toNat : Int) = 95)
theorem rbegB_eq : ∀ c, rbegB c = begB c := all_bytes (by decide +kernel)
theorem xletter_any (c : UInt8) (w : World) :
    Calls Tryd.prog 84 #[.int .u8 (c.toNat : Int)] w fun e w' => e = .returned (.bool (begB c)) ∧ w = w' := by
  have h32 := or32 c
  unfold begB
  generalize c ||| 32 = d at *
  go_enter Tryd.func84, Tryd.ntmps84
  go_wp2
  all_goals
    go_ret
    refine ⟨?_, rfl⟩
    simp_all <;> first | omega | (rw [Bool.eq_iff_iff]; simp only [beq_iff_eq, Bool.and_eq_true, Bool.or_eq_true, decide_eq_true_eq] <;> omega)
theorem rbegins_any (c : UInt8) (w : World) :
    Calls Tryd.prog 76 #[.int .u8 (c.toNat : Int)] w fun e w' => e = .returned (.bool (begB c)) ∧ w = w' := by
  rw [← rbegB_eq]
  unfold rbegB
  go_enter Tryd.func76, Tryd.ntmps76
  go_wp2
  all_goals
    go_ret
    refine ⟨?_, rfl⟩
    simp_all <;> first | omega | (rw [Bool.eq_iff_iff]; simp only [beq_iff_eq, Bool.and_eq_true, Bool.or_eq_true, decide_eq_true_eq] <;> omega)
theorem xinner_any (c : UInt8) (w : World) :
    Calls Tryd.prog 69 #[.int .u8 (c.toNat : Int)] w fun e w' => e = .returned (.bool (innB c)) ∧ w = w' := by
  have hl := xletter_any c w
  unfold innB
  generalize begB c = b at *
  have Hl := hid hl
  clear hl
  cases b
  all_goals
    go_enter Tryd.func69, Tryd.ntmps69
    go_wp2_with fail
    refine Hl.out.mono ?_
    rintro e w2 ⟨rfl, rfl⟩
    go_wp2
    all_goals
      go_ret
      refine ⟨?_, rfl⟩
      simp_all <;> first | omega | (rw [Bool.eq_iff_iff]; simp only [beq_iff_eq, Bool.and_eq_true, Bool.or_eq_true, decide_eq_true_eq] <;> omega)
theorem rwithin_any (c : UInt8) (w : World) :
    Calls Tryd.prog 59 #[.int .u8 (c.toNat : Int)] w fun e w' => e = .returned (.bool (innB c)) ∧ w = w' := by
  have hl := rbegins_any c w
  unfold innB
  generalize begB c = b at *
  have Hl := hid hl
  clear hl
  cases b
  all_goals
    go_enter Tryd.func59, Tryd.ntmps59
    go_wp2_with fail
    refine Hl.out.mono ?_
    rintro e w2 ⟨rfl, rfl⟩
    go_wp2
    all_goals
      go_ret
      refine ⟨?_, rfl⟩
      simp_all <;> first | omega | (rw [Bool.eq_iff_iff]; simp only [beq_iff_eq, Bool.and_eq_true, Bool.or_eq_true, decide_eq_true_eq] <;> omega)
/-- A byte that may not stand in a document. -/
def ctlB (c : UInt8) : Bool := decide ((c.toNat : Int) < 32) && !decide ((c.toNat : Int) = 9) && !decide ((c.toNat : Int) = 10) && !decide ((c.toNat : Int) = 13)
def plainB (l : List UInt8) : Bool := l.all fun c => !ctlB c
def nameB (l : List UInt8) : Bool := !l.isEmpty && decide (l.length ≤ 64) && begB (l.getD 0 0) && l.all innB
theorem xall_snoc (l : List UInt8) (p : UInt8 → Bool) (k : Nat) (hk : k < l.length) : (l.take (k + 1)).all p = ((l.take k).all p && p (l.getD k 0)) := by
  rw [List.take_succ_eq_append_getElem hk, List.all_append]
  rw [show l.getD k 0 = l[k] by rw [List.getD_eq_getElem?_getD, List.getElem?_eq_getElem hk]; rfl]
  simp
theorem xall_not (l : List UInt8) (p : UInt8 → Bool) (k : Nat) (hk : k < l.length) (h : p (l.getD k 0) = false) : l.all p = false := by
  rw [show l.getD k 0 = l[k] by rw [List.getD_eq_getElem?_getD, List.getElem?_eq_getElem hk]; rfl] at h
  rw [List.all_eq_false]
  exact ⟨l[k], List.getElem_mem _, by simp [h]⟩
set_option maxHeartbeats 1000000 in
theorem xplain_any (s : ByteArray) (w : World) (hs : s.size ≤ 100000) :
    Calls Tryd.prog 16 #[.string s] w fun e w' => e = .returned (.bool (plainB s.data.toList)) ∧ w.grownBy w' none := by
  obtain ⟨l, hl⟩ : ∃ l, l = s.data.toList := ⟨_, rfl⟩
  have hlen : s.size = l.length := by rw [hl, ← Lib.size_eq]
  rw [← hl]
  have Hl := hid hl
  have Hlen := hid hlen
  clear hl hlen
  go_enter Tryd.func16, Tryd.ntmps16
  go_wp2_with (refine wpl_s2b rfl 9 22 5 _ rfl Tryd.underlying9 Tryd.underlying22 Tryd.underlying5 s rfl (by unfold maxLen; omega) ?_; intro g cap w1 hg hrow gw)
  rw [← Hl.out] at hrow
  go_loop [8] (fun vk => ∃ k : Nat, k ≤ s.size ∧ vk = .int .i64 k ∧ Hid ((l.take k).all (fun c => !ctlB c) = true)) (fun vk => s.size - (intOf vk).toNat)
  case atStart => exact ⟨0, Nat.zero_le _, rfl, rfl⟩
  case round =>
    obtain ⟨k, hk, rfl, hall⟩ := hrel
    by_cases hlt : k < s.size
    · have hkl : k < l.length := by rw [← Hlen.out]; exact hlt
      have hc := hrow.cell (i := k) hkl
      have hyes := fun h : ctlB (l.getD k 0) = false => hid (show (l.take (k + 1)).all (fun c => !ctlB c) = true by rw [xall_snoc l _ k hkl, hall.out, h]; rfl)
      have hno := fun h : ctlB (l.getD k 0) = true => hid (show plainB l = false by unfold plainB; rw [xall_not l _ k hkl (by rw [h]; rfl)])
      generalize l.getD k 0 = c at hc hyes hno
      clear hkl
      have hcb := UInt8.toNat_lt c
      have hcd : ctlB c = (decide ((c.toNat : Int) < 32) && !decide ((c.toNat : Int) = 9) && !decide ((c.toNat : Int) = 10) && !decide ((c.toNat : Int) = 13)) := rfl
      generalize ctlB c = b at hyes hno hcd
      have Hcd := hid hcd
      have hY := hid hyes
      have hN := hid hno
      clear hyes hno hcd
      go_wp2
      all_goals first
        | (go_round
           case rel => exact ⟨k + 1, by omega, by go_num, hY.out (by rw [Hcd.out]; simp_all <;> omega)⟩
           case measure => simp [intOf]; omega)
        | (go_ret
           refine ⟨?_, gw⟩
           rw [(hN.out (by rw [Hcd.out]; simp_all <;> omega)).out]
           rfl)
    · have hke : k = l.length := by have := Hlen.out; omega
      have R := hid (show plainB l = true by have := hall.out; rw [hke, List.take_length] at this; exact this)
      go_wp2
      go_ret
      exact ⟨by rw [R.out]; rfl, gw⟩
end Go.Proofs.YtllmdlpogjjmcaaDoor
