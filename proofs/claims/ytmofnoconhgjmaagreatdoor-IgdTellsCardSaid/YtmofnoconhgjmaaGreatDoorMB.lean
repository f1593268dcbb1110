/- Texts of one proof, put together: Xm1, Xm2. -/
import Derived.Test.YtmofnoconhgjmaaGreatDoorMH
import Derived.Test.YtmofnoconhgjmaaGreatDoorStrs
import Derived.Test.YtmofnoconhgjmaaGreatDoorMA
/- xml: bytes that begin names and stand in them; names; texts that may stand in a document. -/
namespace Go.Proofs.YtmofnoconhgjmaaGreatDoor
open Go.RowKit
set_option linter.unusedSimpArgs false

def begB (c : UInt8) : Bool := decide ((c.toNat : Int) = 95) || (decide ((97 : Int) ≤ ((c ||| 32).toNat : Int)) && decide (((c ||| 32).toNat : Int) ≤ 122))
def innB (c : UInt8) : Bool := begB c || (decide ((48 : Int) ≤ (c.toNat : Int)) && decide ((c.toNat : Int) ≤ 57)) || decide ((c.toNat : Int) = 45) || decide ((c.toNat : Int) = 46)
def rbegB (c : UInt8) : Bool := (decide ((97 : Int) ≤ (c.toNat : Int)) && decide ((c.toNat : Int) ≤ 122)) || (decide ((65 : Int) ≤ (c.toNat : Int)) && decide ((c.toNat : Int) ≤ 90)) || decide ((c.toNat : Int) = 95)
theorem rbegB_eq : ∀ c, rbegB c = begB c := all_bytes (by decide +kernel)
theorem rbegins_any (c : UInt8) (w : World) :
    Calls Tryz.prog 293 #[.int .u8 (c.toNat : Int)] w fun e w' => e = .returned (.bool (begB c)) ∧ w = w' := by
  rw [← rbegB_eq]
  unfold rbegB
  go_enter Tryz.func293, Tryz.ntmps293
  go_wp2
  all_goals
    go_ret
    refine ⟨?_, rfl⟩
    simp_all <;> first | omega | (rw [Bool.eq_iff_iff]; simp only [beq_iff_eq, Bool.and_eq_true, Bool.or_eq_true, decide_eq_true_eq] <;> omega)
theorem rwithin_any (c : UInt8) (w : World) :
    Calls Tryz.prog 255 #[.int .u8 (c.toNat : Int)] w fun e w' => e = .returned (.bool (innB c)) ∧ w = w' := by
  have hl := rbegins_any c w
  unfold innB
  generalize begB c = b at *
  have Hl := hid hl
  clear hl
  cases b
  all_goals
    go_enter Tryz.func255, Tryz.ntmps255
    go_wp2_with fail
    refine Hl.out.mono ?_
    rintro e w2 ⟨rfl, rfl⟩
    go_wp2
    all_goals
      go_ret
      refine ⟨?_, rfl⟩
      simp_all <;> first | omega | (rw [Bool.eq_iff_iff]; simp only [beq_iff_eq, Bool.and_eq_true, Bool.or_eq_true, decide_eq_true_eq] <;> omega)
/-- A byte that may not stand in a document. -/
def ctlB (c : UInt8) : Bool := decide ((c.toNat : Int) < 32) && !decide ((c.toNat : Int) = 9) && !decide ((c.toNat : Int) = 10) && !decide ((c.toNat : Int) = 13)
def plainB (l : List UInt8) : Bool := l.all fun c => !ctlB c
def nameB (l : List UInt8) : Bool := !l.isEmpty && decide (l.length ≤ 64) && begB (l.getD 0 0) && l.all innB
theorem xall_snoc (l : List UInt8) (p : UInt8 → Bool) (k : Nat) (hk : k < l.length) : (l.take (k + 1)).all p = ((l.take k).all p && p (l.getD k 0)) := by
  rw [List.take_succ_eq_append_getElem hk, List.all_append]
  rw [show l.getD k 0 = l[k] by rw [List.getD_eq_getElem?_getD, List.getElem?_eq_getElem hk]; rfl]
  simp
theorem xall_not (l : List UInt8) (p : UInt8 → Bool) (k : Nat) (hk : k < l.length) (h : p (l.getD k 0) = false) : l.all p = false := by
  rw [show l.getD k 0 = l[k] by rw [List.getD_eq_getElem?_getD, List.getElem?_eq_getElem hk]; rfl] at h
  rw [List.all_eq_false]
  exact ⟨l[k], List.getElem_mem _, by simp [h]⟩
end Go.Proofs.YtmofnoconhgjmaaGreatDoor
/- xml.Name, hearthref17.Name, hearthref17.Plain. -/
namespace Go.Proofs.YtmofnoconhgjmaaGreatDoor
open Go.RowKit
set_option linter.unusedSimpArgs false

theorem nameB_long {l : List UInt8} (h : 64 < l.length) : nameB l = false := by
  unfold nameB; rw [decide_eq_false (by omega)]; simp
theorem nameB_beg {l : List UInt8} (h : begB (l.getD 0 0) = false) : nameB l = false := by
  unfold nameB; rw [h]; simp
set_option maxHeartbeats 1000000 in
theorem rname_any (s : ByteArray) (w : World) (hs : s.size ≤ 100000) :
    Calls Tryz.prog 256 #[.string s] w fun e w' => e = .returned (.bool (nameB s.data.toList)) ∧ w = w' := by
  obtain ⟨l, hl⟩ : ∃ l, l = s.data.toList := ⟨_, rfl⟩
  have hlen : s.size = l.length := by rw [hl, ← Lib.size_eq]
  rw [← hl]
  have Hl := hid hl
  have Hlen := hid hlen
  clear hl hlen
  by_cases h0 : s.size < 1
  · have R := hid (show nameB l = false by
      have := Hlen.out
      rw [List.eq_nil_of_length_eq_zero (show l.length = 0 by omega)]; rfl)
    go_enter Tryz.func256, Tryz.ntmps256
    go_wp2
    go_ret
    exact ⟨by rw [R.out]; rfl, rfl⟩
  by_cases h64 : 64 < s.size
  · have R := hid (show nameB l = false from nameB_long (by have := Hlen.out; omega))
    have h0' : 1 ≤ s.size := by omega
    clear h0
    go_enter Tryz.func256, Tryz.ntmps256
    go_wp2
    go_ret
    exact ⟨by rw [R.out]; rfl, rfl⟩
  have h1 : 1 ≤ s.size := by omega
  have h65 : s.size ≤ 64 := by omega
  clear h0 h64
  have hc0 : s[0]'(by omega) = l.getD 0 0 := by rw [strAt, ← Hl.out]
  have hg := nameB_beg (l := l)
  have hla := rbegins_any (l.getD 0 0) w
  have hb := hid (show nameB l = (begB (l.getD 0 0) && l.all innB) by
    have := Hlen.out
    unfold nameB; rw [decide_eq_true (by omega)]
    cases l with
    | nil => change s.size = 0 at this; omega
    | cons _ _ => simp)
  generalize hb0 : begB (l.getD 0 0) = b0 at hla hb hg
  clear hb0
  generalize l.getD 0 0 = c0 at hc0 hla
  have Hla := hid hla
  have Hg := hid hg
  clear hla hg
  cases b0
  · have R := hid (Hg.out rfl)
    go_enter Tryz.func256, Tryz.ntmps256
    go_wp2_with fail
    refine Hla.out.mono ?_
    rintro e w2 ⟨rfl, rfl⟩
    go_wp2
    go_ret
    exact ⟨by rw [R.out]; rfl, rfl⟩
  · have hall0 := hid (show nameB l = l.all innB by rw [hb.out]; rfl)
    clear hb Hg
    go_enter Tryz.func256, Tryz.ntmps256
    go_wp2_with fail
    refine Hla.out.mono ?_
    rintro e w2 ⟨rfl, rfl⟩
    go_wp2_with fail
    go_loop [3] (fun vk => ∃ k : Nat, k ≤ s.size ∧ vk = .int .i64 k ∧ Hid ((l.take k).all innB = true)) (fun vk => s.size - (intOf vk).toNat)
    case atStart => exact ⟨0, Nat.zero_le _, rfl, rfl⟩
    case round =>
      obtain ⟨k, hk, rfl, hall⟩ := hrel
      by_cases hlt : k < s.size
      · have hkl : k < l.length := by rw [← Hlen.out]; exact hlt
        have hc : s[k]'hlt = l.getD k 0 := by rw [strAt, ← Hl.out]
        have hyes := fun h : innB (l.getD k 0) = true => hid (show (l.take (k + 1)).all innB = true by rw [xall_snoc l _ k hkl, hall.out, h]; rfl)
        have hno := fun h : innB (l.getD k 0) = false => hid (show nameB l = false by rw [hall0.out, xall_not l _ k hkl h])
        have hin := rwithin_any (l.getD k 0) w
        generalize hb1 : innB (l.getD k 0) = b1 at hyes hno hin
        clear hb1
        generalize l.getD k 0 = c at hc hin
        clear hkl
        have Hin := hid hin
        have hY := hid hyes
        have hN := hid hno
        clear hin hyes hno
        cases b1
        · have R := hN.out rfl
          go_wp2_with fail
          refine Hin.out.mono ?_
          rintro e w2 ⟨rfl, rfl⟩
          go_wp2
          go_ret
          exact ⟨by rw [R.out]; rfl, rfl⟩
        · have R := hY.out rfl
          go_wp2_with fail
          refine Hin.out.mono ?_
          rintro e w2 ⟨rfl, rfl⟩
          go_wp2
          go_round
          case rel => exact ⟨k + 1, by omega, by go_num, R⟩
          case measure => simp [intOf]; omega
      · have hke : k = l.length := by have := Hlen.out; omega
        have R := hid (show nameB l = true by have := hall.out; rw [hke, List.take_length] at this; rw [hall0.out, this])
        go_wp2
        go_ret
        exact ⟨by rw [R.out]; rfl, rfl⟩
set_option maxHeartbeats 1000000 in
theorem rplain_any (s : ByteArray) (w : World) (hs : s.size ≤ 100000) :
    Calls Tryz.prog 13 #[.string s] w fun e w' => e = .returned (.bool (plainB s.data.toList)) ∧ w = w' := by
  obtain ⟨l, hl⟩ : ∃ l, l = s.data.toList := ⟨_, rfl⟩
  have hlen : s.size = l.length := by rw [hl, ← Lib.size_eq]
  rw [← hl]
  have Hl := hid hl
  have Hlen := hid hlen
  clear hl hlen
  go_enter Tryz.func13, Tryz.ntmps13
  go_wp2_with fail
  go_loop [3] (fun vk => ∃ k : Nat, k ≤ s.size ∧ vk = .int .i64 k ∧ Hid ((l.take k).all (fun c => !ctlB c) = true)) (fun vk => s.size - (intOf vk).toNat)
  case atStart => exact ⟨0, Nat.zero_le _, rfl, rfl⟩
  case round =>
    obtain ⟨k, hk, rfl, hall⟩ := hrel
    by_cases hlt : k < s.size
    · have hkl : k < l.length := by rw [← Hlen.out]; exact hlt
      have hc : s[k]'hlt = l.getD k 0 := by rw [strAt, ← Hl.out]
      have hyes := fun h : ctlB (l.getD k 0) = false => hid (show (l.take (k + 1)).all (fun c => !ctlB c) = true by rw [xall_snoc l _ k hkl, hall.out, h]; rfl)
      have hno := fun h : ctlB (l.getD k 0) = true => hid (show plainB l = false by unfold plainB; rw [xall_not l _ k hkl (by rw [h]; rfl)])
      generalize l.getD k 0 = c at hc hyes hno
      clear hkl
      have hcb := UInt8.toNat_lt c
      have hcd : ctlB c = (decide ((c.toNat : Int) < 32) && !decide ((c.toNat : Int) = 9) && !decide ((c.toNat : Int) = 10) && !decide ((c.toNat : Int) = 13)) := rfl
      generalize ctlB c = b at hyes hno hcd
      have Hcd := hid hcd
      have hY := hid hyes
      have hN := hid hno
      clear hyes hno hcd
      go_wp2
      all_goals first
        | (go_round
           case rel => exact ⟨k + 1, by omega, by go_num, hY.out (by rw [Hcd.out]; simp_all <;> omega)⟩
           case measure => simp [intOf]; omega)
        | (go_ret
           refine ⟨?_, rfl⟩
           rw [(hN.out (by rw [Hcd.out]; simp_all <;> omega)).out]
           rfl)
    · have hke : k = l.length := by have := Hlen.out; omega
      have R := hid (show plainB l = true by have := hall.out; rw [hke, List.take_length] at this; exact this)
      go_wp2
      go_ret
      exact ⟨by rw [R.out]; rfl, rfl⟩
end Go.Proofs.YtmofnoconhgjmaaGreatDoor
