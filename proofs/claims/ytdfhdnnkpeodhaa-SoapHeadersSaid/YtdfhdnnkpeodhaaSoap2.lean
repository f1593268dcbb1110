/- hearthref18.Header: what it computes. -/
import Derived.Test.YtdfhdnnkpeodhaaStrs
namespace Go.Proofs.Ytdfhdnnkpeodhaa
open Go.RowKit

def atN (l : List UInt8) : Nat → Nat
  | 0 => 0
  | k + 1 => if l[k]? = some 35 then k else atN l k
def cntN (l : List UInt8) (c : UInt8) : Nat → Nat
  | 0 => 0
  | k + 1 => if l[k]? = some c then cntN l c k + 1 else cntN l c k
theorem atN_lt (l : List UInt8) : ∀ k, atN l k ≤ k
  | 0 => Nat.le_refl _
  | k + 1 => by unfold atN; have := atN_lt l k; split <;> omega
theorem cntN_le (l : List UInt8) (c : UInt8) : ∀ k, cntN l c k ≤ k
  | 0 => Nat.le_refl _
  | k + 1 => by unfold cntN; have := cntN_le l c k; split <;> omega
theorem atN_at (l : List UInt8) : ∀ k, 1 ≤ cntN l 35 k → l[atN l k]? = some 35 ∧ atN l k < k
  | 0, h => by simp [cntN] at h
  | k + 1, h => by
    simp only [atN]
    simp only [cntN] at h
    by_cases p : l[k]? = some 35
    · rw [if_pos p]; exact ⟨p, by omega⟩
    · rw [if_neg p] at h ⊢
      have := atN_at l k h
      exact ⟨this.1, by omega⟩
/-- What refuses. -/
def rhdrNo (l : List UInt8) : Bool :=
  decide (l.length < 2) || (l[0]? != some 34) || (l[l.length - 1]? != some 34) || (cntN l 35 l.length != 1) || (cntN l 34 l.length != 2) || (atN l l.length == 1) || (atN l l.length == l.length - 2)
def rhdr (l : List UInt8) : List UInt8 × List UInt8 × Bool :=
  if rhdrNo l then ([], [], false) else ((l.take (atN l l.length)).drop 1, (l.take (l.length - 1)).drop (atN l l.length + 1), true)
theorem byteAt (s : ByteArray) (k : Nat) (h : k < s.size) (c : UInt8) : (((s[k]'h).toNat : Int) == (c.toNat : Int)) = decide (s.data.toList[k]? = some c) := by
  have : s.data.toList[k]? = some (s[k]'h) := by
    rw [List.getElem?_eq_getElem (by simpa using h)]; rfl
  rw [this, Bool.eq_iff_iff]
  simp only [beq_iff_eq, decide_eq_true_eq, Option.some.injEq]
  constructor
  · intro h; exact UInt8.toNat_inj.1 (by omega)
  · intro h; rw [h]
set_option maxHeartbeats 1000000 in
theorem rheader_any (s : ByteArray) (w : World) (hs : s.size ≤ 9223372036854775806) :
    Calls Try.prog 6 #[.string s] w fun e w' =>
      e = .returned (.tuple #[str (rhdr s.data.toList).1, str (rhdr s.data.toList).2.1, .bool (rhdr s.data.toList).2.2]) ∧ w.grownBy w' none := by
  obtain ⟨l, hl⟩ : ∃ l, l = s.data.toList := ⟨_, rfl⟩
  have hlen : l.length = s.size := by rw [hl, ← Lib.size_eq]
  rw [← hl]
  have Hlen := hid hlen
  have Hl := hid hl
  clear hl hlen
  go_enter Try.func6, Try.ntmps6
  go_wp2_with fail
  go_loop [5, 6, 7, 8] (fun va vm vq vi => ∃ k : Nat, k ≤ s.size ∧ va = .int .i64 (atN l k) ∧ vm = .int .i64 (cntN l 35 k) ∧ vq = .int .i64 (cntN l 34 k) ∧ vi = .int .i64 k) (fun _ _ _ vi => s.size - (intOf vi).toNat)
  case atStart => exact ⟨0, Nat.zero_le _, rfl, rfl, rfl, rfl⟩
  case round =>
    obtain ⟨k, hk, rfl, rfl, rfl, rfl⟩ := hrel
    have a1 := atN_lt l k
    have a2 := cntN_le l 35 k
    have a3 := cntN_le l 34 k
    by_cases hlt : k < s.size
    · have b35 := byteAt s k hlt 35
      have b34 := byteAt s k hlt 34
      rw [← Hl.out] at b35 b34
      have hq : l[k]? = some 35 → ¬ l[k]? = some 34 := fun h => by rw [h]; decide
      by_cases p : l[k]? = some 35
      · have q := hq p
        have S1 := hid (show atN l (k + 1) = k by simp only [atN]; rw [if_pos p])
        have S2 := hid (show cntN l 35 (k + 1) = cntN l 35 k + 1 by simp only [cntN]; rw [if_pos p])
        have S3 := hid (show cntN l 34 (k + 1) = cntN l 34 k by simp only [cntN]; rw [if_neg q])
        have b35' : (((s[k]'hlt).toNat : Int) == 35) = true := b35.trans (by simp [p])
        have b34' : (((s[k]'hlt).toNat : Int) == 34) = false := b34.trans (by simp [q])
        clear p q hq b35 b34
        go_wp2
        go_round
        case rel => exact ⟨k + 1, by omega, by rw [S1.out], by rw [S2.out]; first | done | rfl | go_num, by rw [S3.out]; first | done | rfl | go_num, by go_num⟩
        case measure => simp [intOf]; omega
      · by_cases q : l[k]? = some 34
        · have S1 := hid (show atN l (k + 1) = atN l k by simp only [atN]; rw [if_neg p])
          have S2 := hid (show cntN l 35 (k + 1) = cntN l 35 k by simp only [cntN]; rw [if_neg p])
          have S3 := hid (show cntN l 34 (k + 1) = cntN l 34 k + 1 by simp only [cntN]; rw [if_pos q])
          have b35' : (((s[k]'hlt).toNat : Int) == 35) = false := b35.trans (by simp [p])
          have b34' : (((s[k]'hlt).toNat : Int) == 34) = true := b34.trans (by simp [q])
          clear p q hq b35 b34
          go_wp2
          go_round
          case rel => exact ⟨k + 1, by omega, by rw [S1.out], by rw [S2.out]; first | done | rfl | go_num, by rw [S3.out]; first | done | rfl | go_num, by go_num⟩
          case measure => simp [intOf]; omega
        · have S1 := hid (show atN l (k + 1) = atN l k by simp only [atN]; rw [if_neg p])
          have S2 := hid (show cntN l 35 (k + 1) = cntN l 35 k by simp only [cntN]; rw [if_neg p])
          have S3 := hid (show cntN l 34 (k + 1) = cntN l 34 k by simp only [cntN]; rw [if_neg q])
          have b35' : (((s[k]'hlt).toNat : Int) == 35) = false := b35.trans (by simp [p])
          have b34' : (((s[k]'hlt).toNat : Int) == 34) = false := b34.trans (by simp [q])
          clear p q hq b35 b34
          go_wp2
          go_round
          case rel => exact ⟨k + 1, by omega, by rw [S1.out], by rw [S2.out]; first | done | rfl | go_num, by rw [S3.out]; first | done | rfl | go_num, by go_num⟩
          case measure => simp [intOf]; omega
    · have hke : k = l.length := by rw [Hlen.out]; omega
      have hle : Hid (k = l.length) := hke
      have hks : s.size = k := by rw [hke, Hlen.out]
      have hno : ∀ {x : Bool}, rhdrNo l = x → Hid (rhdrNo l = x) := fun h => h
      have hdef : Hid (rhdrNo l = (decide (k < 2) || (l[0]? != some 34) || (l[k - 1]? != some 34) || (cntN l 35 k != 1) || (cntN l 34 k != 2) || (atN l k == 1) || (atN l k == k - 2))) := by rw [hke]; rfl
      clear hno hke
      by_cases h2 : k < 2
      · have R : Hid (rhdrNo l = true) := by show rhdrNo l = true; rw [hdef.out]; simp [h2]
        go_wp2
        go_ret3
        exact ⟨by rw [rhdr, R.out]; rfl, by (repeat (first | exact gr_refl _ _ | assumption | refine gr_drew ?_ | refine gr_drewN _ ?_ | refine gr_alloc ?_ _ | refine gr_set ?_ | refine gr_set_new ?_ (by simp; omega)))⟩
      have h2' : 2 ≤ k := by omega
      have g0 := byteAt s 0 (by omega) 34
      have gl := byteAt s (k - 1) (by omega) 34
      rw [← Hl.out] at g0 gl
      by_cases p0 : l[0]? = some 34
      case neg =>
        have R : Hid (rhdrNo l = true) := by show rhdrNo l = true; rw [hdef.out]; simp [p0]
        have c0 : (((s[0]'(by omega)).toNat : Int) != 34) = true := by rw [bne, show (((s[0]'(by omega)).toNat : Int) == 34) = false from g0.trans (by simp [p0])]; rfl
        clear g0 gl p0
        go_wp2
        go_ret3
        exact ⟨by rw [rhdr, R.out]; rfl, by (repeat (first | exact gr_refl _ _ | assumption | refine gr_drew ?_ | refine gr_drewN _ ?_ | refine gr_alloc ?_ _ | refine gr_set ?_ | refine gr_set_new ?_ (by simp; omega)))⟩
      have c0 : (((s[0]'(by omega)).toNat : Int) != 34) = false := by rw [bne, show (((s[0]'(by omega)).toNat : Int) == 34) = true from g0.trans (by simp [p0])]; rfl
      by_cases pl : l[k - 1]? = some 34
      case neg =>
        have R : Hid (rhdrNo l = true) := by show rhdrNo l = true; rw [hdef.out]; simp [pl]
        have cl : (((s[k - 1]'(by omega)).toNat : Int) != 34) = true := by rw [bne, show (((s[k - 1]'(by omega)).toNat : Int) == 34) = false from gl.trans (by simp [pl])]; rfl
        clear g0 gl p0 pl
        go_wp2
        go_ret3
        exact ⟨by rw [rhdr, R.out]; rfl, by (repeat (first | exact gr_refl _ _ | assumption | refine gr_drew ?_ | refine gr_drewN _ ?_ | refine gr_alloc ?_ _ | refine gr_set ?_ | refine gr_set_new ?_ (by simp; omega)))⟩
      have cl : (((s[k - 1]'(by omega)).toNat : Int) != 34) = false := by rw [bne, show (((s[k - 1]'(by omega)).toNat : Int) == 34) = true from gl.trans (by simp [pl])]; rfl
      have P0 := hid p0
      have PL := hid pl
      clear g0 gl p0 pl
      by_cases m1 : cntN l 35 k = 1
      case neg =>
        have R : Hid (rhdrNo l = true) := by show rhdrNo l = true; rw [hdef.out]; simp [m1]
        have m1' : ((cntN l 35 k : Int) != 1) = true := by simp; omega
        clear m1
        go_wp2
        go_ret3
        exact ⟨by rw [rhdr, R.out]; rfl, by (repeat (first | exact gr_refl _ _ | assumption | refine gr_drew ?_ | refine gr_drewN _ ?_ | refine gr_alloc ?_ _ | refine gr_set ?_ | refine gr_set_new ?_ (by simp; omega)))⟩
      have m1' : ((cntN l 35 k : Int) != 1) = false := by simp; omega
      by_cases m2 : cntN l 34 k = 2
      case neg =>
        have R : Hid (rhdrNo l = true) := by show rhdrNo l = true; rw [hdef.out]; simp [m2]
        have m2' : ((cntN l 34 k : Int) != 2) = true := by simp; omega
        clear m1 m2
        go_wp2
        go_ret3
        exact ⟨by rw [rhdr, R.out]; rfl, by (repeat (first | exact gr_refl _ _ | assumption | refine gr_drew ?_ | refine gr_drewN _ ?_ | refine gr_alloc ?_ _ | refine gr_set ?_ | refine gr_set_new ?_ (by simp; omega)))⟩
      have m2' : ((cntN l 34 k : Int) != 2) = false := by simp; omega
      by_cases m3 : atN l k = 1
      case pos =>
        have R : Hid (rhdrNo l = true) := by show rhdrNo l = true; rw [hdef.out]; simp [m3]
        have m3' : ((atN l k : Int) == 1) = true := by simp; omega
        clear m1 m2 m3
        go_wp2
        go_ret3
        exact ⟨by rw [rhdr, R.out]; rfl, by (repeat (first | exact gr_refl _ _ | assumption | refine gr_drew ?_ | refine gr_drewN _ ?_ | refine gr_alloc ?_ _ | refine gr_set ?_ | refine gr_set_new ?_ (by simp; omega)))⟩
      have m3' : ((atN l k : Int) == 1) = false := by simp; omega
      by_cases m4 : atN l k = k - 2
      case pos =>
        have R : Hid (rhdrNo l = true) := by show rhdrNo l = true; rw [hdef.out]; simp [m4]
        have m4' : ((atN l k : Int) == (k : Int) - 2) = true := by simp; omega
        clear m1 m2 m3 m4
        go_wp2
        go_ret3
        exact ⟨by rw [rhdr, R.out]; rfl, by (repeat (first | exact gr_refl _ _ | assumption | refine gr_drew ?_ | refine gr_drewN _ ?_ | refine gr_alloc ?_ _ | refine gr_set ?_ | refine gr_set_new ?_ (by simp; omega)))⟩
      have m4' : ((atN l k : Int) == (k : Int) - 2) = false := by simp; omega
      have R : Hid (rhdrNo l = false) := by
        show rhdrNo l = false; rw [hdef.out]; simp [m1, m2, m3, m4, P0.out, PL.out]; omega
      -- the mark stands within the quotes
      have hat : 1 ≤ atN l k ∧ atN l k < k - 1 := by
        obtain ⟨z1, z2⟩ := atN_at l k (by omega)
        have n0 : atN l k ≠ 0 := fun h => by rw [h, P0.out] at z1; exact absurd z1 (by decide)
        have n1 : atN l k ≠ k - 1 := fun h => by rw [h, PL.out] at z1; exact absurd z1 (by decide)
        omega
      clear m1 m2 m3 m4
      have q1 : IntKind.i64.wrap ((atN l k : Int) + 1) = (atN l k : Int) + 1 := IntWalk.i64_in _ (by omega)
      have q2 : IntKind.i64.wrap ((k : Int) - 1) = (k : Int) - 1 := IntWalk.i64_in _ (by omega)
      have q3 : ((atN l k : Int) + 1).toNat = atN l k + 1 := by omega
      have q4 : ((k : Int) - 1).toNat = k - 1 := by omega
      have q5 : (0 : Int) ≤ (atN l k : Int) + 1 := by omega
      have q6 : (atN l k : Int) + 1 ≤ (k : Int) - 1 := by omega
      have q7 : (k : Int) - 1 ≤ (k : Int) := by omega
      have q8 : (1 : Int) ≤ (atN l k : Int) := by omega
      have q9 : (atN l k : Int) ≤ (k : Int) := by omega
      go_wp2
      go_quiet (fail)
      go_wp2
      go_ret3
      refine ⟨?_, by (repeat (first | exact gr_refl _ _ | assumption | refine gr_drew ?_ | refine gr_drewN _ ?_ | refine gr_alloc ?_ _ | refine gr_set ?_ | refine gr_set_new ?_ (by simp; omega)))⟩
      rw [rhdr, R.out]
      show Ending.returned (.tuple #[Value.string (s.extract 1 (atN l k)), Value.string (s.extract (atN l k + 1) (k - 1)), .bool true]) = _
      rw [str_of (s.extract 1 _), str_of (s.extract (atN l k + 1) _), Lib.extract_data, Lib.extract_data, ← Hl.out, ← hle.out]
      simp [List.drop_take]
end Go.Proofs.Ytdfhdnnkpeodhaa
