/- The two Finds. -/
import Derived.Test.YtdfhdnnkpeodhaaStrs
namespace Go.Proofs.Ytdfhdnnkpeodhaa
open Go.RowKit

/-- A list of pairs of strings that came in. -/
structure PairAt (w : World) (b o : Nat) (n v : ByteArray) : Prop where
  c0 : w.cell? ⟨b, o, none⟩ = some (.string n)
  c1 : w.cell? ⟨b, o + 1, none⟩ = some (.string v)
theorem PairAt.grown {w w' : World} {b o : Nat} {n v : ByteArray} (h : PairAt w b o n v) (g : w.grownBy w' none) : PairAt w' b o n v :=
  ⟨g.cell h.c0 (by simp), g.cell h.c1 (by simp)⟩
def PairsAt (w : World) (a : Option Addr) (len : Nat) (ns vs : Nat → ByteArray) : Prop := len = 0 ∨ ∃ b o, a = some ⟨b, o, none⟩ ∧ ∀ i, i < len → PairAt w b (o + i * 2) (ns i) (vs i)
theorem PairsAt.grown {w w' : World} {a : Option Addr} {len : Nat} {ns vs : Nat → ByteArray} (h : PairsAt w a len ns vs) (g : w.grownBy w' none) : PairsAt w' a len ns vs := by
  rcases h with h0 | ⟨b, o, rfl, h⟩
  · exact .inl h0
  · exact .inr ⟨b, o, rfl, fun i hi => (h i hi).grown g⟩
theorem toList_beq (a b : ByteArray) : (a.toList == b.toList) = decide (a = b) := by
  rw [Bool.eq_iff_iff, beq_iff_eq, decide_eq_true_iff, Lib.toList_data, Lib.toList_data]
  constructor
  · intro h; exact ByteArray.ext (Array.toList_inj.1 h)
  · intro h; rw [h]
def fnd (ns vs : Nat → ByteArray) (len : Nat) (name : ByteArray) : ByteArray × Bool :=
  match (List.range len).find? (fun i => decide (ns i = name)) with
  | some i => (vs i, true)
  | none => (ByteArray.empty, false)
theorem fnd_hit {ns vs : Nat → ByteArray} {len k : Nat} {name : ByteArray} (hk : k < len) (h : ∀ j, j < k → ns j ≠ name) (he : ns k = name) : fnd ns vs len name = (vs k, true) := by
  have : (List.range len).find? (fun i => decide (ns i = name)) = some k := by
    rw [List.find?_range_eq_some]
    refine ⟨by simp [he], by simpa using hk, ?_⟩
    intro j hj; simpa using h j hj
  unfold fnd; rw [this]
theorem fnd_miss {ns vs : Nat → ByteArray} {len : Nat} {name : ByteArray} (h : ∀ j, j < len → ns j ≠ name) : fnd ns vs len name = (ByteArray.empty, false) := by
  have : (List.range len).find? (fun i => decide (ns i = name)) = none := by
    rw [List.find?_eq_none]
    intro x hx; simp at hx; simpa using h x hx
  unfold fnd; rw [this]
set_option maxHeartbeats 1000000 in
theorem find_any (w : World) (a : Option Addr) (len cap : Nat) (ns vs : Nat → ByteArray) (name : ByteArray) (h : PairsAt w a len ns vs) (hlen : len ≤ 100) :
    Calls Try.prog 7 #[.slice a len cap, .string name] w fun e w' => e = .returned (.tuple #[.string (fnd ns vs len name).1, .bool (fnd ns vs len name).2]) ∧ w.grownBy w' none := by
  go_enter Try.func7, Try.ntmps7
  go_wp2_with fail
  go_loopw [10] (fun vk wr => ∃ k : Nat, vk = .int .i64 k ∧ k ≤ len ∧ w.grownBy wr none ∧ Hid (∀ j, j < k → ns j ≠ name)) (fun vk _ => len - (intOf vk).toNat)
  case atStart => exact ⟨0, rfl, Nat.zero_le _, gr_refl _ _, fun j hj => by omega⟩
  case round =>
    obtain ⟨k, rfl, hk, gw, hno⟩ := hrel
    by_cases hkl : k < len
    · rcases h with h0 | ⟨b, o, rfl, hp⟩
      · omega
      have c0 := ((hp k hkl).grown gw).c0
      have c1 := ((hp k hkl).grown gw).c1
      clear hp
      by_cases he : ns k = name
      · have R := hid (fnd_hit (vs := vs) hkl hno.out he)
        rw [he] at c0
        clear he
        go_wp2
        go_ret2
        exact ⟨by rw [R.out]; rfl, by (repeat (first | exact gr_refl _ _ | assumption | refine gr_drew ?_ | refine gr_drewN _ ?_ | refine gr_alloc ?_ _ | refine gr_set ?_ | refine gr_set_new ?_ (by simp; omega)))⟩
      · have hno' : Hid (∀ j, j < k + 1 → ns j ≠ name) := fun j hj => by
          by_cases hjk : j = k
          · subst hjk; exact he
          · exact hno.out j (by omega)
        have hne : ((ns k).toList == name.toList) = false := by rw [toList_beq]; simpa using he
        clear he hno
        go_wp2
        go_roundw
        case rel => exact ⟨k + 1, by go_num, by omega, by (repeat (first | exact gr_refl _ _ | assumption | refine gr_drew ?_ | refine gr_drewN _ ?_ | refine gr_alloc ?_ _ | refine gr_set ?_ | refine gr_set_new ?_ (by simp; omega))), hno'⟩
        case measure => simp [intOf]; omega
    · obtain rfl : k = len := by omega
      have R := hid (fnd_miss (vs := vs) hno.out)
      go_wp2
      go_ret2
      exact ⟨by rw [R.out]; rfl, gw⟩
set_option maxHeartbeats 1000000 in
theorem rfind_any (w : World) (a : Option Addr) (len cap : Nat) (ns vs : Nat → ByteArray) (name : ByteArray) (h : PairsAt w a len ns vs) (hlen : len ≤ 100) :
    Calls Try.prog 8 #[.slice a len cap, .string name] w fun e w' => e = .returned (.tuple #[.string (fnd ns vs len name).1, .bool (fnd ns vs len name).2]) ∧ w.grownBy w' none := by
  go_enter Try.func8, Try.ntmps8
  go_wp2_with fail
  go_loopw [6] (fun vk wr => ∃ k : Nat, vk = .int .i64 k ∧ k ≤ len ∧ w.grownBy wr none ∧ Hid (∀ j, j < k → ns j ≠ name)) (fun vk _ => len - (intOf vk).toNat)
  case atStart => exact ⟨0, rfl, Nat.zero_le _, gr_refl _ _, fun j hj => by omega⟩
  case round =>
    obtain ⟨k, rfl, hk, gw, hno⟩ := hrel
    by_cases hkl : k < len
    · rcases h with h0 | ⟨b, o, rfl, hp⟩
      · omega
      have c0 := ((hp k hkl).grown gw).c0
      have c1 := ((hp k hkl).grown gw).c1
      clear hp
      by_cases he : ns k = name
      · have R := hid (fnd_hit (vs := vs) hkl hno.out he)
        rw [he] at c0
        clear he
        go_wp2
        go_ret2
        exact ⟨by rw [R.out]; rfl, by (repeat (first | exact gr_refl _ _ | assumption | refine gr_drew ?_ | refine gr_drewN _ ?_ | refine gr_alloc ?_ _ | refine gr_set ?_ | refine gr_set_new ?_ (by simp; omega)))⟩
      · have hno' : Hid (∀ j, j < k + 1 → ns j ≠ name) := fun j hj => by
          by_cases hjk : j = k
          · subst hjk; exact he
          · exact hno.out j (by omega)
        have hne : ((ns k).toList == name.toList) = false := by rw [toList_beq]; simpa using he
        clear he hno
        go_wp2
        go_roundw
        case rel => exact ⟨k + 1, by go_num, by omega, by (repeat (first | exact gr_refl _ _ | assumption | refine gr_drew ?_ | refine gr_drewN _ ?_ | refine gr_alloc ?_ _ | refine gr_set ?_ | refine gr_set_new ?_ (by simp; omega))), hno'⟩
        case measure => simp [intOf]; omega
    · obtain rfl : k = len := by omega
      have R := hid (fnd_miss (vs := vs) hno.out)
      go_wp2
      go_ret2
      exact ⟨by rw [R.out]; rfl, gw⟩
end Go.Proofs.Ytdfhdnnkpeodhaa
