/- HttpStatus: the plain law. It speaks of no program. -/
import Derived.Test.YtldbcdiomkkinaaGreatDoorHs2
import Derived.Test.YtldbcdiomkkinaaGreatDoorHr3
namespace Go.Proofs.YtldbcdiomkkinaaGreatDoor
open Go.RowKit

theorem index_none : ∀ (A : List UInt8), 10 ∉ A → Lib.indexByte A 10 = -1
  | [], _ => rfl
  | x :: A, h => by
    have hx : (x == 10) = false := by
      rw [beq_eq_false_iff_ne]
      intro e
      exact h (by rw [e]; exact List.mem_cons_self ..)
    have ih := index_none A (fun hm => h (List.mem_cons_of_mem _ hm))
    simp only [Lib.indexByte, hx, ih]
    rfl
theorem index_app (B : List UInt8) : ∀ (A : List UInt8), 10 ∉ A → Lib.indexByte (A ++ 10 :: B) 10 = (A.length : Int)
  | [], _ => by simp [Lib.indexByte]
  | x :: A, h => by
    have hx : (x == 10) = false := by
      rw [beq_eq_false_iff_ne]
      intro e
      exact h (by rw [e]; exact List.mem_cons_self ..)
    have ih := index_app B A (fun hm => h (List.mem_cons_of_mem _ hm))
    simp only [List.cons_append, Lib.indexByte, hx, ih, List.length_cons]
    rw [if_neg (by simp), if_neg (by first | omega | (simp; done) | (simp; omega))]
    omega
theorem dd3 {m : Nat} (h1 : 100 ≤ m) (h2 : m ≤ 999) : Lib.itoa (m : Int) = [UInt8.ofNat (48 + m / 100), UInt8.ofNat (48 + m / 10 % 10), UInt8.ofNat (48 + m % 10)] := by
  unfold Lib.itoa
  rw [if_neg (by omega), Int.toNat_natCast, Lib.decDigits, dif_neg (by omega), Lib.decDigits_two (by omega) (by omega)]
  rw [show m / 10 / 10 = m / 100 by omega]
  rfl
theorem valN_d {a : Nat} (h : a < 10) : valN (UInt8.ofNat (48 + a)) = (a : Int) := by
  have h := (by decide : ∀ a : Fin 10, valN (UInt8.ofNat (48 + a.val)) = (a.val : Int)) ⟨a, h⟩
  exact h
theorem numGo_d {a : Nat} (h : a < 10) (n : Int) (l : List UInt8) : numGo 10 n (UInt8.ofNat (48 + a) :: l) = numGo 10 (n * 10 + a) l := by
  rw [numGo, valN_d h, if_neg (by omega)]
theorem num3 {a b c : Nat} (ha : a < 10) (hb : b < 10) (hc : c < 10) : numR 10 999 [UInt8.ofNat (48 + a), UInt8.ofNat (48 + b), UInt8.ofNat (48 + c)] = (((100 * a + 10 * b + c : Nat) : Int), true) := by
  unfold numR
  rw [if_neg (by simp), numGo_d ha, numGo_d hb, numGo_d hc]
  unfold numGo numFin
  dsimp only
  rw [if_neg (by omega)]
  simp only [Prod.mk.injEq, and_true]
  omega
theorem not10_d {a : Nat} (h : a < 10) : UInt8.ofNat (48 + a) ≠ 10 := (by decide : ∀ a : Fin 10, UInt8.ofNat (48 + a.val) ≠ 10) ⟨a, h⟩
theorem reason_no10 (n : Int) : 10 ∉ reasonL n := by
  unfold reasonL
  cases h : reasonT.find? (fun p => n == p.1) with
  | none => decide
  | some p => exact (by decide : ∀ p ∈ reasonT, 10 ∉ p.2) p (List.mem_of_find?_eq_some h)
theorem first_shape {m : Nat} (h1 : 100 ≤ m) (h2 : m ≤ 999) : firstR m = [72, 84, 84, 80, 47, 49, 46] ++ ([49, 32, UInt8.ofNat (48 + m / 100), UInt8.ofNat (48 + m / 10 % 10), UInt8.ofNat (48 + m % 10), 32] ++ reasonL (m : Int)) := by
  unfold firstR httpL
  rw [dd3 h1 h2]
  rfl
theorem first_no10 {m : Nat} (h1 : 100 ≤ m) (h2 : m ≤ 999) : 10 ∉ firstR m := by
  rw [first_shape h1 h2]
  have a1 := not10_d (show m / 100 < 10 by omega)
  have a2 := not10_d (show m / 10 % 10 < 10 by omega)
  have a3 := not10_d (show m % 10 < 10 by omega)
  have a4 := reason_no10 (m : Int)
  simp only [List.mem_append, List.mem_cons, List.not_mem_nil, or_false, not_or]
  exact ⟨by decide, ⟨by decide, by decide, Ne.symm a1, Ne.symm a2, Ne.symm a3, by decide⟩, a4⟩
theorem first_len {m : Nat} (h1 : 100 ≤ m) (h2 : m ≤ 999) : 13 ≤ (firstR m).length ∧ (firstR m).length ≤ 53 := by
  rw [first_shape h1 h2]
  have := reason_len (m : Int)
  simp
  omega
theorem first_stat {m : Nat} (h1 : 100 ≤ m) (h2 : m ≤ 999) : (if Lib.hasPrefix (firstR m) h1L = false then (0, false) else stat5 (Lib.trimPrefix (firstR m) h1L)) = ((m : Int), false) := by
  rw [first_shape h1 h2]
  have hp : ∀ l : List UInt8, Lib.hasPrefix ([72, 84, 84, 80, 47, 49, 46] ++ l) h1L = true := fun l => by
    unfold Lib.hasPrefix h1L
    simp
  have ht : ∀ l : List UInt8, Lib.trimPrefix ([72, 84, 84, 80, 47, 49, 46] ++ l) h1L = l := fun l => by
    unfold Lib.trimPrefix
    rw [hp]
    rfl
  rw [hp, ht, if_neg (by decide)]
  have h3 := num3 (show m / 100 < 10 by omega) (show m / 10 % 10 < 10 by omega) (show m % 10 < 10 by omega)
  rw [show 100 * (m / 100) + 10 * (m / 10 % 10) + m % 10 = m by omega] at h3
  unfold stat5
  rw [if_neg (by
    rintro (h | ⟨h, h'⟩ | h | ⟨h, h'⟩)
    · simp at h; omega
    · exact h' rfl
    · exact h rfl
    · exact h' rfl)]
  rw [show List.take 3 (List.drop 2 ([49, 32, UInt8.ofNat (48 + m / 100), UInt8.ofNat (48 + m / 10 % 10), UInt8.ofNat (48 + m % 10), 32] ++ reasonL (m : Int))) = [UInt8.ofNat (48 + m / 100), UInt8.ofNat (48 + m / 10 % 10), UInt8.ofNat (48 + m % 10)] from rfl, h3]
  rw [if_neg (by
    rintro (h | h)
    · cases h
    · dsimp only at h; omega)]
theorem write_shape (first : List UInt8) (fs : List (List UInt8 × List UInt8)) (body : List UInt8) (close : Bool) : ∃ R, writeL first fs body close = first ++ 13 :: 10 :: R := by
  unfold writeL rowsW
  obtain ⟨y, r, hr⟩ : ∃ y r, fs.map lineF ++ [clenL body.length] ++ (if close then [connL] else []) = y :: r := by
    cases fs with
    | nil => exact ⟨_, _, rfl⟩
    | cons f fs => exact ⟨_, _, rfl⟩
  rw [List.cons_append, List.cons_append, hr, Lib.join_cons]
  unfold Lib.joinTail
  rw [List.map_cons, List.flatten_cons]
  exact ⟨y ++ ((r.map ([13, 10] ++ ·)).flatten ++ ([13, 10, 13, 10] ++ body)), by simp⟩
/-- What is read of a response's beginning. -/
theorem stat_law {m : Nat} (h1 : 100 ≤ m) (h2 : m ≤ 999) (R : List UInt8) (k : Nat) (_hk : k ≤ (firstR m ++ 13 :: 10 :: R).length) :
    statL ((firstR m ++ 13 :: 10 :: R).take k) = if k ≤ (firstR m).length + 1 then (0, true) else ((m : Int), false) := by
  have hn := first_no10 h1 h2
  have hl := first_len h1 h2
  have hs := first_stat h1 h2
  generalize firstR m = F at *
  by_cases hc : k ≤ F.length + 1
  · rw [if_pos hc]
    have e1 : (F ++ 13 :: 10 :: R).take k = (F ++ [13]).take k := by
      rw [show F ++ 13 :: 10 :: R = (F ++ [13]) ++ 10 :: R by simp, List.take_append_of_le_length (by simp; omega)]
    have e2 : 10 ∉ (F ++ [13]).take k := fun h => by
      have := List.mem_of_mem_take h
      simp only [List.mem_append, List.mem_singleton] at this
      rcases this with h | h
      · exact hn h
      · exact absurd h (by decide)
    rw [e1]
    unfold statL lineL
    rw [index_none _ e2, if_neg (by decide)]
    dsimp only
    rw [List.length_take]
    simp only [Prod.mk.injEq, true_and, decide_eq_true_eq]
    omega
  · rw [if_neg hc]
    have e1 : (F ++ 13 :: 10 :: R).take k = (F ++ [13]) ++ 10 :: (R.take (k - (F.length + 2))) := by
      rw [show F ++ 13 :: 10 :: R = (F ++ [13, 10]) ++ R by simp, List.take_append, List.take_of_length_le (by simp; omega)]
      simp
    have e2 : 10 ∉ F ++ [13] := fun h => by
      simp only [List.mem_append, List.mem_singleton] at h
      rcases h with h | h
      · exact hn h
      · exact absurd h (by decide)
    rw [e1]
    generalize R.take (k - (F.length + 2)) = Q
    have e3 : lineL ((F ++ [13]) ++ 10 :: Q) = some (F, false, Q) := by
      unfold lineL
      rw [index_app Q _ e2, if_pos (by omega), Int.toNat_natCast]
      have e4 : ((F ++ [13]) ++ 10 :: Q).take (F ++ [13]).length = F ++ [13] := List.take_left
      have e5 : ((F ++ [13]) ++ 10 :: Q).drop ((F ++ [13]).length + 1) = Q := by
        rw [show (F ++ [13]) ++ 10 :: Q = (F ++ [13] ++ [10]) ++ Q by simp]
        exact List.drop_left' (by simp)
      have e6 : Lib.hasSuffix (F ++ [13]) [13] = true := by unfold Lib.hasSuffix; simp
      have e7 : Lib.trimSuffix (F ++ [13]) [13] = F := by unfold Lib.trimSuffix; rw [e6]; simp
      rw [e4, e5, e6, e7]
      rfl
    unfold statL
    rw [e3]
    dsimp only
    rw [if_neg (by
      rintro (h | h)
      · cases h
      · simp at h; omega)]
    exact hs
end Go.Proofs.YtldbcdiomkkinaaGreatDoor
