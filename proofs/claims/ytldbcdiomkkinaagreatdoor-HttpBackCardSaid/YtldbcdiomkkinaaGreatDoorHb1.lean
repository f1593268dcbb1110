/- Requests that are written are read as they were written: the plain law. It speaks of no program. -/
import Derived.Test.YtldbcdiomkkinaaGreatDoorHr3
import Derived.Test.YtldbcdiomkkinaaGreatDoorHw2
import Derived.Test.YtldbcdiomkkinaaGreatDoorHead20
namespace Go.Proofs.YtldbcdiomkkinaaGreatDoor
open Go.RowKit

theorem ix_none : ∀ (A : List UInt8) (c : UInt8), c ∉ A → Lib.indexByte A c = -1
  | [], _, _ => rfl
  | x :: A, c, h => by
    have hx : (x == c) = false := by
      rw [beq_eq_false_iff_ne]
      intro e
      exact h (by rw [e]; exact List.mem_cons_self ..)
    have ih := ix_none A c (fun hm => h (List.mem_cons_of_mem _ hm))
    simp only [Lib.indexByte, hx, ih]
    rfl
theorem ix_app (B : List UInt8) (c : UInt8) : ∀ (A : List UInt8), c ∉ A → Lib.indexByte (A ++ c :: B) c = (A.length : Int)
  | [], _ => by simp [Lib.indexByte]
  | x :: A, h => by
    have hx : (x == c) = false := by
      rw [beq_eq_false_iff_ne]
      intro e
      exact h (by rw [e]; exact List.mem_cons_self ..)
    have ih := ix_app B c A (fun hm => h (List.mem_cons_of_mem _ hm))
    simp only [List.cons_append, Lib.indexByte, hx, ih, List.length_cons]
    rw [if_neg (by simp), if_neg (by first | omega | (simp; done) | (simp; omega))]
    omega
theorem line_crlf (F Q : List UInt8) (h : 10 ∉ F) : lineL (F ++ 13 :: 10 :: Q) = some (F, false, Q) := by
  have e2 : 10 ∉ F ++ [13] := fun h2 => by
    simp only [List.mem_append, List.mem_singleton] at h2
    rcases h2 with h2 | h2
    · exact h h2
    · exact absurd h2 (by decide)
  rw [show F ++ 13 :: 10 :: Q = (F ++ [13]) ++ 10 :: Q by simp]
  unfold lineL
  rw [ix_app Q 10 _ e2, if_pos (by omega), Int.toNat_natCast]
  have e4 : ((F ++ [13]) ++ 10 :: Q).take (F ++ [13]).length = F ++ [13] := List.take_left
  have e5 : ((F ++ [13]) ++ 10 :: Q).drop ((F ++ [13]).length + 1) = Q := by
    rw [show (F ++ [13]) ++ 10 :: Q = (F ++ [13] ++ [10]) ++ Q by simp]
    exact List.drop_left' (by simp)
  have e6 : Lib.hasSuffix (F ++ [13]) [13] = true := by unfold Lib.hasSuffix; simp
  have e7 : Lib.trimSuffix (F ++ [13]) [13] = F := by unfold Lib.trimSuffix; rw [e6]; simp
  rw [e4, e5, e6, e7]
  rfl
theorem block_step (least f : Nat) (texts : List (List UInt8)) (t Q : List UInt8) (h : 10 ∉ t) (hc : ¬ (t = [] ∧ least ≤ texts.length)) : blockGo least (f + 1) texts false (t ++ 13 :: 10 :: Q) = blockGo least f (texts ++ [t]) false Q := by
  conv => lhs; unfold blockGo
  rw [line_crlf t Q h]
  exact if_neg hc
theorem block_end (least f : Nat) (texts : List (List UInt8)) (Q : List UInt8) (hc : least ≤ texts.length) : blockGo least (f + 1) texts false (13 :: 10 :: Q) = some (texts, false, Q) := by
  conv => lhs; unfold blockGo
  rw [show (13 :: 10 :: Q : List UInt8) = [] ++ 13 :: 10 :: Q from rfl, line_crlf [] Q (by simp)]
  exact if_pos ⟨rfl, hc⟩
theorem go_on {f : Nat} {s s' : Ps} {o : Option Pd} {out : List Pd} (h : stepS s = (s', o)) (hn : ¬ (s'.stage = 5 ∨ (o.isNone = true ∧ s'.stage = s.stage ∧ s'.rest.length = s.rest.length))) : feedGo (f + 1) s out = feedGo f s' (out ++ o.toList) := by
  conv => lhs; unfold feedGo
  rw [h]
  exact if_neg hn
theorem go_fin {f : Nat} {s s' : Ps} {o : Option Pd} {out : List Pd} (h : stepS s = (s', o)) (hn : s'.stage = 5 ∨ (o.isNone = true ∧ s'.stage = s.stage ∧ s'.rest.length = s.rest.length)) : feedGo (f + 1) s out = (out ++ o.toList, s') := by
  unfold feedGo
  rw [h]
  exact if_pos hn
/-- A reader that waits for a request. -/
def Ps.idle (x : Nat) : Ps := ⟨[], 0, false, Rq.zero, x⟩
theorem idle_step (x : Nat) : stepS (Ps.idle x) = (Ps.idle x, none) := by
  unfold stepS Ps.idle headS
  rfl
theorem valN_dec {a : Nat} (h : a < 10) : valN (UInt8.ofNat (48 + a)) = (a : Int) :=
  (by decide : ∀ a : Fin 10, valN (UInt8.ofNat (48 + a.val)) = (a.val : Int)) ⟨a, h⟩
theorem numGo_app (b : Int) : ∀ (l m : List UInt8) (n : Int), numGo b n (l ++ m) = (numGo b n l).bind (fun x => numGo b x m)
  | [], m, n => rfl
  | c :: l, m, n => by
    simp only [List.cons_append, numGo]
    split
    · rfl
    · exact numGo_app b l m _
theorem numGo_dec (n : Nat) : numGo 10 0 (Lib.decDigits n) = some (n : Int) := by
  induction n using Nat.strongRecOn with
  | _ n ih =>
    by_cases h : n < 10
    · rw [Lib.decDigits, dif_pos h, numGo, valN_dec h, if_neg (by omega), numGo]
      simp
    · rw [Lib.decDigits, dif_neg h, numGo_app, ih (n / 10) (by omega), Option.bind_some, numGo, valN_dec (by omega), if_neg (by omega), numGo]
      congr 1
      omega
theorem nd_le (k n : Nat) : n < 10 ^ (k + 1) → Lib.nDigits n ≤ k + 1 := by
  induction k generalizing n with
  | zero => intro h; rw [Lib.nDigits, dif_pos (by omega)]; omega
  | succ k ih =>
    intro h
    rw [Lib.nDigits]
    split
    · omega
    · have := ih (n / 10) (by rw [Nat.pow_succ] at h; omega)
      omega
theorem nd_pos (n : Nat) : 1 ≤ Lib.nDigits n := by
  rw [Lib.nDigits]
  split <;> omega
theorem numR_dec {n : Nat} (h : n ≤ 9999999) : numR 10 9999999 (Lib.itoa (n : Int)) = ((n : Int), true) := by
  rw [Lib.itoa_nonneg]
  have h1 := nd_le 6 n (by omega)
  have h2 := nd_pos n
  have h3 := Lib.decDigits_length n
  unfold numR
  rw [if_neg (by
    rintro (e | e | e)
    · rw [e] at h3; simp at h3; omega
    · omega
    · exact e.1 rfl), numGo_dec]
  unfold numFin
  dsimp only
  rw [if_neg (by omega)]
theorem dec_vis (n : Nat) : (Lib.decDigits n).all visC = true := by
  induction n using Nat.strongRecOn with
  | _ n ih =>
    by_cases h : n < 10
    · rw [Lib.decDigits, dif_pos h]
      simp only [List.all_cons, List.all_nil, Bool.and_true]
      exact (by decide : ∀ a : Fin 10, visC (UInt8.ofNat (48 + a.val)) = true) ⟨n, h⟩
    · rw [Lib.decDigits, dif_neg h, List.all_append, ih (n / 10) (by omega)]
      simp only [List.all_cons, List.all_nil, Bool.and_true, Bool.true_and]
      exact (by decide : ∀ a : Fin 10, visC (UInt8.ofNat (48 + a.val)) = true) ⟨n % 10, by omega⟩
theorem vis_no10 {l : List UInt8} (h : l.all visC = true) : 10 ∉ l := fun hm => by
  rw [List.all_eq_true] at h
  exact absurd (h 10 hm) (by decide)
def clowL : List UInt8 := [99, 111, 110, 116, 101, 110, 116, 45, 108, 101, 110, 103, 116, 104]
theorem clen_line (n : Nat) : lnR (clenL n) = (clowL, Lib.itoa (n : Int), true) := by
  have h := line_made [67, 79, 78, 84, 69, 78, 84, 45, 76, 69, 78, 71, 84, 72] [32] (Lib.itoa (n : Int)) [] (by decide) (by decide) (by rw [Lib.itoa_nonneg]; exact dec_vis n) rfl
  rw [List.append_nil] at h
  exact h
theorem clen_no10 (n : Nat) : 10 ∉ clenL n := fun h => by
  unfold clenL at h
  rw [List.mem_append] at h
  rcases h with h | h
  · exact absurd h (by decide)
  · rw [Lib.itoa_nonneg] at h
    exact vis_no10 (dec_vis n) h
end Go.Proofs.YtldbcdiomkkinaaGreatDoor
