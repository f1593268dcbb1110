/- HttpBack: the plain law. It speaks of no program. -/
import Derived.Test.YtldbcdiomkkinaaGreatDoorHb2
import Derived.Test.YtldbcdiomkkinaaGreatDoorHty
import Derived.Test.YtldbcdiomkkinaaGreatDoorHs3
namespace Go.Proofs.YtldbcdiomkkinaaGreatDoor
open Go.RowKit

def hostG : List UInt8 := [72, 79, 83, 84]
def askG (b : List UInt8) : List UInt8 := askL postL slxL [(hostG, [104])] b
def allT (ls : List (List UInt8)) : List UInt8 := ls.flatMap askG
theorem askG_len (b : List UInt8) (hb : b.length ≤ 8192) : (askG b).length ≤ 8292 := by
  unfold askG
  rw [ask_shape]
  have := Lib.itoa_length_le (b.length : Int) (by omega) (by omega)
  unfold hostT clenL hostG
  simp [show firstA.length = 16 from rfl]
  omega
theorem allT_len : ∀ ls : List (List UInt8), (∀ b ∈ ls, b.length ≤ 8192) → (allT ls).length ≤ ls.length * 8292
  | [], _ => by simp [allT]
  | b :: ls, h => by
    have h1 := askG_len b (h b (List.mem_cons_self ..))
    have h2 := allT_len ls (fun x hx => h x (List.mem_cons_of_mem _ hx))
    unfold allT at h2 ⊢
    rw [List.flatMap_cons, List.length_append, List.length_cons, Nat.succ_mul]
    omega
theorem idle_inv (x : Nat) (h : x ≤ 8192) : PsInv (Ps.idle x) := ⟨Nat.zero_le _, h, by show 0 + (if (0 : Nat) = 3 then x else 0) ≤ 8192; simp, Nat.zero_le _, fun _ => rfl⟩
theorem feed_none (x : Nat) : feedL (Ps.idle x) [] = ([], Ps.idle x) := by
  unfold feedL
  rw [if_neg (show ¬ (Ps.idle x).stage = 5 from (by decide : ¬ (0 : Nat) = 5))]
  show feedGo (0 + 1 + 1) _ [] = _
  rw [go_fin (f := 0 + 1) (s := { Ps.idle x with rest := (Ps.idle x).rest ++ [] }) (idle_step x) (.inr ⟨rfl, rfl, rfl⟩)]
  rfl
/-- All are read as they were written. -/
theorem back_read : ∀ (ls : List (List UInt8)) (x : Nat), (∀ b ∈ ls, b.length ≤ 8192) → ls.length ≤ 20 → x ≤ 8192 → ∃ y, y ≤ 8192 ∧ feedL (Ps.idle x) (allT ls) = (ls.map pdA, Ps.idle y)
  | [], x, _, _, hx => ⟨x, hx, feed_none x⟩
  | b :: ls, x, h, hl, hx => by
    have hb := h b (List.mem_cons_self ..)
    have hls := fun y hy => h y (List.mem_cons_of_mem b hy)
    rw [List.length_cons] at hl
    obtain ⟨y, hy, e⟩ := back_read ls b.length hls (by omega) hb
    refine ⟨y, hy, ?_⟩
    have h1 := askG_len b hb
    have h2 := allT_len ls hls
    have h3 : ls.length * 8292 ≤ 19 * 8292 := Nat.mul_le_mul_right _ (by omega)
    rw [show allT (b :: ls) = askG b ++ allT ls from List.flatMap_cons .., feedL_app (idle_inv x hx) (by show 0 + ((askG b).length + (allT ls).length) ≤ 200000; omega)]
    have hr : feedL (Ps.idle x) (askG b) = ([pdA b], Ps.idle b.length) := ask_read hostG b x host_great (by decide) (by decide) hb
    rw [hr]
    dsimp only
    rw [e]
    rfl
end Go.Proofs.YtldbcdiomkkinaaGreatDoor
