/- Lengths of joined texts. It speaks of no program. -/
import Derived.Lib.Join
namespace Go.Proofs.YtnapfecalckajaaDoor


theorem joinTail_len (sep : List UInt8) (B : Nat) : ∀ r : List (List UInt8), (∀ x ∈ r, x.length ≤ B) → (Lib.joinTail sep r).length ≤ r.length * (sep.length + B)
  | [], _ => by simp [Lib.joinTail]
  | x :: r, h => by
    have h1 := joinTail_len sep B r (fun y hy => h y (List.mem_cons_of_mem _ hy))
    have h2 := h x (List.mem_cons_self ..)
    unfold Lib.joinTail at h1 ⊢
    rw [List.map_cons, List.flatten_cons, List.length_append, List.length_append, List.length_cons, Nat.succ_mul]
    omega
theorem join_len (sep : List UInt8) (B : Nat) (r : List (List UInt8)) (h : ∀ x ∈ r, x.length ≤ B) : (Lib.join r sep).length ≤ r.length * (sep.length + B) := by
  cases r with
  | nil => simp [Lib.join_nil]
  | cons x r =>
    rw [Lib.join_cons, List.length_append, List.length_cons, Nat.succ_mul]
    have h1 := joinTail_len sep B r (fun y hy => h y (List.mem_cons_of_mem _ hy))
    have h2 := h x (List.mem_cons_self ..)
    omega
end Go.Proofs.YtnapfecalckajaaDoor
