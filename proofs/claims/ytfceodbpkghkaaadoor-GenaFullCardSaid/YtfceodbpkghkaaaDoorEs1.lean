/- hearthref17.change, Escape (as Xt2, without the texts of chapter 17). -/
import Derived.Test.YtfceodbpkghkaaaDoorRp6
import Derived.Test.YtfceodbpkghkaaaDoorMH
namespace Go.Proofs.YtfceodbpkghkaaaDoor
open Go.RowKit
set_option linter.unusedVariables false
set_option linter.unusedSimpArgs false

abbrev Bs := List UInt8
abbrev escL (s : Bs) : Bs := repL escP s
theorem escL_cons (c : UInt8) (s : Bs) : escL (c :: s) = rpC escP c ++ escL s := rfl
def chC (b : UInt8) (t : Bs) (c : UInt8) : Bs := if c = b then t else [c]
def chL (l : Bs) (b : UInt8) (t : Bs) : Bs := l.flatMap (chC b t)
theorem chL_len (l : Bs) (b : UInt8) (t : Bs) : (chL l b t).length ≤ l.length * (t.length + 1) := by
  induction l with
  | nil => exact Nat.zero_le _
  | cons c l ih =>
    unfold chL at ih ⊢
    rw [List.flatMap_cons, List.length_append, List.length_cons, Nat.add_mul]
    have : (chC b t c).length ≤ t.length + 1 := by unfold chC; split <;> simp
    omega
theorem chL_take (l : Bs) (b : UInt8) (t : Bs) (i : Nat) (c : UInt8) (h : l[i]? = some c) : chL (l.take (i + 1)) b t = chL (l.take i) b t ++ chC b t c := by
  unfold chL
  rw [List.take_add_one, h, List.flatMap_append]
  simp
theorem ba_app3 (a b : List UInt8) : ((⟨a.toArray⟩ : ByteArray) ++ (⟨b.toArray⟩ : ByteArray)) = ⟨(a ++ b).toArray⟩ := by
  apply ByteArray.ext
  simp
theorem ext_one (l : Bs) (i : Nat) (c : UInt8) (h : l[i]? = some c) : (⟨l.toArray⟩ : ByteArray).extract i (i + 1) = ⟨#[c]⟩ := by
  apply ByteArray.ext
  have hi := (List.getElem?_eq_some_iff.1 h).1
  have := (List.getElem?_eq_some_iff.1 h).2
  apply Array.ext'
  simp [List.extract_eq_take_drop]
  rw [List.drop_eq_getElem_cons hi, this]
  rfl
theorem esc_byte : ∀ c, ((((chC 38 [38, 97, 109, 112, 59] c).flatMap (chC 60 [38, 108, 116, 59])).flatMap (chC 62 [38, 103, 116, 59])).flatMap (chC 34 [38, 113, 117, 111, 116, 59])) = rpC escP c := all_bytes (by decide +kernel)
theorem esc_ch (s : Bs) : chL (chL (chL (chL s 38 [38, 97, 109, 112, 59]) 60 [38, 108, 116, 59]) 62 [38, 103, 116, 59]) 34 [38, 113, 117, 111, 116, 59] = escL s := by
  unfold chL
  rw [List.flatMap_assoc, List.flatMap_assoc, List.flatMap_assoc]
  show _ = repL escP s
  unfold repL
  congr 1
  funext c
  rw [← List.flatMap_assoc, ← List.flatMap_assoc]
  exact esc_byte c
theorem escL_len (s : Bs) : (escL s).length ≤ s.length * 6 := by
  have h : ∀ c, (rpC escP c).length ≤ 6 := all_bytes (by decide +kernel)
  induction s with
  | nil => exact Nat.zero_le _
  | cons c s ih => rw [escL_cons, List.length_append, List.length_cons]; have := h c; omega
end Go.Proofs.YtfceodbpkghkaaaDoor
