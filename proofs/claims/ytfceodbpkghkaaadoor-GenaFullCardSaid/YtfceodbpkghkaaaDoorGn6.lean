/- hearthref22.Body and what is told of variables, plainly. -/
import Derived.Test.YtfceodbpkghkaaaDoorGn5
import Derived.Test.YtfceodbpkghkaaaDoorEs1
import Derived.Test.YtfceodbpkghkaaaDoorPairs
namespace Go.Proofs.YtfceodbpkghkaaaDoor
open Go.RowKit
set_option linter.unusedVariables false
set_option linter.unusedSimpArgs false

abbrev Gp := List (Gs × Gs)
def gN (xs : Gp) (i : Nat) : ByteArray := ⟨(xs.getD i ([], [])).1.toArray⟩
def gV (xs : Gp) (i : Nat) : ByteArray := ⟨(xs.getD i ([], [])).2.toArray⟩
def ArgsAt (w : World) (v : Value) (xs : Gp) : Prop := ∃ a c, v = .slice a xs.length c ∧ PairsAt w a xs.length (gN xs) (gV xs)
theorem ArgsAt.grown {w w' : World} {v : Value} {xs : Gp} (h : ArgsAt w v xs) (g : w.grownBy w' none) : ArgsAt w' v xs := by
  obtain ⟨a, c, h1, h4⟩ := h
  exact ⟨a, c, h1, h4.grown g⟩
structure SmP (xs : Gp) : Prop where
  n : xs.length ≤ 20
  each : ∀ x ∈ xs, x.1.length ≤ 100 ∧ x.2.length ≤ 500
def bdA : Gs := [60, 101, 58, 112, 114, 111, 112, 101, 114, 116, 121, 115, 101, 116, 32, 120, 109, 108, 110, 115, 58, 101, 61, 34, 117, 114, 110, 58, 115, 99, 104, 101, 109, 97, 115, 45, 117, 112, 110, 112, 45, 111, 114, 103, 58, 101, 118, 101, 110, 116, 45, 49, 45, 48, 34, 62]
def bdZ : Gs := [60, 47, 101, 58, 112, 114, 111, 112, 101, 114, 116, 121, 115, 101, 116, 62]
def bdM (xs : Gp) : Gs := bdA ++ xs.flatMap oneP
def bodL (xs : Gp) : Gs := bdM xs ++ bdZ
theorem oneP_len (x : Gs × Gs) (h1 : x.1.length ≤ 100) (h2 : x.2.length ≤ 500) : (oneP x).length ≤ 3400 := by
  unfold oneP
  have := escL_len x.2
  unfold escL at this
  simp only [List.length_append]
  simp only [prA, prB, prC, List.length_cons, List.length_nil]
  omega
theorem bdM_len (xs : Gp) (h : ∀ x ∈ xs, x.1.length ≤ 100 ∧ x.2.length ≤ 500) : (bdM xs).length ≤ 60 + xs.length * 3400 := by
  have : (xs.flatMap oneP).length ≤ xs.length * 3400 := by
    induction xs with
    | nil => simp
    | cons x xs ih =>
      rw [List.flatMap_cons, List.length_append, List.length_cons]
      have h1 := h x (List.mem_cons_self ..)
      have := oneP_len x h1.1 h1.2
      have := ih (fun y hy => h y (List.mem_cons_of_mem _ hy))
      omega
  unfold bdM
  rw [List.length_append]
  have : bdA.length = 56 := rfl
  omega
theorem bdM_snoc (xs : Gp) (i : Nat) (hi : i < xs.length) : bdM (xs.take (i + 1)) = bdM (xs.take i) ++ oneP (xs.getD i ([], [])) := by
  unfold bdM
  rw [List.take_add_one, List.getElem?_eq_getElem hi, List.flatMap_append, List.append_assoc, List.getD_eq_getElem?_getD, List.getElem?_eq_getElem hi]
  simp
theorem g_app (a b : Gs) : ((⟨a.toArray⟩ : ByteArray) ++ (⟨b.toArray⟩ : ByteArray)) = ⟨(a ++ b).toArray⟩ := by
  apply ByteArray.ext
  simp
theorem oneP_bytes (x : Gs × Gs) : (((((⟨#[60, 101, 58, 112, 114, 111, 112, 101, 114, 116, 121, 62, 60]⟩ : ByteArray) ++ ⟨x.1.toArray⟩) ++ ⟨#[62]⟩) ++ ⟨(repL escP x.2).toArray⟩) ++ ⟨#[60, 47]⟩) ++ ⟨x.1.toArray⟩ ++ (⟨#[62, 60, 47, 101, 58, 112, 114, 111, 112, 101, 114, 116, 121, 62]⟩ : ByteArray) = ⟨(oneP x).toArray⟩ := by
  apply ByteArray.ext
  simp [oneP, prA, prB, prC]
end Go.Proofs.YtfceodbpkghkaaaDoor
