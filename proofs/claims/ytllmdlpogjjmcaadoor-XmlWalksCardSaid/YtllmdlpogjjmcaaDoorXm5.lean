/- hearthref17.Doc: at, pass, upTo. -/
import Derived.Test.YtllmdlpogjjmcaaDoorXm4
import Derived.BigQuiet
namespace Go.Proofs.YtllmdlpogjjmcaaDoor
open Go.RowKit
set_option linter.unusedVariables false

/-- A document's cells. -/
def DcAt (w : World) (b : Nat) (S : List UInt8) (i : Nat) (cnt : Int) (bad full : Bool) : Prop := w.heap[b]? = some (.cells #[str S, .int .i64 (i : Int), .int .i64 cnt, .bool bad, .bool full] 56 (0, 0))
theorem DcAt.cells {w : World} {b : Nat} {S : List UInt8} {i : Nat} {cnt : Int} {bad full : Bool} (h : DcAt w b S i cnt bad full) :
    w.cell? ⟨b, 0, none⟩ = some (.string ⟨S.toArray⟩) ∧ w.cell? ⟨b, 1, none⟩ = some (.int .i64 (i : Int)) ∧ w.cell? ⟨b, 2, none⟩ = some (.int .i64 cnt) ∧ w.cell? ⟨b, 3, none⟩ = some (.bool bad) ∧ w.cell? ⟨b, 4, none⟩ = some (.bool full) ∧ w.frozen? ⟨b, 1, none⟩ = false ∧ w.frozen? ⟨b, 2, none⟩ = false ∧ w.frozen? ⟨b, 3, none⟩ = false ∧ w.frozen? ⟨b, 4, none⟩ = false :=
  ⟨cell_of_block h 0, cell_of_block h 1, cell_of_block h 2, cell_of_block h 3, cell_of_block h 4, free_of_block h 1, free_of_block h 2, free_of_block h 3, free_of_block h 4⟩
theorem DcAt.grow {w w' : World} {b : Nat} {S : List UInt8} {i : Nat} {cnt : Int} {bad full : Bool} (h : DcAt w b S i cnt bad full) (g : w.grownBy w' none) : DcAt w' b S i cnt bad full := gr_keep g h (by simp)
theorem DcAt.setI {w : World} {b : Nat} {S : List UInt8} {i : Nat} {cnt : Int} {bad full : Bool} (h : DcAt w b S i cnt bad full) (j : Nat) : DcAt (w.setCell ⟨b, 1, none⟩ (.int .i64 (j : Int))) b S j cnt bad full := heap_set (o := 1) h
theorem DcAt.setBad {w : World} {b : Nat} {S : List UInt8} {i : Nat} {cnt : Int} {bad full : Bool} (h : DcAt w b S i cnt bad full) (x : Bool) : DcAt (w.setCell ⟨b, 3, none⟩ (.bool x)) b S i cnt x full := heap_set (o := 3) h
theorem pre_take (l s : List UInt8) (h : s.length ≤ l.length) : Lib.hasPrefix l s = decide (l.take s.length = s) := by
  unfold Lib.hasPrefix
  rw [Bool.eq_iff_iff, List.isPrefixOf_iff_prefix, decide_eq_true_eq, List.prefix_iff_eq_take]
  exact eq_comm
theorem pre_short (l s : List UInt8) (h : l.length < s.length) : Lib.hasPrefix l s = false := by
  unfold Lib.hasPrefix
  rw [Bool.eq_false_iff]
  intro e
  have := (List.isPrefixOf_iff_prefix.1 e).length_le
  omega
theorem ext_list (S : List UInt8) (i j : Nat) : ((ByteArray.mk S.toArray).extract i j).toList = (S.drop i).take (j - i) := by
  rw [Lib.toList_data, ByteArray.data_extract, List.extract_toArray, List.extract_eq_take_drop]
theorem beq_dec (a b : List UInt8) : (a == b) = decide (a = b) := by
  rw [Bool.eq_iff_iff, beq_iff_eq, decide_eq_true_eq]
set_option maxHeartbeats 1000000 in
theorem at_r (b : Nat) (S s : List UInt8) (i : Nat) (cnt : Int) (bad full : Bool) (w : World) (h : DcAt w b S i cnt bad full) (hi : i ≤ S.length) (hS : S.length ≤ 100000) (hs : s.length ≤ 100) :
    Calls Tryd.prog 29 #[.pointer (some ⟨b, 0, none⟩), .string ⟨s.toArray⟩] w fun e w' => e = .returned (.bool (Lib.hasPrefix (S.drop i) s)) ∧ ∃ n, w' = w.drewN n := by
  obtain ⟨c0, c1, -⟩ := h.cells
  have H := hid h
  clear h
  by_cases hd : s.length ≤ S.length - i
  · have hd1 : decide ((s.length : Int) ≤ (S.length : Int) - (i : Int)) = true := by simp; omega
    have hp := hid (pre_take (S.drop i) s (by rw [List.length_drop]; omega))
    go_enter Tryd.func29, Tryd.ntmps29
    go_wp2_with fail
    go_quiet (fail)
    go_wp2_with fail
    go_ret
    refine ⟨?_, nq, rfl⟩
    rw [hp.out, ← beq_dec, ← show i + s.length - i = s.length by omega, ← ext_list]
    rw [show i + (i + s.length - i) = i + s.length by omega]
    rfl
  · have hd1 : decide ((s.length : Int) ≤ (S.length : Int) - (i : Int)) = false := by simp; omega
    have hp := hid (pre_short (S.drop i) s (by rw [List.length_drop]; omega))
    go_enter Tryd.func29, Tryd.ntmps29
    go_wp2_with fail
    go_quiet (fail)
    go_wp2_with fail
    go_ret
    exact ⟨by rw [hp.out]; rfl, nq, rfl⟩
/-- A document in whose rest the place stands. -/
def DcR (w : World) (b : Nat) (S r : List UInt8) (cnt : Int) (bad full : Bool) : Prop := ∃ i, i ≤ S.length ∧ S.drop i = r ∧ DcAt w b S i cnt bad full
theorem DcR.grow {w w' : World} {b : Nat} {S r : List UInt8} {cnt : Int} {bad full : Bool} (h : DcR w b S r cnt bad full) (g : w.grownBy w' none) : DcR w' b S r cnt bad full := by
  obtain ⟨i, h1, h2, h3⟩ := h
  exact ⟨i, h1, h2, h3.grow g⟩
theorem DcR.len {w : World} {b : Nat} {S r : List UInt8} {cnt : Int} {bad full : Bool} (h : DcR w b S r cnt bad full) : r.length ≤ S.length := by
  obtain ⟨i, h1, rfl, h3⟩ := h
  rw [List.length_drop]; omega
theorem drop_trim (S s : List UInt8) (i : Nat) (hi : i ≤ S.length) : ∃ j, j ≤ S.length ∧ S.drop j = Lib.trimPrefix (S.drop i) s ∧ j = if Lib.hasPrefix (S.drop i) s then i + s.length else i := by
  unfold Lib.trimPrefix
  cases hp : Lib.hasPrefix (S.drop i) s
  · exact ⟨i, hi, by simp, by simp⟩
  · refine ⟨i + s.length, ?_, by rw [if_pos rfl, List.drop_drop], by simp⟩
    have := (List.isPrefixOf_iff_prefix.1 hp).length_le
    rw [List.length_drop] at this
    omega
theorem pass_r (b : Nat) (S r s : List UInt8) (cnt : Int) (bad full : Bool) (w : World) (h : DcR w b S r cnt bad full) (hS : S.length ≤ 100000) (hs : s.length ≤ 100) :
    Calls Tryd.prog 17 #[.pointer (some ⟨b, 0, none⟩), .string ⟨s.toArray⟩] w fun e w' => e = .returned (.bool (Lib.hasPrefix r s)) ∧ DcR w' b S (Lib.trimPrefix r s) cnt bad full ∧ w.grownBy w' (some b) := by
  obtain ⟨i, hi, rfl, h⟩ := h
  obtain ⟨j, hj1, hj2, hj3⟩ := drop_trim S s i hi
  have HA := hid (at_r b S s i cnt bad full w h hi hS hs)
  have H := hid h
  rw [← hj2]
  generalize Lib.hasPrefix (S.drop i) s = p at *
  clear h hj2
  cases p
  · simp only [Bool.false_eq_true, if_false] at hj3
    subst hj3
    go_enter Tryd.func17, Tryd.ntmps17
    go_wp2_with fail
    refine HA.out.mono ?_
    rintro e w1 ⟨rfl, n, rfl⟩
    go_wp2
    go_ret
    exact ⟨rfl, ⟨j, hj1, rfl, H.out.grow (gr_drewN n (gr_refl _ _))⟩, gr_drewN n (gr_refl _ _)⟩
  · simp only [if_true] at hj3
    go_enter Tryd.func17, Tryd.ntmps17
    go_wp2_with fail
    refine HA.out.mono ?_
    rintro e w1 ⟨rfl, n, rfl⟩
    have H1 := hid (H.out.grow (gr_drewN n (gr_refl _ _)))
    have G1 := hid (show w.grownBy (w.drewN n) (some b) from gr_drewN n (gr_refl _ _))
    obtain ⟨c0, c1, -, -, -, f1, -⟩ := H1.out.cells
    revert H1 G1 c0 c1 f1
    generalize w.drewN n = w1
    intro H1 G1 c0 c1 f1
    have hw : IntKind.i64.wrap ((i : Int) + (s.length : Int)) = (j : Int) := by rw [IntWalk.i64_in _ (by omega)]; omega
    go_wp2
    go_ret
    have e : (i : Int) + (s.length : Int) = (j : Int) := by omega
    exact ⟨rfl, ⟨j, hj1, rfl, by rw [e]; exact H1.out.setI j⟩, gr_set G1.out⟩
end Go.Proofs.YtllmdlpogjjmcaaDoor
