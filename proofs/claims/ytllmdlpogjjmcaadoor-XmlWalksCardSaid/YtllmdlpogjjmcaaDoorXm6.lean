/- hearthref17.Doc: upTo, blanks. -/
import Derived.Test.YtllmdlpogjjmcaaDoorXm5
namespace Go.Proofs.YtllmdlpogjjmcaaDoor
open Go.RowKit
set_option linter.unusedVariables false

theorem index_at (s : List UInt8) : ∀ (l : List UInt8) (k : Nat), k ≤ l.length → (∀ m, m < k → Lib.hasPrefix (l.drop m) s = false) → Lib.hasPrefix (l.drop k) s = true → Lib.index l s = k := by
  intro l
  induction l with
  | nil =>
    intro k hk _ hp
    obtain rfl : k = 0 := by simpa using hk
    have : s = [] := by simpa using List.isPrefixOf_iff_prefix.1 hp
    subst this
    rfl
  | cons x l ih =>
    intro k hk h hp
    cases k with
    | zero =>
      have : s.isPrefixOf (x :: l) = true := hp
      simp [Lib.index, this]
    | succ k =>
      have h0 : s.isPrefixOf (x :: l) = false := h 0 (by omega)
      have := ih k (by simpa using hk) (fun m hm => h (m + 1) (by omega)) hp
      simp only [Lib.index, h0, this, Bool.false_eq_true, if_false]
      rw [if_neg (by simp)]
      omega
theorem index_no (s : List UInt8) : ∀ (l : List UInt8), (∀ m, m ≤ l.length → Lib.hasPrefix (l.drop m) s = false) → Lib.index l s = -1 := by
  intro l
  induction l with
  | nil =>
    intro h
    have : s.isPrefixOf [] = false := h 0 (Nat.le_refl _)
    cases s with
    | nil => cases this
    | cons _ _ => rfl
  | cons x l ih =>
    intro h
    have h0 : s.isPrefixOf (x :: l) = false := h 0 (by omega)
    have := ih (fun m hm => h (m + 1) (by simpa using hm))
    simp [Lib.index, h0, this]
theorem cut_at (l s : List UInt8) (k : Nat) (hk : k ≤ l.length) (h : ∀ m, m < k → Lib.hasPrefix (l.drop m) s = false) (hp : Lib.hasPrefix (l.drop k) s = true) : Lib.cut l s = (l.take k, l.drop (k + s.length), true) := by
  have := index_at s l k hk h hp
  unfold Lib.cut
  rw [this, if_pos (by omega)]
  rfl
theorem cut_no (l s : List UInt8) (h : ∀ m, m ≤ l.length → Lib.hasPrefix (l.drop m) s = false) : Lib.cut l s = (l, [], false) := by
  unfold Lib.cut
  rw [index_no s l h, if_neg (by omega)]
/-- What upTo leaves. -/
def UpPost (w : World) (b : Nat) (S r s : List UInt8) (cnt : Int) (full : Bool) (e : Ending) (w' : World) : Prop :=
  w.grownBy w' (some b) ∧ (((Lib.cut r s).2.2 = true ∧ e = .returned (str (Lib.cut r s).1) ∧ DcR w' b S (Lib.cut r s).2.1 cnt false full) ∨
    ((Lib.cut r s).2.2 = false ∧ e = .returned (str []) ∧ ∃ r', DcR w' b S r' cnt true full))
theorem ext_at (S : List UInt8) (i k : Nat) : (ByteArray.mk S.toArray).extract i (i + k) = ⟨((S.drop i).take k).toArray⟩ := by
  apply ByteArray.ext
  rw [ByteArray.data_extract, List.extract_toArray, List.extract_eq_take_drop, Nat.add_sub_cancel_left]
def upJ (wr : World) (b : Nat) : Nat := (intOf ((wr.cell? ⟨b, 1, none⟩).getD (.int .i64 0))).toNat
theorem upJ_of {w : World} {b : Nat} {S : List UInt8} {i : Nat} {cnt : Int} {bad full : Bool} (h : DcAt w b S i cnt bad full) : upJ w b = i := by
  unfold upJ; rw [h.cells.2.1]; simp [intOf]
set_option maxRecDepth 20000 in
set_option maxHeartbeats 2000000 in
theorem upto_r (b : Nat) (S r s : List UInt8) (cnt : Int) (full : Bool) (w : World) (h : DcR w b S r cnt false full) (hS : S.length ≤ 100000) (hs : s.length ≤ 100) (hs0 : 1 ≤ s.length) :
    Calls Tryd.prog 18 #[.pointer (some ⟨b, 0, none⟩), .string ⟨s.toArray⟩] w (UpPost w b S r s cnt full) := by
  obtain ⟨i, hi, hr, h⟩ := h
  obtain ⟨c0, c1, -⟩ := h.cells
  have H := hid h
  have HR := hid hr
  clear h hr
  go_enter Tryd.func18, Tryd.ntmps18
  go_wp2_with fail
  go_loopw [10] (fun _ wr => ∃ k, i + k ≤ S.length ∧ DcAt wr b S (i + k) cnt false full ∧ w.grownBy wr (some b) ∧ Hid (∀ m, m < k → Lib.hasPrefix (r.drop m) s = false)) (fun _ wr => S.length + 1 - upJ wr b)
  case atStart => exact ⟨0, by omega, H.out, gr_refl _ _, fun m hm => absurd hm (by omega)⟩
  case round =>
    obtain ⟨k, hk, hd, gw, hno⟩ := hrel
    have HD := hid hd
    obtain ⟨d0, d1, -, d3, -, f1, -, f3, -⟩ := hd.cells
    clear hd
    by_cases hle : i + k + s.length ≤ S.length
    · have hA := hid (fun W (hW : DcAt W b S (i + k) cnt false full) => at_r b S s (i + k) cnt false full W hW hk hS hs)
      have hdd : S.drop (i + k) = r.drop k := by rw [← HR.out, List.drop_drop]
      rw [hdd] at hA
      have hle' : decide ((i : Int) + (k : Int) ≤ (S.length : Int) - (s.length : Int)) = true := by simp; omega
      have HP := hid (fun (p : Bool) (hp : Lib.hasPrefix (r.drop k) s = p) => show Lib.hasPrefix (r.drop k) s = p from hp)
      generalize hpe : Lib.hasPrefix (r.drop k) s = p at hA
      have HPE := hid hpe
      clear hpe HP
      go_wp2_with fail
      go_quiet (fail)
      have H2 := hid (HD.out.grow (gr_drewN nq (gr_refl _ _)))
      have G2 := hid (gr_drewN nq gw)
      clear gw d0 d1 d3 f1 f3
      revert H2 G2
      generalize wr.drewN nq = w2
      intro H2 G2
      go_wp2_with fail
      refine (hA.out w2 H2.out).mono ?_
      rintro e w3 ⟨rfl, n, rfl⟩
      have H3 := hid (H2.out.grow (gr_drewN n (gr_refl _ _)))
      have G3 := hid (gr_drewN n G2.out)
      clear H2 G2
      revert H3 G3
      generalize w2.drewN n = w3
      intro H3 G3
      obtain ⟨d0, d1, -, d3, -, f1, -, f3, -⟩ := H3.out.cells
      cases p
      · have hkk : (i : Int) + (k : Int) + 1 = ((i + (k + 1) : Nat) : Int) := by omega
        have HKK := hid hkk
        have H4 := hid (H3.out.setI (i + (k + 1)))
        clear hkk
        go_wp2
        go_roundw
        case rel =>
          refine ⟨k + 1, by omega, by rw [HKK.out]; exact H4.out, gr_set G3.out, fun m hm => ?_⟩
          rcases Nat.lt_succ_iff_lt_or_eq.1 hm with h1 | rfl
          · exact hno.out m h1
          · exact HPE.out
        case measure => rw [HKK.out, upJ_of H4.out, upJ_of HD.out]; omega
      · have hkk : (i : Int) + (k : Int) + (s.length : Int) = ((i + k + s.length : Nat) : Int) := by omega
        have HKK := hid hkk
        clear hkk
        have H4 := hid (H3.out.setI (i + k + s.length))
        have G4 := hid (gr_set (o := 1) (v := .int .i64 ((i + k + s.length : Nat) : Int)) G3.out)
        have HC := hid (cut_at r s k (by rw [← HR.out, List.length_drop]; omega) hno.out HPE.out)
        go_wp2_with fail
        rw [HKK.out]
        clear d0 d1 d3 f1 f3
        revert H4 G4
        generalize w3.setCell _ _ = w4
        intro H4 G4
        obtain ⟨d0, d1, -, d3, -, f1, -, f3, -⟩ := H4.out.cells
        go_quiet (fail)
        rw [ext_at, HR.out]
        go_wp2
        go_ret
        refine ⟨gr_drewN nq G4.out, .inl ⟨by rw [HC.out], by rw [HC.out]; rfl, i + k + s.length, by omega, ?_, H4.out.grow (gr_drewN nq (gr_refl _ _))⟩⟩
        rw [HC.out, ← HR.out, List.drop_drop, Nat.add_assoc]
    · have hle' : decide ((i : Int) + (k : Int) ≤ (S.length : Int) - (s.length : Int)) = false := by simp; omega
      go_wp2_with fail
      go_quiet (fail)
      have H2 := hid (HD.out.grow (gr_drewN nq (gr_refl _ _)))
      have G2 := hid (gr_drewN nq gw)
      clear gw d0 d1 d3 f1 f3
      revert H2 G2
      generalize wr.drewN nq = w2
      intro H2 G2
      obtain ⟨d0, d1, -, d3, -, f1, -, f3, -⟩ := H2.out.cells
      have HN := hid (cut_no r s (fun m hm => by
        by_cases hm2 : m < k
        · exact hno.out m hm2
        · have := HR.out
          have hl : r.length = S.length - i := by rw [← this, List.length_drop]
          exact pre_short _ _ (by rw [List.length_drop]; omega)))
      go_wp2
      go_ret
      refine ⟨gr_set G2.out, .inr ⟨by rw [HN.out], rfl, _, i + k, hk, rfl, H2.out.setBad true⟩⟩
end Go.Proofs.YtllmdlpogjjmcaaDoor
