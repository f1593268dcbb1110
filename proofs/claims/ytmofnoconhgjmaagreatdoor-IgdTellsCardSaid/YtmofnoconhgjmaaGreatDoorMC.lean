/- Texts of one proof, put together: Xm5, Xm6, Xm7, Xm8, Xm9, Xma. -/
import Derived.Test.YtmofnoconhgjmaaGreatDoorXm4
import Derived.BigQuiet
/- hearthref17.Doc: at, pass, upTo. -/
namespace Go.Proofs.YtmofnoconhgjmaaGreatDoor
open Go.RowKit
set_option linter.unusedVariables false

/-- A document's cells. -/
def DcAt (w : World) (b : Nat) (S : List UInt8) (i : Nat) (cnt : Int) (bad full : Bool) : Prop := w.heap[b]? = some (.cells #[str S, .int .i64 (i : Int), .int .i64 cnt, .bool bad, .bool full] 151 (0, 0))
theorem DcAt.cells {w : World} {b : Nat} {S : List UInt8} {i : Nat} {cnt : Int} {bad full : Bool} (h : DcAt w b S i cnt bad full) :
    w.cell? ⟨b, 0, none⟩ = some (.string ⟨S.toArray⟩) ∧ w.cell? ⟨b, 1, none⟩ = some (.int .i64 (i : Int)) ∧ w.cell? ⟨b, 2, none⟩ = some (.int .i64 cnt) ∧ w.cell? ⟨b, 3, none⟩ = some (.bool bad) ∧ w.cell? ⟨b, 4, none⟩ = some (.bool full) ∧ w.frozen? ⟨b, 1, none⟩ = false ∧ w.frozen? ⟨b, 2, none⟩ = false ∧ w.frozen? ⟨b, 3, none⟩ = false ∧ w.frozen? ⟨b, 4, none⟩ = false :=
  ⟨cell_of_block h 0, cell_of_block h 1, cell_of_block h 2, cell_of_block h 3, cell_of_block h 4, free_of_block h 1, free_of_block h 2, free_of_block h 3, free_of_block h 4⟩
theorem DcAt.grow {w w' : World} {b : Nat} {S : List UInt8} {i : Nat} {cnt : Int} {bad full : Bool} (h : DcAt w b S i cnt bad full) (g : w.grownBy w' none) : DcAt w' b S i cnt bad full := gr_keep g h (by simp)
theorem DcAt.setI {w : World} {b : Nat} {S : List UInt8} {i : Nat} {cnt : Int} {bad full : Bool} (h : DcAt w b S i cnt bad full) (j : Nat) : DcAt (w.setCell ⟨b, 1, none⟩ (.int .i64 (j : Int))) b S j cnt bad full := heap_set (o := 1) h
theorem DcAt.setBad {w : World} {b : Nat} {S : List UInt8} {i : Nat} {cnt : Int} {bad full : Bool} (h : DcAt w b S i cnt bad full) (x : Bool) : DcAt (w.setCell ⟨b, 3, none⟩ (.bool x)) b S i cnt x full := heap_set (o := 3) h
theorem pre_take (l s : List UInt8) (h : s.length ≤ l.length) : Lib.hasPrefix l s = decide (l.take s.length = s) := by
  unfold Lib.hasPrefix
  rw [Bool.eq_iff_iff, List.isPrefixOf_iff_prefix, decide_eq_true_eq, List.prefix_iff_eq_take]
  exact eq_comm
theorem pre_short (l s : List UInt8) (h : l.length < s.length) : Lib.hasPrefix l s = false := by
  unfold Lib.hasPrefix
  rw [Bool.eq_false_iff]
  intro e
  have := (List.isPrefixOf_iff_prefix.1 e).length_le
  omega
theorem ext_list (S : List UInt8) (i j : Nat) : ((ByteArray.mk S.toArray).extract i j).toList = (S.drop i).take (j - i) := by
  rw [Lib.toList_data, ByteArray.data_extract, List.extract_toArray, List.extract_eq_take_drop]
theorem beq_dec (a b : List UInt8) : (a == b) = decide (a = b) := by
  rw [Bool.eq_iff_iff, beq_iff_eq, decide_eq_true_eq]
set_option maxHeartbeats 1000000 in
theorem at_r (b : Nat) (S s : List UInt8) (i : Nat) (cnt : Int) (bad full : Bool) (w : World) (h : DcAt w b S i cnt bad full) (hi : i ≤ S.length) (hS : S.length ≤ 100000) (hs : s.length ≤ 100) :
    Calls Tryz.prog 119 #[.pointer (some ⟨b, 0, none⟩), .string ⟨s.toArray⟩] w fun e w' => e = .returned (.bool (Lib.hasPrefix (S.drop i) s)) ∧ ∃ n, w' = w.drewN n := by
  obtain ⟨c0, c1, -⟩ := h.cells
  have H := hid h
  clear h
  by_cases hd : s.length ≤ S.length - i
  · have hd1 : decide ((s.length : Int) ≤ (S.length : Int) - (i : Int)) = true := by simp; omega
    have hp := hid (pre_take (S.drop i) s (by rw [List.length_drop]; omega))
    go_enter Tryz.func119, Tryz.ntmps119
    go_wp2_with fail
    go_quiet (fail)
    go_wp2_with fail
    go_ret
    refine ⟨?_, nq, rfl⟩
    rw [hp.out, ← beq_dec, ← show i + s.length - i = s.length by omega, ← ext_list]
    rw [show i + (i + s.length - i) = i + s.length by omega]
    rfl
  · have hd1 : decide ((s.length : Int) ≤ (S.length : Int) - (i : Int)) = false := by simp; omega
    have hp := hid (pre_short (S.drop i) s (by rw [List.length_drop]; omega))
    go_enter Tryz.func119, Tryz.ntmps119
    go_wp2_with fail
    go_quiet (fail)
    go_wp2_with fail
    go_ret
    exact ⟨by rw [hp.out]; rfl, nq, rfl⟩
/-- A document in whose rest the place stands. -/
def DcR (w : World) (b : Nat) (S r : List UInt8) (cnt : Int) (bad full : Bool) : Prop := ∃ i, i ≤ S.length ∧ S.drop i = r ∧ DcAt w b S i cnt bad full
theorem DcR.grow {w w' : World} {b : Nat} {S r : List UInt8} {cnt : Int} {bad full : Bool} (h : DcR w b S r cnt bad full) (g : w.grownBy w' none) : DcR w' b S r cnt bad full := by
  obtain ⟨i, h1, h2, h3⟩ := h
  exact ⟨i, h1, h2, h3.grow g⟩
theorem DcR.len {w : World} {b : Nat} {S r : List UInt8} {cnt : Int} {bad full : Bool} (h : DcR w b S r cnt bad full) : r.length ≤ S.length := by
  obtain ⟨i, h1, rfl, h3⟩ := h
  rw [List.length_drop]; omega
theorem drop_trim (S s : List UInt8) (i : Nat) (hi : i ≤ S.length) : ∃ j, j ≤ S.length ∧ S.drop j = Lib.trimPrefix (S.drop i) s ∧ j = if Lib.hasPrefix (S.drop i) s then i + s.length else i := by
  unfold Lib.trimPrefix
  cases hp : Lib.hasPrefix (S.drop i) s
  · exact ⟨i, hi, by simp, by simp⟩
  · refine ⟨i + s.length, ?_, by rw [if_pos rfl, List.drop_drop], by simp⟩
    have := (List.isPrefixOf_iff_prefix.1 hp).length_le
    rw [List.length_drop] at this
    omega
theorem pass_r (b : Nat) (S r s : List UInt8) (cnt : Int) (bad full : Bool) (w : World) (h : DcR w b S r cnt bad full) (hS : S.length ≤ 100000) (hs : s.length ≤ 100) :
    Calls Tryz.prog 72 #[.pointer (some ⟨b, 0, none⟩), .string ⟨s.toArray⟩] w fun e w' => e = .returned (.bool (Lib.hasPrefix r s)) ∧ DcR w' b S (Lib.trimPrefix r s) cnt bad full ∧ w.grownBy w' (some b) := by
  obtain ⟨i, hi, rfl, h⟩ := h
  obtain ⟨j, hj1, hj2, hj3⟩ := drop_trim S s i hi
  have HA := hid (at_r b S s i cnt bad full w h hi hS hs)
  have H := hid h
  rw [← hj2]
  generalize Lib.hasPrefix (S.drop i) s = p at *
  clear h hj2
  cases p
  · simp only [Bool.false_eq_true, if_false] at hj3
    subst hj3
    go_enter Tryz.func72, Tryz.ntmps72
    go_wp2_with fail
    refine HA.out.mono ?_
    rintro e w1 ⟨rfl, n, rfl⟩
    go_wp2
    go_ret
    exact ⟨rfl, ⟨j, hj1, rfl, H.out.grow (gr_drewN n (gr_refl _ _))⟩, gr_drewN n (gr_refl _ _)⟩
  · simp only [if_true] at hj3
    go_enter Tryz.func72, Tryz.ntmps72
    go_wp2_with fail
    refine HA.out.mono ?_
    rintro e w1 ⟨rfl, n, rfl⟩
    have H1 := hid (H.out.grow (gr_drewN n (gr_refl _ _)))
    have G1 := hid (show w.grownBy (w.drewN n) (some b) from gr_drewN n (gr_refl _ _))
    obtain ⟨c0, c1, -, -, -, f1, -⟩ := H1.out.cells
    revert H1 G1 c0 c1 f1
    generalize w.drewN n = w1
    intro H1 G1 c0 c1 f1
    have hw : IntKind.i64.wrap ((i : Int) + (s.length : Int)) = (j : Int) := by rw [IntWalk.i64_in _ (by omega)]; omega
    go_wp2
    go_ret
    have e : (i : Int) + (s.length : Int) = (j : Int) := by omega
    exact ⟨rfl, ⟨j, hj1, rfl, by rw [e]; exact H1.out.setI j⟩, gr_set G1.out⟩
end Go.Proofs.YtmofnoconhgjmaaGreatDoor
/- hearthref17.Doc: upTo, blanks. -/
namespace Go.Proofs.YtmofnoconhgjmaaGreatDoor
open Go.RowKit
set_option linter.unusedVariables false

theorem index_at (s : List UInt8) : ∀ (l : List UInt8) (k : Nat), k ≤ l.length → (∀ m, m < k → Lib.hasPrefix (l.drop m) s = false) → Lib.hasPrefix (l.drop k) s = true → Lib.index l s = k := by
  intro l
  induction l with
  | nil =>
    intro k hk _ hp
    obtain rfl : k = 0 := by simpa using hk
    have : s = [] := by simpa using List.isPrefixOf_iff_prefix.1 hp
    subst this
    rfl
  | cons x l ih =>
    intro k hk h hp
    cases k with
    | zero =>
      have : s.isPrefixOf (x :: l) = true := hp
      simp [Lib.index, this]
    | succ k =>
      have h0 : s.isPrefixOf (x :: l) = false := h 0 (by omega)
      have := ih k (by simpa using hk) (fun m hm => h (m + 1) (by omega)) hp
      simp only [Lib.index, h0, this, Bool.false_eq_true, if_false]
      rw [if_neg (by simp)]
      omega
theorem index_no (s : List UInt8) : ∀ (l : List UInt8), (∀ m, m ≤ l.length → Lib.hasPrefix (l.drop m) s = false) → Lib.index l s = -1 := by
  intro l
  induction l with
  | nil =>
    intro h
    have : s.isPrefixOf [] = false := h 0 (Nat.le_refl _)
    cases s with
    | nil => cases this
    | cons _ _ => rfl
  | cons x l ih =>
    intro h
    have h0 : s.isPrefixOf (x :: l) = false := h 0 (by omega)
    have := ih (fun m hm => h (m + 1) (by simpa using hm))
    simp [Lib.index, h0, this]
theorem cut_at (l s : List UInt8) (k : Nat) (hk : k ≤ l.length) (h : ∀ m, m < k → Lib.hasPrefix (l.drop m) s = false) (hp : Lib.hasPrefix (l.drop k) s = true) : Lib.cut l s = (l.take k, l.drop (k + s.length), true) := by
  have := index_at s l k hk h hp
  unfold Lib.cut
  rw [this, if_pos (by omega)]
  rfl
theorem cut_no (l s : List UInt8) (h : ∀ m, m ≤ l.length → Lib.hasPrefix (l.drop m) s = false) : Lib.cut l s = (l, [], false) := by
  unfold Lib.cut
  rw [index_no s l h, if_neg (by omega)]
/-- What upTo leaves. -/
def UpPost (w : World) (b : Nat) (S r s : List UInt8) (cnt : Int) (full : Bool) (e : Ending) (w' : World) : Prop :=
  w.grownBy w' (some b) ∧ (((Lib.cut r s).2.2 = true ∧ e = .returned (str (Lib.cut r s).1) ∧ DcR w' b S (Lib.cut r s).2.1 cnt false full) ∨
    ((Lib.cut r s).2.2 = false ∧ e = .returned (str []) ∧ ∃ r', DcR w' b S r' cnt true full))
theorem ext_at (S : List UInt8) (i k : Nat) : (ByteArray.mk S.toArray).extract i (i + k) = ⟨((S.drop i).take k).toArray⟩ := by
  apply ByteArray.ext
  rw [ByteArray.data_extract, List.extract_toArray, List.extract_eq_take_drop, Nat.add_sub_cancel_left]
def upJ (wr : World) (b : Nat) : Nat := (intOf ((wr.cell? ⟨b, 1, none⟩).getD (.int .i64 0))).toNat
theorem upJ_of {w : World} {b : Nat} {S : List UInt8} {i : Nat} {cnt : Int} {bad full : Bool} (h : DcAt w b S i cnt bad full) : upJ w b = i := by
  unfold upJ; rw [h.cells.2.1]; simp [intOf]
set_option maxRecDepth 20000 in
set_option maxHeartbeats 2000000 in
theorem upto_r (b : Nat) (S r s : List UInt8) (cnt : Int) (full : Bool) (w : World) (h : DcR w b S r cnt false full) (hS : S.length ≤ 100000) (hs : s.length ≤ 100) (hs0 : 1 ≤ s.length) :
    Calls Tryz.prog 73 #[.pointer (some ⟨b, 0, none⟩), .string ⟨s.toArray⟩] w (UpPost w b S r s cnt full) := by
  obtain ⟨i, hi, hr, h⟩ := h
  obtain ⟨c0, c1, -⟩ := h.cells
  have H := hid h
  have HR := hid hr
  clear h hr
  go_enter Tryz.func73, Tryz.ntmps73
  go_wp2_with fail
  go_loopw [10] (fun _ wr => ∃ k, i + k ≤ S.length ∧ DcAt wr b S (i + k) cnt false full ∧ w.grownBy wr (some b) ∧ Hid (∀ m, m < k → Lib.hasPrefix (r.drop m) s = false)) (fun _ wr => S.length + 1 - upJ wr b)
  case atStart => exact ⟨0, by omega, H.out, gr_refl _ _, fun m hm => absurd hm (by omega)⟩
  case round =>
    obtain ⟨k, hk, hd, gw, hno⟩ := hrel
    have HD := hid hd
    obtain ⟨d0, d1, -, d3, -, f1, -, f3, -⟩ := hd.cells
    clear hd
    by_cases hle : i + k + s.length ≤ S.length
    · have hA := hid (fun W (hW : DcAt W b S (i + k) cnt false full) => at_r b S s (i + k) cnt false full W hW hk hS hs)
      have hdd : S.drop (i + k) = r.drop k := by rw [← HR.out, List.drop_drop]
      rw [hdd] at hA
      have hle' : decide ((i : Int) + (k : Int) ≤ (S.length : Int) - (s.length : Int)) = true := by simp; omega
      have HP := hid (fun (p : Bool) (hp : Lib.hasPrefix (r.drop k) s = p) => show Lib.hasPrefix (r.drop k) s = p from hp)
      generalize hpe : Lib.hasPrefix (r.drop k) s = p at hA
      have HPE := hid hpe
      clear hpe HP
      go_wp2_with fail
      go_quiet (fail)
      have H2 := hid (HD.out.grow (gr_drewN nq (gr_refl _ _)))
      have G2 := hid (gr_drewN nq gw)
      clear gw d0 d1 d3 f1 f3
      revert H2 G2
      generalize wr.drewN nq = w2
      intro H2 G2
      go_wp2_with fail
      refine (hA.out w2 H2.out).mono ?_
      rintro e w3 ⟨rfl, n, rfl⟩
      have H3 := hid (H2.out.grow (gr_drewN n (gr_refl _ _)))
      have G3 := hid (gr_drewN n G2.out)
      clear H2 G2
      revert H3 G3
      generalize w2.drewN n = w3
      intro H3 G3
      obtain ⟨d0, d1, -, d3, -, f1, -, f3, -⟩ := H3.out.cells
      cases p
      · have hkk : (i : Int) + (k : Int) + 1 = ((i + (k + 1) : Nat) : Int) := by omega
        have HKK := hid hkk
        have H4 := hid (H3.out.setI (i + (k + 1)))
        clear hkk
        go_wp2
        go_roundw
        case rel =>
          refine ⟨k + 1, by omega, by rw [HKK.out]; exact H4.out, gr_set G3.out, fun m hm => ?_⟩
          rcases Nat.lt_succ_iff_lt_or_eq.1 hm with h1 | rfl
          · exact hno.out m h1
          · exact HPE.out
        case measure => rw [HKK.out, upJ_of H4.out, upJ_of HD.out]; omega
      · have hkk : (i : Int) + (k : Int) + (s.length : Int) = ((i + k + s.length : Nat) : Int) := by omega
        have HKK := hid hkk
        clear hkk
        have H4 := hid (H3.out.setI (i + k + s.length))
        have G4 := hid (gr_set (o := 1) (v := .int .i64 ((i + k + s.length : Nat) : Int)) G3.out)
        have HC := hid (cut_at r s k (by rw [← HR.out, List.length_drop]; omega) hno.out HPE.out)
        go_wp2_with fail
        rw [HKK.out]
        clear d0 d1 d3 f1 f3
        revert H4 G4
        generalize w3.setCell _ _ = w4
        intro H4 G4
        obtain ⟨d0, d1, -, d3, -, f1, -, f3, -⟩ := H4.out.cells
        go_quiet (fail)
        rw [ext_at, HR.out]
        go_wp2
        go_ret
        refine ⟨gr_drewN nq G4.out, .inl ⟨by rw [HC.out], by rw [HC.out]; rfl, i + k + s.length, by omega, ?_, H4.out.grow (gr_drewN nq (gr_refl _ _))⟩⟩
        rw [HC.out, ← HR.out, List.drop_drop, Nat.add_assoc]
    · have hle' : decide ((i : Int) + (k : Int) ≤ (S.length : Int) - (s.length : Int)) = false := by simp; omega
      go_wp2_with fail
      go_quiet (fail)
      have H2 := hid (HD.out.grow (gr_drewN nq (gr_refl _ _)))
      have G2 := hid (gr_drewN nq gw)
      clear gw d0 d1 d3 f1 f3
      revert H2 G2
      generalize wr.drewN nq = w2
      intro H2 G2
      obtain ⟨d0, d1, -, d3, -, f1, -, f3, -⟩ := H2.out.cells
      have HN := hid (cut_no r s (fun m hm => by
        by_cases hm2 : m < k
        · exact hno.out m hm2
        · have := HR.out
          have hl : r.length = S.length - i := by rw [← this, List.length_drop]
          exact pre_short _ _ (by rw [List.length_drop]; omega)))
      go_wp2
      go_ret
      refine ⟨gr_set G2.out, .inr ⟨by rw [HN.out], rfl, _, i + k, hk, rfl, H2.out.setBad true⟩⟩
end Go.Proofs.YtmofnoconhgjmaaGreatDoor
/- hearthref17.Doc: blanks. -/
namespace Go.Proofs.YtmofnoconhgjmaaGreatDoor
open Go.RowKit
set_option linter.unusedVariables false

theorem blk_cases (c : UInt8) : (c = 32 ∨ c = 9 ∨ c = 10 ∨ c = 13) ∨ (blkL.contains c = false ∧ ((c.toNat : Int) == 32) = false ∧ ((c.toNat : Int) == 9) = false ∧ ((c.toNat : Int) == 10) = false ∧ ((c.toNat : Int) == 13) = false) := by
  revert c; exact all_bytes (by decide +kernel)
theorem trimS_tw (l : List UInt8) (k : Nat) (hk : k ≤ l.length) (h1 : (l.take k).all (blkL.contains ·) = true) (h2 : k < l.length → blkL.contains (l.getD k 0) = false) : Lib.trimLeftS l blkL = l.drop k :=
  (tw_take (blkL.contains ·) l k hk h1 h2).2
set_option maxRecDepth 20000 in
set_option maxHeartbeats 4000000 in
theorem blanks_r (b : Nat) (S r : List UInt8) (cnt : Int) (bad full : Bool) (w : World) (h : DcR w b S r cnt bad full) (hS : S.length ≤ 100000) :
    Calls Tryz.prog 120 #[.pointer (some ⟨b, 0, none⟩)] w fun e w' => ∃ n : Nat, e = .returned (.int .i64 (n : Int)) ∧ r.length = n + (Lib.trimLeftS r blkL).length ∧ DcR w' b S (Lib.trimLeftS r blkL) cnt bad full ∧ w.grownBy w' (some b) := by
  obtain ⟨i, hi, hr, h⟩ := h
  have hrl : r.length = S.length - i := by rw [← hr, List.length_drop]
  have H := hid h
  have HR := hid hr
  have HRL := hid hrl
  clear h hr hrl
  go_enter Tryz.func120, Tryz.ntmps120
  go_wp2_with fail
  go_loopw [3] (fun v3 wr => ∃ k : Nat, v3 = .int .i64 (k : Int) ∧ i + k ≤ S.length ∧ DcAt wr b S (i + k) cnt bad full ∧ w.grownBy wr (some b) ∧ Hid ((r.take k).all (blkL.contains ·) = true)) (fun v3 _ => S.length + 1 - (intOf v3).toNat)
  case atStart => exact ⟨0, rfl, by omega, H.out, gr_refl _ _, rfl⟩
  case round =>
    obtain ⟨k, rfl, hk, hd, gw, hall⟩ := hrel
    have HD := hid hd
    obtain ⟨c0, c1, -, -, -, f1, -⟩ := hd.cells
    have hsz : (ByteArray.mk S.toArray).size = S.length := by rw [Lib.size_eq]
    clear hd
    by_cases hlt : i + k < S.length
    · have hlt' : decide ((i : Int) + (k : Int) < (S.length : Int)) = true := by simp; omega
      have hkr : k < r.length := by rw [HRL.out]; omega
      have hc : (ByteArray.mk S.toArray)[i + k]'(by rw [hsz]; exact hlt) = r.getD k 0 := by
        rw [strAt, ← HR.out]
        simp only [List.getD_eq_getElem?_getD, List.getElem?_drop]
      have hyes := fun h : blkL.contains (r.getD k 0) = true => hid (show (r.take (k + 1)).all (blkL.contains ·) = true by rw [xall_snoc r _ k hkr, hall.out, h]; rfl)
      have hno := fun h : blkL.contains (r.getD k 0) = false => hid (trimS_tw r k (by omega) hall.out (fun _ => h))
      have hcs := blk_cases (r.getD k 0)
      generalize r.getD k 0 = c at hc hyes hno hcs
      have hY := hid hyes
      have hN := hid hno
      clear hyes hno hkr
      have hb1 : (i : Int) + (k : Int) < (S.length : Int) := by omega
      have hb2 : ((i : Int) + (k : Int)).toNat = i + k := by omega
      rcases hcs with hcs | ⟨hb, e1, e2, e3, e4⟩
      · have R := hY.out (by rcases hcs with rfl | rfl | rfl | rfl <;> decide)
        clear hY hN
        have hkk : (i : Int) + (k : Int) + 1 = ((i + (k + 1) : Nat) : Int) := by omega
        have HKK := hid hkk
        clear hkk
        rcases hcs with rfl | rfl | rfl | rfl
        all_goals
          go_wp2_with fail
          go_quiet (fail)
          have H2 := hid (HD.out.grow (gr_drewN nq (gr_refl _ _)))
          have G2 := hid (gr_drewN nq gw)
          clear gw c0 c1 f1 hc
          revert H2 G2
          generalize wr.drewN nq = w2
          intro H2 G2
          obtain ⟨c0, c1, -, -, -, f1, -⟩ := H2.out.cells
          have H4 := hid (H2.out.setI (i + (k + 1)))
          go_wp2
          go_roundw
          case rel => exact ⟨k + 1, by go_num, by omega, by rw [HKK.out]; exact H4.out, gr_set G2.out, R⟩
          case measure => simp [intOf]; omega
      · have R := hN.out hb
        go_wp2_with fail
        go_quiet (fail)
        go_wp2
        go_ret
        refine ⟨k, rfl, ?_, ⟨i + k, hk, ?_, HD.out.grow (gr_drewN nq (gr_refl _ _))⟩, gr_drewN nq gw⟩
        · rw [R.out, List.length_drop, HRL.out]; omega
        · rw [R.out, ← HR.out, List.drop_drop]
    · have hlt' : decide ((i : Int) + (k : Int) < (S.length : Int)) = false := by simp; omega
      have R := hid (trimS_tw r k (by rw [HRL.out]; omega) hall.out (fun h => by rw [HRL.out] at h; omega))
      go_wp2_with fail
      go_quiet (fail)
      go_wp2
      go_ret
      refine ⟨k, rfl, ?_, ⟨i + k, hk, ?_, HD.out.grow (gr_drewN nq (gr_refl _ _))⟩, gr_drewN nq gw⟩
      · rw [R.out, List.length_drop, HRL.out]; omega
      · rw [R.out, ← HR.out, List.drop_drop]
end Go.Proofs.YtmofnoconhgjmaaGreatDoor
/- hearthref17.Doc: one, full, around. -/
namespace Go.Proofs.YtmofnoconhgjmaaGreatDoor
open Go.RowKit
set_option linter.unusedVariables false

set_option maxRecDepth 20000 in
set_option maxHeartbeats 4000000 in
theorem one_r (b : Nat) (S r : List UInt8) (cnt : Int) (bad full : Bool) (w : World) (h : DcR w b S r cnt bad full) (hS : S.length ≤ 100000) :
    Calls Tryz.prog 194 #[.pointer (some ⟨b, 0, none⟩)] w fun e w' => e = .returned (str (wdA r)) ∧ DcR w' b S (wdR r) cnt (bad || !nameB (wdA r)) full ∧ w.grownBy w' (some b) := by
  obtain ⟨i, hi, hr, h⟩ := h
  have hrl : r.length = S.length - i := by rw [← hr, List.length_drop]
  obtain ⟨c0, c1, -⟩ := h.cells
  have H := hid h
  have HR := hid hr
  have HRL := hid hrl
  clear h hr hrl
  go_enter Tryz.func194, Tryz.ntmps194
  go_wp2_with fail
  go_loopw [8] (fun _ wr => ∃ k, i + k ≤ S.length ∧ DcAt wr b S (i + k) cnt bad full ∧ w.grownBy wr (some b) ∧ Hid ((r.take k).all innB = true)) (fun _ wr => S.length + 1 - upJ wr b)
  case atStart => exact ⟨0, by omega, H.out, gr_refl _ _, rfl⟩
  case round =>
    obtain ⟨k, hk, hd, gw, hall⟩ := hrel
    have HD := hid hd
    obtain ⟨d0, d1, -, d3, -, f1, -, f3, -⟩ := hd.cells
    have hsz : (ByteArray.mk S.toArray).size = S.length := by rw [Lib.size_eq]
    clear hd c0 c1
    by_cases hlt : i + k < S.length
    · have hlt' : decide ((i : Int) + (k : Int) < (S.length : Int)) = true := by simp; omega
      have hb1 : (i : Int) + (k : Int) < (S.length : Int) := by omega
      have hb2 : ((i : Int) + (k : Int)).toNat = i + k := by omega
      have hkr : k < r.length := by rw [HRL.out]; omega
      have hc : (ByteArray.mk S.toArray)[i + k]'(by rw [hsz]; exact hlt) = r.getD k 0 := by
        rw [strAt, ← HR.out]
        simp only [List.getD_eq_getElem?_getD, List.getElem?_drop]
      have hyes := fun h : innB (r.getD k 0) = true => hid (show (r.take (k + 1)).all innB = true by rw [xall_snoc r _ k hkr, hall.out, h]; rfl)
      have hno := fun h : innB (r.getD k 0) = false => hid (tw_take innB r k (by omega) hall.out (fun _ => h))
      have HIN := hid (fun W => (rwithin_any (r.getD k 0) W).mono fun _ _ ⟨ha, hb⟩ => (⟨ha, hb.symm⟩ : _ ∧ _ = W))
      generalize innB (r.getD k 0) = p at hyes hno HIN
      generalize r.getD k 0 = c at hc HIN
      have hY := hid hyes
      have hN := hid hno
      clear hyes hno hkr
      go_wp2_with fail
      go_quiet ((go_at_call 255; exact Calls.quiet_of_same (HIN.out _)))
      cases p
      · have R := hN.out rfl
        have H2 := hid (HD.out.grow (gr_drewN nq (gr_refl _ _)))
        have G2 := hid (gr_drewN nq gw)
        clear gw d0 d1 d3 f1 f3
        revert H2 G2
        generalize wr.drewN nq = w2
        intro H2 G2
        obtain ⟨d0, d1, -, d3, -, f1, -, f3, -⟩ := H2.out.cells
        have hxe : (ByteArray.mk S.toArray).extract i (i + k) = ⟨(wdA r).toArray⟩ := by rw [ext_at, HR.out]; unfold wdA; rw [R.out.1]
        have hyr := hid (show S.drop (i + k) = wdR r by rw [← List.drop_drop, HR.out]; unfold wdR; rw [R.out.2])
        have hxl : (wdA r).length ≤ 100000 := by have := (wd_len r).1; have := HRL.out; omega
        have HNM := hid (fun W => show Calls Tryz.prog 256 #[.string ((ByteArray.mk S.toArray).extract i (i + k))] W (fun e w' => e = .returned (.bool (nameB (wdA r))) ∧ w' = W) by
          rw [hxe]; exact (rname_any ⟨(wdA r).toArray⟩ W (by rw [Lib.size_eq]; simpa using hxl)).mono fun _ _ ⟨ha, hb⟩ => ⟨ha, hb.symm⟩)
        have hle : (i : Int) ≤ (i : Int) + (k : Int) := by omega
        have hle2 : (i : Int) + (k : Int) ≤ (S.length : Int) := by omega
        have hb9 : ((i : Int) + (k : Int)).toNat = i + k := by omega
        obtain ⟨x, hx⟩ : ∃ x, x = wdA r := ⟨_, rfl⟩
        obtain ⟨y, hy⟩ : ∃ y, y = wdR r := ⟨_, rfl⟩
        rw [← hx] at hxe HNM
        rw [← hy] at hyr
        have HX := hid hx
        have HY := hid hy
        have HXE := hid hxe
        obtain ⟨nb, hnb⟩ : ∃ nb, nb = nameB x := ⟨_, rfl⟩
        rw [← hnb] at HNM
        have HNB := hid hnb
        clear hx hy hxe hnb hxl R hall
        cases nb
        · go_wp2_with fail
          go_quiet ((go_at_call 256; exact Calls.quiet_of_same (HNM.out _)))
          have H3 := hid (H2.out.grow (gr_drewN nq (gr_refl _ _)))
          have G3 := hid (gr_drewN nq G2.out)
          clear H2 G2 d0 d1 d3 f1 f3
          revert H3 G3
          generalize w2.drewN nq = w3
          intro H3 G3
          obtain ⟨d0, d1, -, d3, -, f1, -, f3, -⟩ := H3.out.cells
          go_wp2_with fail
          have H4 := hid (H3.out.setBad true)
          have G4 := hid (gr_set (o := 3) (v := .bool true) G3.out)
          clear H3 G3 d0 d1 d3 f1 f3
          revert H4 G4
          generalize w3.setCell _ _ = w4
          intro H4 G4
          obtain ⟨d0, d1, -, d3, -, f1, -, f3, -⟩ := H4.out.cells
          go_quiet (fail)
          go_wp2
          go_ret
          rw [← HX.out, ← HY.out, ← HNB.out, show (bad || !false) = true by simp]
          refine ⟨?_, ⟨i + k, hk, hyr.out, H4.out.grow (gr_drewN _ (gr_refl _ _))⟩, gr_drewN _ G4.out⟩
          exact congrArg (fun z => Ending.returned (Value.string z)) HXE.out
        · go_wp2_with fail
          go_quiet ((go_at_call 256; exact Calls.quiet_of_same (HNM.out _)))
          have H3 := hid (H2.out.grow (gr_drewN nq (gr_refl _ _)))
          have G3 := hid (gr_drewN nq G2.out)
          clear H2 G2 d0 d1 d3 f1 f3
          revert H3 G3
          generalize w2.drewN nq = w3
          intro H3 G3
          obtain ⟨d0, d1, -, d3, -, f1, -, f3, -⟩ := H3.out.cells
          go_wp2_with fail
          go_quiet (fail)
          go_wp2
          go_ret
          rw [← HX.out, ← HY.out, ← HNB.out, show (bad || !true) = bad by simp]
          refine ⟨?_, ⟨i + k, hk, hyr.out, H3.out.grow (gr_drewN _ (gr_refl _ _))⟩, gr_drewN _ G3.out⟩
          exact congrArg (fun z => Ending.returned (Value.string z)) HXE.out
      · have R := hY.out rfl
        have H2 := hid (HD.out.grow (gr_drewN nq (gr_refl _ _)))
        have G2 := hid (gr_drewN nq gw)
        clear gw d0 d1 d3 f1 f3 hc
        revert H2 G2
        generalize wr.drewN nq = w2
        intro H2 G2
        obtain ⟨d0, d1, -, d3, -, f1, -, f3, -⟩ := H2.out.cells
        have hkk : (i : Int) + (k : Int) + 1 = ((i + (k + 1) : Nat) : Int) := by omega
        have HKK := hid hkk
        have H4 := hid (H2.out.setI (i + (k + 1)))
        clear hkk
        go_wp2
        go_roundw
        case rel => exact ⟨k + 1, by omega, by rw [HKK.out]; exact H4.out, gr_set G2.out, R⟩
        case measure => rw [HKK.out, upJ_of H4.out, upJ_of HD.out]; omega
    · have hlt' : decide ((i : Int) + (k : Int) < (S.length : Int)) = false := by simp; omega
      have R := hid (tw_take innB r k (by rw [HRL.out]; omega) hall.out (fun h => by rw [HRL.out] at h; omega))
      go_wp2_with fail
      go_quiet (fail)
      have H2 := hid (HD.out.grow (gr_drewN nq (gr_refl _ _)))
      have G2 := hid (gr_drewN nq gw)
      clear gw d0 d1 d3 f1 f3
      revert H2 G2
      generalize wr.drewN nq = w2
      intro H2 G2
      obtain ⟨d0, d1, -, d3, -, f1, -, f3, -⟩ := H2.out.cells
      have hxe : (ByteArray.mk S.toArray).extract i (i + k) = ⟨(wdA r).toArray⟩ := by rw [ext_at, HR.out]; unfold wdA; rw [R.out.1]
      have hyr := hid (show S.drop (i + k) = wdR r by rw [← List.drop_drop, HR.out]; unfold wdR; rw [R.out.2])
      have hxl : (wdA r).length ≤ 100000 := by have := (wd_len r).1; have := HRL.out; omega
      have HNM := hid (fun W => show Calls Tryz.prog 256 #[.string ((ByteArray.mk S.toArray).extract i (i + k))] W (fun e w' => e = .returned (.bool (nameB (wdA r))) ∧ w' = W) by
        rw [hxe]; exact (rname_any ⟨(wdA r).toArray⟩ W (by rw [Lib.size_eq]; simpa using hxl)).mono fun _ _ ⟨ha, hb⟩ => ⟨ha, hb.symm⟩)
      have hle : (i : Int) ≤ (i : Int) + (k : Int) := by omega
      have hle2 : (i : Int) + (k : Int) ≤ (S.length : Int) := by omega
      have hb9 : ((i : Int) + (k : Int)).toNat = i + k := by omega
      obtain ⟨x, hx⟩ : ∃ x, x = wdA r := ⟨_, rfl⟩
      obtain ⟨y, hy⟩ : ∃ y, y = wdR r := ⟨_, rfl⟩
      rw [← hx] at hxe HNM
      rw [← hy] at hyr
      have HX := hid hx
      have HY := hid hy
      have HXE := hid hxe
      obtain ⟨nb, hnb⟩ : ∃ nb, nb = nameB x := ⟨_, rfl⟩
      rw [← hnb] at HNM
      have HNB := hid hnb
      clear hx hy hxe hnb hxl R hall
      cases nb
      · go_wp2_with fail
        go_quiet ((go_at_call 256; exact Calls.quiet_of_same (HNM.out _)))
        have H3 := hid (H2.out.grow (gr_drewN nq (gr_refl _ _)))
        have G3 := hid (gr_drewN nq G2.out)
        clear H2 G2 d0 d1 d3 f1 f3
        revert H3 G3
        generalize w2.drewN nq = w3
        intro H3 G3
        obtain ⟨d0, d1, -, d3, -, f1, -, f3, -⟩ := H3.out.cells
        go_wp2_with fail
        have H4 := hid (H3.out.setBad true)
        have G4 := hid (gr_set (o := 3) (v := .bool true) G3.out)
        clear H3 G3 d0 d1 d3 f1 f3
        revert H4 G4
        generalize w3.setCell _ _ = w4
        intro H4 G4
        obtain ⟨d0, d1, -, d3, -, f1, -, f3, -⟩ := H4.out.cells
        go_quiet (fail)
        go_wp2
        go_ret
        rw [← HX.out, ← HY.out, ← HNB.out, show (bad || !false) = true by simp]
        refine ⟨?_, ⟨i + k, hk, hyr.out, H4.out.grow (gr_drewN _ (gr_refl _ _))⟩, gr_drewN _ G4.out⟩
        exact congrArg (fun z => Ending.returned (Value.string z)) HXE.out
      · go_wp2_with fail
        go_quiet ((go_at_call 256; exact Calls.quiet_of_same (HNM.out _)))
        have H3 := hid (H2.out.grow (gr_drewN nq (gr_refl _ _)))
        have G3 := hid (gr_drewN nq G2.out)
        clear H2 G2 d0 d1 d3 f1 f3
        revert H3 G3
        generalize w2.drewN nq = w3
        intro H3 G3
        obtain ⟨d0, d1, -, d3, -, f1, -, f3, -⟩ := H3.out.cells
        go_wp2_with fail
        go_quiet (fail)
        go_wp2
        go_ret
        rw [← HX.out, ← HY.out, ← HNB.out, show (bad || !true) = bad by simp]
        refine ⟨?_, ⟨i + k, hk, hyr.out, H3.out.grow (gr_drewN _ (gr_refl _ _))⟩, gr_drewN _ G3.out⟩
        exact congrArg (fun z => Ending.returned (Value.string z)) HXE.out
end Go.Proofs.YtmofnoconhgjmaaGreatDoor
/- hearthref17.Doc: full, around; the parser's misc. -/
namespace Go.Proofs.YtmofnoconhgjmaaGreatDoor
open Go.RowKit
set_option linter.unusedVariables false

theorem DcR.bad {w : World} {b : Nat} {S r : List UInt8} {cnt : Int} {bad full : Bool} (h : DcR w b S r cnt bad full) : w.cell? ⟨b, 3, none⟩ = some (.bool bad) := by
  obtain ⟨i, -, -, h⟩ := h
  exact h.cells.2.2.2.1
theorem rfull_r (b : Nat) (S r : List UInt8) (cnt : Int) (full : Bool) (w : World) (h : DcR w b S r cnt false full) (hS : S.length ≤ 100000) :
    Calls Tryz.prog 121 #[.pointer (some ⟨b, 0, none⟩)] w fun e w' => e = .returned (.tuple #[str (fullL r).1.1, str (fullL r).1.2.1]) ∧ DcR w' b S (fullL r).2 cnt (!(fullL r).1.2.2) full ∧ w.grownBy w' (some b) := by
  have HF := hid (show fullL r = if nameB (wdA r) && Lib.hasPrefix (wdR r) [58] then ((wdA r, wdA ((wdR r).drop 1), nameB (wdA ((wdR r).drop 1))), wdR ((wdR r).drop 1)) else (([], wdA r, nameB (wdA r)), wdR r) from rfl)
  have H1 := hid (one_r b S r cnt false full w h hS)
  generalize fullL r = F at *
  generalize wdA r = x at *
  generalize wdR r = y at *
  generalize nameB x = nb at *
  go_enter Tryz.func121, Tryz.ntmps121
  go_wp2_with fail
  refine H1.out.mono ?_
  rintro e w1 ⟨rfl, hd, g⟩
  unfold str
  have d3 := hd.bad
  have HD := hid hd
  have G := hid g
  clear hd g
  cases nb
  · have HE := hid (show F = (([], x, false), y) from HF.out)
    have d3' : w1.cell? ⟨b, 3, none⟩ = some (.bool true) := d3
    go_wp2
    ((try simp only [Exit.inBlock, Exit.then]); refine bodyPost_ret (results_tmp2 rfl _ _ _) rfl ?_)
    rw [HE.out]
    exact ⟨rfl, HD.out, G.out⟩
  · have d3' : w1.cell? ⟨b, 3, none⟩ = some (.bool false) := d3
    have HP := hid (pass_r b S y [58] cnt false full w1 HD.out hS (by decide))
    have HTP := hid (show Lib.trimPrefix y [58] = if Lib.hasPrefix y [58] then y.drop 1 else y from rfl)
    generalize Lib.hasPrefix y [58] = bt at *
    go_wp2_with fail
    refine HP.out.mono ?_
    rintro e w2 ⟨rfl, hd2, g2⟩
    have G2 := hid (gr_trans G.out g2)
    cases bt
    · have HE := hid (show F = (([], x, true), y) from HF.out)
      have hd3 : DcR w2 b S y cnt false full := by rw [show Lib.trimPrefix y [58] = y from HTP.out] at hd2; exact hd2
      go_wp2
      ((try simp only [Exit.inBlock, Exit.then]); refine bodyPost_ret (results_tmp2 rfl _ _ _) rfl ?_)
      rw [HE.out]
      exact ⟨rfl, hd3, G2.out⟩
    · have HE := hid (show F = ((x, wdA (y.drop 1), nameB (wdA (y.drop 1))), wdR (y.drop 1)) from HF.out)
      have hd3 : DcR w2 b S (y.drop 1) cnt false full := by rw [show Lib.trimPrefix y [58] = y.drop 1 from HTP.out] at hd2; exact hd2
      generalize y.drop 1 = z at *
      have H3 := hid (one_r b S z cnt false full w2 hd3 hS)
      go_wp2_with fail
      refine H3.out.mono ?_
      rintro e w3 ⟨rfl, hd4, g4⟩
      unfold str
      go_wp2
      ((try simp only [Exit.inBlock, Exit.then]); refine bodyPost_ret (results_tmp2 rfl _ _ _) rfl ?_)
      rw [HE.out]
      refine ⟨rfl, ?_, gr_trans G2.out g4⟩
      simpa using hd4
end Go.Proofs.YtmofnoconhgjmaaGreatDoor
/- The parser's misc, hearthref17.Doc's around. -/
namespace Go.Proofs.YtmofnoconhgjmaaGreatDoor
open Go.RowKit
set_option linter.unusedVariables false

def noteO : List UInt8 := [60, 33, 45, 45]
def noteC : List UInt8 := [45, 45, 62]
/-- Blanks and comments passed over. -/
def miscL : Nat → List UInt8 → Option (List UInt8)
  | 0, _ => none
  | n + 1, r => if Lib.hasPrefix (Lib.trimLeftS r blkL) noteO then (if (Lib.cut (Lib.trimPrefix (Lib.trimLeftS r blkL) noteO) noteC).2.2 then miscL n (Lib.cut (Lib.trimPrefix (Lib.trimLeftS r blkL) noteO) noteC).2.1 else none) else some (Lib.trimLeftS r blkL)
def miscA (r : List UInt8) : Option (List UInt8) := miscL (r.length + 1) r
theorem trimS_len (l : List UInt8) : (Lib.trimLeftS l blkL).length ≤ l.length := (List.dropWhile_sublist _).length_le
theorem trimP_len {l p : List UInt8} (h : Lib.hasPrefix l p = true) : (Lib.trimPrefix l p).length + p.length = l.length := by
  have := (List.isPrefixOf_iff_prefix.1 h).length_le
  unfold Lib.trimPrefix
  rw [if_pos h, List.length_drop]; omega
theorem cut_len (l s : List UInt8) : (Lib.cut l s).2.1.length ≤ l.length := by
  unfold Lib.cut
  split
  · rw [List.length_drop]; omega
  · simp
theorem misc_step {n : Nat} {r : List UInt8} {R : Option (List UInt8)} (h : miscL n r = R) (hn : r.length < n) :
    (Lib.hasPrefix (Lib.trimLeftS r blkL) noteO = false ∧ R = some (Lib.trimLeftS r blkL)) ∨
    (Lib.hasPrefix (Lib.trimLeftS r blkL) noteO = true ∧ (Lib.cut (Lib.trimPrefix (Lib.trimLeftS r blkL) noteO) noteC).2.2 = false ∧ R = none) ∨
    (Lib.hasPrefix (Lib.trimLeftS r blkL) noteO = true ∧ (Lib.cut (Lib.trimPrefix (Lib.trimLeftS r blkL) noteO) noteC).2.2 = true ∧ ∃ m, miscL m (Lib.cut (Lib.trimPrefix (Lib.trimLeftS r blkL) noteO) noteC).2.1 = R ∧ (Lib.cut (Lib.trimPrefix (Lib.trimLeftS r blkL) noteO) noteC).2.1.length < m ∧ (Lib.cut (Lib.trimPrefix (Lib.trimLeftS r blkL) noteO) noteC).2.1.length < r.length) := by
  cases n with
  | zero => omega
  | succ n =>
    unfold miscL at h
    cases hp : Lib.hasPrefix (Lib.trimLeftS r blkL) noteO
    · rw [hp] at h; exact .inl ⟨rfl, h.symm⟩
    · rw [hp, if_pos rfl] at h
      have h1 := trimP_len hp
      have h2 := trimS_len r
      have h3 := cut_len (Lib.trimPrefix (Lib.trimLeftS r blkL) noteO) noteC
      have h4 : noteO.length = 4 := rfl
      cases hc : (Lib.cut (Lib.trimPrefix (Lib.trimLeftS r blkL) noteO) noteC).2.2
      · rw [hc] at h; exact .inr (.inl ⟨rfl, rfl, h.symm⟩)
      · rw [hc, if_pos rfl] at h
        exact .inr (.inr ⟨rfl, rfl, n, h, by omega, by omega⟩)
def bdJ (wr : World) (b : Nat) : Nat := match wr.cell? ⟨b, 3, none⟩ with | some (.bool true) => 0 | _ => 1
theorem bdJ_of {w : World} {b : Nat} {S r : List UInt8} {cnt : Int} {bad full : Bool} (h : DcR w b S r cnt bad full) : bdJ w b = if bad then 0 else 1 := by
  unfold bdJ; rw [h.bad]; cases bad <;> rfl
def dcJ (S : List UInt8) (wr : World) (b : Nat) : Nat := S.length - upJ wr b
theorem dcJ_of {w : World} {b : Nat} {S r : List UInt8} {cnt : Int} {bad full : Bool} (h : DcR w b S r cnt bad full) : dcJ S w b = r.length := by
  obtain ⟨i, h1, rfl, h3⟩ := h
  unfold dcJ; rw [upJ_of h3, List.length_drop]
set_option maxHeartbeats 2000000 in
theorem around_r (b : Nat) (S rest : List UInt8) (cnt : Int) (full : Bool) (w : World) (h : DcR w b S rest cnt false full) (hS : S.length ≤ 100000) :
    Calls Tryz.prog 74 #[.pointer (some ⟨b, 0, none⟩)] w fun e w' => e = .returned (.tuple #[]) ∧ w.grownBy w' (some b) ∧ ((∃ t, miscA rest = some t ∧ DcR w' b S t cnt false full) ∨ (miscA rest = none ∧ ∃ r', DcR w' b S r' cnt true full)) := by
  obtain ⟨R, hR⟩ : ∃ R, miscA rest = R := ⟨_, rfl⟩
  rw [hR]
  have HB0 := hid (blanks_r b S rest cnt false full w h hS)
  have HL := hid h.len
  have HR := hid hR
  clear h hR
  go_enter Tryz.func74, Tryz.ntmps74
  go_wp2_with fail
  refine HB0.out.mono ?_
  rintro e w0 ⟨n0, rfl, -, hd0, g0⟩
  have G0 := hid g0
  have HD0 := hid hd0
  clear hd0 g0
  go_wp2_with fail
  go_loopw [4] (fun _ wr => w.grownBy wr (some b) ∧ ((∃ r n, DcR wr b S (Lib.trimLeftS r blkL) cnt false full ∧ Hid (miscL n r = R) ∧ r.length < n) ∨ (R = none ∧ ∃ r', DcR wr b S r' cnt true full))) (fun _ wr => (if bdJ wr b = 0 then 0 else dcJ S wr b + 1))
  case atStart => exact ⟨G0.out, .inl ⟨rest, rest.length + 1, HD0.out, HR.out, by omega⟩⟩
  case round =>
    obtain ⟨gw, hrel⟩ := hrel
    have GW := hid gw
    clear gw
    rcases hrel with ⟨r, n, hd, hmi, hn⟩ | ⟨hRn, r', hd⟩
    · have hst := misc_step hmi.out hn
      have hbd := hd.bad
      have HJ := hid (dcJ_of hd)
      have hln := hd.len
      have HP := hid (pass_r b S _ noteO cnt false full wr hd hS (by decide))
      generalize Lib.trimLeftS r blkL = t at *
      have HST := hid hst
      clear hst
      rcases HST.out with ⟨e1, e2⟩ | ⟨e1, e2, e3⟩ | ⟨e1, e2, n', e3, e4, e5⟩
      · rw [e1] at HP
        go_wp2_with fail
        refine HP.out.mono ?_
        rintro e w2 ⟨rfl, hp2, g2⟩
        have hp3 : DcR w2 b S t cnt false full := by unfold Lib.trimPrefix at hp2; rw [e1] at hp2; exact hp2
        have HP3 := hid hp3
        clear hp2 hp3
        go_wp2
        refine bodyPost_end (results_none rfl _ _ _) rfl ?_
        exact ⟨rfl, gr_trans GW.out g2, .inl ⟨t, e2, HP3.out⟩⟩
      · have hl := trim_len t noteO
        rw [e1] at HP
        have HU := hid (fun W hW => upto_r b S (Lib.trimPrefix t noteO) noteC cnt full W hW hS (by decide) (by decide))
        unfold UpPost at HU
        rw [e2] at HU
        go_wp2_with fail
        refine HP.out.mono ?_
        rintro e w2 ⟨rfl, hp2, g2⟩
        have G2 := hid (gr_trans GW.out g2)
        go_wp2_with fail
        refine (HU.out w2 hp2).mono ?_
        rintro e w3 ⟨g3, h3⟩
        rcases h3 with ⟨h3, _⟩ | ⟨-, rfl, r3, h3⟩
        · cases h3
        have G3 := hid (gr_trans G2.out g3)
        have HBL := hid (blanks_r b S r3 cnt true full w3 h3 hS)
        go_wp2_with fail
        refine HBL.out.mono ?_
        rintro e w4 ⟨n4, rfl, -, h4, g4⟩
        have H4 := hid h4
        have G4 := hid (gr_trans G3.out g4)
        have HBD := hid (bdJ_of h4)
        have HBO := hid (bdJ_of hd)
        clear hbd h4 h3 hp2
        go_wp2
        go_roundw
        case rel => exact ⟨G4.out, .inr ⟨e3, _, H4.out⟩⟩
        case measure => rw [HBD.out, HBO.out]; simp
      · have hl := trim_len t noteO
        have htl := trimP_len e1
        have hcl := cut_len (Lib.trimPrefix t noteO) noteC
        rw [e1] at HP
        have HU := hid (fun W hW => upto_r b S (Lib.trimPrefix t noteO) noteC cnt full W hW hS (by decide) (by decide))
        unfold UpPost at HU
        rw [e2] at HU
        go_wp2_with fail
        refine HP.out.mono ?_
        rintro e w2 ⟨rfl, hp2, g2⟩
        have G2 := hid (gr_trans GW.out g2)
        go_wp2_with fail
        refine (HU.out w2 hp2).mono ?_
        rintro e w3 ⟨g3, h3⟩
        rcases h3 with ⟨-, rfl, h3⟩ | ⟨h3, _⟩
        rotate_left
        · cases h3
        generalize (Lib.cut (Lib.trimPrefix t noteO) noteC) = C at *
        have G3 := hid (gr_trans G2.out g3)
        have HBL := hid (blanks_r b S C.2.1 cnt false full w3 h3 hS)
        have htt := trimS_len C.2.1
        have h44 : noteO.length = 4 := rfl
        unfold str
        go_wp2_with fail
        refine HBL.out.mono ?_
        rintro e w4 ⟨n4, rfl, -, h4, g4⟩
        have H4 := hid h4
        have G4 := hid (gr_trans G3.out g4)
        have HBD := hid (bdJ_of h4)
        have HBO := hid (bdJ_of hd)
        have HJ4 := hid (dcJ_of h4)
        clear hbd h4 h3 hp2
        go_wp2
        go_roundw
        case rel => exact ⟨G4.out, .inl ⟨_, n', H4.out, e3, e4⟩⟩
        case measure => rw [HBD.out, HBO.out, HJ4.out, HJ.out]; simp; omega
    · have hbd := hd.bad
      go_wp2
      refine bodyPost_end (results_none rfl _ _ _) rfl ?_
      exact ⟨rfl, GW.out, .inr ⟨hRn, r', hd⟩⟩
end Go.Proofs.YtmofnoconhgjmaaGreatDoor
