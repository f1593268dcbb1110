/- The parser's take, until, blank, word, fullName. -/
import Derived.Test.YtmofnoconhgjmaaGreatDoorMB
import Derived.Test.YtmofnoconhgjmaaGreatDoorShelf
import Derived.Deep.DeepCutAuto
import Derived.Shelf.Strings.SlTrimAscii
namespace Go.Proofs.YtmofnoconhgjmaaGreatDoor
open Go.RowKit
set_option linter.unusedVariables false

/-- A parser's cells. -/
def PrC (rest : List UInt8) (sv : Value) (cnt : Int) (full : Bool) : Array Value := #[str rest, sv, .int .i64 cnt, .bool full]
def PrAt (w : World) (b : Nat) (rest : List UInt8) (sv : Value) (cnt : Int) (full : Bool) : Prop := w.heap[b]? = some (.cells (PrC rest sv cnt full) 114 (0, 0))
theorem PrAt.cells {w : World} {b : Nat} {rest : List UInt8} {sv : Value} {cnt : Int} {full : Bool} (h : PrAt w b rest sv cnt full) :
    w.cell? ⟨b, 0, none⟩ = some (.string ⟨rest.toArray⟩) ∧ w.cell? ⟨b, 1, none⟩ = some sv ∧ w.cell? ⟨b, 2, none⟩ = some (.int .i64 cnt) ∧ w.cell? ⟨b, 3, none⟩ = some (.bool full) ∧ w.frozen? ⟨b, 0, none⟩ = false ∧ w.frozen? ⟨b, 1, none⟩ = false ∧ w.frozen? ⟨b, 2, none⟩ = false ∧ w.frozen? ⟨b, 3, none⟩ = false :=
  ⟨cell_of_block h 0, cell_of_block h 1, cell_of_block h 2, cell_of_block h 3, free_of_block h 0, free_of_block h 1, free_of_block h 2, free_of_block h 3⟩
theorem PrAt.rest {w : World} {b : Nat} {rest : List UInt8} {sv : Value} {cnt : Int} {full : Bool} (h : PrAt w b rest sv cnt full) (r : List UInt8) : PrAt (w.setCell ⟨b, 0, none⟩ (.string ⟨r.toArray⟩)) b r sv cnt full := heap_set (o := 0) (v := str r) h
theorem PrAt.grow {w w' : World} {b : Nat} {rest : List UInt8} {sv : Value} {cnt : Int} {full : Bool} (h : PrAt w b rest sv cnt full) (g : w.grownBy w' none) : PrAt w' b rest sv cnt full := gr_keep g h (by simp)
theorem take_x (b : Nat) (rest s : List UInt8) (sv : Value) (cnt : Int) (full : Bool) (w : World) (h : PrAt w b rest sv cnt full) :
    Calls Tryz.prog 95 #[.pointer (some ⟨b, 0, none⟩), .string ⟨s.toArray⟩] w fun e w' => e = .returned (.bool (Lib.hasPrefix rest s)) ∧ PrAt w' b (Lib.trimPrefix rest s) sv cnt full ∧ w.grownBy w' (some b) := by
  obtain ⟨c0, -, -, -, f0, -⟩ := h.cells
  have H := hid h
  clear h
  go_enter Tryz.func95, Tryz.ntmps95
  go_wp2_with fail
  refine (Tryz.strings_CutPrefix ⟨rest.toArray⟩ ⟨s.toArray⟩ w).mono ?_
  rintro e w1 ⟨rfl, rfl⟩
  rw [show (ByteArray.mk rest.toArray).data.toList = rest from rfl, show (ByteArray.mk s.toArray).data.toList = s from rfl]
  go_wp2
  go_ret
  exact ⟨rfl, H.out.rest _, gr_set (gr_refl _ _)⟩
theorem until_x (b : Nat) (rest s : List UInt8) (sv : Value) (cnt : Int) (full : Bool) (m : Int) (w : World) (h : PrAt w b rest sv cnt full) (hm : w.cell? ⟨0, 0, none⟩ = some (.int .i64 m)) (hs : rest.length ≤ 100000) :
    Calls Tryz.prog 96 #[.pointer (some ⟨b, 0, none⟩), .string ⟨s.toArray⟩] w fun e w' => e = .returned (.tuple #[str (Lib.cut rest s).1, .bool (Lib.cut rest s).2.2]) ∧ PrAt w' b (if (Lib.cut rest s).2.2 then (Lib.cut rest s).2.1 else rest) sv cnt full ∧ w.grownBy w' (some b) := by
  obtain ⟨c0, -, -, -, f0, -⟩ := h.cells
  have H := hid h
  clear h
  have hc := Tryz.strings_Cut ⟨rest.toArray⟩ ⟨s.toArray⟩ m w (by rw [Lib.size_eq]; simp; omega) hm
  rw [show (ByteArray.mk rest.toArray).data.toList = rest from rfl, show (ByteArray.mk s.toArray).data.toList = s from rfl] at hc
  revert hc
  generalize Lib.cut rest s = p
  obtain ⟨p1, p2, p3⟩ := p
  intro hc
  have HC := hid hc
  clear hc
  cases p3
  · go_enter Tryz.func96, Tryz.ntmps96
    go_wp2_with fail
    refine HC.out.mono ?_
    rintro e w1 ⟨rfl, n, rfl⟩
    go_wp2
    ((try simp only [Exit.inBlock, Exit.then]); refine bodyPost_ret (results_tmp2 rfl _ _ _) rfl ?_)
    exact ⟨rfl, H.out.grow (gr_drewN n (gr_refl _ _)), gr_drewN n (gr_refl _ _)⟩
  · go_enter Tryz.func96, Tryz.ntmps96
    go_wp2_with fail
    refine HC.out.mono ?_
    rintro e w1 ⟨rfl, n, rfl⟩
    have H1 := hid (H.out.grow (gr_drewN n (gr_refl _ _)))
    have G1 := hid (show w.grownBy (w.drewN n) (some b) from gr_drewN n (gr_refl _ _))
    have f1 := H1.out.cells.2.2.2.2.1
    have c1 := H1.out.cells.1
    revert H1 G1 f1 c1
    generalize w.drewN n = w1
    intro H1 G1 f1 c1
    go_wp2
    ((try simp only [Exit.inBlock, Exit.then]); refine bodyPost_ret (results_tmp2 rfl _ _ _) rfl ?_)
    exact ⟨rfl, H1.out.rest _, gr_set G1.out⟩
def blkL : List UInt8 := [32, 9, 10, 13]
theorem trim_x (l : List UInt8) (w : World) :
    Calls Tryz.prog 218 #[.string ⟨l.toArray⟩, .string ⟨#[32, 9, 10, 13]⟩] w fun e w' => e = .returned (.string ⟨(Lib.trimLeftS l blkL).toArray⟩) ∧ w.grownBy w' none := by
  refine (Any.strings_TrimLeft_laid Tryz.lays161 (by kernel_rfl) ⟨l.toArray⟩ ⟨#[32, 9, 10, 13]⟩ w (by decide) (fun j x hx => ?_)).mono ?_
  · have hx' : x ∈ [(32 : UInt8), 9, 10, 13] := List.mem_of_getElem? hx
    rcases (by simpa using hx' : x = 32 ∨ x = 9 ∨ x = 10 ∨ x = 13) with rfl | rfl | rfl | rfl <;> decide
  · rintro e w' ⟨rfl, hb⟩
    exact ⟨rfl, gr_of_below hb⟩
theorem blank_x (b : Nat) (rest : List UInt8) (sv : Value) (cnt : Int) (full : Bool) (w : World) (h : PrAt w b rest sv cnt full) (hs : rest.length ≤ 100000) :
    Calls Tryz.prog 156 #[.pointer (some ⟨b, 0, none⟩)] w fun e w' => e = .returned (.bool (decide ((Lib.trimLeftS rest blkL).length < rest.length))) ∧ PrAt w' b (Lib.trimLeftS rest blkL) sv cnt full ∧ w.grownBy w' (some b) := by
  obtain ⟨c0, -, -, -, f0, -⟩ := h.cells
  have H := hid h
  clear h
  have HT := hid (trim_x rest w)
  generalize Lib.trimLeftS rest blkL = r at *
  go_enter Tryz.func156, Tryz.ntmps156
  go_wp2_with fail
  refine HT.out.mono ?_
  rintro e w1 ⟨rfl, g⟩
  have H1 := hid (H.out.grow g)
  have G1 := hid (show w.grownBy w1 (some b) from gr_none g)
  have f1 := H1.out.cells.2.2.2.2.1
  have H2 := hid (H1.out.rest r)
  have c1 := H1.out.cells.1
  go_wp2
  go_ret
  refine ⟨?_, H2.out, gr_set G1.out⟩
  simp
theorem ext_take (l : List UInt8) (k : Nat) : (ByteArray.mk l.toArray).extract 0 k = ⟨(l.take k).toArray⟩ := by
  apply ByteArray.ext
  rw [ByteArray.data_extract]
  simp
theorem ext_drop (l : List UInt8) (k : Nat) : (ByteArray.mk l.toArray).extract k l.length = ⟨(l.drop k).toArray⟩ := by
  apply ByteArray.ext
  rw [ByteArray.data_extract]
  rw [List.extract_toArray, List.extract_eq_take_drop, List.take_of_length_le (by simp)]
theorem tw_take (p : UInt8 → Bool) (l : List UInt8) (k : Nat) (hk : k ≤ l.length) (h1 : (l.take k).all p = true) (h2 : k < l.length → p (l.getD k 0) = false) : l.takeWhile p = l.take k ∧ l.dropWhile p = l.drop k := by
  induction l generalizing k with
  | nil => simp
  | cons x l ih =>
    cases k with
    | zero =>
      have : p x = false := h2 (by simp)
      simp [this]
    | succ k =>
      rw [List.take_succ_cons, List.all_cons, Bool.and_eq_true] at h1
      have := ih k (by simpa using hk) h1.2 (fun h => h2 (by simpa using h))
      simp [h1.1, this.1, this.2]
set_option maxHeartbeats 1000000 in
theorem word_x (b : Nat) (rest : List UInt8) (sv : Value) (cnt : Int) (full : Bool) (w : World) (h : PrAt w b rest sv cnt full) (hs : rest.length ≤ 100000) :
    Calls Tryz.prog 219 #[.pointer (some ⟨b, 0, none⟩)] w fun e w' => e = .returned (.tuple #[str (rest.takeWhile innB), .bool (nameB (rest.takeWhile innB))]) ∧ PrAt w' b (rest.dropWhile innB) sv cnt full ∧ w.grownBy w' (some b) := by
  obtain ⟨c0, -, -, -, f0, -⟩ := h.cells
  have H := hid h
  obtain ⟨x, hx⟩ : ∃ x, x = rest.takeWhile innB := ⟨_, rfl⟩
  obtain ⟨y, hy⟩ : ∃ y, y = rest.dropWhile innB := ⟨_, rfl⟩
  rw [← hx, ← hy]
  have HX := hid hx
  have HY := hid hy
  clear h hx hy
  go_enter Tryz.func219, Tryz.ntmps219
  go_wp2_with fail
  go_loop [4] (fun vk => ∃ k : Nat, k ≤ rest.length ∧ vk = .int .i64 k ∧ Hid ((rest.take k).all innB = true)) (fun vk => rest.length - (intOf vk).toNat)
  case atStart => exact ⟨0, Nat.zero_le _, rfl, rfl⟩
  case round =>
    obtain ⟨k, hk, rfl, hall⟩ := hrel
    have hsz : (ByteArray.mk rest.toArray).size = rest.length := by rw [Lib.size_eq]
    by_cases hlt : k < rest.length
    · have hc : (ByteArray.mk rest.toArray)[k]'(by rw [hsz]; exact hlt) = rest.getD k 0 := by rw [strAt]
      have hyes := fun h : innB (rest.getD k 0) = true => hid (show (rest.take (k + 1)).all innB = true by rw [xall_snoc rest _ k hlt, hall.out, h]; rfl)
      have hno := fun h : innB (rest.getD k 0) = false => hid (tw_take innB rest k hk hall.out (fun _ => h))
      have hin := xinner_any (rest.getD k 0) w
      generalize hb1 : innB (rest.getD k 0) = b1 at hyes hno hin
      clear hb1
      generalize rest.getD k 0 = c at hc hin
      have Hin := hid hin
      have hY := hid hyes
      have hN := hid hno
      clear hin hyes hno
      cases b1
      · have R := hN.out rfl
        go_wp2_with fail
        refine Hin.out.mono ?_
        rintro e w2 ⟨rfl, rfl⟩
        go_wp2_with fail
        rw [ext_take, ext_drop, ← R.out.1, ← R.out.2, ← HX.out, ← HY.out]
        have H1 := hid (H.out.rest y)
        have hxl : x.length ≤ 100000 := by rw [HX.out, R.out.1, List.length_take]; omega
        refine (xname_any ⟨x.toArray⟩ _ (by rw [Lib.size_eq]; simpa using hxl)).mono ?_
        rintro e w3 ⟨rfl, g⟩
        go_wp2
        ((try simp only [Exit.inBlock, Exit.then]); refine bodyPost_ret (results_tmp2 rfl _ _ _) rfl ?_)
        exact ⟨rfl, H1.out.grow g, gr_trans (gr_set (gr_refl _ _)) (gr_none g)⟩
      · have R := hY.out rfl
        go_wp2_with fail
        refine Hin.out.mono ?_
        rintro e w2 ⟨rfl, rfl⟩
        go_wp2
        go_round
        case rel => exact ⟨k + 1, by omega, by go_num, R⟩
        case measure => simp [intOf]; omega
    · have R := hid (tw_take innB rest k hk hall.out (fun h => absurd h hlt))
      go_wp2_with fail
      rw [ext_take, ext_drop, ← R.out.1, ← R.out.2, ← HX.out, ← HY.out]
      have H1 := hid (H.out.rest y)
      have hxl : x.length ≤ 100000 := by rw [HX.out, R.out.1, List.length_take]; omega
      refine (xname_any ⟨x.toArray⟩ _ (by rw [Lib.size_eq]; simpa using hxl)).mono ?_
      rintro e w3 ⟨rfl, g⟩
      go_wp2
      ((try simp only [Exit.inBlock, Exit.then]); refine bodyPost_ret (results_tmp2 rfl _ _ _) rfl ?_)
      exact ⟨rfl, H1.out.grow g, gr_trans (gr_set (gr_refl _ _)) (gr_none g)⟩
end Go.Proofs.YtmofnoconhgjmaaGreatDoor
