/- The parser's fullName. -/
import Derived.Test.YtmofnoconhgjmaaGreatDoorXm3
namespace Go.Proofs.YtmofnoconhgjmaaGreatDoor
open Go.RowKit

def wdA (l : List UInt8) : List UInt8 := l.takeWhile innB
def wdR (l : List UInt8) : List UInt8 := l.dropWhile innB
/-- The full name that is next: prefix, name, is it right; the rest. -/
def fullL (l : List UInt8) : (List UInt8 × List UInt8 × Bool) × List UInt8 :=
  if nameB (wdA l) && Lib.hasPrefix (wdR l) [58] then ((wdA l, wdA ((wdR l).drop 1), nameB (wdA ((wdR l).drop 1))), wdR ((wdR l).drop 1)) else (([], wdA l, nameB (wdA l)), wdR l)
theorem wd_len (l : List UInt8) : (wdA l).length ≤ l.length ∧ (wdR l).length ≤ l.length := ⟨by unfold wdA; exact (List.takeWhile_sublist _).length_le, by unfold wdR; exact (List.dropWhile_sublist _).length_le⟩
theorem trim_len (l p : List UInt8) : (Lib.trimPrefix l p).length ≤ l.length := by
  unfold Lib.trimPrefix
  split
  · rw [List.length_drop]; omega
  · omega
theorem fullL_len (l : List UInt8) : (fullL l).2.length ≤ l.length := by
  have h1 := wd_len l
  have h2 := wd_len ((wdR l).drop 1)
  unfold fullL
  split
  · have := List.length_drop (i := 1) (l := wdR l); simp only; omega
  · simp only; omega
def FuAt (w : World) (n : Nat) (a b : List UInt8) : Prop := w.heap[n]? = some (.cells #[str a, str b] 237 (0, 0))
theorem FuAt.cells {w : World} {n : Nat} {a b : List UInt8} (h : FuAt w n a b) : w.cell? ⟨n, 0, none⟩ = some (.string ⟨a.toArray⟩) ∧ w.cell? ⟨n, 1, none⟩ = some (.string ⟨b.toArray⟩) ∧ w.frozen? ⟨n, 0, none⟩ = false ∧ w.frozen? ⟨n, 1, none⟩ = false :=
  ⟨cell_of_block h 0, cell_of_block h 1, free_of_block h 0, free_of_block h 1⟩
theorem FuAt.set0 {w : World} {n : Nat} {a b : List UInt8} (h : FuAt w n a b) (c : List UInt8) : FuAt (w.setCell ⟨n, 0, none⟩ (.string ⟨c.toArray⟩)) n c b := heap_set (o := 0) (v := str c) h
theorem FuAt.set1 {w : World} {n : Nat} {a b : List UInt8} (h : FuAt w n a b) (c : List UInt8) : FuAt (w.setCell ⟨n, 1, none⟩ (.string ⟨c.toArray⟩)) n a c := heap_set (o := 1) (v := str c) h
theorem PrAt.other {w : World} {b n o : Nat} {v : Value} {rest : List UInt8} {sv : Value} {cnt : Int} {full : Bool} (h : PrAt w b rest sv cnt full) (hn : b ≠ n) : PrAt (w.setCell ⟨n, o, none⟩ v) b rest sv cnt full := by
  unfold PrAt; rw [heap_set_other hn]; exact h
theorem pr_set2 {w w1 : World} {b n : Nat} {u v : Value} {rest : List UInt8} {sv : Value} {cnt : Int} {full : Bool} (h : PrAt w1 b rest sv cnt full) (hn : b ≠ n) (g : w.grownBy w1 (some b)) (hw : w.heap.size ≤ n) :
    PrAt ((w1.setCell ⟨n, 0, none⟩ u).setCell ⟨n, 1, none⟩ v) b rest sv cnt full ∧ w.grownBy ((w1.setCell ⟨n, 0, none⟩ u).setCell ⟨n, 1, none⟩ v) (some b) :=
  ⟨(h.other hn).other hn, gr_set_new (gr_set_new g hw) hw⟩
set_option maxHeartbeats 1000000 in
theorem full_x (b : Nat) (rest : List UInt8) (sv : Value) (cnt : Int) (full : Bool) (w : World) (h : PrAt w b rest sv cnt full) (hs : rest.length ≤ 100000) :
    Calls Tryz.prog 157 #[.pointer (some ⟨b, 0, none⟩)] w fun e w' => e = .returned (.tuple #[.agg #[str (fullL rest).1.1, str (fullL rest).1.2.1], .bool (fullL rest).1.2.2]) ∧ PrAt w' b (fullL rest).2 sv cnt full ∧ w.grownBy w' (some b) := by
  have hlt := lt_of_block h
  have hb : b ≠ w.heap.size := by omega
  have HF := hid (show fullL rest = if nameB (wdA rest) && Lib.hasPrefix (wdR rest) [58] then ((wdA rest, wdA ((wdR rest).drop 1), nameB (wdA ((wdR rest).drop 1))), wdR ((wdR rest).drop 1)) else (([], wdA rest, nameB (wdA rest)), wdR rest) from rfl)
  have hyl := (wd_len rest).2
  have H := hid (word_x b rest sv cnt full (w.alloc (.cells #[.string ⟨#[]⟩, .string ⟨#[]⟩] 237)) (h.grow (gr_alloc (gr_refl _ _) _)) hs)
  have HN := hid (heap_alloc_new w (.cells #[.string ⟨#[]⟩, .string ⟨#[]⟩] 237))
  generalize fullL rest = F at *
  rw [show rest.takeWhile innB = wdA rest from rfl, show rest.dropWhile innB = wdR rest from rfl] at H
  generalize wdA rest = x at *
  generalize wdR rest = y at *
  generalize nameB x = bx at *
  have G0 := hid (show w.grownBy (w.alloc (.cells #[.string ⟨#[]⟩, .string ⟨#[]⟩] 237)) (some b) from gr_alloc (gr_refl _ _) _)
  clear h
  go_enter Tryz.func157, Tryz.ntmps157
  go_wp2_with fail
  refine H.out.mono ?_
  rintro e w1 ⟨rfl, hp, g⟩
  unfold str
  have F1 : FuAt w1 w.heap.size [] [] := gr_keep g HN.out (by simpa using Ne.symm hb)
  obtain ⟨a0, a1, b0, b1⟩ := F1.cells
  have HP := hid (hp.other (n := w.heap.size) (o := 1) (v := .string ⟨x.toArray⟩) hb)
  have F2 := hid (F1.set1 x)
  have G2 := hid (gr_set_new (row := some b) (o := 1) (v := .string ⟨x.toArray⟩) (gr_trans G0.out g) (Nat.le_refl _))
  clear hp F1 g
  cases bx
  · have HE := hid (show F = (([], x, false), y) from HF.out)
    obtain ⟨d0, d1, q0, q1⟩ := F2.out.cells
    go_wp2
    refine bodyPost_ret (v := .tuple #[.agg #[str [], str x], .bool false]) ?_ rfl ⟨by rw [HE.out], by rw [HE.out]; exact (pr_set2 HP.out hb G2.out (Nat.le_refl _)).1, (pr_set2 HP.out hb G2.out (Nat.le_refl _)).2⟩
    unfold str
    simp [results, Tryz.results157, go_sem, d0, d1]
  · have HT := hid (take_x b y [58] sv cnt full _ HP.out)
    go_wp2_with fail
    refine HT.out.mono ?_
    rintro e w2 ⟨rfl, hp2, g2⟩
    have F3 : FuAt w2 w.heap.size [] x := gr_keep g2 F2.out (by simpa using Ne.symm hb)
    have G3 := hid (gr_trans G2.out g2)
    have hyy := trim_len y [58]
    have HTP := hid (show Lib.trimPrefix y [58] = if Lib.hasPrefix y [58] then y.drop 1 else y from rfl)
    generalize Lib.hasPrefix y [58] = bt at *
    cases bt
    · have HE := hid (show F = (([], x, true), y) from HF.out)
      obtain ⟨d0, d1, q0, q1⟩ := F3.cells
      have hp3 : PrAt w2 b y sv cnt full := by rw [HTP.out] at hp2; exact hp2
      go_wp2
      refine bodyPost_ret (v := .tuple #[.agg #[str [], str x], .bool true]) ?_ rfl ⟨by rw [HE.out], by rw [HE.out]; exact (pr_set2 hp3 hb G3.out (Nat.le_refl _)).1, (pr_set2 hp3 hb G3.out (Nat.le_refl _)).2⟩
      unfold str
      simp [results, Tryz.results157, go_sem, d0, d1]
    · have HE := hid (show F = ((x, wdA (y.drop 1), nameB (wdA (y.drop 1))), wdR (y.drop 1)) from HF.out)
      rw [show Lib.trimPrefix y [58] = y.drop 1 from HTP.out] at hp2 hyy
      generalize y.drop 1 = z at *
      have F4 := F3.set0 x
      have HP4 := hid (hp2.other (n := w.heap.size) (o := 0) (v := .string ⟨x.toArray⟩) hb)
      have G4 := hid (gr_set_new (row := some b) (o := 0) (v := .string ⟨x.toArray⟩) G3.out (Nat.le_refl _))
      obtain ⟨d0, d1, q0, q1⟩ := F3.cells
      have HW := hid (word_x b z sv cnt full _ HP4.out (by omega))
      rw [show z.takeWhile innB = wdA z from rfl, show z.dropWhile innB = wdR z from rfl] at HW
      generalize wdA z = x2 at *
      generalize wdR z = y2 at *
      generalize nameB x2 = b2 at *
      go_wp2_with fail
      refine HW.out.mono ?_
      rintro e w3 ⟨rfl, hp5, g5⟩
      have F5 : FuAt w3 w.heap.size x x := gr_keep g5 F4 (by simpa using Ne.symm hb)
      have G5 := hid (gr_trans G4.out g5)
      unfold str
      obtain ⟨e0, e1, r0, r1⟩ := F5.cells
      have HP6 := hid (hp5.other (n := w.heap.size) (o := 1) (v := .string ⟨x2.toArray⟩) hb)
      have G6 := hid (gr_set_new (row := some b) (o := 1) (v := .string ⟨x2.toArray⟩) G5.out (Nat.le_refl _))
      obtain ⟨k0, k1, -, -⟩ := (F5.set1 x2).cells
      go_wp2
      refine bodyPost_ret (v := .tuple #[.agg #[str x, str x2], .bool b2]) ?_ rfl ⟨by rw [HE.out], by rw [HE.out]; exact (pr_set2 HP6.out hb G6.out (Nat.le_refl _)).1, (pr_set2 HP6.out hb G6.out (Nat.le_refl _)).2⟩
      unfold str
      simp [results, Tryz.results157, go_sem, e0, e1]
end Go.Proofs.YtmofnoconhgjmaaGreatDoor
