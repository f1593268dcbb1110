/- head.Line: what it computes. -/
import Derived.Test.YtnapfecalckajaaDoorHead6
import Derived.Test.YtnapfecalckajaaDoorStrs
import Derived.Shelf.Strings.SlTrimAscii
namespace Go.Proofs.YtnapfecalckajaaDoor
open Go.RowKit

theorem trim_blanks (s : ByteArray) (w : World) (hs : s.size ≤ 9223372036854775807) :
    Calls Tryd.prog 48 #[.string s, .string ⟨#[32, 9]⟩] w fun e w' => e = .returned (str (Lib.trimS s.data.toList [32, 9])) ∧ w.grownBy w' none :=
  (Any.strings_Trim_laid Tryd.lays160 (by kernel_rfl) s ⟨#[32, 9]⟩ w hs (by decide) (ascii_of_all (by decide))).mono fun _ _ ⟨h, b⟩ => ⟨h, gr_of_below b⟩
def okC (c : UInt8) : Bool := (decide ((32 : Int) ≤ (c.toNat : Int)) || (c.toNat : Int) == 9) && (c.toNat : Int) != 127
def lnC (l : List UInt8) : List UInt8 × List UInt8 × Bool := cutB l 58
def lnV (l : List UInt8) : List UInt8 := Lib.trimS (lnC l).2.1 [32, 9]
def lnOk (l : List UInt8) : Bool := ((lnC l).2.2 && (lnV l).all okC) && tokB (lnC l).1
def lnR (l : List UInt8) : List UInt8 × List UInt8 × Bool := if lnOk l then (lowL (lnC l).1, lnV l, true) else ([], [], false)
/-- Two cells stored, and read. -/
theorem two_stored {w : World} {b : Nat} {x y u0 u1 : Value} (h0 : w.cell? ⟨b, 0, none⟩ = some u0) (h1 : w.cell? ⟨b, 1, none⟩ = some u1) :
    ((w.setCell ⟨b, 0, none⟩ x).setCell ⟨b, 1, none⟩ y).cell? ⟨b, 0, none⟩ = some x ∧ ((w.setCell ⟨b, 0, none⟩ x).setCell ⟨b, 1, none⟩ y).cell? ⟨b, 1, none⟩ = some y := by
  constructor
  · rw [World.cell?_setCell_other _ _ _ _ (by simp)]; exact World.cell?_setCell_same _ _ _ h0
  · exact World.cell?_setCell_same _ _ _ (u := u1) (by rw [World.cell?_setCell_other _ _ _ _ (by simp)]; exact h1)
theorem dropWhile_le (p : UInt8 → Bool) : ∀ l : List UInt8, (l.dropWhile p).length ≤ l.length
  | [] => by simp
  | x :: l => by
    have := dropWhile_le p l
    simp only [List.dropWhile]
    split <;> simp <;> omega
theorem trimS_le (l cs : List UInt8) : (Lib.trimS l cs).length ≤ l.length := by
  unfold Lib.trimS Lib.trimLeftS Lib.trimRightS
  have h1 := dropWhile_le (cs.contains ·) (l.reverse.dropWhile (cs.contains ·)).reverse
  have h2 := dropWhile_le (cs.contains ·) l.reverse
  simp only [List.length_reverse] at h1 h2
  omega
theorem cutB_le (l : List UInt8) (c : UInt8) : (cutB l c).1.length ≤ l.length ∧ (cutB l c).2.1.length ≤ l.length := by
  unfold cutB; split <;> simp <;> omega
set_option maxHeartbeats 4000000 in
theorem line_any (s : ByteArray) (w : World) (hs : s.size ≤ 9223372036854775806) :
    Calls Tryd.prog 33 #[.string s] w fun e w' => e = .returned (.tuple #[.agg #[str (lnR s.data.toList).1, str (lnR s.data.toList).2.1], .bool (lnR s.data.toList).2.2]) ∧ w.grownBy w' none := by
  obtain ⟨l, hl⟩ : ∃ l, l = s.data.toList := ⟨_, rfl⟩
  have hlen : s.size = l.length := by rw [hl, ← Lib.size_eq]
  rw [← hl]
  have Hl := hid hl
  have hc12 := cutB_le l 58
  have htr := trimS_le (cutB l 58).2.1 [32, 9]
  have hdef : lnR l = (if ((cutB l 58).2.2 && (Lib.trimS (cutB l 58).2.1 [32, 9]).all okC) && tokB (cutB l 58).1 then (lowL (cutB l 58).1, Lib.trimS (cutB l 58).2.1 [32, 9], true) else ([], [], false)) := rfl
  have hcut := cut_one s 58 (w.alloc (.cells #[.string ⟨#[]⟩, .string ⟨#[]⟩] 60)) hs
  rw [← hl] at hcut
  generalize cutB l 58 = C at *
  obtain ⟨n, v0, ok⟩ := C
  simp only [] at hc12 htr hdef hcut
  have Hcut := hid hcut
  clear hcut
  have Hdef := hid hdef
  clear hdef hl
  go_enter Tryd.func33, Tryd.ntmps33
  go_wp2_with fail
  refine Hcut.out.mono ?_
  rintro e w1 ⟨rfl, g1⟩
  unfold str
  go_wp2_with fail
  refine (trim_blanks ⟨v0.toArray⟩ w1 (by rw [Lib.size_eq]; simp; omega)).mono ?_
  rintro e w2 ⟨rfl, g2⟩
  rw [show (ByteArray.mk v0.toArray).data.toList = v0 from rfl]
  unfold str
  generalize hv : Lib.trimS v0 [32, 9] = v at *
  have Hv := hid hv
  clear hv
  have hsv : (ByteArray.mk v.toArray).size = v.length := by rw [Lib.size_eq]
  have G2 := gr_trans g1 g2
  clear g1 g2
  go_wp2_with (refine wpl_s2b rfl 9 29 5 _ rfl Tryd.underlying9 Tryd.underlying29 Tryd.underlying5 ⟨v.toArray⟩ rfl (by rw [hsv]; unfold maxLen; omega) ?_; intro g cap w3 hg hrow g3)
  have G3 := gr_trans G2 g3
  replace hrow : Row8 w3 5 g cap v := hrow
  try rw [hsv]
  have d0 : w3.cell? ⟨w.heap.size, 0, none⟩ = some (.string ⟨#[]⟩) := (cell_of_block (gr_keep G3 (heap_alloc_new w _) (by simp)) 0).trans rfl
  have d1 : w3.cell? ⟨w.heap.size, 1, none⟩ = some (.string ⟨#[]⟩) := (cell_of_block (gr_keep G3 (heap_alloc_new w _) (by simp)) 1).trans rfl
  have f0 : w3.frozen? ⟨w.heap.size, 0, none⟩ = false := free_of_block (gr_keep G3 (heap_alloc_new w _) (by simp)) 0
  have f1 : w3.frozen? ⟨w.heap.size, 1, none⟩ = false := free_of_block (gr_keep G3 (heap_alloc_new w _) (by simp)) 1
  have GW : w.grownBy w3 none := gr_trans (World.grownBy_alloc w _ none) G3
  have hlt3 : w.heap.size < w3.heap.size := by have := G3.size; simp at this; omega
  have hvm : v.length ≤ 9223372036854775806 := by have := hsv; omega
  have B3 := hid (gr_keep G3 (heap_alloc_new w _) (by simp))
  clear G2 g3 G3 hg hsv
  go_loop [6, 20] (fun vb vk => ∃ (k : Nat) (b : Bool), k ≤ v.length ∧ vk = .int .i64 k ∧ vb = .bool b ∧ Hid (b = (ok && (v.take k).all okC))) (fun _ vk => v.length - (intOf vk).toNat)
  case atStart => exact ⟨0, ok, Nat.zero_le _, rfl, rfl, by show ok = _; simp⟩
  case round =>
    obtain ⟨k, b, hk, rfl, rfl, hb⟩ := hrel
    by_cases hlt : k < v.length
    · have hc := hrow.cell (i := k) hlt
      have hnext := all_snoc v okC k hlt
      have hok : okC (v.getD k 0) = ((decide ((32 : Int) ≤ ((v.getD k 0).toNat : Int)) || ((v.getD k 0).toNat : Int) == 9) && ((v.getD k 0).toNat : Int) != 127) := rfl
      generalize v.getD k 0 = c at hc hnext hok
      have Hn := hid hnext
      have Ho := hid hok
      clear hnext hok
      have nextEq : ∀ x : Bool, x = (b && okC c) → Hid (x = (ok && (v.take (k + 1)).all okC)) := fun x hx => by
        show x = _
        rw [Hn.out, hx, hb.out, Bool.and_assoc]
      have hN := hid nextEq
      clear nextEq
      cases b
      · have hy := hN.out false (by simp)
        go_wp2
        go_round
        case rel => exact ⟨k + 1, false, by omega, by go_num, rfl, hy⟩
        case measure => simp [intOf]; omega
      · by_cases c1 : (32 : Int) ≤ (c.toNat : Int)
        · by_cases c2 : (c.toNat : Int) = 127
          · have hy := hN.out false (by rw [Ho.out]; simp [c2])
            have c2' : ((c.toNat : Int) != 127) = false := by simpa using c2
            clear c2
            go_wp2
            go_round
            case rel => exact ⟨k + 1, false, by omega, by go_num, rfl, hy⟩
            case measure => simp [intOf]; omega
          · have hy := hN.out true (by rw [Ho.out]; simp [c1]; omega)
            have c2' : ((c.toNat : Int) != 127) = true := by simpa using c2
            clear c2
            go_wp2
            go_round
            case rel => exact ⟨k + 1, true, by omega, by go_num, rfl, hy⟩
            case measure => simp [intOf]; omega
        · have c1' : (c.toNat : Int) < 32 := by omega
          by_cases c2 : (c.toNat : Int) = 9
          · have hy := hN.out true (by rw [Ho.out]; simp [c2])
            have c2' : ((c.toNat : Int) == 9) = true := by simpa using c2
            have c3' : ((c.toNat : Int) != 127) = true := by rw [c2]; rfl
            clear c2 c1
            go_wp2
            go_round
            case rel => exact ⟨k + 1, true, by omega, by go_num, rfl, hy⟩
            case measure => simp [intOf]; omega
          · have hy := hN.out false (by rw [Ho.out]; simp [c2]; omega)
            have c2' : ((c.toNat : Int) == 9) = false := by simpa using c2
            clear c2 c1
            go_wp2
            go_round
            case rel => exact ⟨k + 1, false, by omega, by go_num, rfl, hy⟩
            case measure => simp [intOf]; omega
    · obtain rfl : k = v.length := by omega
      have hb' := hid (show b = (ok && v.all okC) by have := hb.out; rw [List.take_length] at this; exact this)
      clear hb hlt hk
      have hnl : n.length ≤ 9223372036854775806 := by have h := hc12.1; omega
      have htok := token_any ⟨n.toArray⟩ w3 (by rw [Lib.size_eq]; simp; omega)
      rw [show (ByteArray.mk n.toArray).data.toList = n from rfl] at htok
      generalize ht : tokB n = t at htok
      have Htok := hid htok
      have Ht := hid ht
      clear htok ht
      cases b
      · have R := hid (show lnR l = ([], [], false) by rw [Hdef.out]; rw [← hb'.out]; rfl)
        go_wp2
        obtain ⟨z0, z1⟩ := two_stored (x := .string ⟨#[]⟩) (y := .string ⟨#[]⟩) d0 d1
        exact bodyPost_ret (v := .tuple #[.agg #[.string ⟨#[]⟩, .string ⟨#[]⟩], .bool false]) (by simp [results, Tryd.results33, go_sem, z0, z1]) rfl ⟨by rw [R.out]; rfl, by (repeat (first | exact gr_refl _ _ | assumption | refine gr_drew ?_ | refine gr_drewN _ ?_ | refine gr_alloc ?_ _ | refine gr_set ?_ | refine gr_set_new ?_ (by first | omega | (simp; omega))))⟩
      · cases t
        · have R := hid (show lnR l = ([], [], false) by rw [Hdef.out]; rw [← hb'.out, Ht.out]; rfl)
          go_wp2_with fail
          refine Htok.out.mono ?_
          rintro e w4 ⟨rfl, g4⟩
          have k0 := g4.cell d0 (by simp)
          have k1 := g4.cell d1 (by simp)
          have q0 : w4.frozen? ⟨w.heap.size, 0, none⟩ = false := free_of_block (gr_keep g4 B3.out (by simp)) 0
          have q1 : w4.frozen? ⟨w.heap.size, 1, none⟩ = false := free_of_block (gr_keep g4 B3.out (by simp)) 1
          have hlt4 : w.heap.size < w4.heap.size := Nat.lt_of_lt_of_le hlt3 g4.size
          have GW4 := gr_trans GW g4
          go_wp2
          obtain ⟨z0, z1⟩ := two_stored (x := .string ⟨#[]⟩) (y := .string ⟨#[]⟩) k0 k1
          exact bodyPost_ret (v := .tuple #[.agg #[.string ⟨#[]⟩, .string ⟨#[]⟩], .bool false]) (by simp [results, Tryd.results33, go_sem, z0, z1]) rfl ⟨by rw [R.out]; rfl, by (repeat (first | exact gr_refl _ _ | assumption | refine gr_drew ?_ | refine gr_drewN _ ?_ | refine gr_alloc ?_ _ | refine gr_set ?_ | refine gr_set_new ?_ (by first | omega | (simp; omega))))⟩
        · have R := hid (show lnR l = (lowL n, v, true) by rw [Hdef.out]; rw [← hb'.out, Ht.out]; rfl)
          go_wp2_with fail
          refine Htok.out.mono ?_
          rintro e w4 ⟨rfl, g4⟩
          go_wp2_with fail
          refine (lower_any ⟨n.toArray⟩ w4 (by rw [Lib.size_eq]; simp; omega)).mono ?_
          rintro e w5 ⟨rfl, g5⟩
          rw [show (ByteArray.mk n.toArray).data.toList = n from rfl]
          unfold str
          have g45 := gr_trans g4 g5
          have k0 := g45.cell d0 (by simp)
          have k1 := g45.cell d1 (by simp)
          have q0 : w5.frozen? ⟨w.heap.size, 0, none⟩ = false := free_of_block (gr_keep g45 B3.out (by simp)) 0
          have q1 : w5.frozen? ⟨w.heap.size, 1, none⟩ = false := free_of_block (gr_keep g45 B3.out (by simp)) 1
          have hlt5 : w.heap.size < w5.heap.size := Nat.lt_of_lt_of_le hlt3 g45.size
          have GW5 := gr_trans GW g45
          go_wp2
          obtain ⟨z0, z1⟩ := two_stored (x := .string ⟨(lowL n).toArray⟩) (y := .string ⟨v.toArray⟩) k0 k1
          exact bodyPost_ret (v := .tuple #[.agg #[.string ⟨(lowL n).toArray⟩, .string ⟨v.toArray⟩], .bool true]) (by simp [results, Tryd.results33, go_sem, z0, z1]) rfl ⟨by rw [R.out]; rfl, by (repeat (first | exact gr_refl _ _ | assumption | refine gr_drew ?_ | refine gr_drewN _ ?_ | refine gr_alloc ?_ _ | refine gr_set ?_ | refine gr_set_new ?_ (by first | omega | (simp; omega))))⟩
end Go.Proofs.YtnapfecalckajaaDoor
