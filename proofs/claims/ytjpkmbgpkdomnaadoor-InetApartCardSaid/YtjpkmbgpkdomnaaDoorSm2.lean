/- hearthref01.Pairs, hearthref02.Sum; bytes.Clone, octet.Join. -/
import Derived.Test.YtjpkmbgpkdomnaaDoorSm1
import Derived.Test.YtjpkmbgpkdomnaaDoorShelf
namespace Go.Proofs.YtjpkmbgpkdomnaaDoor
open Go.RowKit

theorem infoU16 : (Tryd.prog.info? 46).map (fun i => (i.zero, i.size, i.bytes)) = some (some (.int .u16 0), 1, 2) := by kernel_rfl
/-- A slice of numbers of the call's own. -/
def wv (n : Nat) : Value := .int .u16 (n : Int)
def PairsPost (w : World) (l : List UInt8) (e : Ending) (w' : World) : Prop := ∃ v, e = .returned v ∧ w'.ownsRow w.heap.size 46 1 v (prL l).length ((prL l).map wv) ∧ w.grownBy w' none
theorem Bytes.cellAt {w : World} {a : Option Addr} {n c : Nat} {l : List UInt8} (h : Bytes w (.slice a n c) l) (hp : 0 < l.length) : ∃ b o, a = some ⟨b, o, none⟩ ∧ ∀ i, i < l.length → w.cell? ⟨b, o + i, none⟩ = some (.int .u8 ((l.getD i 0).toNat : Int)) := by
  obtain ⟨a', c', e, h1, h2, h3⟩ := h
  simp only [Value.slice.injEq] at e
  obtain ⟨rfl, rfl, rfl⟩ := e
  exact h3 (by intro e; subst e; simp at hp)
set_option maxRecDepth 20000 in
set_option maxHeartbeats 4000000 in
theorem rpairs_any (l : List UInt8) (v : Value) (w : World) (hb : Bytes w v l) (hl : l.length ≤ 100000) :
    Calls Tryd.prog 57 #[v] w (PairsPost w l) := by
  obtain ⟨i0, hi, hz0, hz1, hz2⟩ := info_parts infoU16
  obtain ⟨a, c, rfl, hc1, hc2, hc3⟩ := hb
  have HC := hid hc3
  have hpl := prL_len l
  have HPL := hid hpl
  clear hc3 hpl
  unfold maxLen at hc2
  go_enter Tryd.func57, Tryd.ntmps57
  go_wp2_with fail
  go_loopw [3, 4] (fun vo vi wr => ∃ k : Nat, vi = .int .i64 ((2 * k : Nat) : Int) ∧ k ≤ (prL l).length ∧ wr.ownsRow w.heap.size 46 1 vo k (((prL l).take k).map wv) ∧ w.grownBy wr none) (fun _ vi _ => l.length + 1 - (intOf vi).toNat)
  case atStart => exact ⟨0, rfl, Nat.zero_le _, World.ownsRow_made w #[] 0 (Nat.le_refl _) (by unfold maxLen; omega) rfl, gr_alloc (gr_refl _ _) _⟩
  case round =>
    obtain ⟨k, rfl, hk, hown, gw⟩ := hrel
    have hsz := gw.size
    by_cases hlt : 2 * k < l.length
    · obtain ⟨b, o, rfl, hcell⟩ := HC.out (by intro e; rw [e] at hlt; simp at hlt)
      have hkl : k < (prL l).length := by have := HPL.out; omega
      have hc := gw.cell (hcell (2 * k) hlt) (by simp)
      have hat := prL_at l k hlt
      have R := hid (show ((prL l).take (k + 1)).map wv = ((prL l).take k).map wv ++ [wv ((prL l).getD k 0)] by
        rw [List.take_succ_eq_append_getElem hkl, List.map_append]
        rw [show (prL l).getD k 0 = (prL l)[k] by rw [List.getD_eq_getElem?_getD, List.getElem?_eq_getElem hkl]; rfl]
        rfl)
      generalize hzz : (prL l).getD k 0 = z at hat R
      clear hzz
      have hx8 := UInt8.toNat_lt (l.getD (2 * k) 0)
      have hy8 := UInt8.toNat_lt (l.getD (2 * k + 1) 0)
      by_cases h2 : 2 * k + 1 < l.length
      · have hd := gw.cell (hcell (2 * k + 1) h2) (by simp)
        generalize l.getD (2 * k) 0 = x at hc hat hx8
        generalize l.getD (2 * k + 1) 0 = y at hd hat hy8
        have hz : (256 : Int) * (x.toNat : Int) + (y.toNat : Int) = (z : Int) := by omega
        have Hz := hid hz
        clear hat hz hcell
        go_wp2_with (at_builtin; refine wpList_append_own _ rfl _ _ 81 rfl w.heap.size 46 i0 _ 1 2 Tryd.underlying81 hi hz0 hz1 hz2 rfl (by decide) _ _ _ rfl (hown.alloc _) ⟨wr.heap.size, 0, none⟩ 1 1 [.int .u16 (256 * (x.toNat : Int) + (y.toNat : Int))] rfl rfl ?_ ?_ ?_ ?_ ?_ ?_)
        · intro j u hj
          match j, hj with
          | 0, hj => simp at hj; subst hj; simp [Addr.add]
        · intro u hu; simp at hu; subst hu; rfl
        · unfold maxLen; omega
        · omega
        · simp; omega
        · intro v' w1 hown' hgrow _
          have hg' := gr_own (gr_alloc gw _) (hown.alloc _) (Nat.le_refl _) hgrow
          clear hgrow hown
          go_wp2
          go_roundw
          case rel => exact ⟨k + 1, by go_num, by omega, by rw [R.out, show wv z = Value.int .u16 (256 * (x.toNat : Int) + (y.toNat : Int)) by unfold wv; rw [Hz.out]]; simpa using hown', hg'⟩
          case measure => simp [intOf]; omega
      · have hy0 : l.getD (2 * k + 1) 0 = 0 := by rw [List.getD_eq_getElem?_getD, List.getElem?_eq_none (by omega)]; rfl
        rw [hy0] at hat
        generalize l.getD (2 * k) 0 = x at hc hat hx8
        have hz : (256 : Int) * (x.toNat : Int) = (z : Int) := by simp at hat; omega
        have Hz := hid hz
        clear hat hz hcell hy0 hy8
        go_wp2_with (at_builtin; refine wpList_append_own _ rfl _ _ 81 rfl w.heap.size 46 i0 _ 1 2 Tryd.underlying81 hi hz0 hz1 hz2 rfl (by decide) _ _ _ rfl (hown.alloc _) ⟨wr.heap.size, 0, none⟩ 1 1 [.int .u16 (256 * (x.toNat : Int))] rfl rfl ?_ ?_ ?_ ?_ ?_ ?_)
        · intro j u hj
          match j, hj with
          | 0, hj => simp at hj; subst hj; simp [Addr.add]
        · intro u hu; simp at hu; subst hu; rfl
        · unfold maxLen; omega
        · omega
        · simp; omega
        · intro v' w1 hown' hgrow _
          have hg' := gr_own (gr_alloc gw _) (hown.alloc _) (Nat.le_refl _) hgrow
          clear hgrow hown
          go_wp2
          go_roundw
          case rel => exact ⟨k + 1, by go_num, by omega, by rw [R.out, show wv z = Value.int .u16 (256 * (x.toNat : Int)) by unfold wv; rw [Hz.out]]; simpa using hown', hg'⟩
          case measure => simp [intOf]; omega
    · have hke : k = (prL l).length := by have := HPL.out; omega
      rw [hke, List.take_length] at hown
      go_wp2
      go_ret
      exact ⟨_, rfl, hown, gw⟩
theorem sum16_bd (l : List UInt8) : sum16 l ≤ 65535 := by unfold sum16; omega
set_option maxRecDepth 20000 in
set_option maxHeartbeats 4000000 in
theorem rsum_any (l : List UInt8) (v : Value) (w : World) (hb : Bytes w v l) (hl : l.length ≤ 100000) :
    Calls Tryd.prog 42 #[v] w fun e w' => e = .returned (.int .u16 (sum16 l)) ∧ w.grownBy w' none := by
  have hp := rpairs_any l v w hb hl
  have hbd := prL_bd l
  have hpl := prL_len l
  have hsum : sum16 l = 65535 - rnd (tot (prL l)) := rfl
  obtain ⟨ps, hps⟩ : ∃ ps, ps = prL l := ⟨_, rfl⟩
  rw [← hps] at hbd hpl hsum
  have HPS := hid hps
  have hn : ps.length ≤ 50001 := by omega
  clear hpl hl
  have Hp := hid hp
  have Hbd := hid hbd
  have Hsum := hid hsum
  clear hp hbd hsum hps
  go_enter Tryd.func42, Tryd.ntmps42
  go_wp2_with fail
  refine Hp.out.mono ?_
  rintro e w1 ⟨u, rfl, hown, g1⟩
  rw [← HPS.out] at hown
  obtain ⟨a, c, rfl, hc⟩ := own_shape hown
  have HO := hid hown
  clear hown
  go_wp2_with fail
  go_loop [4, 5] (fun vt vi => ∃ k : Nat, k ≤ ps.length ∧ vi = .int .i64 k ∧ vt = .int .u16 (rnd (tot (ps.take k)))) (fun _ vi => ps.length - (intOf vi).toNat)
  case atStart => exact ⟨0, Nat.zero_le _, rfl, by simp [tot, rnd]⟩
  case round =>
    obtain ⟨k, hk, rfl, rfl⟩ := hrel
    by_cases hlt : k < ps.length
    · obtain ⟨g, cap, e1, _, _, hcl⟩ := own_cell HO.out (by omega)
      simp only [Value.slice.injEq] at e1
      obtain ⟨rfl, -, rfl⟩ := e1
      have hc := hcl k (wv (ps.getD k 0)) (by rw [List.getElem?_map, List.getElem?_eq_getElem hlt, List.getD_eq_getElem?_getD, List.getElem?_eq_getElem hlt]; rfl)
      have hx : ps.getD k 0 ≤ 65535 := Hbd.out _ (by rw [List.getD_eq_getElem?_getD, List.getElem?_eq_getElem hlt]; exact List.getElem_mem hlt)
      have ht := hid (tot_take ps k hlt)
      unfold wv at hc
      have ha := hid (add_any (tot (ps.take k)) (ps.getD k 0) hx w1)
      generalize ps.getD k 0 = z at hc ha ht
      clear hcl hx
      go_wp2_with fail
      refine ha.out.mono ?_
      rintro e w2 ⟨rfl, rfl⟩
      go_wp2
      go_round
      case rel => exact ⟨k + 1, by omega, by go_num, by rw [ht.out]⟩
      case measure => simp [intOf]; omega
    · obtain rfl : k = ps.length := by omega
      rw [List.take_length]
      have hr := rnd_le (tot ps)
      have hs := hid (show (sum16 l : Int) = 65535 - (rnd (tot ps) : Int) by rw [Hsum.out]; omega)
      have hr2 : ((rnd (tot ps) : Nat) : Int) ≤ 65535 := by omega
      generalize rnd (tot ps) = r at *
      clear hr
      go_wp2
      go_ret
      exact ⟨by rw [hs.out]; rfl, g1⟩
end Go.Proofs.YtjpkmbgpkdomnaaDoor
