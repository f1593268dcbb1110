/- inet.Parse: its walk. -/
import Derived.Test.YtfceodbpkghkaaaGreatDoorIn5
namespace Go.Proofs.YtfceodbpkghkaaaGreatDoor
open Go.RowKit

theorem size_extract (s : ByteArray) (a b : Nat) : (s.extract a b).size ≤ s.size := by
  rw [Lib.size_eq, Lib.extract_data, Lib.size_eq]; simp; omega
theorem split_size (sep : ByteArray) : ∀ (k : Nat) (s : ByteArray), ∀ p ∈ Lib.splitB sep 0 k s, p.size ≤ s.size
  | 0, s, p, h => by
    rw [Lib.splitB_zero] at h; simp at h; rw [h]; exact Nat.le_refl _
  | k + 1, s, p, h => by
    unfold Lib.splitB at h
    split at h
    · simp at h; rw [h]; exact Nat.le_refl _
    · rcases List.mem_cons.1 h with h | h
      · rw [h]; exact size_extract _ _ _
      · exact Nat.le_trans (split_size sep k _ p h) (size_extract _ _ _)
theorem valP_snoc (p : List UInt8) (c : UInt8) : valP (p ++ [c]) = valP p * 10 + (c.toNat : Int) - 48 := by unfold valP; rw [List.foldl_append]; rfl
theorem valP_take (p : List UInt8) (k : Nat) (h : k < p.length) : valP (p.take (k + 1)) = valP (p.take k) * 10 + ((p.getD k 0).toNat : Int) - 48 := by
  rw [List.take_succ_eq_append_getElem h, valP_snoc]
  rw [show p.getD k 0 = p[k] by rw [List.getD_eq_getElem?_getD, List.getElem?_eq_getElem h]; rfl]
def pw10 : Nat → Int
  | 0 => 1
  | k + 1 => 10 * pw10 k
theorem pw10_le : ∀ k, k ≤ 15 → 1 ≤ pw10 k ∧ pw10 k ≤ 1000000000000000 := by decide
theorem valP_pw (p : List UInt8) : ∀ k, k ≤ p.length → -(23 * pw10 k - 23) ≤ valP (p.take k) ∧ valP (p.take k) ≤ 23 * pw10 k - 23
  | 0, _ => by simp [valP, pw10]
  | k + 1, h => by
    have ih := valP_pw p k (by omega)
    have hc := UInt8.toNat_lt (p.getD k 0)
    rw [valP_take p k (by omega)]
    show -(23 * (10 * pw10 k) - 23) ≤ _ ∧ _ ≤ 23 * (10 * pw10 k) - 23
    omega
theorem valP_bd (p : List UInt8) (h : p.length ≤ 15) (k : Nat) (hk : k ≤ p.length) : -23000000000000000 ≤ valP (p.take k) ∧ valP (p.take k) ≤ 23000000000000000 := by
  have h1 := valP_pw p k hk
  have h2 := pw10_le k (by omega)
  omega
theorem accB_take (ps : List ByteArray) (k : Nat) (h : k < ps.length) : accB (ps.take (k + 1)) = accA (accB (ps.take k)) (ps[k]).data.toList := by
  unfold accB; rw [List.take_succ_eq_append_getElem h, List.foldl_append]; rfl
theorem or_acc (a : Nat) (l : List UInt8) : bits .or .u32 ((a : Int) * 256 % 4294967296) (bits .and .i64 (valP l) 255 % 4294967296) = ((accA a l : Nat) : Int) := by
  rw [i64_and255]
  obtain ⟨V, hV, hV2⟩ : ∃ V : Nat, valP l % 256 % 4294967296 = (V : Int) ∧ V < 256 ∧ (valP l % 256).toNat = V := ⟨(valP l % 256).toNat, by omega, by omega, rfl⟩
  obtain ⟨A, hA, hA2⟩ : ∃ A : Nat, (a : Int) * 256 % 4294967296 = (A : Int) ∧ A = a * 256 % 4294967296 := ⟨a * 256 % 4294967296, by omega, rfl⟩
  rw [hV, hA, u32_or_nat A V (by omega) (by omega), nat_join 8 A V (by omega) (by omega)]
  unfold accA
  rw [hV2.2]
  omega
set_option maxRecDepth 20000 in
set_option maxHeartbeats 4000000 in
theorem parse_in (s : ByteArray) (m : Int) (w : World) (hm : w.cell? ⟨0, 0, none⟩ = some (.int .i64 m)) (h10 : P10 w) :
    Calls Tryz.prog 27 #[.string s] w fun e w' => e = .returned (.tuple #[.int .u32 (parseB s).1, .bool (parseB s).2]) ∧ w.grownBy w' none := by
  by_cases h15 : 15 < s.size
  · have R := hid (show parseB s = (0, false) by unfold parseB; rw [if_neg (by omega)])
    go_enter Tryz.func27, Tryz.ntmps27
    go_wp2
    go_ret2
    exact ⟨by rw [R.out]; rfl, by (repeat (first | exact gr_refl _ _ | assumption | refine gr_drew ?_ | refine gr_drewN _ ?_ | refine gr_alloc ?_ _ | refine gr_set ?_ | refine gr_set_new ?_ (by first | omega | (simp; omega))))⟩
  have h15' : s.size ≤ 15 := by omega
  have hspl := Tryz.strings_Split s ⟨#[46]⟩ m w (by omega) hm (by decide)
  have hR : parseB s = if textL (accB (partsB s)) = s.data.toList then (accB (partsB s), true) else (0, false) := by
    unfold parseB
    by_cases h : textL (accB (partsB s)) = s.data.toList
    · rw [if_pos ⟨h15', h⟩, if_pos h]
    · rw [if_neg (fun x => h x.2), if_neg h]
  have hpl : (partsB s).length = Lib.countB s ⟨#[46]⟩ + 1 := Lib.splitB_all _ (by decide) 0 _ s rfl
  have hcl := Lib.countB_le ⟨#[46]⟩ (by decide) s.size s (Nat.le_refl _)
  have hsz : ∀ p ∈ partsB s, p.size ≤ 15 := fun p hp => Nat.le_trans (split_size _ _ s p hp) h15'
  rw [show Lib.splitB ⟨#[46]⟩ 0 (Lib.countB s ⟨#[46]⟩) s = partsB s from rfl, ← hpl] at hspl
  have hcell : ∀ k (h : k < (partsB s).length), (w.alloc (.cells ((partsB s).map Value.string).toArray 9)).cell? ⟨w.heap.size, k, none⟩ = some (.string (partsB s)[k]) := fun k h => by
    refine (cell_of_block (heap_alloc_new w _) k).trans ?_
    simp [h]
  have hN : (partsB s).length ≤ 16 := by omega
  generalize partsB s = ps at *
  have Hs := hid hspl
  have HR := hid hR
  have Hsz := hid hsz
  have Hcell := hid hcell
  have H10 := hid h10
  have G0 : w.grownBy (w.alloc (.cells (ps.map Value.string).toArray 9)) none := World.grownBy_alloc w _ none
  generalize (w.alloc (.cells (ps.map Value.string).toArray 9)) = w1 at *
  clear hspl hR hsz hcell h10 hpl hcl hm h15
  go_enter Tryz.func27, Tryz.ntmps27
  go_wp2_with fail
  refine Hs.out.mono ?_
  rintro e w' ⟨rfl, rfl⟩
  go_wp2_with fail
  go_loopw [2, 15] (fun va vk wr => ∃ k : Nat, k ≤ ps.length ∧ vk = .int .i64 k ∧ va = .int .u32 ((accB (ps.take k) : Nat) : Int) ∧ w'.grownBy wr none) (fun _ vk _ => ps.length - (intOf vk).toNat)
  case atStart => exact ⟨0, Nat.zero_le _, rfl, by simp [accB], gr_refl _ _⟩
  case round =>
    obtain ⟨k, hk, rfl, rfl, gw⟩ := hrel
    by_cases hlt : k < ps.length
    · have hc := gw.cell (Hcell.out k hlt) (by simp)
      have hp := Hsz.out ps[k] (List.getElem_mem hlt)
      have ha := hid (accB_take ps k hlt)
      have hal := hid (accB_lt (ps.take k))
      generalize accB (ps.take k) = a at *
      generalize ps[k] = p at hc hp ha
      obtain ⟨l, hl⟩ : ∃ l, l = p.data.toList := ⟨_, rfl⟩
      have hll : l.length ≤ 15 := by rw [hl, ← Lib.size_eq]; exact hp
      have hps : p.size = l.length := by rw [hl, ← Lib.size_eq]
      have Hl := hid hl
      have Hps := hid hps
      clear hl hps
      go_wp2_with (refine wpl_s2b rfl 9 37 5 _ rfl Tryz.underlying9 Tryz.underlying37 Tryz.underlying5 p rfl (by unfold maxLen; omega) ?_; intro g cap w3 hg hrow g3)
      rw [← Hl.out] at hrow ha
      rw [Hps.out]
      have gw3 := gr_trans gw g3
      clear gw g3 hg hc
      go_loopw [6, 22] (fun vn vj wq => ∃ j : Nat, j ≤ l.length ∧ vj = .int .i64 j ∧ vn = .int .i64 (valP (l.take j)) ∧ wq = w3) (fun _ vj _ => l.length - (intOf vj).toNat)
      case atStart => exact ⟨0, Nat.zero_le _, rfl, rfl, rfl⟩
      case round =>
        obtain ⟨j, hj, rfl, rfl, rfl⟩ := hrel
        have hbd := valP_bd l (by omega) j hj
        by_cases hjl : j < l.length
        · have hc := hrow.cell (i := j) hjl
          have hv := hid (valP_take l j hjl)
          have hb8 := UInt8.toNat_lt (l.getD j 0)
          generalize l.getD j 0 = c at hc hv hb8
          go_wp2
          go_roundw
          case rel => exact ⟨j + 1, by omega, by go_num, by rw [hv.out], trivial⟩
          case measure => simp [intOf]; omega
        · obtain rfl : j = l.length := by omega
          have hacc := hid (show bits .or .u32 ((a : Int) * 256 % 4294967296) (bits .and .i64 (valP l) 255 % 4294967296) = ((accB (ps.take (k + 1)) : Nat) : Int) by rw [ha.out, or_acc])
          have ht : l.take l.length = l := List.take_length
          go_wp2
          go_roundw
          case rel => exact ⟨k + 1, by omega, by go_num, by rw [hacc.out], gw3⟩
          case measure => simp [intOf]; omega
    · obtain rfl : k = ps.length := by omega
      have ht := hid (text_in (accB ps) (accB_lt ps) wr (H10.out.grown (gr_trans G0 gw)))
      rw [List.take_length]
      have hal := hid (accB_lt ps)
      have hse := Lib.toList_data s
      generalize accB ps = a at *
      by_cases he : textL a = s.data.toList
      · have R := hid (show parseB s = (a, true) by rw [HR.out, if_pos he])
        have e0 : (textL a == s.toList) = true := by rw [Lib.toList_data, he]; simp
        have E0 := hid e0
        clear he e0 hse
        go_wp2_with fail
        refine ht.out.mono ?_
        rintro e w4 ⟨rfl, g4⟩
        unfold str
        have e0 := E0.out
        go_wp2
        go_ret2
        exact ⟨by rw [R.out]; rfl, gr_trans (gr_trans G0 gw) g4⟩
      · have R := hid (show parseB s = (0, false) by rw [HR.out, if_neg he])
        have e0 : (textL a == s.toList) = false := by rw [Lib.toList_data]; simpa using he
        have E0 := hid e0
        clear he e0 hse
        go_wp2_with fail
        refine ht.out.mono ?_
        rintro e w4 ⟨rfl, g4⟩
        unfold str
        have e0 := E0.out
        go_wp2
        go_ret2
        exact ⟨by rw [R.out]; rfl, gr_trans (gr_trans G0 gw) g4⟩
end Go.Proofs.YtfceodbpkghkaaaGreatDoor
