/- hearthref23.Lines, .one, .place. -/
import Derived.Test.YtnapfecalckajaaDoorSs3
namespace Go.Proofs.YtnapfecalckajaaDoor
open Go.RowKit

def LinesPost (w : World) (r : List (List UInt8) × Bool) (e : Ending) (w' : World) : Prop :=
  ∃ v, e = .returned (.tuple #[v, .bool r.2]) ∧ w'.ownsRow w.heap.size 9 1 v r.1.length (r.1.map str) ∧ w.grownBy w' none
def LnI (w : World) (t : List UInt8) (v4 v5 v6 : Value) (wr : World) : Prop :=
  ∃ (k f : Nat) (O : List (List UInt8)), v6 = .int .i64 (k : Int) ∧ v5 = .int .i64 (f : Int) ∧ LnR t k f O ∧ wr.ownsRow w.heap.size 9 1 v4 O.length (O.map str) ∧ w.grownBy wr none
theorem ext_str (s : ByteArray) (a b : Nat) (_ : b ≤ s.size) : s.extract a b = ⟨((s.data.toList.drop a).take (b - a)).toArray⟩ := by
  apply ByteArray.ext
  rw [ByteArray.data_extract]
  apply Array.toList_inj.1
  rw [Array.toList_extract]
theorem ne10 {x : UInt8} (h : x ≠ 10) : ((x.toNat : Int) != 10) = true := by
  rw [bne_iff_ne]; intro e; apply h; apply UInt8.toNat_inj.1; simpa using (by omega : x.toNat = 10)
theorem ne13 {x : UInt8} (h : x ≠ 13) : ((x.toNat : Int) != 13) = true := by
  rw [bne_iff_ne]; intro e; apply h; apply UInt8.toNat_inj.1; simpa using (by omega : x.toNat = 13)
set_option maxRecDepth 20000 in
set_option maxHeartbeats 4000000 in
theorem rlines_any (s : ByteArray) (w : World) (hs : s.size ≤ 100000) :
    Calls Tryd.prog 20 #[.string s] w (LinesPost w (refL (lns s.data.toList))) := by
  obtain ⟨t, ht⟩ : ∃ t, s.data.toList = t := ⟨_, rfl⟩
  rw [ht]
  have hlen : s.size = t.length := by rw [← ht, ← Lib.size_eq]
  have HSTR := hid (show ∀ k (h : k < s.size), s[k]'h = t.getD k 0 by rw [← ht]; exact strAt s)
  have HEX := hid (show ∀ a b, b ≤ s.size → s.extract a b = ⟨((t.drop a).take (b - a)).toArray⟩ by rw [← ht]; exact ext_str s)
  obtain ⟨i0, hi, hz0, hz1, hz2⟩ := info_parts infoStr
  clear ht
  go_enter Tryd.func20, Tryd.ntmps20
  go_wp2_with fail
  go_loopw [4, 5, 6] (fun v4 v5 v6 wr => LnI w t v4 v5 v6 wr) (fun _ _ v6 _ => t.length - (intOf v6).toNat)
  case atStart => exact ⟨0, 0, [], rfl, rfl, LnR.start t, World.ownsRow_made w #[] 0 (Nat.le_refl _) (by unfold maxLen; omega) rfl, gr_alloc (gr_refl _ _) _⟩
  case round =>
    obtain ⟨k, f, O, rfl, rfl, hL, hown, gw⟩ := hrel
    have hfk := hL.1
    have hOl := hL.2.2.1
    have HL := hid hL
    have hsz := gw.size
    clear hL
    by_cases hkn : k < t.length
    · have hc : s[k]'(by omega) = t.getD k 0 := HSTR.out k (by omega)
      by_cases hh : t.getD k 0 = 10 ∧ 1 ≤ k ∧ t.getD (k - 1) 0 = 13 ∧ f ≤ k - 1
      · obtain ⟨ha, h1, hb, hf⟩ := hh
        have hp : s[k - 1]'(by omega) = t.getD (k - 1) 0 := HSTR.out (k - 1) (by omega)
        rw [hb] at hp
        rw [ha] at hc
        have he := HEX.out f (k - 1) (by omega)
        have hki : (k : Int) - 1 = ((k - 1 : Nat) : Int) := by omega
        have HKI := hid hki
        have hk0 : ((k : Int) == 0) = false := by rw [beq_eq_false_iff_ne]; omega
        by_cases hlast : k - 1 = f
        · have HE := hid (HL.out.last hkn h1 ha hb hlast)
          subst hlast
          clear ha hb
          go_wp2_with (at_builtin; refine wpList_append_own _ rfl _ _ 35 rfl w.heap.size 9 i0 _ 1 16 Tryd.underlying35 hi hz0 hz1 hz2 rfl (by decide) _ _ _ rfl (hown.alloc _) ⟨wr.heap.size, 0, none⟩ 1 1 [str ((t.drop (k - 1)).take (k - 1 - (k - 1)))] rfl rfl ?c1 ?c2 ?c3 ?c4 ?c5 ?_)
          case c1 =>
            intro j u hj
            match j, hj with
            | 0, hj => simp at hj; subst hj; simp [Addr.add, str]; try rfl
          case c2 => intro u hu; simp at hu; subst hu; rfl
          case c3 => unfold maxLen; omega
          case c4 => omega
          case c5 => simp; omega
          · intro v' w1 hown' hgrow _
            have hg' := gr_own (gr_alloc gw _) (hown.alloc _) (Nat.le_refl _) hgrow
            clear hgrow hown
            have hB := hid (show ((k : Int) == (t.length : Int) - 1) = decide (k = t.length - 1) by rw [Bool.eq_iff_iff, beq_iff_eq, decide_eq_true_iff]; omega)
            go_wp2
            go_ret2
            exact ⟨v', by rw [HE.out, ← hB.out]; rfl, by rw [HE.out, List.length_append, List.map_append]; simpa using hown', hg'⟩
        · have HN := hid (HL.out.next hkn h1 ha hb hf hlast)
          clear ha hb
          go_wp2_with (at_builtin; refine wpList_append_own _ rfl _ _ 35 rfl w.heap.size 9 i0 _ 1 16 Tryd.underlying35 hi hz0 hz1 hz2 rfl (by decide) _ _ _ rfl (hown.alloc _) ⟨wr.heap.size, 0, none⟩ 1 1 [str ((t.drop f).take (k - 1 - f))] rfl rfl ?c1 ?c2 ?c3 ?c4 ?c5 ?_)
          case c1 =>
            intro j u hj
            match j, hj with
            | 0, hj => simp at hj; subst hj; simp [Addr.add, str]; try rfl
          case c2 => intro u hu; simp at hu; subst hu; rfl
          case c3 => unfold maxLen; omega
          case c4 => omega
          case c5 => simp; omega
          · intro v' w1 hown' hgrow _
            have hg' := gr_own (gr_alloc gw _) (hown.alloc _) (Nat.le_refl _) hgrow
            clear hgrow hown
            go_wp2
            go_roundw
            case rel => exact ⟨k + 1, k + 1, O ++ [(t.drop f).take (k - 1 - f)], by go_num, by go_num, HN.out, by rw [List.length_append, List.map_append]; exact hown', hg'⟩
            case measure => simp [intOf]; omega
      · have HN := hid (HL.out.skip hkn hh)
        by_cases ha : t.getD k 0 = 10
        · rw [ha] at hc
          by_cases h1 : 1 ≤ k
          · have hp : s[k - 1]'(by omega) = t.getD (k - 1) 0 := HSTR.out (k - 1) (by omega)
            have hki : (k : Int) - 1 = ((k - 1 : Nat) : Int) := by omega
            have hk0 : ((k : Int) == 0) = false := by rw [beq_eq_false_iff_ne]; omega
            by_cases hb : t.getD (k - 1) 0 = 13
            · rw [hb] at hp
              have hf : k - 1 < f := by
                apply Classical.byContradiction
                intro h
                exact hh ⟨ha, h1, hb, by omega⟩
              have hfi : (k : Int) - 1 < (f : Int) := by omega
              clear ha hb hh hki
              go_wp2
              go_roundw
              case rel => exact ⟨_, f, O, by go_num, rfl, HN.out, hown, gw⟩
              case measure => simp [intOf]; omega
            · have hne := ne13 hb
              generalize t.getD (k - 1) 0 = c at hp hne
              clear ha hb hh hki
              go_wp2
              go_roundw
              case rel => exact ⟨_, f, O, by go_num, rfl, HN.out, hown, gw⟩
              case measure => simp [intOf]; omega
          · obtain rfl : k = 0 := by omega
            clear ha hh h1
            go_wp2
            go_roundw
            case rel => exact ⟨_, f, O, by go_num, rfl, HN.out, hown, gw⟩
            case measure => simp [intOf]; omega
        · have hne := ne10 ha
          generalize t.getD k 0 = c at hc hne
          clear ha hh
          go_wp2
          go_roundw
          case rel => exact ⟨_, f, O, by go_num, rfl, HN.out, hown, gw⟩
          case measure => simp [intOf]; omega
    · obtain rfl : k = t.length := by have := HL.out.2.1; omega
      have HE := hid HL.out.done
      clear HL
      go_wp2
      go_ret2
      exact ⟨_, by rw [HE.out]; rfl, by rw [HE.out]; exact hown, gw⟩
end Go.Proofs.YtnapfecalckajaaDoor
