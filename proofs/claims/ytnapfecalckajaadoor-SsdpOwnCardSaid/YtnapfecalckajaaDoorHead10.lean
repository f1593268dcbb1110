/- hearthref15.Get, head.Same, hearthref15.Lower. -/
import Derived.Test.YtnapfecalckajaaDoorHead9
namespace Go.Proofs.YtnapfecalckajaaDoor
open Go.RowKit

set_option maxHeartbeats 2000000 in
theorem rget_any (w : World) (a : Option Addr) (len cap : Nat) (ns vs : Nat → ByteArray) (name : ByteArray) (h : PairsAt w a len ns vs) (hlen : len ≤ 100000) :
    Calls Tryd.prog 41 #[.slice a len cap, .string name] w (GetPost w (getN ns vs name len)) := by
  obtain ⟨i0, hi, hz0, hz1, hz2⟩ := info_parts infoStr
  go_enter Tryd.func41, Tryd.ntmps41
  go_wp2_with fail
  go_loopw [5, 6] (fun vo vk wr => ∃ k : Nat, vk = .int .i64 k ∧ k ≤ len ∧ wr.ownsRow w.heap.size 9 1 vo (getN ns vs name k).length ((getN ns vs name k).map Value.string) ∧ w.grownBy wr none) (fun _ vk _ => len - (intOf vk).toNat)
  case atStart => exact ⟨0, rfl, Nat.zero_le _, World.ownsRow_made w #[] 0 (Nat.le_refl _) (by unfold maxLen; omega) rfl, gr_alloc (gr_refl _ _) _⟩
  case round =>
    obtain ⟨k, rfl, hk, hown, gw⟩ := hrel
    have gl := getN_le ns vs name k
    have hsz := gw.size
    by_cases hkl : k < len
    · rcases h with h0 | ⟨b, o, rfl, hp⟩
      · omega
      have c0 := ((hp k hkl).grown gw).c0
      have c1 := ((hp k hkl).grown gw).c1
      clear hp
      by_cases he : ns k = name
      · have R := hid (show getN ns vs name (k + 1) = getN ns vs name k ++ [vs k] by simp only [getN]; rw [if_pos he])
        have heq : ((ns k).toList == name.toList) = true := by rw [toList_beq]; simpa using he
        clear he
        go_wp2_with (at_builtin; refine wpList_append_own _ rfl _ _ 35 rfl w.heap.size 9 i0 _ 1 16 Tryd.underlying35 hi hz0 hz1 hz2 rfl (by decide) _ _ _ rfl (hown.alloc _) ⟨wr.heap.size, 0, none⟩ 1 1 [.string (vs k)] rfl rfl ?c1 ?c2 ?c3 ?c4 ?c5 ?_)
        case c1 =>
          intro j u hj
          match j, hj with
          | 0, hj => simp at hj; subst hj; simp [Addr.add]
        case c2 => intro u hu; simp at hu; subst hu; rfl
        case c3 => unfold maxLen; omega
        case c4 => omega
        case c5 => simp; omega
        · intro v' w1 hown' hgrow _
          have hg' := gr_own (gr_alloc gw _) (hown.alloc _) (Nat.le_refl _) hgrow
          clear hgrow hown
          go_wp2
          go_roundw
          case rel => exact ⟨k + 1, by go_num, by omega, by rw [R.out]; simpa using hown', hg'⟩
          case measure => simp [intOf]; omega
      · have R := hid (show getN ns vs name (k + 1) = getN ns vs name k by simp only [getN]; rw [if_neg he])
        have heq : ((ns k).toList == name.toList) = false := by rw [toList_beq]; simpa using he
        clear he
        go_wp2
        go_roundw
        case rel => exact ⟨k + 1, by go_num, by omega, by rw [R.out]; exact hown, by (repeat (first | exact gr_refl _ _ | assumption | refine gr_drew ?_ | refine gr_drewN _ ?_ | refine gr_alloc ?_ _ | refine gr_set ?_ | refine gr_set_new ?_ (by first | omega | (simp; omega))))⟩
        case measure => simp [intOf]; omega
    · obtain rfl : k = len := by omega
      go_wp2
      go_ret
      exact ⟨_, rfl, hown, gw⟩
set_option maxHeartbeats 2000000 in
theorem rlower_any (s : ByteArray) (w : World) (hs : s.size ≤ 100000) :
    Calls Tryd.prog 40 #[.string s] w fun e w' => e = .returned (str (lowL s.data.toList)) ∧ w.grownBy w' none := by
  obtain ⟨i0, hi, hz0, hz1, hz2⟩ := info_parts infoU8
  obtain ⟨l, hl⟩ : ∃ l, l = s.data.toList := ⟨_, rfl⟩
  have hlen : s.size = l.length := by rw [hl, ← Lib.size_eq]
  rw [← hl]
  have Hl := hid hl
  have Hlen := hid hlen
  clear hl hlen
  go_enter Tryd.func40, Tryd.ntmps40
  go_wp2_with fail
  go_loopw [3, 4] (fun vo vk wr => ∃ k : Nat, vk = .int .i64 k ∧ k ≤ s.size ∧ wr.ownsRow w.heap.size 5 1 vo k ((lowL (l.take k)).map fun b => .int .u8 (b.toNat : Int)) ∧ w.grownBy wr none) (fun _ vk _ => s.size - (intOf vk).toNat)
  case atStart => exact ⟨0, rfl, Nat.zero_le _, World.ownsRow_made w #[] 0 (Nat.le_refl _) (by unfold maxLen; omega) rfl, gr_alloc (gr_refl _ _) _⟩
  case round =>
    obtain ⟨k, rfl, hk, hown, gw⟩ := hrel
    have hsz := gw.size
    by_cases hlt : k < s.size
    · have hkl : k < l.length := by rw [← Hlen.out]; exact hlt
      have hc : s[k]'hlt = l.getD k 0 := by rw [strAt, ← Hl.out]
      have R := hid (show (lowL (l.take (k + 1))).map (fun b => Value.int .u8 (b.toNat : Int)) = (lowL (l.take k)).map (fun b => Value.int .u8 (b.toNat : Int)) ++ [.int .u8 (smI (l.getD k 0))] by
        rw [List.take_succ_eq_append_getElem hkl, ← low_sm]
        rw [show l.getD k 0 = l[k] by rw [List.getD_eq_getElem?_getD, List.getElem?_eq_getElem hkl]; rfl]
        simp only [lowL, List.map_append, List.map_cons, List.map_nil])
      generalize l.getD k 0 = c at hc R
      have hsm := small_any c wr
      generalize smI c = m at hsm R
      have Hsm := hid hsm
      clear hsm hkl
      go_wp2_with fail
      refine Hsm.out.mono ?_
      rintro e w2 ⟨rfl, rfl⟩
      go_wp2_with (at_builtin; refine wpList_append_own _ rfl _ _ 29 rfl w.heap.size 5 i0 _ 1 1 Tryd.underlying29 hi hz0 hz1 hz2 rfl (by decide) _ _ _ rfl (hown.alloc _) ⟨wr.heap.size, 0, none⟩ 1 1 [.int .u8 m] rfl rfl ?c1 ?c2 ?c3 ?c4 ?c5 ?_)
      case c1 =>
        intro j u hj
        match j, hj with
        | 0, hj => simp at hj; subst hj; simp [Addr.add]
      case c2 => intro u hu; simp at hu; subst hu; rfl
      case c3 => unfold maxLen; omega
      case c4 => omega
      case c5 => simp; omega
      · intro v' w1 hown' hgrow _
        have hg' := gr_own (gr_alloc gw _) (hown.alloc _) (Nat.le_refl _) hgrow
        clear hgrow hown
        go_wp2
        go_roundw
        case rel => exact ⟨k + 1, by go_num, by omega, by rw [R.out]; exact hown', hg'⟩
        case measure => simp [intOf]; omega
    · have hke : k = l.length := by have := Hlen.out; omega
      have hb := bytes_of_own (l := lowL l) (by rw [hke, List.take_length] at hown; exact hown)
      clear hke hown
      go_wp2_with (refine wpl_b2s rfl 29 9 5 _ rfl Tryd.underlying29 Tryd.underlying5 Tryd.underlying9 _ (lowL l) rfl hb ?_)
      go_ret
      exact ⟨rfl, gw⟩
end Go.Proofs.YtnapfecalckajaaDoor
