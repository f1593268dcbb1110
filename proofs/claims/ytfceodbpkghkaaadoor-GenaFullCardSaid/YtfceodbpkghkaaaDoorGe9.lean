/- head.Get, hearthref15.Get, beside octet (one name for what both lay). -/
import Derived.Test.YtfceodbpkghkaaaDoorOct1
import Derived.Test.YtfceodbpkghkaaaDoorPairs
import Derived.OwnWalk
namespace Go.Proofs.YtfceodbpkghkaaaDoor
open Go.RowKit

/-- The values of a name. -/
def getN (ns vs : Nat → ByteArray) (name : ByteArray) : Nat → List ByteArray
  | 0 => []
  | k + 1 => if ns k = name then getN ns vs name k ++ [vs k] else getN ns vs name k
theorem getN_le (ns vs : Nat → ByteArray) (name : ByteArray) : ∀ k, (getN ns vs name k).length ≤ k
  | 0 => Nat.le_refl _
  | k + 1 => by
    have := getN_le ns vs name k
    unfold getN; split <;> simp <;> omega
def GetPost (w : World) (xs : List ByteArray) (e : Ending) (w' : World) : Prop :=
  ∃ v, e = .returned v ∧ w'.ownsRow w.heap.size 9 1 v xs.length (xs.map Value.string) ∧ w.grownBy w' none
set_option maxHeartbeats 2000000 in
theorem get_any (w : World) (a : Option Addr) (len cap : Nat) (ns vs : Nat → ByteArray) (name : ByteArray) (h : PairsAt w a len ns vs) (hlen : len ≤ 200000) :
    Calls Tryd.prog 14 #[.slice a len cap, .string name] w (GetPost w (getN ns vs name len)) := by
  obtain ⟨i0, hi, hz0, hz1, hz2⟩ := info_parts infoStr
  go_enter Tryd.func14, Tryd.ntmps14
  go_wp2_with fail
  go_loopw [4, 9] (fun vo vk wr => ∃ k : Nat, vk = .int .i64 k ∧ k ≤ len ∧ wr.ownsRow w.heap.size 9 1 vo (getN ns vs name k).length ((getN ns vs name k).map Value.string) ∧ w.grownBy wr none) (fun _ vk _ => len - (intOf vk).toNat)
  case atStart => exact ⟨0, rfl, Nat.zero_le _, World.ownsRow_nil _ _ _ _, gr_refl _ _⟩
  case round =>
    obtain ⟨k, rfl, hk, hown, gw⟩ := hrel
    have gl := getN_le ns vs name k
    have hsz := gw.size
    by_cases hkl : k < len
    · rcases h with h0 | ⟨b, o, rfl, hp⟩
      · omega
      have c0 := ((hp k hkl).grown gw).c0
      have c1 := ((hp k hkl).grown gw).c1
      clear hp
      by_cases he : ns k = name
      · have R := hid (show getN ns vs name (k + 1) = getN ns vs name k ++ [vs k] by simp only [getN]; rw [if_pos he])
        have heq : ((ns k).toList == name.toList) = true := by rw [toList_beq]; simpa using he
        clear he
        go_wp2_with (at_builtin; refine wpList_append_own _ rfl _ _ 52 rfl w.heap.size 9 i0 _ 1 16 Tryd.underlying52 hi hz0 hz1 hz2 rfl (by decide) _ _ _ rfl ((hown.alloc _).alloc _) ⟨wr.heap.size + 1, 0, none⟩ 1 1 [.string (vs k)] rfl rfl ?c1 ?c2 ?c3 ?c4 ?c5 ?_)
        case c1 =>
          intro j u hj
          match j, hj with
          | 0, hj => simp at hj; subst hj; simp [Addr.add]
        case c2 => intro u hu; simp at hu; subst hu; rfl
        case c3 => unfold maxLen; omega
        case c4 => omega
        case c5 => simp; omega
        · intro v' w1 hown' hgrow _
          have hg' := gr_own (gr_alloc (gr_alloc gw _) _) ((hown.alloc _).alloc _) (Nat.le_refl _) hgrow
          clear hgrow hown
          go_wp2
          go_roundw
          case rel => exact ⟨k + 1, by go_num, by omega, by rw [R.out]; simpa using hown', hg'⟩
          case measure => simp [intOf]; omega
      · have R := hid (show getN ns vs name (k + 1) = getN ns vs name k by simp only [getN]; rw [if_neg he])
        have heq : ((ns k).toList == name.toList) = false := by rw [toList_beq]; simpa using he
        clear he
        go_wp2
        go_roundw
        case rel => exact ⟨k + 1, by go_num, by omega, by rw [R.out]; exact hown.alloc _, by (repeat (first | exact gr_refl _ _ | assumption | refine gr_drew ?_ | refine gr_drewN _ ?_ | refine gr_alloc ?_ _ | refine gr_set ?_ | refine gr_set_new ?_ (by first | omega | (simp; omega))))⟩
        case measure => simp [intOf]; omega
    · obtain rfl : k = len := by omega
      go_wp2
      go_ret
      exact ⟨_, rfl, hown, gw⟩

end Go.Proofs.YtfceodbpkghkaaaDoor
