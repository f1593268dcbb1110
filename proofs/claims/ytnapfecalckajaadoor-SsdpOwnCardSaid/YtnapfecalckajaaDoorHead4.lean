/- head.Lower, Token; hearthref15.in, Token, Lower. -/
import Derived.Test.YtnapfecalckajaaDoorHead3
import Derived.Test.YtnapfecalckajaaDoorShelf
namespace Go.Proofs.YtnapfecalckajaaDoor
open Go.RowKit

/-- A letter as a small one. -/
def lowC (c : UInt8) : UInt8 := if letterB c then c ||| 32 else c
def lowL (l : List UInt8) : List UInt8 := l.map lowC
theorem low_sm : ∀ c, ((lowC c).toNat : Int) = smI c := all_bytes (by decide +kernel)
set_option maxHeartbeats 1000000 in
theorem lower_any (s : ByteArray) (w : World) (hs : s.size ≤ 9223372036854775807) :
    Calls Tryd.prog 49 #[.string s] w fun e w' => e = .returned (str (lowL s.data.toList)) ∧ w.grownBy w' none := by
  obtain ⟨l, hl⟩ : ∃ l, l = s.data.toList := ⟨_, rfl⟩
  have hlen : s.size = l.length := by rw [hl, ← Lib.size_eq]
  rw [← hl]
  have Hl := hid hl
  have Hlen := hid hlen
  clear hl hlen
  go_enter Tryd.func49, Tryd.ntmps49
  go_wp2_with (refine wpl_s2b rfl 9 29 5 _ rfl Tryd.underlying9 Tryd.underlying29 Tryd.underlying5 s rfl (by unfold maxLen; omega) ?_; intro g cap w1 hg hrow gw)
  rw [← Hl.out] at hrow
  go_loopw [10] (fun vk wr => ∃ k : Nat, vk = .int .i64 k ∧ k ≤ s.size ∧ w.grownBy wr none ∧ Row8 wr 5 g cap (lowL (l.take k) ++ l.drop k)) (fun vk _ => s.size - (intOf vk).toNat)
  case atStart => exact ⟨0, rfl, Nat.zero_le _, gw, by simpa [lowL] using hrow⟩
  case round =>
    clear hrow gw
    obtain ⟨k, rfl, hk, gw, hrow⟩ := hrel
    by_cases hlt : k < s.size
    · have hkl : k < l.length := by rw [← Hlen.out]; exact hlt
      have hll : (lowL (l.take k) ++ l.drop k).length = l.length := by simp [lowL]; omega
      have hc := hrow.cell (i := k) (by omega)
      have hf := hrow.free (i := k) (by omega)
      have hget : (lowL (l.take k) ++ l.drop k).getD k 0 = l.getD k 0 := by
        rw [List.getD_eq_getElem?_getD, List.getD_eq_getElem?_getD, List.getElem?_append_right (by simp [lowL]; omega)]
        simp [lowL, Nat.min_eq_left (Nat.le_of_lt hkl)]
      rw [hget] at hc
      have hnext : ∀ x : UInt8, x = lowC (l.getD k 0) → (lowL (l.take k) ++ l.drop k).set k x = lowL (l.take (k + 1)) ++ l.drop (k + 1) := by
        intro x hx
        rw [List.set_append, if_neg (by simp [lowL]; omega)]
        have e1 : k - (lowL (l.take k)).length = 0 := by simp [lowL]; omega
        rw [e1, List.drop_eq_getElem_cons hkl, List.set_cons_zero, List.take_succ_eq_append_getElem hkl]
        have e2 : l.getD k 0 = l[k] := by rw [List.getD_eq_getElem?_getD, List.getElem?_eq_getElem hkl]; rfl
        simp only [lowL, List.map_append, List.map_cons, List.map_nil, hx, e2, List.append_assoc, List.singleton_append]
      have hset := fun x : UInt8 => Row8.set hrow (i := k) (by omega) x
      have hsame : lowC (l.getD k 0) = l.getD k 0 → lowL (l.take k) ++ l.drop k = lowL (l.take (k + 1)) ++ l.drop (k + 1) := by
        intro h
        rw [← hnext _ h.symm]
        rw [← hget]
        apply List.ext_getElem?
        intro i
        rw [List.getElem?_set]
        split
        · rename_i e
          subst e
          rw [if_pos (by omega), List.getD_eq_getElem?_getD, List.getElem?_eq_getElem (by omega)]
          rfl
        · rfl
      clear hget hll
      generalize l.getD k 0 = c at hc hnext hsame
      have h32 := or32 c
      have hN := hid hnext
      have hS := hid hset
      have hM := hid hsame
      clear hnext hset hsame
      obtain ⟨b, hb⟩ : ∃ b, b = letterB c := ⟨_, rfl⟩
      have hlet := letter_any c wr
      rw [← hb] at hlet
      have Hlet := hid hlet
      have Hb := hid hb
      clear hb hlet
      cases b
      · have hrow' : Row8 wr 5 g cap (lowL (l.take (k + 1)) ++ l.drop (k + 1)) := by rw [← hM.out (by rw [lowC, ← Hb.out]; rfl)]; exact hrow
        clear hrow
        go_wp2_with fail
        refine Hlet.out.mono ?_
        rintro e w2 ⟨rfl, rfl⟩
        go_wp2
        go_roundw
        case rel => exact ⟨k + 1, by go_num, by omega, gw, hrow'⟩
        case measure => simp [intOf]; omega
      · have hrow' : Row8 (wr.setCell ⟨g, k, none⟩ (.int .u8 ((c ||| 32).toNat : Int))) 5 g cap (lowL (l.take (k + 1)) ++ l.drop (k + 1)) := by rw [← hN.out (c ||| 32) (by rw [lowC, ← Hb.out]; rfl)]; exact hS.out _
        have Hrow := hid hrow'
        clear hrow' hrow
        go_wp2_with fail
        refine Hlet.out.mono ?_
        rintro e w2 ⟨rfl, rfl⟩
        go_wp2
        go_roundw
        case rel => exact ⟨k + 1, by go_num, by omega, by (repeat (first | exact gr_refl _ _ | assumption | refine gr_drew ?_ | refine gr_drewN _ ?_ | refine gr_alloc ?_ _ | refine gr_set ?_ | refine gr_set_new ?_ (by first | omega | (simp; omega)))), Hrow.out⟩
        case measure => simp [intOf]; omega
    · have hke : k = l.length := by have := Hlen.out; omega
      have hb : Bytes wr (.slice (some ⟨g, 0, none⟩) s.size cap) (lowL l) := by
        have := hrow.bytes
        rw [hke, List.take_length, List.drop_length, List.append_nil] at this
        have e : (lowL l).length = s.size := by simp [lowL]; exact Hlen.out.symm
        rw [e] at this
        exact this
      clear hke
      go_wp2_with (refine wpl_b2s rfl 29 9 5 _ rfl Tryd.underlying29 Tryd.underlying5 Tryd.underlying9 _ (lowL l) rfl hb ?_)
      go_ret
      exact ⟨rfl, gw⟩
end Go.Proofs.YtnapfecalckajaaDoor
