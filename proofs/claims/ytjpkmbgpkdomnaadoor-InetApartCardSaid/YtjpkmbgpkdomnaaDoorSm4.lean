/- octet.Pairs: its closure as an iterator. -/
import Derived.Test.YtjpkmbgpkdomnaaDoorSm3
import Derived.RangeFuncNested
import Derived.RangeFuncBound
import Derived.RangeFuncCalls
import Derived.RangeFuncLeaves
import Derived.RangeFuncFrom
import Derived.Shelf.Abstract
import Derived.Shelf.RegionOpen
import Derived.WalkKit
import Derived.OwnWalkIn
import Derived.TacticsInMore
import Derived.LoopNIn
import Derived.LoopIn
namespace Go.Proofs.YtjpkmbgpkdomnaaDoor
open Go.RowKit Go.Shelf
attribute [local go_sem] Oper.semAt_some

/-- The blocks below N lie as they lay, but for block T. -/
def KB (N T : Nat) (W W' : World) : Prop := ∀ i, i < N → i ≠ T → W'.heap[i]? = W.heap[i]?
theorem KB.refl (N T : Nat) (W : World) : KB N T W W := fun _ _ _ => rfl
theorem KB.trans {N T : Nat} {A B C : World} (h : KB N T A B) (k : KB N T B C) : KB N T A C := fun i hi ht => (k i hi ht).trans (h i hi ht)
theorem KB.cell {N T : Nat} {W W' : World} (h : KB N T W W') {b o : Nat} (hb : b < N) (ht : b ≠ T) : W'.cell? ⟨b, o, none⟩ = W.cell? ⟨b, o, none⟩ := by
  have := h b hb ht
  simp [World.cell?, this]
theorem kb_b {N T : Nat} {w : World} (hn : N ≤ w.heap.size) (W : World) (l : Nat) (o o' : Obj) (hl : w.heap.size ≤ l) (h : W.heap[l]? = some o) (_ : o.isCells = false) (_ : o.isWalk = false) : KB N T W (W.putObj l o') := fun i hi _ =>
  (grownBy_putObj' W l o').block i (by have := (Array.getElem?_eq_some_iff.1 h).1; omega) (by simp; omega)
/-- What has come when k rounds are over. -/
def upto {α : Type} (f : Nat → α) (k : Nat) : List α := (List.range k).map f
theorem upto_succ {α : Type} (f : Nat → α) (k : Nat) : upto f (k + 1) = upto f k ++ [f k] := by simp [upto, List.range_succ]
theorem upto_length {α : Type} (f : Nat → α) (k : Nat) : (upto f k).length = k := by simp [upto]
theorem u16_join (x y : Nat) (hx : x < 256) (hy : y < 256) : bits .or .u16 ((x : Int) * 256) (y : Int) = 256 * (x : Int) + (y : Int) := by
  have h := u16_or_nat (x * 256) y (by omega) (by omega)
  rw [nat_join 8 (x * 256) y (by omega) (by omega)] at h
  rw [show (x : Int) * 256 = ((x * 256 : Nat) : Int) by omega, h]; omega
set_option maxRecDepth 100000 in
set_option maxHeartbeats 4000000 in
theorem pairs1_in (F : Fence) (n : Nat) (h83 : F.fn 83) (hro : F.round = none) (hn : 1 ≤ n) (l Bs N T b off cap : Nat) (bs : List UInt8) (hl : bs.length ≤ 100000) (hb : b < N) (hbT : b ≠ T) (hBs : Bs < N) (hBT : Bs ≠ T)
    (z : Nat → Int) (hz : Hid (∀ k, 2 * k < bs.length → z k = 256 * ((bs.getD (2 * k) 0).toNat : Int) + ((bs.getD (2 * k + 1) 0).toNat : Int))) (J Jx : List (Nat × Int) → World → Prop)
    (hY : ∀ pre x W, J pre W → pre.length < (bs.length + 1) / 2 → YieldAt F (n - 1) Tryd.prog l #[.int .i64 (x.1 : Int), .int .u16 x.2] W fun e W' =>
      (e = .returned (.bool true) ∧ J (pre ++ [x]) W' ∧ KB N T W W') ∨ (e = .returned (.bool false) ∧ Jx (pre ++ [x]) W'))
    (W : World) (hbox : Hid (W.cell? ⟨Bs, 0, none⟩ = some (.slice (some ⟨b, off, none⟩) bs.length cap))) (hc : Hid (∀ j, j < bs.length → W.cell? ⟨b, off + j, none⟩ = some (.int .u8 ((bs.getD j 0).toNat : Int)))) (h0 : J [] W) :
    CallsIn F n Tryd.prog 83 #[.func (.yield l) #[] #[], .pointer (some ⟨Bs, 0, none⟩)] W fun e W' => (∃ v, e = .returned v) ∧
      ((∃ ys, ys = upto (fun j => (j, z j)) ((bs.length + 1) / 2) ∧ J ys W') ∨ (∃ pre, (∃ k, k ≤ (bs.length + 1) / 2 ∧ pre = upto (fun j => (j, z j)) k) ∧ Jx pre W')) := by
  refine callsIn_of_wp Tryd.func83 rfl h83 ?_ hro
  simp only [Tryd.ntmps83, List.size_toArray, List.length_cons, List.length_nil, Nat.reduceAdd, Nat.reduceSub, Array.replicate_succ, Array.replicate_zero, List.push_toArray, List.append_toArray, List.nil_append, List.cons_append]
  gi_wp2
  gi_loopw [3] (fun i wr => ∃ k : Nat, k ≤ (bs.length + 1) / 2 ∧ i = .int .i64 ((2 * k : Nat) : Int) ∧ J (upto (fun j => (j, z j)) k) wr ∧ KB N T W wr)
    (fun i _ => bs.length + 2 - (intOf i).toNat)
  case atStart => exact ⟨0, Nat.zero_le _, rfl, h0, KB.refl _ _ _⟩
  case round =>
    obtain ⟨k, hk, rfl, hJs, hnx⟩ := hrel
    have hbx : wr.cell? ⟨Bs, 0, none⟩ = some (.slice (some ⟨b, off, none⟩) bs.length cap) := (hnx.cell hBs hBT).trans hbox.out
    by_cases hlt : 2 * k < bs.length
    · have hcx : wr.cell? ⟨b, off + 2 * k, none⟩ = some (.int .u8 ((bs.getD (2 * k) 0).toNat : Int)) := (hnx.cell hb hbT).trans (hc.out _ hlt)
      have hzk := hz.out k hlt
      have x8 := UInt8.toNat_lt (bs.getD (2 * k) 0)
      have y8 := UInt8.toNat_lt (bs.getD (2 * k + 1) 0)
      obtain ⟨fn, tmps, assign, body, hy, hR⟩ := hY _ (k, z k) wr hJs (by rw [upto_length]; omega)
      dsimp only at hy
      have hdiv : (2 * (k : Int)) / 2 = (k : Int) := by omega
      by_cases h2 : 2 * k + 1 < bs.length
      · have hdx : wr.cell? ⟨b, off + (2 * k + 1), none⟩ = some (.int .u8 ((bs.getD (2 * k + 1) 0).toNat : Int)) := (hnx.cell hb hbT).trans (hc.out _ h2)
        have hj := u16_join _ _ x8 y8
        rw [hzk] at hy hR
        generalize (bs.getD (2 * k) 0).toNat = x at *
        generalize (bs.getD (2 * k + 1) 0).toNat = y at *
        have Hzk := hid hzk
        clear hzk
        gi_wp2
        refine hR.mono ?_
        rintro e W3 (⟨rfl, hJ3, hk3⟩ | ⟨rfl, hJx3⟩)
        · gi_wp2
          go_roundw
          case rel => exact ⟨k + 1, by omega, by go_num, by rw [upto_succ, Hzk.out]; exact hJ3, hnx.trans hk3⟩
          case measure => simp [intOf]; omega
        · gi_wp2
          refine bodyPost_ret (results_none rfl _ _ _) rfl ?_
          exact ⟨⟨_, rfl⟩, .inr ⟨_, ⟨k + 1, by omega, by rw [upto_succ, Hzk.out]⟩, hJx3⟩⟩
      · have hy0 : bs.getD (2 * k + 1) 0 = 0 := by rw [List.getD_eq_getElem?_getD, List.getElem?_eq_none (by omega)]; rfl
        have hzk2 : z k = ((bs.getD (2 * k) 0).toNat : Int) * 256 := by rw [hzk, hy0]; simp; omega
        rw [hzk2] at hy hR
        generalize (bs.getD (2 * k) 0).toNat = x at *
        have Hzk := hid hzk2
        clear hzk hzk2 hy0
        gi_wp2
        refine hR.mono ?_
        rintro e W3 (⟨rfl, hJ3, hk3⟩ | ⟨rfl, hJx3⟩)
        · gi_wp2
          go_roundw
          case rel => exact ⟨k + 1, by omega, by go_num, by rw [upto_succ, Hzk.out]; exact hJ3, hnx.trans hk3⟩
          case measure => simp [intOf]; omega
        · gi_wp2
          refine bodyPost_ret (results_none rfl _ _ _) rfl ?_
          exact ⟨⟨_, rfl⟩, .inr ⟨_, ⟨k + 1, by omega, by rw [upto_succ, Hzk.out]⟩, hJx3⟩⟩
    · obtain rfl : k = (bs.length + 1) / 2 := by omega
      gi_wp2
      go_end0
      exact ⟨⟨_, rfl⟩, .inl ⟨_, rfl, hJs⟩⟩
end Go.Proofs.YtjpkmbgpkdomnaaDoor
