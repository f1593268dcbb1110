/- hearthref04.Digits, hearthref16.Reason. -/
import Derived.Test.YtldbcdiomkkinaaGreatDoorHr3
import Derived.Deep.RegionWith
namespace Go.Proofs.YtldbcdiomkkinaaGreatDoor
open Go.RowKit

theorem bytes_one (w : World) (t : TypeId) (c : UInt8) : Bytes (w.alloc (.cells #[.int .u8 (c.toNat : Int)] t)) (.slice (some ⟨w.heap.size, 0, none⟩) 1 1) [c] :=
  ⟨_, 1, rfl, by simp, by simp [maxLen], fun _ => ⟨_, 0, rfl, fun i hi => by
    obtain rfl : i = 0 := by simpa using hi
    exact (cell_of_block (heap_alloc_new w _) 0).trans rfl⟩⟩
theorem conv_one {W : World} {b : Nat} {c : UInt8} (h : W.cell? ⟨b, 0, none⟩ = some (.int .u8 (c.toNat : Int))) : (convert 22 9 (.slice (some ⟨b, 0, none⟩) 1 1)).run Tryz.prog W = .ok (.string ⟨#[c]⟩) W := by
  rw [run_convert_bytes_string W 22 9 5 _ _ _ Tryz.underlying22 Tryz.underlying5 Tryz.underlying9]
  have := run_bytesToString (P := Tryz.prog) W ⟨b, 0, none⟩ 1 1 [(c.toNat : Int)] (by
    have := run_loadCells_list (P := Tryz.prog) W ⟨b, 0, none⟩ [Value.int .u8 (c.toNat : Int)] (by
      intro j v hj
      match j, hj with
      | 0, hj => simp at hj; subst hj; simpa [Addr.add] using h)
    simpa using this)
  rw [this]
  have := foldl_push_byteCells [c]
  simp at this
  simp
  rfl
theorem rdig1 (n : Nat) (hn : n < 10) (w : World) : Calls Tryz.prog 26 #[.int .i64 n] w fun e w' => e = .returned (str [UInt8.ofNat (48 + n)]) ∧ w.grownBy w' none := by
  obtain ⟨c, hc⟩ : ∃ c, c = UInt8.ofNat (48 + n) := ⟨_, rfl⟩
  have hcn : (48 : Int) + (n : Int) = (c.toNat : Int) := by rw [hc]; simp; omega
  rw [← hc]
  have hb := bytes_one w 5 c
  rw [← hcn] at hb
  have Hc := hid hcn
  clear hcn hc
  go_enter Tryz.func26, Tryz.ntmps26
  go_wp2_with (refine wpl_b2s rfl 22 9 5 _ rfl Tryz.underlying22 Tryz.underlying5 Tryz.underlying9 _ [c] rfl hb ?_; unfold str)
  go_ret
  exact ⟨rfl, by (repeat (first | exact gr_refl _ _ | assumption | refine gr_drew ?_ | refine gr_drewN _ ?_ | refine gr_alloc ?_ _ | refine gr_set ?_ | refine gr_set_new ?_ (by first | omega | (simp; omega))))⟩
set_option maxHeartbeats 2000000 in
set_option maxRecDepth 20000 in
theorem rdig_step (n : Nat) (l : List UInt8) (hn : 10 ≤ n) (hn2 : n ≤ 1000000) (hl : l.length ≤ 10) (hcall : ∀ W, Calls Tryz.prog 26 #[.int .i64 ((n : Int) / 10)] W fun e w' => e = .returned (str l) ∧ W.grownBy w' none) (w : World) :
    Calls Tryz.prog 26 #[.int .i64 n] w fun e w' => e = .returned (str (l ++ [UInt8.ofNat (48 + n % 10)])) ∧ w.grownBy w' none := by
  obtain ⟨c, hc⟩ : ∃ c, c = UInt8.ofNat (48 + n % 10) := ⟨_, rfl⟩
  have hl1 : (ByteArray.mk l.toArray).size ≤ 10 := by rw [Lib.size_eq]; exact hl
  have hl2 : (ByteArray.mk #[c]).size ≤ 1 := Nat.le_refl _
  have hcn : (48 : Int) + (n : Int) % 10 = (c.toNat : Int) := by rw [hc]; simp; omega
  rw [← hc]
  have hconv := fun (W : World) (b : Nat) (h : W.cell? ⟨b, 0, none⟩ = some (.int .u8 (48 + (n : Int) % 10))) => conv_one (W := W) (b := b) (c := c) (by rw [← hcn]; exact h)
  have Hc := hid hcn
  have HC := hid hcall
  clear hcn hc hcall
  go_enter Tryz.func26, Tryz.ntmps26
  go_wp2_with fail
  have k1 : IntKind.i64.wrap ((n : Int) / 10) = (n : Int) / 10 := IntWalk.i64_in _ (by omega)
  have k2 : (n : Int).tmod 10 = (n : Int) % 10 := Int.tmod_eq_emod_of_nonneg (by omega)
  have k3 : IntKind.i64.wrap (48 + (n : Int) % 10) = 48 + (n : Int) % 10 := IntWalk.i64_in _ (by omega)
  have k4 : IntKind.u8.wrap (48 + (n : Int) % 10) = 48 + (n : Int) % 10 := IntWalk.u8_in _ (by omega)
  go_region_with (go_at_call 26; refine (HC.out _).mono ?_; rintro e w2 ⟨rfl, g2⟩; (try have d2 : w2.cell? ⟨w.heap.size, 0, none⟩ = some (.int .u8 (48 + (n : Int) % 10)) := g2.cell ((cell_of_block (heap_alloc_new w (.cells #[.int .u8 (48 + (n : Int) % 10)] 5)) 0).trans rfl) (by simp)); unfold str)
  all_goals
    clear k1 k2 k3 k4 hconv
    go_wp2
    go_ret
    refine ⟨?_, ?_⟩
    · show Ending.returned (.string (ByteArray.mk l.toArray ++ ByteArray.mk #[c])) = _
      rw [ByteArray.mk_append_mk]; simp [str]
    · first
        | exact gr_trans (by (repeat (first | exact gr_refl _ _ | assumption | refine gr_drew ?_ | refine gr_drewN _ ?_ | refine gr_alloc ?_ _ | refine gr_set ?_ | refine gr_set_new ?_ (by first | omega | (simp; omega))))) g2
        | exact gr_alloc (gr_trans (by (repeat (first | exact gr_refl _ _ | assumption | refine gr_drew ?_ | refine gr_drewN _ ?_ | refine gr_alloc ?_ _ | refine gr_set ?_ | refine gr_set_new ?_ (by first | omega | (simp; omega))))) g2) _
        | exact gr_drew (gr_alloc (gr_trans (by (repeat (first | exact gr_refl _ _ | assumption | refine gr_drew ?_ | refine gr_drewN _ ?_ | refine gr_alloc ?_ _ | refine gr_set ?_ | refine gr_set_new ?_ (by first | omega | (simp; omega))))) g2) _)
theorem nd_le : ∀ (k n : Nat), n < 10 ^ (k + 1) → Lib.nDigits n ≤ k + 1
  | 0, n, h => by rw [Lib.nDigits, dif_pos (by omega)]; omega
  | k + 1, n, h => by
    rw [Lib.nDigits]
    split
    · omega
    · have := nd_le k (n / 10) (by rw [Nat.pow_succ] at h; omega)
      omega
theorem dd_len (n : Nat) (h : n ≤ 1000000) : (Lib.decDigits n).length ≤ 10 := by
  have := nd_le 6 n (by omega)
  rw [Lib.decDigits_length]
  omega
theorem rdigits_all : ∀ (n : Nat), n ≤ 1000000 → ∀ w : World, Calls Tryz.prog 26 #[.int .i64 n] w fun e w' => e = .returned (str (Lib.decDigits n)) ∧ w.grownBy w' none := by
  intro n
  induction n using Nat.strongRecOn with
  | _ n ih =>
    intro hn w
    by_cases h10 : n < 10
    · rw [show Lib.decDigits n = [UInt8.ofNat (48 + n)] by rw [Lib.decDigits, dif_pos h10]]
      exact rdig1 n h10 w
    · rw [show Lib.decDigits n = Lib.decDigits (n / 10) ++ [UInt8.ofNat (48 + n % 10)] by rw [Lib.decDigits, dif_neg h10]]
      exact rdig_step n (Lib.decDigits (n / 10)) (by omega) hn (dd_len _ (by omega)) (fun W => by
        have h := ih (n / 10) (by omega) (by omega) W
        rw [show ((n / 10 : Nat) : Int) = (n : Int) / 10 by omega] at h
        exact h) w
end Go.Proofs.YtldbcdiomkkinaaGreatDoor
