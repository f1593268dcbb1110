/- hearthref04.Digits, Text. -/
import Derived.Test.YtjpkmbgpkdomnaaDoorIn1
import Derived.Deep.RegionWith
namespace Go.Proofs.YtjpkmbgpkdomnaaDoor
open Go.RowKit

theorem conv_one {W : World} {b : Nat} {c : UInt8} (h : W.cell? ⟨b, 0, none⟩ = some (.int .u8 (c.toNat : Int))) : (convert 45 9 (.slice (some ⟨b, 0, none⟩) 1 1)).run Tryd.prog W = .ok (.string ⟨#[c]⟩) W := by
  rw [run_convert_bytes_string W 45 9 5 _ _ _ Tryd.underlying45 Tryd.underlying5 Tryd.underlying9]
  have := run_bytesToString (P := Tryd.prog) W ⟨b, 0, none⟩ 1 1 [(c.toNat : Int)] (by
    have := run_loadCells_list (P := Tryd.prog) W ⟨b, 0, none⟩ [Value.int .u8 (c.toNat : Int)] (by
      intro j v hj
      match j, hj with
      | 0, hj => simp at hj; subst hj; simpa [Addr.add] using h)
    simpa using this)
  rw [this]
  have := foldl_push_byteCells [c]
  simp at this
  simp
  rfl
theorem rdig1 (n : Nat) (hn : n < 10) (w : World) : Calls Tryd.prog 48 #[.int .i64 n] w fun e w' => e = .returned (str [UInt8.ofNat (48 + n)]) ∧ w.grownBy w' none := by
  obtain ⟨c, hc⟩ : ∃ c, c = UInt8.ofNat (48 + n) := ⟨_, rfl⟩
  have hcn : (48 : Int) + (n : Int) = (c.toNat : Int) := by rw [hc]; simp; omega
  rw [← hc]
  have hb := bytes_one w 5 c
  rw [← hcn] at hb
  have Hc := hid hcn
  clear hcn hc
  go_enter Tryd.func48, Tryd.ntmps48
  go_wp2_with (refine wpl_b2s rfl 45 9 5 _ rfl Tryd.underlying45 Tryd.underlying5 Tryd.underlying9 _ [c] rfl hb ?_; unfold str)
  go_ret
  exact ⟨rfl, by (repeat (first | exact gr_refl _ _ | assumption | refine gr_drew ?_ | refine gr_drewN _ ?_ | refine gr_alloc ?_ _ | refine gr_set ?_ | refine gr_set_new ?_ (by first | omega | (simp; omega))))⟩
set_option maxHeartbeats 2000000 in
set_option maxRecDepth 20000 in
theorem rdig_step (n : Nat) (l : List UInt8) (hn : 10 ≤ n) (hn2 : n < 1000) (hl : l.length ≤ 3) (hcall : ∀ W, Calls Tryd.prog 48 #[.int .i64 ((n : Int) / 10)] W fun e w' => e = .returned (str l) ∧ W.grownBy w' none) (w : World) :
    Calls Tryd.prog 48 #[.int .i64 n] w fun e w' => e = .returned (str (l ++ [UInt8.ofNat (48 + n % 10)])) ∧ w.grownBy w' none := by
  obtain ⟨c, hc⟩ : ∃ c, c = UInt8.ofNat (48 + n % 10) := ⟨_, rfl⟩
  have hl1 : (ByteArray.mk l.toArray).size ≤ 3 := by rw [Lib.size_eq]; exact hl
  have hl2 : (ByteArray.mk #[c]).size ≤ 1 := Nat.le_refl _
  have hcn : (48 : Int) + (n : Int) % 10 = (c.toNat : Int) := by rw [hc]; simp; omega
  rw [← hc]
  have hconv := fun (W : World) (b : Nat) (h : W.cell? ⟨b, 0, none⟩ = some (.int .u8 (48 + (n : Int) % 10))) => conv_one (W := W) (b := b) (c := c) (by rw [← hcn]; exact h)
  have Hc := hid hcn
  have HC := hid hcall
  clear hcn hc hcall
  go_enter Tryd.func48, Tryd.ntmps48
  go_wp2_with fail
  have k1 : IntKind.i64.wrap ((n : Int) / 10) = (n : Int) / 10 := IntWalk.i64_in _ (by omega)
  have k2 : (n : Int).tmod 10 = (n : Int) % 10 := Int.tmod_eq_emod_of_nonneg (by omega)
  have k3 : IntKind.i64.wrap (48 + (n : Int) % 10) = 48 + (n : Int) % 10 := IntWalk.i64_in _ (by omega)
  have k4 : IntKind.u8.wrap (48 + (n : Int) % 10) = 48 + (n : Int) % 10 := IntWalk.u8_in _ (by omega)
  go_region_with (go_at_call 48; refine (HC.out _).mono ?_; rintro e w2 ⟨rfl, g2⟩; (try have d2 : w2.cell? ⟨w.heap.size, 0, none⟩ = some (.int .u8 (48 + (n : Int) % 10)) := g2.cell ((cell_of_block (heap_alloc_new w (.cells #[.int .u8 (48 + (n : Int) % 10)] 5)) 0).trans rfl) (by simp)); unfold str)
  all_goals
    clear k1 k2 k3 k4 hconv
    go_wp2
    go_ret
    refine ⟨?_, ?_⟩
    · show Ending.returned (.string (ByteArray.mk l.toArray ++ ByteArray.mk #[c])) = _
      rw [ByteArray.mk_append_mk]; simp [str]
    · first
        | exact gr_trans (by (repeat (first | exact gr_refl _ _ | assumption | refine gr_drew ?_ | refine gr_drewN _ ?_ | refine gr_alloc ?_ _ | refine gr_set ?_ | refine gr_set_new ?_ (by first | omega | (simp; omega))))) g2
        | exact gr_alloc (gr_trans (by (repeat (first | exact gr_refl _ _ | assumption | refine gr_drew ?_ | refine gr_drewN _ ?_ | refine gr_alloc ?_ _ | refine gr_set ?_ | refine gr_set_new ?_ (by first | omega | (simp; omega))))) g2) _
        | exact gr_drew (gr_alloc (gr_trans (by (repeat (first | exact gr_refl _ _ | assumption | refine gr_drew ?_ | refine gr_drewN _ ?_ | refine gr_alloc ?_ _ | refine gr_set ?_ | refine gr_set_new ?_ (by first | omega | (simp; omega))))) g2) _)
theorem rdigits (b : UInt8) (w : World) : Calls Tryd.prog 48 #[.int .i64 (b.toNat : Int)] w fun e w' => e = .returned (str (digL b)) ∧ w.grownBy w' none := by
  rw [digL_X]
  have hb := UInt8.toNat_lt b
  generalize b.toNat = n at hb
  unfold digX
  by_cases h1 : n < 10
  · rw [if_pos h1]; exact rdig1 n h1 w
  · rw [if_neg h1]
    by_cases h2 : n < 100
    · rw [if_pos h2]
      exact rdig_step n [UInt8.ofNat (48 + n / 10)] (by omega) (by omega) (by simp) (fun W => rdig1 (n / 10) (by omega) W) w
    · rw [if_neg h2]
      exact rdig_step n [UInt8.ofNat (48 + n / 100), UInt8.ofNat (48 + n / 10 % 10)] (by omega) (by omega) (by simp) (fun W => by
        have h := rdig_step (n / 10) [UInt8.ofNat (48 + n / 10 / 10)] (by omega) (by omega) (by simp) (fun W => rdig1 (n / 10 / 10) (by omega) W) W
        rw [Nat.div_div_eq_div_mul] at h
        exact h) w
end Go.Proofs.YtjpkmbgpkdomnaaDoor
