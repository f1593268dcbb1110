/- strconv.FormatUint at base 10 (after the shelf's walk of FormatInt), value.Text. -/
import Derived.Test.YtmofnoconhgjmaaGreatDoorRows
import Derived.Test.YtmofnoconhgjmaaGreatDoorMA
import Derived.Test.YtmofnoconhgjmaaGreatDoorShelf
import Derived.Lib.ItoaMem
import Derived.BigCall
import Derived.BigGuard
namespace Go.Proofs.YtmofnoconhgjmaaGreatDoor
open Go.RowKit Go.Sort Go.Lib

def byteV (b : UInt8) : Value := .int .u8 (b.toNat : Int)
theorem holds_zero0 (w : World) (T : TypeId) (nd : Nat) (hs : nd ≤ 24) : Holds (fun (b : UInt8) => Value.int .u8 (b.toNat : Int)) (w.alloc (.cells zeros24 T)) w.heap.size 0 (Array.replicate nd (0 : UInt8)) := fun j hj => by
  have hj' : j < nd := by simpa using hj
  refine ⟨?_, World.frozen?_alloc_new _ _ _ _⟩
  rw [World.cell?_alloc_new, Nat.zero_add, zeros24_at _ (by omega), getElem!_pos _ j hj]
  simp
theorem gr_putRow (w : World) (o : Obj) (dk : Array UInt8) (k : Nat) : w.grownBy ((putRow (fun (b : UInt8) => Value.int .u8 (b.toNat : Int)) (w.alloc o) w.heap.size 0 dk).drewN k) none := by
  rw [alloc_eq_grow]
  obtain ⟨os', _, e⟩ := putRow_grow_new (fun (b : UInt8) => Value.int .u8 (b.toNat : Int)) w #[o] w.heap.size 0 dk (Nat.le_refl _)
  rw [e]
  refine ⟨rfl, rfl, rfl, ?_, fun i hi _ => ?_⟩
  · simp [grow, World.drewN]
  · simp [grow, World.drewN, Array.getElem?_append_left hi]
set_option maxRecDepth 100000 in
set_option maxHeartbeats 2000000 in
theorem format_uint (u : Nat) (hu64 : u < 18446744073709551616) (w : World) (htab : Lib.TabIs Tryz.prog w "internal/strconv.uint64pow10" .u64 Lib.pow10Tab) :
    Calls Tryz.prog 212 #[.int .u64 u, .int .i64 10] w fun e w' => e = .returned (str (Lib.decDigits u)) ∧ w.grownBy w' none := by
  by_cases hs : u < 100
  · have hsm := Any.internal_strconv_small (P := Tryz.prog) (ρ := Tryz.laysM171_ren) { Tryz.laysM171 with } u hs w
    go_enter Tryz.func212, Tryz.ntmps212
    go_wp2_with fail
    refine hsm.mono ?_
    rintro e w' ⟨rfl, hw⟩
    rw [hw]
    go_wp2
    go_ret
    exact ⟨rfl, gr_refl _ _⟩
  · have hu1 : 1 ≤ u := by omega
    have hnd20 : Lib.nDigits u ≤ 20 := by have := Lib.numDigits_eq u hu1 hu64; split at this <;> omega
    have hal : Tryz.prog.arrayLen 320 = 24 := by simp [Program.arrayLen, Tryz.underlying320]
    have hsl1 : ∀ W, (Instr.sliceAt 320 (.pointer (some ⟨w.heap.size, 0, none⟩)) none (some (.int .i64 (Lib.nDigits u : Int))) none).run Tryz.prog W = .ok (.slice (some ⟨w.heap.size, 0, none⟩) (Lib.nDigits u) 24) W := fun W => by
      rw [run_sliceAt_array_h W 320 ⟨w.heap.size, 0, none⟩ (by simp [Program.arrayLen, Program.elem, Tryz.underlying320]) .i64 (Lib.nDigits u : Int) (by omega) (by rw [hal]; omega)]
      go_simp
    have hH0 := holds_zero0 w 320 (Lib.nDigits u) (by omega)
    have hfmt := Any.internal_strconv_formatBase10 (P := Tryz.prog) (ρ := Tryz.laysM171_ren) { Tryz.laysM171 with } w.heap.size 0 24 u (Array.replicate (Lib.nDigits u) 0) (w.alloc (.cells Lib.zeros24 320)) hH0 (by rw [Array.size_replicate]; exact Lib.lt_pow_nDigits u) hu64 (by rw [Array.size_replicate]; omega)
    rw [Array.size_replicate] at hfmt
    have hnd := fun W (h : Lib.TabIs Tryz.prog W "internal/strconv.uint64pow10" .u64 Lib.pow10Tab) => Any.internal_strconv_numDigits (P := Tryz.prog) (ρ := Tryz.laysM171_ren) { Tryz.laysM171 with } u hu1 hu64 W h
    have HH0 := hid hH0
    have Hfmt := hid hfmt
    have Hnd := hid hnd
    have Htab := hid htab
    clear hH0 hal hfmt hnd htab
    have hs' : 100 ≤ u := by omega
    clear hs
    go_enter Tryz.func212, Tryz.ntmps212
    go_wp2_with fail
    refine (Hnd.out _ (Lib.tabIs_alloc Htab.out _)).mono ?_
    rintro e w' ⟨rfl, hw⟩
    rw [hw]
    clear hw w'
    go_wp2_with fail
    refine Hfmt.out.mono ?_
    rintro e w' ⟨rfl, k, v', dk, rfl, hF⟩
    have hb : Bytes ((putRow (fun (b : UInt8) => Value.int .u8 (b.toNat : Int)) (w.alloc (.cells Lib.zeros24 320)) w.heap.size 0 dk).drewN k) (.slice (some ⟨w.heap.size, 0, none⟩) (Lib.nDigits u) 24) (Lib.decDigits u) := by
      refine ⟨_, 24, by rw [Lib.decDigits_length], by rw [Lib.decDigits_length]; omega, by unfold maxLen; omega, fun _ => ⟨_, 0, rfl, fun j hj => ?_⟩⟩
      have h1 := cell?_putRow (fun (b : UInt8) => Value.int .u8 (b.toNat : Int)) _ w.heap.size 0 _ dk HH0.out (by rw [hF.size, Array.size_replicate]) j (by rw [hF.size]; rw [Lib.decDigits_length] at hj; exact hj)
      rw [World.cell?_drewN, h1, ← Lib.row_is_numeral hF j hj, List.getD_eq_getElem?_getD, List.getElem?_eq_getElem hj]
      rfl
    have gp := gr_putRow w (.cells Lib.zeros24 320) dk k
    generalize (putRow (fun (b : UInt8) => Value.int .u8 (b.toNat : Int)) (w.alloc (.cells Lib.zeros24 320)) w.heap.size 0 dk).drewN k = w2 at hb gp ⊢
    clear hF
    go_wp2_with (refine wpl_b2s rfl 30 9 5 _ rfl Tryz.underlying30 Tryz.underlying5 Tryz.underlying9 _ (Lib.decDigits u) rfl hb ?_)
    go_ret
    exact ⟨rfl, gp⟩
theorem text_any (u : Nat) (hu64 : u < 18446744073709551616) (w : World) (htab : Lib.TabIs Tryz.prog w "internal/strconv.uint64pow10" .u64 Lib.pow10Tab) :
    Calls Tryz.prog 85 #[.int .u64 u] w fun e w' => e = .returned (str (Lib.decDigits u)) ∧ w.grownBy w' none := by
  have h := format_uint u hu64 w htab
  have H := hid h
  clear h htab
  have h2 : Calls Tryz.prog 150 #[.int .u64 u, .int .i64 10] w fun e w' => e = .returned (str (Lib.decDigits u)) ∧ w.grownBy w' none := by
    go_enter Tryz.func150, Tryz.ntmps150
    go_wp2_with fail
    refine H.out.mono ?_
    rintro e w' ⟨rfl, g⟩
    go_wp2
    go_ret
    exact ⟨rfl, g⟩
  have H2 := hid h2
  clear h2
  go_enter Tryz.func85, Tryz.ntmps85
  go_wp2_with fail
  refine H2.out.mono ?_
  rintro e w' ⟨rfl, g⟩
  go_wp2
  go_ret
  exact ⟨rfl, g⟩
end Go.Proofs.YtmofnoconhgjmaaGreatDoor
