/- Walks: the scripts' sizes. -/
import Derived.Test.YtcgmbeibhingcaaSr1
import Derived.Test.YtcgmbeibhingcaaArg
namespace Go.Proofs.Ytcgmbeibhingcaa
open Go.RowKit

structure OpD where
  kind : Int
  tick : Int
  flags : Int
  seq : Int
  ack : Int
  window : Int
  da : Option Addr
  dn : Nat
  dc : Nat
structure OpAt (w : World) (b o : Nat) (d : OpD) : Prop where
  c0 : w.cell? ⟨b, o, none⟩ = some (.int .i64 d.kind)
  c1 : w.cell? ⟨b, o + 1, none⟩ = some (.int .u64 d.tick)
  c2 : w.cell? ⟨b, o + 2, none⟩ = some (.int .u8 d.flags)
  c3 : w.cell? ⟨b, o + 3, none⟩ = some (.int .i32 d.seq)
  c4 : w.cell? ⟨b, o + 4, none⟩ = some (.int .i32 d.ack)
  c5 : w.cell? ⟨b, o + 5, none⟩ = some (.int .u16 d.window)
  c6 : w.cell? ⟨b, o + 6, none⟩ = some (.slice d.da d.dn d.dc)
theorem OpAt.grown {w w' : World} {b o : Nat} {d : OpD} (h : OpAt w b o d) (g : w.grownBy w' none) : OpAt w' b o d :=
  ⟨g.cell h.c0 (by simp), g.cell h.c1 (by simp), g.cell h.c2 (by simp), g.cell h.c3 (by simp), g.cell h.c4 (by simp), g.cell h.c5 (by simp), g.cell h.c6 (by simp)⟩
/-- A script that came in. -/
def ScriptAt (w : World) (a : Option Addr) (len : Nat) (ops : Nat → OpD) : Prop := len = 0 ∨ ∃ b o, a = some ⟨b, o, none⟩ ∧ ∀ i, i < len → OpAt w b (o + i * 7) (ops i)
def SomeBool (w : World) (e : Ending) (w' : World) : Prop := ∃ r : Bool, e = .returned (.bool r) ∧ w.grownBy w' none
set_option maxHeartbeats 1000000 in
theorem great_any (w : World) (a : Option Addr) (len cap : Nat) (ops : Nat → OpD) (hs : ScriptAt w a len ops) :
    Calls Try.prog 14 #[.slice a len cap] w (SomeBool w) := by
  by_cases h100 : 100 < len
  · go_enter Try.func14, Try.ntmps14
    go_wp2
    go_ret
    exact ⟨true, rfl, gr_refl _ _⟩
  · have h100' : len ≤ 100 := by omega
    clear h100
    go_enter Try.func14, Try.ntmps14
    go_wp2_with fail
    go_loopw [10] (fun vk wr => ∃ k : Nat, vk = .int .i64 k ∧ k ≤ len ∧ w.grownBy wr none) (fun vk _ => len - (intOf vk).toNat)
    case atStart => exact ⟨0, rfl, Nat.zero_le _, gr_refl _ _⟩
    case round =>
      obtain ⟨k, rfl, hk, gw⟩ := hrel
      by_cases hkl : k < len
      · rcases hs with h0 | ⟨b, o, rfl, hops⟩
        · omega
        have ho := (hops k hkl).grown gw
        have c0 := ho.c0
        have c1 := ho.c1
        have c2 := ho.c2
        have c3 := ho.c3
        have c4 := ho.c4
        have c5 := ho.c5
        have c6 := ho.c6
        generalize ops k = d at *
        clear ho hops
        go_wp2
        · go_ret
          exact ⟨true, rfl, by (repeat (first | exact gr_refl _ _ | assumption | refine gr_drew ?_ | refine gr_drewN _ ?_ | refine gr_alloc ?_ _ | refine gr_set ?_ | refine gr_set_new ?_ (by simp; omega)))⟩
        · go_roundw
          case rel => exact ⟨k + 1, by go_num, by omega, by (repeat (first | exact gr_refl _ _ | assumption | refine gr_drew ?_ | refine gr_drewN _ ?_ | refine gr_alloc ?_ _ | refine gr_set ?_ | refine gr_set_new ?_ (by simp; omega)))⟩
          case measure => simp [intOf]; omega
      · go_wp2
        go_ret
        exact ⟨false, rfl, gw⟩
end Go.Proofs.Ytcgmbeibhingcaa
