/- Proved: for every input StreamReset returns true, and its arguments read as before. No condition. -/
import Derived.Test.YtcgmbeibhingcaaSr3
import Derived.WalkKit
import Derived.ProofKit
import Derived.OpenShut
import Derived.ShutString
import Derived.ChangeOld
import Derived.Below
namespace Go.Proofs.Ytcgmbeibhingcaa.streamReset
open Go.ChangeShapes Go.WideShapes Go.ChangeAt Go.RowKit
open Go.ChangeMaps (open_string shut_string)
set_option linter.unusedVariables false

theorem own : ownKnob Try.prog.godebug = none := by kernel_rfl
theorem laidOut : laidOutB Try.prog = true := by kernel_rfl

open Go.Deep in
theorem script_at {H : Type} {enc : TypeId × Value → H} {W : World} {a : Option Addr} {len cap : Nat} {d : DataW H} {p : List MemPlace}
    (h : DataW.Trod enc Try.prog W 0 (fun _ => true) true 44 (.slice a len cap) d p) : len ≤ maxLen ∧ ∃ ops, ScriptAt W a len ops := by
  rcases struct_slice Try.underlying44 Try.underlying47 (by kernel_rfl) (by kernel_rfl) h with ⟨_, h0, _⟩ | ⟨x, rfl, hl, hm, hc⟩
  · exact ⟨by omega, fun _ => ⟨0, 0, 0, 0, 0, 0, none, 0, 0⟩, .inl h0⟩
  · refine ⟨by omega, ?_⟩
    rcases Nat.eq_zero_or_pos len with h0 | hpos
    · exact ⟨fun _ => ⟨0, 0, 0, 0, 0, 0, none, 0, 0⟩, .inl h0⟩
    have hone : ∀ i, ∃ o : OpD, i < len → (W.cell? (x.add (i * 7)) = some (.int .i64 o.kind) ∧ W.cell? (x.add (i * 7 + 1)) = some (.int .u64 o.tick) ∧ W.cell? (x.add (i * 7 + 2)) = some (.int .u8 o.flags) ∧ W.cell? (x.add (i * 7 + 3)) = some (.int .i32 o.seq) ∧ W.cell? (x.add (i * 7 + 4)) = some (.int .i32 o.ack) ∧ W.cell? (x.add (i * 7 + 5)) = some (.int .u16 o.window) ∧ W.cell? (x.add (i * 7 + 6)) = some (.slice o.da o.dn o.dc)) := by
      intro i
      by_cases hi : i < len
      · obtain ⟨v0, _, _, _, c0, y0⟩ := hc i hi 0 _ rfl
        obtain ⟨v1, _, _, _, c1, y1⟩ := hc i hi 1 _ rfl
        obtain ⟨v2, _, _, _, c2, y2⟩ := hc i hi 2 _ rfl
        obtain ⟨v3, _, _, _, c3, y3⟩ := hc i hi 3 _ rfl
        obtain ⟨v4, _, _, _, c4, y4⟩ := hc i hi 4 _ rfl
        obtain ⟨v5, _, _, _, c5, y5⟩ := hc i hi 5 _ rfl
        obtain ⟨v6, _, _, _, c6, y6⟩ := hc i hi 6 _ rfl
        obtain ⟨x0, rfl, _⟩ := fld_int Try.underlying3 y0
        obtain ⟨x1, rfl, _⟩ := fld_int Try.underlying30 y1
        obtain ⟨x2, rfl, _⟩ := fld_int Try.underlying5 y2
        obtain ⟨x3, rfl, _⟩ := fld_int Try.underlying21 y3
        obtain ⟨x4, rfl, _⟩ := fld_int Try.underlying21 y4
        obtain ⟨x5, rfl, _⟩ := fld_int Try.underlying29 y5
        obtain ⟨da, dn, dc, rfl, _⟩ := fld_slice Try.underlying32 y6
        exact ⟨⟨x0, x1, x2, x3, x4, x5, da, dn, dc⟩, fun _ => ⟨c0, c1, c2, c3, c4, c5, c6⟩⟩
      · exact ⟨⟨0, 0, 0, 0, 0, 0, none, 0, 0⟩, fun h => absurd h hi⟩
    obtain ⟨ops, hops⟩ := Classical.axiomOfChoice hone
    refine ⟨ops, .inr ?_⟩
    obtain ⟨b, off, spot⟩ := x
    obtain rfl : spot = none := by simpa [Addr.add] using World.cell?_spot (hops 0 hpos).1
    refine ⟨b, off, rfl, fun i hi => ?_⟩
    obtain ⟨c0, c1, c2, c3, c4, c5, c6⟩ := hops i hi
    simp only [Go.WideShapes.add_plain, ← Nat.add_assoc] at c0 c1 c2 c3 c4 c5 c6
    exact ⟨c0, c1, c2, c3, c4, c5, c6⟩

set_option maxRecDepth 100000 in
theorem lifted (os : Os) (started : os.Started) (H : Type) (enc : TypeId × Value → H) :
    ReturnsInHanded {} Try.checked os 5 .any (Rows.streamResetSpec.pre6 enc Try.prog Try.f5 Rows.streamResetRow.domain false) (Rows.streamResetSpec.post enc Try.prog Try.f5 false true false false) := by
  refine returnsInHanded_of_change (C := Try.checked) own started (by kernel_rfl) Try.func5
    (ChangeSpec.witness6 (enc := enc) (C := Try.checked) false ⟨#[], #[.int .u32 0, .int .u32 0, .slice none 0 0], []⟩ 8 (by kernel_rfl) (by kernel_rfl) (by kernel_rfl) (by kernel_rfl)) ?_
  intro W base args ds gs before hval0 hW hcnd _
  have hval : ∀ (j : Nat) t v, Try.f5.params[j]? = some t → args[j]? = some v → Value.okWide Try.prog W .any base t v := hval0
  have hW' := hW
  obtain ⟨p, q, hA0, hV, rfl, hfz, hnd⟩ := hW
  have hA : DataW.TrodAll enc Try.prog W 0 (fun _ => true) true Try.f5.params.toList args.toList ds p := hA0
  rw [Try.params5] at hA hval
  obtain ⟨v0, vs0, d0, ds0, p0, q0, hargs, rfl, rfl, h0, r0⟩ := trodAll_cons hA
  obtain ⟨v1, vs1, d1, ds1, p1, q1, rfl, rfl, rfl, h1, r1⟩ := trodAll_cons r0
  obtain ⟨v2, vs2, d2, ds2, p2, q2, rfl, rfl, rfl, h2, r2⟩ := trodAll_cons r1
  obtain ⟨rfl, rfl, rfl⟩ := trodAll_nil r2
  obtain rfl : args = #[v0, v1, v2] := by cases args; simp_all
  obtain ⟨rfl, rfl⟩ := trodVars_none hV
  have k0 := h0
  have lt0 : ∀ x ∈ p0, x.block < W.heap.size := by obtain ⟨m, hm⟩ := k0; exact DataW.trod_lt m _ _ _ hm
  obtain ⟨a0, rfl, rfl, rfl, w0⟩ := open_int Try.underlying22 (hval 0 22 v0 rfl rfl) h0
  have k1 := h1
  have lt1 : ∀ x ∈ p1, x.block < W.heap.size := by obtain ⟨m, hm⟩ := k1; exact DataW.trod_lt m _ _ _ hm
  obtain ⟨a1, rfl, rfl, rfl, w1⟩ := open_int Try.underlying22 (hval 1 22 v1 rfl rfl) h1
  have k2 := h2
  have lt2 : ∀ x ∈ p2, x.block < W.heap.size := by obtain ⟨m, hm⟩ := k2; exact DataW.trod_lt m _ _ _ hm
  obtain ⟨a2, len2, cap2, rfl⟩ := okWide_slice Try.underlying44 (hval 2 44 v2 rfl rfl)
  obtain ⟨hl2, ops2, row2⟩ := script_at h2
  clear hA0 hval0
  refine (reset_walk a0 a1 a2 len2 cap2 ops2 W row2 (by unfold maxLen at hl2; omega)).mono fun e W' ⟨he, bel0⟩ => ?_
  have bel : Below W.heap.size W W' := gr_below bel0
  subst he
  exact ⟨_, rfl, _, _, _, [], _, [], hW', trodAll_mk1 (shut_bool Try.underlying4 _), (trodAll_cons_mk (Below.trod laidOut (by kernel_rfl) (of_decide_eq_true (by kernel_rfl)) k0 bel lt0) (trodAll_cons_mk (Below.trod laidOut (by kernel_rfl) (of_decide_eq_true (by kernel_rfl)) k1 bel lt1) (trodAll_cons_mk (Below.trod laidOut (by kernel_rfl) (of_decide_eq_true (by kernel_rfl)) k2 bel lt2) trodAll_mk0))), rfl, bel.frame _, fun h => by cases h⟩

theorem over : Rows.streamResetRow.holds Try.pinned (OpenSpec.ofChange Rows.streamResetSpec) :=
  OpenClaim.holds_of_wide 5 Try.f5 rfl rfl rfl rfl rfl rfl rfl ⟨rfl, rfl, rfl, rfl, rfl⟩ rfl rfl rfl rfl rfl (by kernel_rfl) Try.func5 (by kernel_rfl)
    (of_decide_eq_true (by kernel_rfl)) (by unfold Func.isWrapper; first | (rw [if_pos (by decide +kernel)]; kernel_rfl) | (rw [if_neg (by decide +kernel)]; exact ⟨rfl, rfl⟩))
    (fun os started H enc _ => lifted os started H enc)

theorem proved : Rows.StreamResetSaid := over
#print axioms proved
end Go.Proofs.Ytcgmbeibhingcaa.streamReset
