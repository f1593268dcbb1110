/- Proved: for every input SoapHeaders returns true, and its arguments read as before. No condition. -/
import Derived.Test.YtdfhdnnkpeodhaaSoap4
import Derived.Test.YtdfhdnnkpeodhaaArg
import Derived.WalkKit
import Derived.ProofKit
import Derived.OpenShut
import Derived.ShutString
import Derived.ChangeOld
import Derived.Below
namespace Go.Proofs.Ytdfhdnnkpeodhaa.soapHeaders
open Go.ChangeShapes Go.WideShapes Go.ChangeAt Go.RowKit
open Go.ChangeMaps (open_string shut_string)
set_option linter.unusedVariables false

theorem own : ownKnob Try.prog.godebug = none := by kernel_rfl
theorem laidOut : laidOutB Try.prog = true := by kernel_rfl

open Go.Deep in
theorem pairs_at {H : Type} {enc : TypeId × Value → H} {W : World} {a : Option Addr} {len cap : Nat} {d : DataW H} {p : List MemPlace}
    (h : DataW.Trod enc Try.prog W 0 (fun _ => true) true 22 (.slice a len cap) d p) : len ≤ maxLen ∧ ∃ ns vs, PairsAt W a len ns vs := by
  rcases struct_slice Try.underlying22 Try.underlying33 (by kernel_rfl) (by kernel_rfl) h with ⟨_, h0, _⟩ | ⟨x, rfl, hl, hm, hc⟩
  · exact ⟨by omega, fun _ => ByteArray.empty, fun _ => ByteArray.empty, .inl h0⟩
  · refine ⟨by omega, ?_⟩
    rcases Nat.eq_zero_or_pos len with h0 | hpos
    · exact ⟨fun _ => ByteArray.empty, fun _ => ByteArray.empty, .inl h0⟩
    have hone : ∀ i, ∃ o : ByteArray × ByteArray, i < len → (W.cell? (x.add (i * 2)) = some (.string o.1) ∧ W.cell? (x.add (i * 2 + 1)) = some (.string o.2)) := by
      intro i
      by_cases hi : i < len
      · obtain ⟨v0, _, _, _, c0, y0⟩ := hc i hi 0 _ rfl
        obtain ⟨v1, _, _, _, c1, y1⟩ := hc i hi 1 _ rfl
        obtain ⟨x0, rfl, _⟩ := fld_string Try.underlying9 y0
        obtain ⟨x1, rfl, _⟩ := fld_string Try.underlying9 y1
        exact ⟨(x0, x1), fun _ => ⟨c0, c1⟩⟩
      · exact ⟨(ByteArray.empty, ByteArray.empty), fun h => absurd h hi⟩
    obtain ⟨ops, hops⟩ := Classical.axiomOfChoice hone
    refine ⟨fun i => (ops i).1, fun i => (ops i).2, .inr ?_⟩
    obtain ⟨b, off, spot⟩ := x
    obtain rfl : spot = none := by simpa [Addr.add] using World.cell?_spot (hops 0 hpos).1
    refine ⟨b, off, rfl, fun i hi => ?_⟩
    obtain ⟨c0, c1⟩ := hops i hi
    simp only [Go.WideShapes.add_plain, ← Nat.add_assoc] at c0 c1
    exact ⟨c0, c1⟩

set_option maxRecDepth 100000 in
theorem lifted (os : Os) (started : os.Started) (H : Type) (enc : TypeId × Value → H) :
    ReturnsInHanded {} Try.checked os 3 .any (Rows.soapHeadersSpec.pre6 enc Try.prog Try.f3 Rows.soapHeadersRow.domain false) (Rows.soapHeadersSpec.post enc Try.prog Try.f3 false true false false) := by
  refine returnsInHanded_of_change (C := Try.checked) own started (by kernel_rfl) Try.func3
    (ChangeSpec.witness6 (enc := enc) (C := Try.checked) false ⟨#[], #[.string ByteArray.empty, .slice none 0 0, .string ByteArray.empty], []⟩ 8 (by kernel_rfl) (by kernel_rfl) (by kernel_rfl) (by kernel_rfl)) ?_
  intro W base args ds gs before hval0 hW hcnd _
  have hval : ∀ (j : Nat) t v, Try.f3.params[j]? = some t → args[j]? = some v → Value.okWide Try.prog W .any base t v := hval0
  have hW' := hW
  obtain ⟨p, q, hA0, hV, rfl, hfz, hnd⟩ := hW
  have hA : DataW.TrodAll enc Try.prog W 0 (fun _ => true) true Try.f3.params.toList args.toList ds p := hA0
  rw [Try.params3] at hA hval
  obtain ⟨v0, vs0, d0, ds0, p0, q0, hargs, rfl, rfl, h0, r0⟩ := trodAll_cons hA
  obtain ⟨v1, vs1, d1, ds1, p1, q1, rfl, rfl, rfl, h1, r1⟩ := trodAll_cons r0
  obtain ⟨v2, vs2, d2, ds2, p2, q2, rfl, rfl, rfl, h2, r2⟩ := trodAll_cons r1
  obtain ⟨rfl, rfl, rfl⟩ := trodAll_nil r2
  obtain rfl : args = #[v0, v1, v2] := by cases args; simp_all
  obtain ⟨rfl, rfl⟩ := trodVars_none hV
  have k0 := h0
  have lt0 : ∀ x ∈ p0, x.block < W.heap.size := by obtain ⟨m, hm⟩ := k0; exact DataW.trod_lt m _ _ _ hm
  obtain ⟨a0, rfl, rfl, rfl, w0⟩ := open_string Try.underlying9 (hval 0 9 v0 rfl rfl) h0
  have k1 := h1
  have lt1 : ∀ x ∈ p1, x.block < W.heap.size := by obtain ⟨m, hm⟩ := k1; exact DataW.trod_lt m _ _ _ hm
  obtain ⟨a1, len1, cap1, rfl⟩ := okWide_slice Try.underlying22 (hval 1 22 v1 rfl rfl)
  obtain ⟨hl1, ns1, vs1, row1⟩ := pairs_at h1
  have k2 := h2
  have lt2 : ∀ x ∈ p2, x.block < W.heap.size := by obtain ⟨m, hm⟩ := k2; exact DataW.trod_lt m _ _ _ hm
  obtain ⟨a2, rfl, rfl, rfl, w2⟩ := open_string Try.underlying9 (hval 2 9 v2 rfl rfl) h2
  clear hA0 hval0
  refine (soap_headers_walk a0 a1 len1 cap1 ns1 vs1 a2 W (by unfold maxLen at w0; omega) row1 (by unfold maxLen at hl1; omega)).mono fun e W' ⟨he, bel0⟩ => ?_
  have bel : Below W.heap.size W W' := gr_below bel0
  subst he
  exact ⟨_, rfl, _, _, _, [], _, [], hW', trodAll_mk1 (shut_bool Try.underlying4 _), (trodAll_cons_mk (Below.trod laidOut (by kernel_rfl) (of_decide_eq_true (by kernel_rfl)) k0 bel lt0) (trodAll_cons_mk (Below.trod laidOut (by kernel_rfl) (of_decide_eq_true (by kernel_rfl)) k1 bel lt1) (trodAll_cons_mk (Below.trod laidOut (by kernel_rfl) (of_decide_eq_true (by kernel_rfl)) k2 bel lt2) trodAll_mk0))), rfl, bel.frame _, fun h => by cases h⟩

theorem over : Rows.soapHeadersRow.holds Try.pinned (OpenSpec.ofChange Rows.soapHeadersSpec) :=
  OpenClaim.holds_of_wide 3 Try.f3 rfl rfl rfl rfl rfl rfl rfl ⟨rfl, rfl, rfl, rfl, rfl⟩ rfl rfl rfl rfl rfl (by kernel_rfl) Try.func3 (by kernel_rfl)
    (of_decide_eq_true (by kernel_rfl)) (by unfold Func.isWrapper; first | (rw [if_pos (by decide +kernel)]; kernel_rfl) | (rw [if_neg (by decide +kernel)]; exact ⟨rfl, rfl⟩))
    (fun os started H enc _ => lifted os started H enc)

theorem proved : Rows.SoapHeadersSaid := over
#print axioms proved
end Go.Proofs.Ytdfhdnnkpeodhaa.soapHeaders
