/- Proved: for every input HeadValues returns true, and its arguments read as before. No condition; the listed tables of the library are tied to the program's text. -/
import Derived.Test.YtdfhdnnkpeodhaaDoorHead11
import Derived.Test.YtdfhdnnkpeodhaaDoorArg
import Derived.Test.YtdfhdnnkpeodhaaDoorCards
import Derived.Test.YtdfhdnnkpeodhaaDoorTie
import Derived.Deep.DeepHandedRow
import Derived.Lib.LaidTab
import Derived.WalkKit
import Derived.ProofKit
import Derived.OpenShut
import Derived.ShutString
import Derived.ChangeOld
import Derived.Below
namespace Go.Proofs.YtdfhdnnkpeodhaaDoor.headValues
open Go.ChangeShapes Go.WideShapes Go.ChangeAt Go.RowKit
open Go.ChangeMaps (open_string shut_string)
set_option linter.unusedVariables false

theorem own : ownKnob Tryd.prog.godebug = none := by kernel_rfl
theorem laidOut : laidOutB Tryd.prog = true := by kernel_rfl

open Go.Deep in
theorem pairs_at {H : Type} {enc : TypeId × Value → H} {W : World} {a : Option Addr} {len cap : Nat} {d : DataW H} {p : List MemPlace}
    (h : DataW.Trod enc Tryd.prog W 0 (fun _ => true) true 26 (.slice a len cap) d p) : len ≤ maxLen ∧ ∃ ns vs, PairsAt W a len ns vs := by
  rcases struct_slice Tryd.underlying26 Tryd.underlying33 (by kernel_rfl) (by kernel_rfl) h with ⟨_, h0, _⟩ | ⟨x, rfl, hl, hm, hc⟩
  · exact ⟨by omega, fun _ => ByteArray.empty, fun _ => ByteArray.empty, .inl h0⟩
  · refine ⟨by omega, ?_⟩
    rcases Nat.eq_zero_or_pos len with h0 | hpos
    · exact ⟨fun _ => ByteArray.empty, fun _ => ByteArray.empty, .inl h0⟩
    have hone : ∀ i, ∃ o : ByteArray × ByteArray, i < len → (W.cell? (x.add (i * 2)) = some (.string o.1) ∧ W.cell? (x.add (i * 2 + 1)) = some (.string o.2)) := by
      intro i
      by_cases hi : i < len
      · obtain ⟨v0, _, _, _, c0, y0⟩ := hc i hi 0 _ rfl
        obtain ⟨v1, _, _, _, c1, y1⟩ := hc i hi 1 _ rfl
        obtain ⟨x0, rfl, _⟩ := fld_string Tryd.underlying9 y0
        obtain ⟨x1, rfl, _⟩ := fld_string Tryd.underlying9 y1
        exact ⟨(x0, x1), fun _ => ⟨c0, c1⟩⟩
      · exact ⟨(ByteArray.empty, ByteArray.empty), fun h => absurd h hi⟩
    obtain ⟨ops, hops⟩ := Classical.axiomOfChoice hone
    refine ⟨fun i => (ops i).1, fun i => (ops i).2, .inr ?_⟩
    obtain ⟨b, off, spot⟩ := x
    obtain rfl : spot = none := by simpa [Addr.add] using World.cell?_spot (hops 0 hpos).1
    refine ⟨b, off, rfl, fun i hi => ?_⟩
    obtain ⟨c0, c1⟩ := hops i hi
    simp only [Go.WideShapes.add_plain, ← Nat.add_assoc] at c0 c1
    exact ⟨c0, c1⟩

theorem contract (H : Type) (enc : TypeId × Value → H) (W : World) (base : Nat) (args : Array Value) (ds gs : List (DataW H)) (before : List MemPlace)
    (hval : ∀ (j : Nat) t v, Tryd.f4.params[j]? = some t → args[j]? = some v → Value.okWide Tryd.prog W .any base t v)
    (hW : DataW.Whole enc Tryd.prog Tryd.f4.params.toList Rows.headValuesSpec.vars false W args.toList ds gs before) (hL : laidMetH Tryd.prog Rows.headValuesRow.laid W) (hsh : W.ShapedOpen Tryd.prog)
    (hsz0 : (DataW.weightsEach Tryd.prog (Tryd.f4.params.toList ++ Rows.headValuesSpec.plain.varTypes Tryd.prog) (ds ++ gs)).all (· ≤ reachBytes) = true) :
    Calls Tryd.prog 4 args W fun e W' => ∃ v, e = .returned v ∧ Rows.headValuesSpec.post enc Tryd.prog Tryd.f4 false true false false W args v W' := by
  have hW' := hW
  have hsz := hsz0
  obtain ⟨p, q, hA0, hV, rfl, hfz, hnd⟩ := hW
  have hA : DataW.TrodAll enc Tryd.prog W 0 (fun _ => true) true Tryd.f4.params.toList args.toList ds p := hA0
  rw [Tryd.params4] at hA hval hsz
  obtain ⟨v0, vs0, d0, ds0, p0, q0, hargs, rfl, rfl, h0, r0⟩ := trodAll_cons hA
  obtain ⟨v1, vs1, d1, ds1, p1, q1, rfl, rfl, rfl, h1, r1⟩ := trodAll_cons r0
  obtain ⟨v2, vs2, d2, ds2, p2, q2, rfl, rfl, rfl, h2, r2⟩ := trodAll_cons r1
  obtain ⟨rfl, rfl, rfl⟩ := trodAll_nil r2
  obtain rfl : args = #[v0, v1, v2] := by cases args; simp_all
  obtain ⟨rfl, rfl⟩ := trodVars_none hV
  have k0 := h0
  have lt0 : ∀ x ∈ p0, x.block < W.heap.size := by obtain ⟨m, hm⟩ := k0; exact DataW.trod_lt m _ _ _ hm
  obtain ⟨a0, len0, cap0, rfl⟩ := okWide_slice Tryd.underlying26 (hval 0 26 v0 rfl rfl)
  obtain ⟨hl0, ns0, vs0, row0⟩ := pairs_at h0
  have k1 := h1
  have lt1 : ∀ x ∈ p1, x.block < W.heap.size := by obtain ⟨m, hm⟩ := k1; exact DataW.trod_lt m _ _ _ hm
  obtain ⟨a1, rfl, rfl, rfl, w1⟩ := open_string Tryd.underlying9 (hval 1 9 v1 rfl rfl) h1
  have k2 := h2
  have lt2 : ∀ x ∈ p2, x.block < W.heap.size := by obtain ⟨m, hm⟩ := k2; exact DataW.trod_lt m _ _ _ hm
  obtain ⟨a2, rfl, rfl, rfl, w2⟩ := open_string Tryd.underlying9 (hval 2 9 v2 rfl rfl) h2
  clear hA0
  refine (head_values_walk a0 len0 cap0 ns0 vs0 a1 a2 W row0 (by unfold maxLen at hl0; omega) (by unfold maxLen at w1; omega) (by unfold maxLen at w2; omega)).mono fun e W' ⟨he, bel0⟩ => ?_
  have bel : Below W.heap.size W W' := gr_below bel0
  subst he
  exact ⟨_, rfl, _, _, _, [], _, [], hW', trodAll_mk1 (shut_bool Tryd.underlying4 _), (trodAll_cons_mk (Below.trod laidOut (by kernel_rfl) (of_decide_eq_true (by kernel_rfl)) k0 bel lt0) (trodAll_cons_mk (Below.trod laidOut (by kernel_rfl) (of_decide_eq_true (by kernel_rfl)) k1 bel lt1) (trodAll_cons_mk (Below.trod laidOut (by kernel_rfl) (of_decide_eq_true (by kernel_rfl)) k2 bel lt2) trodAll_mk0))), rfl, bel.frame _, fun h => by cases h⟩

def cellsOf1 : DataW Unit → List Value
  | .lit (.int k n) => [.int k n]
  | .agg ps => ps.flatMap fun | .lit (.int k n) => [.int k n] | _ => []
  | _ => []
def cellsOf2 : DataW Unit → Array Value
  | .agg ps => (ps.flatMap cellsOf1).toArray
  | _ => #[]
noncomputable def laidWorld (os : Os) : World :=
  { World.holding Tryd.prog os ⟨#[], #[], []⟩ with heap := (((World.holding Tryd.prog os ⟨#[], #[], []⟩).heap.modify 1 fun | .cells _ t frozen => .cells (cellsOf2 Go.Pinned.utf8First) t frozen | o => o).modify 2 fun | .cells _ t frozen => .cells (cellsOf2 Rows.laid_unicode_utf8_acceptRanges) t frozen | o => o) }
theorem laid_met (os : Os) : laidMet Tryd.prog Rows.headValuesRow.laid ((laidWorld os).forCall (fun _ _ => 0) ⟨#[], #[.slice none 0 0, .string ByteArray.empty, .string ByteArray.empty], []⟩).memory :=
  laidMet_of_run' 8 (by kernel_rfl) (by kernel_rfl)
theorem reads (os : Os) {H : Type} (enc : TypeId × Value → H) : ∃ places, DataW.whole enc Tryd.prog ((laidWorld os).forCall (fun _ _ => 0) ⟨#[], #[.slice none 0 0, .string ByteArray.empty, .string ByteArray.empty], []⟩).memory Tryd.f4.params.toList Rows.headValuesSpec.vars false (#[.slice none 0 0, .string ByteArray.empty, .string ByteArray.empty] : Array Value).toList 8 = some ([.nil, .lit (.string []), .lit (.string [])], [], places) :=
  ⟨[], by kernel_rfl⟩
set_option maxRecDepth 100000 in
theorem lifted (os : Os) (started : os.Started) (H : Type) (enc : TypeId × Value → H) (F : Stop.Interp) :
    ReturnsInHanded {} Tryd.checked os 4 .any ((OpenSpec.ofChange Rows.headValuesSpec).preRow enc Tryd.prog Tryd.f4 Rows.headValuesRow.domain false Rows.headValuesRow.laid) (((OpenSpec.ofChange Rows.headValuesSpec).at F).post enc Tryd.prog Tryd.f4 false true false false) := by
  obtain ⟨places, hx⟩ := reads os enc
  refine returnsInHanded_of_row (C := Tryd.checked) (s := OpenSpec.ofChange Rows.headValuesSpec) own started (by kernel_rfl) Tryd.func4
    (witness_row_at (enc := enc) (C := Tryd.checked) false (laidWorld os) #[.slice none 0 0, .string ByteArray.empty, .string ByteArray.empty] rfl (by kernel_rfl) (by kernel_rfl) (by kernel_rfl)
      (OpenSpec.preRow_of_cond 8 hx (by kernel_rfl) (fun k hk => by cases hk) (by kernel_rfl) (laid_met os))) ?_
  intro W base args ds gs before hval hW _ _ hsz hL hsh _
  exact contract H enc W base args ds gs before hval hW hL hsh hsz
theorem said : Rows.HeadValuesSaid :=
  OpenClaim.holds_of_cond 4 Tryd.f4 rfl rfl rfl rfl rfl rfl rfl ⟨rfl, rfl, rfl, rfl, rfl⟩ rfl rfl rfl rfl rfl (by kernel_rfl) Tryd.func4 (by kernel_rfl)
    (of_decide_eq_true (by kernel_rfl)) (by unfold Func.isWrapper; first | (rw [if_pos (by decide +kernel)]; kernel_rfl) | (rw [if_neg (by decide +kernel)]; exact ⟨rfl, rfl⟩))
    (fun os started H enc _ F => by rw [OpenClaim.pre_eq_preRow]; exact lifted os started H enc F)
theorem plain (f : FuncId) (fn : Func) (hf : Tryd.pinned.checked.prog.funcNamed Rows.headValuesRow.func = some f) (hfn : Tryd.pinned.checked.prog.funcs[f]? = some fn) :
    false = Tryd.pinned.checked.prog.looks [] ∧ ∀ (j : Nat) t, fn.params[j]? = some t → Tryd.pinned.checked.prog.wantsStandIn t = false := by
  obtain rfl : f = 4 := Option.some.inj ((show Tryd.prog.funcNamed Rows.headValuesRow.func = some 4 by kernel_rfl).symm.trans hf) |>.symm
  obtain rfl : fn = Tryd.f4 := (Option.some.inj (Tryd.func4.symm.trans hfn)).symm
  refine ⟨by kernel_rfl, fun j t ht => ?_⟩
  rw [Tryd.params4] at ht
  rcases j with _ | _ | _ | j
  · obtain rfl : 26 = t := by simpa using ht
    exact (show Tryd.prog.wantsStandIn 26 = false by kernel_rfl)
  · obtain rfl : 9 = t := by simpa using ht
    exact (show Tryd.prog.wantsStandIn 9 = false by kernel_rfl)
  · obtain rfl : 9 = t := by simpa using ht
    exact (show Tryd.prog.wantsStandIn 9 = false by kernel_rfl)
  · simp at ht
theorem proved : Rows.HeadValuesCardSaid :=
  Claim7.holds_tied_plain_at .later [] _ _ _ _ said (fun _ h => by cases h) (by kernel_rfl) (fun _ h => by cases h) headValues_row_tie rfl ⟨rfl, rfl⟩ (by kernel_rfl) rfl plain (by kernel_rfl)
#print axioms proved
end Go.Proofs.YtdfhdnnkpeodhaaDoor.headValues
