/- Proved: for every input GenaFull returns true, and its arguments read as before. No condition; the listed tables of the library are tied to the program's text. -/
import Derived.Test.YtfceodbpkghkaaaDoorGml
import Derived.Test.YtfceodbpkghkaaaDoorArg
import Derived.Test.YtfceodbpkghkaaaDoorCards
import Derived.Test.YtfceodbpkghkaaaDoorTie
import Derived.Deep.DeepHandedRow
import Derived.Lib.LaidTab
import Derived.LaidSub
import Derived.WalkKit
import Derived.ProofKit
import Derived.OpenShut
import Derived.ShutString
import Derived.ChangeOld
import Derived.Below
namespace Go.Proofs.YtfceodbpkghkaaaDoor.genaFull
open Go.ChangeShapes Go.WideShapes Go.ChangeAt Go.RowKit
open Go.ChangeMaps (open_string shut_string)
set_option linter.unusedVariables false

theorem own : ownKnob Tryd.prog.godebug = none := by kernel_rfl
theorem laidOut : laidOutB Tryd.prog = true := by kernel_rfl

theorem table {W : World} (h : laidMetH Tryd.prog Rows.genaFullRow.laid W) : P10 W :=
  Lib.tabIs_of_head (rest := []) (g := 1) (t := 116) (e := 37) (n := 20) (by kernel_rfl) (by kernel_rfl) Tryd.underlying116 Tryd.underlying37 (by kernel_rfl) (by kernel_rfl)
    (laidMetH.filter (fun x => x.1 == "internal/strconv.uint64pow10") h)

theorem tabs_of {W : World} {m : Int} (h10 : P10 W) (hm : MaxCell m W) : Tabs W.heap.size m W := by
  refine ⟨h10, fun i hi => ?_, hm, ?_⟩
  · unfold P10 Lib.TabIs World.var? at h10
    rw [hi] at h10
    simp only [Option.bind_some] at h10
    rcases Nat.lt_or_ge i W.heap.size with h' | h'
    · exact h'
    · simp [Array.getElem?_eq_none h'] at h10
  · exact World.block_lt_of_cell? W _ hm

set_option maxRecDepth 100000 in
theorem contract (H : Type) (enc : TypeId × Value → H) (W : World) (base : Nat) (args : Array Value) (ds gs : List (DataW H)) (before : List MemPlace)
    (hval : ∀ (j : Nat) t v, Tryd.f3.params[j]? = some t → args[j]? = some v → Value.okWide Tryd.prog W .any base t v)
    (hW : DataW.Whole enc Tryd.prog Tryd.f3.params.toList Rows.genaFullSpec.vars false W args.toList ds gs before) (hL : laidMetH Tryd.prog Rows.genaFullRow.laid W) (hsh : W.ShapedOpen Tryd.prog)
    (hsz0 : (DataW.weightsEach Tryd.prog (Tryd.f3.params.toList ++ Rows.genaFullSpec.plain.varTypes Tryd.prog) (ds ++ gs)).all (· ≤ reachBytes) = true) :
    Calls Tryd.prog 3 args W fun e W' => ∃ v, e = .returned v ∧ Rows.genaFullSpec.post enc Tryd.prog Tryd.f3 false true false false W args v W' := by
  have hW' := hW
  have hsz := hsz0
  obtain ⟨p, q, hA0, hV, rfl, hfz, hnd⟩ := hW
  have hA : DataW.TrodAll enc Tryd.prog W 0 (fun _ => true) true Tryd.f3.params.toList args.toList ds p := hA0
  rw [Tryd.params3] at hA hval hsz
  obtain ⟨v0, vs0, d0, ds0, p0, q0, hargs, rfl, rfl, h0, r0⟩ := trodAll_cons hA
  obtain ⟨v1, vs1, d1, ds1, p1, q1, rfl, rfl, rfl, h1, r1⟩ := trodAll_cons r0
  obtain ⟨rfl, rfl, rfl⟩ := trodAll_nil r1
  obtain rfl : args = #[v0, v1] := by cases args; simp_all
  obtain ⟨rfl, rfl⟩ := trodVars_none hV
  have k0 := h0
  have lt0 : ∀ x ∈ p0, x.block < W.heap.size := by obtain ⟨m, hm⟩ := k0; exact DataW.trod_lt m _ _ _ hm
  obtain ⟨a0, rfl, rfl, rfl, w0⟩ := open_int Tryd.underlying3 (hval 0 3 v0 rfl rfl) h0
  have k1 := h1
  have lt1 : ∀ x ∈ p1, x.block < W.heap.size := by obtain ⟨m, hm⟩ := k1; exact DataW.trod_lt m _ _ _ hm
  obtain ⟨a1, len1, cap1, rfl⟩ := okWide_slice Tryd.underlying22 (hval 1 22 v1 rfl rfl)
  obtain ⟨z1, row1⟩ := isRow_of_trod (k := .u8) Tryd.underlying22 Tryd.underlying5 (by kernel_rfl) h1
  clear hA0
  obtain ⟨mx, hmx⟩ := Tryd.laysM145.s1_3 W hsh
  refine (gena_full_walk a0 a1 len1 cap1 z1 mx W (tabs_of (table hL) hmx) row1).mono fun e W' ⟨he, bel0⟩ => ?_
  have bel : Below W.heap.size W W' := gr_below bel0
  subst he
  exact ⟨_, rfl, _, _, _, [], _, [], hW', trodAll_mk1 (shut_bool Tryd.underlying4 _), (trodAll_cons_mk (Below.trod laidOut (by kernel_rfl) (of_decide_eq_true (by kernel_rfl)) k0 bel lt0) (trodAll_cons_mk (Below.trod laidOut (by kernel_rfl) (of_decide_eq_true (by kernel_rfl)) k1 bel lt1) trodAll_mk0)), rfl, bel.frame _, fun h => by cases h⟩

def cellsOf1 : DataW Unit → List Value
  | .lit (.int k n) => [.int k n]
  | .agg ps => ps.flatMap fun | .lit (.int k n) => [.int k n] | _ => []
  | _ => []
def cellsOf2 : DataW Unit → Array Value
  | .agg ps => (ps.flatMap cellsOf1).toArray
  | _ => #[]
noncomputable def laidWorld (os : Os) : World :=
  { World.holding Tryd.prog os ⟨#[], #[], []⟩ with heap := ((((((World.holding Tryd.prog os ⟨#[], #[], []⟩).heap.modify 1 fun | .cells _ t frozen => .cells (cellsOf2 Rows.laid_internal_strconv_uint64pow10) t frozen | o => o).modify 4 fun | .cells _ t frozen => .cells (cellsOf2 Rows.laid_math_bits_deBruijn32tab) t frozen | o => o).modify 5 fun | .cells _ t frozen => .cells (cellsOf2 Rows.laid_math_bits_deBruijn64tab) t frozen | o => o).modify 2 fun | .cells _ t frozen => .cells (cellsOf2 Go.Pinned.utf8First) t frozen | o => o).modify 3 fun | .cells _ t frozen => .cells (cellsOf2 Rows.laid_unicode_utf8_acceptRanges) t frozen | o => o) }
theorem laid_met (os : Os) : laidMet Tryd.prog Rows.genaFullRow.laid ((laidWorld os).forCall (fun _ _ => 0) ⟨#[], #[.int .i64 0, .slice none 0 0], []⟩).memory :=
  laidMet_of_run' 8 (by kernel_rfl) (by kernel_rfl)
theorem reads (os : Os) {H : Type} (enc : TypeId × Value → H) : ∃ places, DataW.whole enc Tryd.prog ((laidWorld os).forCall (fun _ _ => 0) ⟨#[], #[.int .i64 0, .slice none 0 0], []⟩).memory Tryd.f3.params.toList Rows.genaFullSpec.vars false (#[.int .i64 0, .slice none 0 0] : Array Value).toList 8 = some ([.lit (.int .i64 0), .nil], [], places) :=
  ⟨[], by kernel_rfl⟩
set_option maxRecDepth 100000 in
theorem lifted (os : Os) (started : os.Started) (H : Type) (enc : TypeId × Value → H) (F : Stop.Interp) :
    ReturnsInHanded {} Tryd.checked os 3 .any ((OpenSpec.ofChange Rows.genaFullSpec).preRow enc Tryd.prog Tryd.f3 Rows.genaFullRow.domain false Rows.genaFullRow.laid) (((OpenSpec.ofChange Rows.genaFullSpec).at F).post enc Tryd.prog Tryd.f3 false true false false) := by
  obtain ⟨places, hx⟩ := reads os enc
  refine returnsInHanded_of_row (C := Tryd.checked) (s := OpenSpec.ofChange Rows.genaFullSpec) own started (by kernel_rfl) Tryd.func3
    (witness_row_at (enc := enc) (C := Tryd.checked) false (laidWorld os) #[.int .i64 0, .slice none 0 0] rfl (by kernel_rfl) (by kernel_rfl) (by kernel_rfl)
      (OpenSpec.preRow_of_cond 8 hx (by kernel_rfl) (fun k hk => by cases hk) (by kernel_rfl) (laid_met os))) ?_
  intro W base args ds gs before hval hW _ _ hsz hL hsh _
  exact contract H enc W base args ds gs before hval hW hL hsh hsz
theorem said : Rows.GenaFullSaid :=
  OpenClaim.holds_of_cond 3 Tryd.f3 rfl rfl rfl rfl rfl rfl rfl ⟨rfl, rfl, rfl, rfl, rfl⟩ rfl rfl rfl rfl rfl (by kernel_rfl) Tryd.func3 (by kernel_rfl)
    (of_decide_eq_true (by kernel_rfl)) (by unfold Func.isWrapper; first | (rw [if_pos (by decide +kernel)]; kernel_rfl) | (rw [if_neg (by decide +kernel)]; exact ⟨rfl, rfl⟩))
    (fun os started H enc _ F => by rw [OpenClaim.pre_eq_preRow]; exact lifted os started H enc F)
theorem plain (f : FuncId) (fn : Func) (hf : Tryd.pinned.checked.prog.funcNamed Rows.genaFullRow.func = some f) (hfn : Tryd.pinned.checked.prog.funcs[f]? = some fn) :
    false = Tryd.pinned.checked.prog.looks [] ∧ ∀ (j : Nat) t, fn.params[j]? = some t → Tryd.pinned.checked.prog.wantsStandIn t = false := by
  obtain rfl : f = 3 := Option.some.inj ((show Tryd.prog.funcNamed Rows.genaFullRow.func = some 3 by kernel_rfl).symm.trans hf) |>.symm
  obtain rfl : fn = Tryd.f3 := (Option.some.inj (Tryd.func3.symm.trans hfn)).symm
  refine ⟨by kernel_rfl, fun j t ht => ?_⟩
  rw [Tryd.params3] at ht
  rcases j with _ | _ | j
  · obtain rfl : 3 = t := by simpa using ht
    exact (show Tryd.prog.wantsStandIn 3 = false by kernel_rfl)
  · obtain rfl : 22 = t := by simpa using ht
    exact (show Tryd.prog.wantsStandIn 22 = false by kernel_rfl)
  · simp at ht
theorem proved : Rows.GenaFullCardSaid :=
  Claim7.holds_tied_plain_at .later [] _ _ _ _ said (fun _ h => by cases h) (by kernel_rfl) (fun _ h => by cases h) genaFull_row_tie rfl ⟨rfl, rfl⟩ (by kernel_rfl) rfl plain (by kernel_rfl)
#print axioms proved
end Go.Proofs.YtfceodbpkghkaaaDoor.genaFull
