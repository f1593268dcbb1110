/- Proved: for every input XmlTurned returns true, and its arguments read as before. No condition; the listed tables of the library are tied to the program's text. -/
import Derived.Test.YtmofnoconhgjmaaGreatDoorXv7
import Derived.Test.YtmofnoconhgjmaaGreatDoorMF
import Derived.Test.YtmofnoconhgjmaaGreatDoorMZ
import Derived.Test.YtmofnoconhgjmaaGreatDoorCards
import Derived.Test.YtmofnoconhgjmaaGreatDoorTie
import Derived.Deep.DeepHandedRow
import Derived.Lib.LaidTab
import Derived.LaidSub
import Derived.WalkKit
import Derived.ProofKit
import Derived.OpenShut
import Derived.ShutString
import Derived.ChangeOld
import Derived.Below
namespace Go.Proofs.YtmofnoconhgjmaaGreatDoor.xmlTurned
open Go.ChangeShapes Go.WideShapes Go.ChangeAt Go.RowKit
open Go.ChangeMaps (open_string shut_string)
set_option linter.unusedVariables false

theorem own : ownKnob Tryz.prog.godebug = none := by kernel_rfl
theorem laidOut : laidOutB Tryz.prog = true := by kernel_rfl

set_option maxRecDepth 100000 in
theorem contract (H : Type) (enc : TypeId × Value → H) (W : World) (base : Nat) (args : Array Value) (ds gs : List (DataW H)) (before : List MemPlace)
    (hval : ∀ (j : Nat) t v, Tryz.f3.params[j]? = some t → args[j]? = some v → Value.okWide Tryz.prog W .any base t v)
    (hW : DataW.Whole enc Tryz.prog Tryz.f3.params.toList Rows.xmlTurnedSpec.vars false W args.toList ds gs before) (hL : laidMetH Tryz.prog Rows.xmlTurnedRow.laid W) (hsh : W.ShapedOpen Tryz.prog)
    (hsz0 : (DataW.weightsEach Tryz.prog (Tryz.f3.params.toList ++ Rows.xmlTurnedSpec.plain.varTypes Tryz.prog) (ds ++ gs)).all (· ≤ reachBytes) = true) :
    Calls Tryz.prog 3 args W fun e W' => ∃ v, e = .returned v ∧ Rows.xmlTurnedSpec.post enc Tryz.prog Tryz.f3 false true false false W args v W' := by
  have hW' := hW
  have hsz := hsz0
  obtain ⟨p, q, hA0, hV, rfl, hfz, hnd⟩ := hW
  have hA : DataW.TrodAll enc Tryz.prog W 0 (fun _ => true) true Tryz.f3.params.toList args.toList ds p := hA0
  rw [Tryz.params3] at hA hval hsz
  obtain ⟨v0, vs0, d0, ds0, p0, q0, hargs, rfl, rfl, h0, r0⟩ := trodAll_cons hA
  obtain ⟨v1, vs1, d1, ds1, p1, q1, rfl, rfl, rfl, h1, r1⟩ := trodAll_cons r0
  obtain ⟨v2, vs2, d2, ds2, p2, q2, rfl, rfl, rfl, h2, r2⟩ := trodAll_cons r1
  obtain ⟨rfl, rfl, rfl⟩ := trodAll_nil r2
  obtain rfl : args = #[v0, v1, v2] := by cases args; simp_all
  obtain ⟨rfl, rfl⟩ := trodVars_none hV
  have k0 := h0
  have lt0 : ∀ x ∈ p0, x.block < W.heap.size := by obtain ⟨m, hm⟩ := k0; exact DataW.trod_lt m _ _ _ hm
  obtain ⟨e0, he0⟩ := elAt_of_trod (hval 0 25 v0 rfl rfl) h0
  have k1 := h1
  have lt1 : ∀ x ∈ p1, x.block < W.heap.size := by obtain ⟨m, hm⟩ := k1; exact DataW.trod_lt m _ _ _ hm
  obtain ⟨x1, y1, z1, rfl⟩ := three_bytes Tryz.underlying26 Tryz.underlying5 (by kernel_rfl) (by kernel_rfl) (hval 1 26 v1 rfl rfl) h1
  have k2 := h2
  have lt2 : ∀ x ∈ p2, x.block < W.heap.size := by obtain ⟨m, hm⟩ := k2; exact DataW.trod_lt m _ _ _ hm
  obtain ⟨a2, rfl, rfl, rfl, w2⟩ := open_string Tryz.underlying9 (hval 2 9 v2 rfl rfl) h2
  clear hA0
  obtain ⟨mx, hmx⟩ := Tryz.laysM145.s1_3 W hsh
  refine (xml_turned_walk v0 e0 x1 y1 z1 a2 mx W he0 hmx).mono fun e W' ⟨he, bel0⟩ => ?_
  have bel : Below W.heap.size W W' := gr_below bel0
  subst he
  exact ⟨_, rfl, _, _, _, [], _, [], hW', trodAll_mk1 (shut_bool Tryz.underlying4 _), (trodAll_cons_mk (Below.trod laidOut (by kernel_rfl) (of_decide_eq_true (by kernel_rfl)) k0 bel lt0) (trodAll_cons_mk (Below.trod laidOut (by kernel_rfl) (of_decide_eq_true (by kernel_rfl)) k1 bel lt1) (trodAll_cons_mk (Below.trod laidOut (by kernel_rfl) (of_decide_eq_true (by kernel_rfl)) k2 bel lt2) trodAll_mk0))), rfl, bel.frame _, fun h => by cases h⟩

def cellsOf1 : DataW Unit → List Value
  | .lit (.int k n) => [.int k n]
  | .agg ps => ps.flatMap fun | .lit (.int k n) => [.int k n] | _ => []
  | _ => []
def cellsOf2 : DataW Unit → Array Value
  | .agg ps => (ps.flatMap cellsOf1).toArray
  | _ => #[]
noncomputable def laidWorld (os : Os) : World :=
  { World.holding Tryz.prog os ⟨#[], #[], []⟩ with heap := ((((((World.holding Tryz.prog os ⟨#[], #[], []⟩).heap.modify 1 fun | .cells _ t frozen => .cells (cellsOf2 Rows.laid_internal_strconv_uint64pow10) t frozen | o => o).modify 4 fun | .cells _ t frozen => .cells (cellsOf2 Rows.laid_math_bits_deBruijn32tab) t frozen | o => o).modify 5 fun | .cells _ t frozen => .cells (cellsOf2 Rows.laid_math_bits_deBruijn64tab) t frozen | o => o).modify 2 fun | .cells _ t frozen => .cells (cellsOf2 Go.Pinned.utf8First) t frozen | o => o).modify 3 fun | .cells _ t frozen => .cells (cellsOf2 Rows.laid_unicode_utf8_acceptRanges) t frozen | o => o) }
theorem laid_met (os : Os) : laidMet Tryz.prog Rows.xmlTurnedRow.laid ((laidWorld os).forCall (fun _ _ => 0) ⟨#[], #[.agg #[.string ByteArray.empty, .string ByteArray.empty, .slice none 0 0, .string ByteArray.empty, .slice none 0 0], .agg #[.int .u8 0, .int .u8 0, .int .u8 0], .string ByteArray.empty], []⟩).memory :=
  laidMet_of_run' 8 (by kernel_rfl) (by kernel_rfl)
theorem reads (os : Os) {H : Type} (enc : TypeId × Value → H) : ∃ places, DataW.whole enc Tryz.prog ((laidWorld os).forCall (fun _ _ => 0) ⟨#[], #[.agg #[.string ByteArray.empty, .string ByteArray.empty, .slice none 0 0, .string ByteArray.empty, .slice none 0 0], .agg #[.int .u8 0, .int .u8 0, .int .u8 0], .string ByteArray.empty], []⟩).memory Tryz.f3.params.toList Rows.xmlTurnedSpec.vars false (#[.agg #[.string ByteArray.empty, .string ByteArray.empty, .slice none 0 0, .string ByteArray.empty, .slice none 0 0], .agg #[.int .u8 0, .int .u8 0, .int .u8 0], .string ByteArray.empty] : Array Value).toList 8 = some ([.agg [.lit (.string []), .lit (.string []), .nil, .lit (.string []), .nil], .agg [.lit (.int .u8 0), .lit (.int .u8 0), .lit (.int .u8 0)], .lit (.string [])], [], places) :=
  ⟨[], by kernel_rfl⟩
set_option maxRecDepth 100000 in
theorem lifted (os : Os) (started : os.Started) (H : Type) (enc : TypeId × Value → H) (F : Stop.Interp) :
    ReturnsInHanded {} Tryz.checked os 3 .any ((OpenSpec.ofChange Rows.xmlTurnedSpec).preRow enc Tryz.prog Tryz.f3 Rows.xmlTurnedRow.domain false Rows.xmlTurnedRow.laid) (((OpenSpec.ofChange Rows.xmlTurnedSpec).at F).post enc Tryz.prog Tryz.f3 false true false false) := by
  obtain ⟨places, hx⟩ := reads os enc
  refine returnsInHanded_of_row (C := Tryz.checked) (s := OpenSpec.ofChange Rows.xmlTurnedSpec) own started (by kernel_rfl) Tryz.func3
    (witness_row_at (enc := enc) (C := Tryz.checked) false (laidWorld os) #[.agg #[.string ByteArray.empty, .string ByteArray.empty, .slice none 0 0, .string ByteArray.empty, .slice none 0 0], .agg #[.int .u8 0, .int .u8 0, .int .u8 0], .string ByteArray.empty] rfl (by kernel_rfl) (by kernel_rfl) (by kernel_rfl)
      (OpenSpec.preRow_of_cond 8 hx (by kernel_rfl) (fun k hk => by cases hk) (by kernel_rfl) (laid_met os))) ?_
  intro W base args ds gs before hval hW _ _ hsz hL hsh _
  exact contract H enc W base args ds gs before hval hW hL hsh hsz
theorem fIn : Tryz.prog.inPlace 3 = Rows.xmlTurnedRow.inPlace := by kernel_rfl
theorem fUn : Tryz.prog.unfollowed 3 = true := by kernel_rfl
theorem fRe : Tryz.prog.recurses 3 = true := by unfold Program.recurses; rw [fUn]; rfl
theorem fVa : Tryz.prog.varsNamed 3 = Rows.xmlTurnedRow.named := by kernel_rfl
theorem closedF : joinedFacts Tryz.prog 3 Tryz.f3 (OpenSpec.ofChange Rows.xmlTurnedSpec).bare Rows.xmlTurnedRow = true := by
  unfold joinedFacts
  rw [fIn, fUn, fRe, fVa]
  kernel_rfl
theorem said : Rows.XmlTurnedSaid :=
  OpenClaim.holds_of_cond 3 Tryz.f3 rfl rfl rfl rfl rfl rfl rfl ⟨rfl, rfl, rfl, rfl, rfl⟩ rfl rfl rfl rfl rfl (by kernel_rfl) Tryz.func3 closedF
    (of_decide_eq_true (by kernel_rfl)) (by unfold Func.isWrapper; first | (rw [if_pos (by decide +kernel)]; kernel_rfl) | (rw [if_neg (by decide +kernel)]; exact ⟨rfl, rfl⟩))
    (fun os started H enc _ F => by rw [OpenClaim.pre_eq_preRow]; exact lifted os started H enc F)
theorem plain (f : FuncId) (fn : Func) (hf : Tryz.pinned.checked.prog.funcNamed Rows.xmlTurnedRow.func = some f) (hfn : Tryz.pinned.checked.prog.funcs[f]? = some fn) :
    true = Tryz.pinned.checked.prog.looks [] ∧ ∀ (j : Nat) t, fn.params[j]? = some t → Tryz.pinned.checked.prog.wantsStandIn t = false := by
  obtain rfl : f = 3 := Option.some.inj ((show Tryz.prog.funcNamed Rows.xmlTurnedRow.func = some 3 by kernel_rfl).symm.trans hf) |>.symm
  obtain rfl : fn = Tryz.f3 := (Option.some.inj (Tryz.func3.symm.trans hfn)).symm
  refine ⟨by kernel_rfl, fun j t ht => ?_⟩
  rw [Tryz.params3] at ht
  rcases j with _ | _ | _ | j
  · obtain rfl : 25 = t := by simpa using ht
    exact (show Tryz.prog.wantsStandIn 25 = false by kernel_rfl)
  · obtain rfl : 26 = t := by simpa using ht
    exact (show Tryz.prog.wantsStandIn 26 = false by kernel_rfl)
  · obtain rfl : 9 = t := by simpa using ht
    exact (show Tryz.prog.wantsStandIn 9 = false by kernel_rfl)
  · simp at ht
theorem proved : Rows.XmlTurnedCardSaid :=
  Claim7.holds_tied_plain_at .later [] _ _ _ _ said (fun _ h => by cases h) (by kernel_rfl) (fun _ h => by cases h) xmlTurned_row_tie rfl ⟨rfl, rfl⟩ (by kernel_rfl) rfl plain (by kernel_rfl)
#print axioms proved
end Go.Proofs.YtmofnoconhgjmaaGreatDoor.xmlTurned
