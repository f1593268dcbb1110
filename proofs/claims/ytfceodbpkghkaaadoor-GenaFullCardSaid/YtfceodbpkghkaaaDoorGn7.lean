/- gena.Body. -/
import Derived.Test.YtfceodbpkghkaaaDoorGn6
import Derived.Test.YtfceodbpkghkaaaDoorBu1
import Derived.Test.YtfceodbpkghkaaaDoorArg
import Derived.Test.YtfceodbpkghkaaaDoorReg3
import Derived.BigQuiet
import Derived.Deep.DeepCutAuto
namespace Go.Proofs.YtfceodbpkghkaaaDoor
open Go.RowKit
set_option linter.unusedVariables false
set_option linter.unusedSimpArgs false

theorem below_cell {B : Nat} {w w' : World} (h : Below B w w') {b o : Nat} (hb : b < B) : w'.cell? ⟨b, o, none⟩ = w.cell? ⟨b, o, none⟩ := by
  unfold World.cell?
  rw [h.block b hb]
section
variable {P : Program} {ops : Array Oper} {rest : List Oper} {o : Oper} {a : Act} {w : World} {Q : Exit → Act → World → Prop}
/-- A call by its contract. -/
theorem wpl_call (hg : o.guard = none) (d : Option Tmp) (hd : o.dst = d) (f : FuncId) (args : Array Value) (hrun : (execOp a.eval o).run P w = .ok (.enter f args) w) {R : Ending → World → Prop} (hc : Calls P f args w R)
    (hret : ∀ e w', R e w' → ∃ v, e = .returned v) (h : ∀ v w', R (.returned v) w' → wpList P ops Q rest (a.put d v) w') : wpList P ops Q (o :: rest) a w := by
  subst hd
  refine wpList_plain hg fun K hK => ?_
  unfold Oper.wp
  rw [hrun, Oper.upon_enter]
  refine hc.mono fun e w'' hh => ?_
  obtain ⟨v, rfl⟩ := hret _ _ hh
  exact hK _ _ (h _ _ hh)
end
end Go.Proofs.YtfceodbpkghkaaaDoor
