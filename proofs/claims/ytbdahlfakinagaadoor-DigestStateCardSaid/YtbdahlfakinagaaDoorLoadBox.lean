/- A load of a whole box, as an operation of a head. -/
import Derived.Test.YtbdahlfakinagaaDoorSeq2
import Derived.Test.YtbdahlfakinagaaDoorCfgS
import Derived.Deep.MidRow
set_option linter.unusedVariables false
namespace Go.Proofs.YtbdahlfakinagaaDoor
open Go.RowKit Go.Rg
theorem comes_load_box {P : Program} {o : Oper} {F : Act} {W : World} (ty : TypeId) (x : Operand) (ho : o.op = .load ty x) {N b : Nat} {cs : List Value} (h : Box N cs b W) (hx : F.eval x = .pointer (some ⟨b, 0, none⟩)) {d : TypeDesc}
    (hu : P.underlying ty = some d) (hd : d.isRow = true) (hi : (P.info? ty).map (·.size) = some cs.length) : comes P o F W (fun v w' => Ext W w' ∧ v = .agg cs.toArray) := by
  unfold comes execOp
  simp only [ho, hx, Instr.loadAt, Instr.sureAddr, Sem.run_bind, Sem.run_pure, Result.andThen_ok, run_loadVar_mid W b 0 ty cs d (Box.range h) hu hd hi, comesUpon_value]
  exact ⟨Ext.refl _, trivial⟩
end Go.Proofs.YtbdahlfakinagaaDoor
