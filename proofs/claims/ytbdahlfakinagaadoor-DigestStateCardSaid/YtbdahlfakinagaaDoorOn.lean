/- An operation under a guard that holds. -/
import Derived.Test.YtbdahlfakinagaaDoorSeq2
set_option linter.unusedVariables false
namespace Go.Rg
open Go.RowKit
/-- An operation under a guard that holds. -/
theorem xop_on {P : Program} {ops : Array Oper} {head : List Oper} {Ts : List (Value → World → Prop)} {a : Act} {w : World} {o : Oper} {T : Value → World → Prop} (g t j i : Nat) (hg : o.guard = some (g, true)) (h1 : (ops[g]?).bind (·.dst) = some t) (h2 : dstAt head 0 t = some j) (hb : Nat.ble (t + 1) a.tmps.size = true)
    (he : (o.after.toList[i]?).map (fun e => (e.on, dataE e)) = some (j, true)) (hT : Ts[j]? = some (is (.bool true)))
    (h : ∀ (vs : Nat → Value) (x : Array Obj × Nat) (F : Act), FrB vs head a F → depFacts Ts vs (w.plus x) o.after.toList → comes P o F (w.plus x) (fun v w' => Ext (w.plus x) w' ∧ T v w')) : xOp P ops head Ts a w o T := fun vs x hd => by
  have hv : vs j = .bool true := dep_at hd i j _ he hT
  have hy := yieldV (vs := vs) (a := a) g t j h1 h2 (Nat.le_of_ble_eq_true hb) hv
  have hwt : Region.wanted o (yielded ops (putAll vs head 0 a).tmps) = true := by
    unfold Region.wanted
    rw [hg]
    simp only [hy]
    rfl
  rw [if_pos hwt]
  exact h vs x _ (FrB.self vs head a) hd
end Go.Rg
