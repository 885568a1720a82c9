/- The end of a walk in a function with many slots, by hand: go_wp2 unfolds the whole function at its return. -/
import Derived.Test.YtbdahlfakinagaaDoorRg
set_option linter.unusedVariables false
namespace Go.Rg
open Go.RowKit
theorem results_slot {P : Program} {fn : Func} {tmps : Array Value} {k : Nat} {v : Value} {w : World} (hf : fn.results = #[.tmp k]) (hv : tmps.getD k undef = v) : (results fn tmps).run P w = .ok v w := by
  unfold results
  rw [hf]
  have hx2 : tmps[k]?.getD undef = v := by simpa using hv
  simp [hx2, Sem.run_bind, Sem.run_pure]
/-- A region of one assignment of a constant. -/
theorem wp_assign_const {P : Program} {r d : Nat} {v : Value} {ty : TypeId} {pos : String} {K : Act → World → Prop} {R : Exit → Act → World → Prop} {a : Act} {w : World} (k : K (a.put (some d) v) w) :
    Code.wp P (.region r #[{ dst := some d, op := .assign (.const v), type := ty, pos := pos, after := #[], guard := none }] false) (Exit.then K R) a w := by
  go_wp2
  exact k
theorem wp_ret_then {P : Program} {K : Act → World → Prop} {R : Exit → Act → World → Prop} {a : Act} {w : World} (k : R .ret a w) : Code.wp P .ret (Exit.then K R) a w := by
  go_wp2
  exact k
theorem wp_ret {P : Program} {R : Exit → Act → World → Prop} {a : Act} {w : World} (k : R .ret a w) : Code.wp P .ret R a w := by
  go_wp2
  exact k
end Go.Rg
