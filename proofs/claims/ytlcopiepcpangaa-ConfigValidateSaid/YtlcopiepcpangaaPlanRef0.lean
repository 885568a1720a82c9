/- The reference of plan.Validate. -/
import Derived.Test.YtlcopiepcpangaaPlan
import Derived.Deep.QuietTactic
import Derived.BigQuiet
set_option linter.unusedVariables false
namespace Go.Proofs.Ytlcopiepcpangaa
open Go.RowKit Go.Rg

def RefRel (w : World) (n : Nat) (cs : Array Value) (F : Nat → Bool) (ok i : Value) (wr : World) : Prop :=
  ∃ (k : Nat) (x : Array Obj × Nat), k ≤ n ∧ i = .int .i64 k ∧ ok = .bool (F k) ∧ wr = (w.alloc (.cells cs 24)).plus x
theorem stepOK.of {l : List Int} {k : Nat} {z : Int} (hz : l[k]? = some z) (h : stepOK l k) : 1 ≤ z ∧ z ≤ 10000 ∧ (k = 0 ∨ ∃ y, l[k - 1]? = some y ∧ y < z) := by
  obtain ⟨h1, h2, h3⟩ := h
  rw [getD_of hz] at h1 h2 h3
  refine ⟨h1, h2, ?_⟩
  rcases h3 with h3 | h3
  · exact .inl h3
  · rcases hy : l[k - 1]? with _ | y
    · have hk : k < l.length := (List.getElem?_eq_some_iff.1 hz).1
      have := List.getElem?_eq_none_iff.1 hy
      exact .inl (by omega)
    · exact .inr ⟨y, rfl, by rw [getD_of hy] at h3; exact h3⟩

end Go.Proofs.Ytlcopiepcpangaa
