/- An argument of the type []byte, opened, with the form's reach. -/
import Derived.Test.YtphbmibgnnobcaaBytess
set_option linter.unusedVariables false
namespace Go.Proofs.Ytphbmibgnnobcaa
open Go.ChangeShapes Go.WideShapes Go.ChangeAt Go.RowKit Go.Deep Go.Rg
theorem open_bytes_s {H : Type} {enc : TypeId × Value → H} {w : World} {spare : Nat → Bool} {held : Bool} {r : Reach} {b0 : Nat} {v : Value} {d : DataW H} {p : List MemPlace}
    (hv : Value.okWide Try.prog w r b0 26 v) (h : DataW.Trod enc Try.prog w 0 spare held 26 v d p) (hw : ∀ z ∈ d.weights Try.prog 26, z ≤ reachBytes) :
    ∃ l : List Int, BS w v l ∧ l.length ≤ 140737488355328 := by
  obtain ⟨a0, len, cap, rfl⟩ := okWide_slice Try.underlying26 hv
  obtain ⟨fuel, hf⟩ := h
  exact cell_bytes_ (x := .slice a0 len cap) (by simpa [Value.cells] using hf) hw
end Go.Proofs.Ytphbmibgnnobcaa
