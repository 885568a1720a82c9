/- The arguments of the rollouts' laws, opened. -/
import Derived.Test.YtidndcigloohoaaOpen
set_option linter.unusedVariables false
namespace Go.Proofs.Ytidndcigloohoaa
open Go.ChangeShapes Go.WideShapes Go.ChangeAt Go.RowKit Go.Deep

section
variable {H : Type} {enc : TypeId × Value → H} {w : World} {spare : Nat → Bool} {held : Bool} {r : Reach} {b0 : Nat} {v : Value} {d : DataW H} {p : List MemPlace}
theorem inputCells : Try.prog.cellsOf 24 = 2 := by kernel_rfl
theorem rollCells : Try.prog.cellsOf 28 = 6 := by kernel_rfl
theorem open_input (hv : Value.okWide Try.prog w r b0 24 v) (h : DataW.Trod enc Try.prog w 0 spare held 24 v d p) : ∃ k x, v = .agg #[.int .i64 k, .int .i64 x] ∧ I64 k ∧ I64 x := by
  obtain ⟨v0, v1, y0, y1, n, rfl, _, _, h0, h1⟩ := Go.Joins.open_agg2 Try.underlying24 (by kernel_rfl) inputCells hv h
  obtain ⟨k, rfl, b0⟩ := cell_i64 h0
  obtain ⟨x, rfl, b1⟩ := cell_i64 h1
  exact ⟨k, x, rfl, b0, b1⟩
theorem open_rollout (hv : Value.okWide Try.prog w r b0 28 v) (h : DataW.Trod enc Try.prog w 0 spare held 28 v d p) :
    ∃ s g h t e a, v = .agg #[.int .i64 s, .int .i64 g, .int .i64 h, .int .i64 t, .int .i64 e, .int .i64 a] ∧ I64 s ∧ I64 g ∧ I64 h ∧ I64 t ∧ I64 e ∧ I64 a := by
  obtain ⟨cs, rfl, hsz⟩ := okWide_struct Try.underlying28 hv
  obtain ⟨l⟩ := cs
  match l, hsz.trans rollCells with
  | [c0, c1, c2, c3, c4, c5], _ =>
    obtain ⟨fuel, hf⟩ := h
    obtain ⟨y0, y1, y2, y3, n, _, _, h0, h1, h2, h3⟩ := Go.Joins.trod_struct4 Try.underlying28 hf
    obtain ⟨s, rfl, b0⟩ := cell_i64 (x := c0) (by simpa [Value.cells, intCells] using h0)
    obtain ⟨g, rfl, b1⟩ := cell_i64 (x := c1) (by simpa [Value.cells, intCells] using h1)
    obtain ⟨h, rfl, b2⟩ := cell_i64 (x := c2) (by simpa [Value.cells, intCells] using h2)
    have h4 : DataW.trod enc Try.prog w 0 spare held n 26 [c3, c4, c5] = some y3 := by simpa [Value.cells, winCells] using h3
    obtain ⟨_, _, _, m, _, _, k0, k1, k2⟩ := Go.Deep.trod_struct3 Try.underlying26 h4
    obtain ⟨t, rfl, b3⟩ := cell_i64 (x := c3) (by simpa [intCells] using k0)
    obtain ⟨e, rfl, b4⟩ := cell_i64 (x := c4) (by simpa [intCells] using k1)
    obtain ⟨a, rfl, b5⟩ := cell_i64 (x := c5) (by simpa [intCells] using k2)
    exact ⟨s, g, h, t, e, a, rfl, b0, b1, b2, b3, b4, b5⟩
end
end Go.Proofs.Ytidndcigloohoaa
