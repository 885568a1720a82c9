/- The arguments of the laws, opened: what a value of each type is. -/
import Derived.Test.YtngokfaaaeikoaaRow
import Derived.ProofKit
import Derived.Lib.SmallJoins
import Derived.Deep.Slices
import Derived.Deep.Fields
namespace Go.Proofs.Ytngokfaaaeikoaa
open Go.ChangeShapes Go.WideShapes Go.ChangeAt Go.RowKit Go.Deep

/-- n is an int. -/
def I64 (n : Int) : Prop := -9223372036854775808 ≤ n ∧ n ≤ 9223372036854775807
theorem i64_of_wf {n : Int} (h : (Lit.int .i64 n).wf = true) : I64 n := by
  simp [Lit.wf, IntKind.min, IntKind.max, IntKind.signed, IntKind.bits] at h
  exact ⟨by omega, by omega⟩
theorem u8_of_wf {n : Int} (h : (Lit.int .u8 n).wf = true) : 0 ≤ n ∧ n ≤ 255 := by
  simp [Lit.wf, IntKind.min, IntKind.max, IntKind.signed, IntKind.bits] at h
  exact ⟨by omega, by omega⟩

theorem own : ownKnob Try.prog.godebug = Option.none := by kernel_rfl
theorem laidOut : laidOutB Try.prog = true := by kernel_rfl

section
variable {H : Type} {enc : TypeId × Value → H} {w : World} {spare : Nat → Bool} {held : Bool} {r : Reach} {b0 : Nat} {v : Value} {d : DataW H} {p : List MemPlace}

theorem open_i64 (hv : Value.okWide Try.prog w r b0 3 v) (h : DataW.Trod enc Try.prog w 0 spare held 3 v d p) : ∃ n, v = .int .i64 n ∧ I64 n := by
  obtain ⟨n, rfl, _, _, hw⟩ := open_int Try.underlying3 hv h
  exact ⟨n, rfl, i64_of_wf hw⟩
theorem open_boolean (hv : Value.okWide Try.prog w r b0 4 v) (h : DataW.Trod enc Try.prog w 0 spare held 4 v d p) : ∃ b, v = .bool b := by
  obtain ⟨b, rfl, _, _⟩ := open_bool Try.underlying4 hv h
  exact ⟨b, rfl⟩
theorem cell_i64 {fuel : Nat} {x : Value} {y : DataW H × List MemPlace} (h : DataW.trod enc Try.prog w 0 spare held fuel 3 [x] = some y) : ∃ n, x = .int .i64 n ∧ I64 n := by
  obtain ⟨n, hc, _, hw⟩ := DataW.trod_int Try.underlying3 h
  simp at hc
  exact ⟨n, hc, i64_of_wf hw⟩

theorem winCells : Try.prog.cellsOf 23 = 3 := by kernel_rfl
theorem open_win (hv : Value.okWide Try.prog w r b0 23 v) (h : DataW.Trod enc Try.prog w 0 spare held 23 v d p) : ∃ t e a, v = .agg #[.int .i64 t, .int .i64 e, .int .i64 a] ∧ I64 t ∧ I64 e ∧ I64 a := by
  obtain ⟨v0, v1, v2, y0, y1, y2, n, rfl, _, _, h0, h1, h2⟩ := Go.Joins.open_agg3 Try.underlying23 (by kernel_rfl) winCells hv h
  obtain ⟨t, rfl, b0⟩ := cell_i64 h0
  obtain ⟨e, rfl, b1⟩ := cell_i64 h1
  obtain ⟨a, rfl, b2⟩ := cell_i64 h2
  exact ⟨t, e, a, rfl, b0, b1, b2⟩
end
end Go.Proofs.Ytngokfaaaeikoaa
