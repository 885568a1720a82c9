/- Small words for lists of ints that are read. -/
import Derived.Test.YtlcopiepcpangaaRow
set_option linter.unusedVariables false
namespace Go.Proofs.Ytlcopiepcpangaa
open Go.RowKit

abbrev ints (zs : List Int) : List Value := zs.map (Value.int .i64)
theorem Row.int_at {w : World} {B : Nat} {A : Option Addr} {n : Nat} {zs : List Int} (h : Row w B 1 A n (ints zs)) {k : Nat} (hk : k < n) :
    ∃ b o z, A = some ⟨b, o, none⟩ ∧ b < B ∧ zs[k]? = some z ∧ w.cell? ⟨b, o + k, none⟩ = some (.int .i64 z) := by
  obtain ⟨b, o, e, hb, hc⟩ := h.2 (by omega)
  have hl := h.1
  have hk' : k < zs.length := by simp at hl; omega
  exact ⟨b, o, zs[k], e, hb, by simp [hk'], hc k _ (by simp [hk'])⟩

theorem ret_int {k : IntKind} {a b : Int} (h : a = b) : Ending.returned (.int k a) = .returned (.int k b) := by rw [h]

end Go.Proofs.Ytlcopiepcpangaa
