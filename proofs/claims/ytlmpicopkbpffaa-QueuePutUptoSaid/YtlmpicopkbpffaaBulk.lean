/- What the bound of an Upto statement gives. -/
import Derived.Test.YtlmpicopkbpffaaOpen
set_option linter.unusedVariables false
namespace Go.Proofs.Ytlmpicopkbpffaa.bulks
open Go.ChangeShapes Go.WideShapes Go.ChangeAt Go.RowKit Go.Deep

theorem one_le {H : Type} (d : DataW H) : 1 ≤ Rows.uptoBulk d := by
  cases d with
  | lit l => cases l <;> simp [Rows.uptoBulk]
  | _ => simp [Rows.uptoBulk]
theorem length_le {H : Type} (l : List (DataW H)) : l.length ≤ Rows.uptoBulkAll l := by
  induction l with
  | nil => simp [Rows.uptoBulkAll]
  | cons x r ih => have := one_le x; simp only [Rows.uptoBulkAll, List.length_cons]; omega
theorem bound {H : Type} {l : List (DataW H)} (hk : Rows.uptoSmall H l = true) : Rows.uptoBulkAll l ≤ 1048576 := of_decide_eq_true hk
section
variable {H : Type} {enc : TypeId × Value → H} {w : World} {spare : Nat → Bool} {held : Bool} {r : Reach} {b0 : Nat} {v : Value} {d : DataW H} {p : List MemPlace}
theorem slice_cells {t e : TypeId} {fuel : Nat} {A : Option Addr} {n c : Nat} {y : DataW H × List MemPlace} (ht : Try.prog.underlying t = some (.slice e)) (hc : Try.prog.cellsOf e = 1) (hf : DataW.trod enc Try.prog w 0 spare held fuel t [.slice A n c] = some y) : n ≤ Rows.uptoBulk y.1 := by
  rcases open_slice1 ht hc hf with ⟨hcs, _⟩ | ⟨a, len, cap, m, n', V, D, Pl, hcs, _, hl, hm, hmm, hy, hi⟩
  · simp at hcs
    omega
  · simp at hcs
    rw [hy]
    have := length_le ((List.range len).map D)
    simp only [Rows.uptoBulk]
    simp at this
    omega
theorem bytes_small (hv : Value.okWide Try.prog w r b0 22 v) (h : DataW.Trod enc Try.prog w 0 spare held 22 v d p) (hb : Rows.uptoBulk d ≤ 1048576) : ∀ A n c, v = .slice A n c → n ≤ 1048576 := by
  rintro A n c rfl
  obtain ⟨fuel, hf⟩ := h
  have := slice_cells (A := A) (n := n) (c := c) Try.underlying22 byteCells (by simpa [Value.cells] using hf)
  exact Nat.le_trans this hb
theorem queue_small (hv : Value.okWide Try.prog w r b0 24 v) (h : DataW.Trod enc Try.prog w 0 spare held 24 v d p) (hb : Rows.uptoBulk d ≤ 1048576) : ∀ k A n c, v = .agg #[.int .i64 k, .slice A n c] → n ≤ 1048576 := by
  rintro k A n c rfl
  obtain ⟨v0, v1, y0, y1, m, he, rfl, _, h0, h1⟩ := Go.Joins.open_agg2 Try.underlying24 (by kernel_rfl) queueCells hv h
  injection he with he
  have e1 : v1 = .slice A n c := by simp at he; exact he.2.symm
  subst e1
  have := slice_cells (A := A) (n := n) (c := c) Try.underlying22 byteCells h1
  simp only [Rows.uptoBulk, Rows.uptoBulkAll] at hb
  omega
end
end Go.Proofs.Ytlmpicopkbpffaa.bulks
