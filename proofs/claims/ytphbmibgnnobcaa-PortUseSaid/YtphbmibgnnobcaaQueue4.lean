/- Queues: Peek. -/
import Derived.Test.YtphbmibgnnobcaaQueue3
set_option linter.unusedVariables false
namespace Go.Proofs.Ytphbmibgnnobcaa
open Go.RowKit Go.Rg

theorem Row.take {w : World} {B n : Nat} {A : Option Addr} {xs : List Value} (h : Row w B 1 A n xs) (m : Nat) (hm : m ≤ n) : Row w B 1 A m (xs.take m) := by
  have hl := h.len
  refine ⟨by simp; omega, fun hn => ?_⟩
  obtain ⟨b, o, e, hb, hc⟩ := h.2 (by omega)
  refine ⟨b, o, e, hb, fun j u hu => hc j u ?_⟩
  rw [List.getElem?_take] at hu
  split at hu
  · exact hu
  · cases hu
/-- A value that owns a row from block B on. -/
def isOwn (B n : Nat) (xs : List Value) : Value → World → Prop := fun v w => w.ownsRow B 5 1 v n xs
theorem isOwn.st (B n : Nat) (xs : List Value) : Stable (isOwn B n xs) := fun _ _ _ e h => own_ext h e
theorem qfirst_bd (k : Int) (n : Nat) (m : Int) : 0 ≤ qfirst k n m ∧ qfirst k n m ≤ n := by
  unfold qfirst
  split
  · split
    · omega
    · split <;> omega
  · omega

end Go.Proofs.Ytphbmibgnnobcaa
