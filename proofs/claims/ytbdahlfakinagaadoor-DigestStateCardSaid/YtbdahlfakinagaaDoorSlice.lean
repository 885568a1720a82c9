/- s[q:] and s[:q] of rows of one-cell elements, whatever the address. -/
import Derived.Test.YtbdahlfakinagaaDoorBig
set_option linter.unusedVariables false
namespace Go.Proofs.YtbdahlfakinagaaDoor
open Go.RowKit Go.Rg
section
variable {P : Program}
/-- The address of s[q:], s of capacity c. -/
def fromAddr (A : Option Addr) (c q : Nat) : Option Addr := if c = q then A else A.map (·.add q)
theorem fromAddr_none {c q : Nat} : fromAddr none c q = none := by unfold fromAddr; split <;> rfl
theorem fromAddr_eq_none {A : Option Addr} {c q : Nat} (h : fromAddr A c q = none) : A = none := by
  unfold fromAddr at h
  split at h
  · exact h
  · cases A with
    | none => rfl
    | some a => simp at h
theorem Row.from_ {w : World} {B n c q : Nat} {A : Option Addr} {xs : List Value} (h : Row w B 1 A n xs) (hq : q ≤ n) (hc : n ≤ c) : Row w B 1 (fromAddr A c q) (n - q) (xs.drop q) := by
  have hl := h.len
  refine ⟨by simp; omega, fun hn => ?_⟩
  obtain ⟨b, o, e, hb, hcell⟩ := h.2 (by omega)
  subst e
  refine ⟨b, o + q, ?_, hb, fun j u hu => ?_⟩
  · unfold fromAddr
    rw [if_neg (by omega)]
    simp only [Option.map_some, Addr.add]
    by_cases h0 : q = 0
    · subst h0; simp
    · simp [h0]
  · rw [List.getElem?_drop] at hu
    have := hcell (q + j) u hu
    rwa [Nat.add_assoc]
theorem run_from {w : World} {t e : TypeId} {i : TypeInfo} (ht : P.underlying t = some (.slice e)) (hi : P.info? e = some i) (hs : i.size = 1) (A : Option Addr) (n c q : Nat) (hq : q ≤ n) :
    (Instr.slice t (.slice A n c) (some (.int .i64 (q : Int))) none none).run P w = .ok (.slice (fromAddr A c q) (n - q) (c - q)) w := by
  have hq' : ¬ n < q := by omega
  simp [Instr.slice, run_underlying ht, Instr.sliceBounds, Instr.sliceBound, asIntOf, hq', sizeOf, typeInfo, hi, hs, fromAddr]
theorem comes_from {o : Oper} {a : Act} {w : World} {R : Value → World → Prop} (x lo : Operand) (t e : TypeId) (i : TypeInfo)
    (ho : o.op = .slice t x (some lo) none none) (ht : P.underlying t = some (.slice e)) (hi : P.info? e = some i) (hs : i.size = 1) (A : Option Addr) (n c q : Nat) (hx : a.eval x = .slice A n c) (hlo : a.eval lo = .int .i64 (q : Int)) (hq : q ≤ n)
    (hR : R (.slice (fromAddr A c q) (n - q) (c - q)) w) : comes P o a w R := by
  have hr := run_from (w := w) ht hi hs A n c q hq
  have hsa : (Instr.sliceAt t (.slice A n c) (some (.int .i64 (q : Int))) none none).run P w = .ok (.slice (fromAddr A c q) (n - q) (c - q)) w := by rw [← hr]; simp [Instr.sliceAt, run_underlying ht]
  unfold comes execOp
  simp only [ho, Option.map_some, Option.map_none, hx, hlo, Sem.run_bind, hsa, Result.andThen_ok, Sem.run_pure]
  exact hR
theorem own_bd {w : World} {base n c : Nat} {e : TypeId} {A : Option Addr} {xs : List Value} (h : w.ownsRow base e 1 (.slice A n c) n xs) : n ≤ c ∧ c ≤ 9223372036854775807 := by
  obtain ⟨_, c', e, h1, h2⟩ := own_form h
  injection e with _ _ e3
  omega
end
end Go.Proofs.YtbdahlfakinagaaDoor
