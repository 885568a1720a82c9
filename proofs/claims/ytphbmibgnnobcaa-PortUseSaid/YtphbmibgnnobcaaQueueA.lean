/- Queues: the same. -/
import Derived.Test.YtphbmibgnnobcaaQueue9
import Derived.Laws.BytesArg
set_option linter.unusedVariables false
namespace Go.Proofs.Ytphbmibgnnobcaa
open Go.RowKit Go.Rg

/-- string(b). -/
theorem bs_str {w : World} {A : Option Addr} {n c : Nat} {l : List Int} {B : Nat} (h : Row w B 1 A n (bytes l)) : (convert 26 9 (.slice A n c)).run Try.prog w = .ok (.string (strOfNums l)) w := by
  have hl : l.length = n := by have := h.len; simpa using this
  rcases Nat.eq_zero_or_pos n with h0 | h0
  · subst h0
    obtain rfl : l = [] := List.eq_nil_of_length_eq_zero hl
    cases A with
    | none => exact run_convert_bytes_nil w _ 5 Try.underlying26 Try.underlying5 0 c _ Try.underlying9
    | some a =>
      have hb : (Conv.bytesToString (.slice (some a) 0 c)).run Try.prog w = .ok (.string (strOfNums [])) w := by
        rw [run_bytesToString w a 0 c [] (by simp [loadCells, loadCellsFrom])]
        rfl
      rw [run_convert_bytes_string w _ _ 5 _ 0 c Try.underlying26 Try.underlying5 Try.underlying9, hb]
  · obtain ⟨b, o, rfl, _, hc⟩ := h.2 h0
    exact run_convert_bytes_arg w _ 5 Try.underlying26 Try.underlying5 b o n c l hl (fun i hi => hc i _ (by simp [List.getD, List.getElem?_eq_getElem (show i < l.length by omega)])) _ Try.underlying9

set_option maxHeartbeats 1000000 in
theorem same_any (k : Int) (A : Option Addr) (n c : Nat) (A' : Option Addr) (n' c' : Nat) (l : List Int) (w : World) (h : Row w w.heap.size 1 A n (bytes l)) (h' : Row w w.heap.size 1 A' n' (bytes l)) :
    Calls Try.prog 31 #[qu k A n c, qu k A' n' c'] w fun e w' => e = .returned (.bool true) ∧ Ext w w' := by
  have s1 := bs_str (c := c) (h.lift (((Ext.refl w).alloc (.cells #[.int .i64 k, .slice A n c] 28)).alloc (.cells #[.int .i64 k, .slice A' n' c'] 28)))
  have s2 := bs_str (c := c') (h'.lift (((Ext.refl w).alloc (.cells #[.int .i64 k, .slice A n c] 28)).alloc (.cells #[.int .i64 k, .slice A' n' c'] 28)))
  go_enter Try.func31, Try.ntmps31
  go_wp2
  go_ret
  exact ⟨by simp, (by repeat (first | exact Ext.refl _ | assumption | apply Ext.plus_ | apply Ext.alloc | apply Ext.drew))⟩
end Go.Proofs.Ytphbmibgnnobcaa
