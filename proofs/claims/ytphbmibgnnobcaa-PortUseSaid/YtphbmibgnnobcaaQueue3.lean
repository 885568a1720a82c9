/- Queues: how many bytes a Take removes. -/
import Derived.Test.YtphbmibgnnobcaaQueue2
set_option linter.unusedVariables false
namespace Go.Proofs.Ytphbmibgnnobcaa
open Go.RowKit Go.Rg

def qfirst (k : Int) (n : Nat) (m : Int) : Int := if QOK k n then (if m < 0 then 0 else if m ≤ n then m else n) else 0

theorem first_any (k : Int) (A : Option Addr) (n c : Nat) (m : Int) (w : World) (hn : n ≤ 9223372036854775807) :
    Calls Try.prog 50 #[qu k A n c, .int .i64 m] w fun e w' => e = .returned (.int .i64 (qfirst k n m)) ∧ Ext w w' := by
  unfold qfirst
  by_cases h : QOK k n
  · have H := Lib.hid (show decide (QOK k n) = true from decide_eq_true h)
    rw [if_pos h]
    clear h
    by_cases h0 : m < 0
    · rw [if_pos h0]
      have t1 : decide (m < 0) = true := by simp; omega
      have t2 : ¬ ((n : Int) < 0) := by omega
      go_enter Try.func50, Try.ntmps50
      go_wp2_with fail
      refine (valid_any k A n c _ hn).mono ?_
      rw [H.out]
      rintro e w' ⟨rfl, hE⟩
      obtain ⟨x, rfl⟩ := hE.plus
      clear hE
      go_wp2
      go_ret
      exact ⟨rfl, (by repeat (first | exact Ext.refl _ | assumption | apply Ext.plus_ | apply Ext.alloc | apply Ext.drew))⟩
    · rw [if_neg h0]
      by_cases h1 : m ≤ n
      · rw [if_pos h1]
        go_enter Try.func50, Try.ntmps50
        go_wp2_with fail
        refine (valid_any k A n c _ hn).mono ?_
        rw [H.out]
        rintro e w' ⟨rfl, hE⟩
        obtain ⟨x, rfl⟩ := hE.plus
        clear hE
        go_wp2
        go_ret
        exact ⟨rfl, (by repeat (first | exact Ext.refl _ | assumption | apply Ext.plus_ | apply Ext.alloc | apply Ext.drew))⟩
      · rw [if_neg h1]
        go_enter Try.func50, Try.ntmps50
        go_wp2_with fail
        refine (valid_any k A n c _ hn).mono ?_
        rw [H.out]
        rintro e w' ⟨rfl, hE⟩
        obtain ⟨x, rfl⟩ := hE.plus
        clear hE
        go_wp2
        go_ret
        exact ⟨rfl, (by repeat (first | exact Ext.refl _ | assumption | apply Ext.plus_ | apply Ext.alloc | apply Ext.drew))⟩
  · have H := Lib.hid (show decide (QOK k n) = false from decide_eq_false h)
    rw [if_neg h]
    clear h
    go_enter Try.func50, Try.ntmps50
    go_wp2_with fail
    refine (valid_any k A n c _ hn).mono ?_
    rw [H.out]
    rintro e w' ⟨rfl, hE⟩
    obtain ⟨x, rfl⟩ := hE.plus
    clear hE
    go_wp2
    go_ret
    exact ⟨rfl, (by repeat (first | exact Ext.refl _ | assumption | apply Ext.plus_ | apply Ext.alloc | apply Ext.drew))⟩
end Go.Proofs.Ytphbmibgnnobcaa
