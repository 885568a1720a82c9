/- Queues: the calls that only look at a queue. -/
import Derived.Test.YtphbmibgnnobcaaRg
import Derived.Test.YtphbmibgnnobcaaRow
set_option linter.unusedVariables false
namespace Go.Proofs.Ytphbmibgnnobcaa
open Go.RowKit Go.Rg

abbrev bytes (l : List Int) : List Value := l.map (Value.int .u8)
abbrev qu (k : Int) (A : Option Addr) (n c : Nat) : Value := .agg #[.int .i64 k, .slice A n c]
/-- A queue with n bytes is valid. -/
def QOK (k : Int) (n : Nat) : Prop := 0 ≤ k ∧ k ≤ 1000000 ∧ (n : Int) ≤ k
instance (k : Int) (n : Nat) : Decidable (QOK k n) := by unfold QOK; infer_instance
def qroom (k : Int) (n : Nat) : Int := if QOK k n then k - n else 0

theorem valid_any (k : Int) (A : Option Addr) (n c : Nat) (w : World) (hn : n ≤ 9223372036854775807) :
    Calls Try.prog 47 #[qu k A n c] w fun e w' => e = .returned (.bool (decide (QOK k n))) ∧ Ext w w' := by
  by_cases h0 : 0 ≤ k
  · by_cases h1 : k ≤ 1000000
    · by_cases h2 : (n : Int) ≤ k
      · have d : decide (QOK k n) = true := decide_eq_true (by unfold QOK; omega)
        rw [d]
        have e0 : decide (0 ≤ k) = true := by simp; omega
        have e1 : decide (k ≤ 1000000) = true := by simp; omega
        have e2 : decide ((n : Int) ≤ k) = true := by simp; omega
        go_enter Try.func47, Try.ntmps47
        go_wp2
        go_ret
        exact ⟨rfl, (by repeat (first | exact Ext.refl _ | assumption | apply Ext.plus_ | apply Ext.alloc | apply Ext.drew))⟩
      · have d : decide (QOK k n) = false := decide_eq_false (by unfold QOK; omega)
        rw [d]
        go_enter Try.func47, Try.ntmps47
        go_wp2
        go_ret
        exact ⟨rfl, (by repeat (first | exact Ext.refl _ | assumption | apply Ext.plus_ | apply Ext.alloc | apply Ext.drew))⟩
    · have d : decide (QOK k n) = false := decide_eq_false (by unfold QOK; omega)
      rw [d]
      go_enter Try.func47, Try.ntmps47
      go_wp2
      go_ret
      exact ⟨rfl, (by repeat (first | exact Ext.refl _ | assumption | apply Ext.plus_ | apply Ext.alloc | apply Ext.drew))⟩
  · have d : decide (QOK k n) = false := decide_eq_false (by unfold QOK; omega)
    rw [d]
    go_enter Try.func47, Try.ntmps47
    go_wp2
    go_ret
    exact ⟨rfl, (by repeat (first | exact Ext.refl _ | assumption | apply Ext.plus_ | apply Ext.alloc | apply Ext.drew))⟩
theorem refValid_any (k : Int) (A : Option Addr) (n c : Nat) (w : World) (hn : n ≤ 9223372036854775807) :
    Calls Try.prog 36 #[qu k A n c] w fun e w' => e = .returned (.bool (decide (QOK k n))) ∧ Ext w w' := by
  by_cases h0 : 0 ≤ k
  · by_cases h1 : k ≤ 1000000
    · by_cases h2 : (n : Int) ≤ k
      · have d : decide (QOK k n) = true := decide_eq_true (by unfold QOK; omega)
        rw [d]
        have e0 : decide (0 ≤ k) = true := by simp; omega
        have e1 : decide (k ≤ 1000000) = true := by simp; omega
        have e2 : decide ((n : Int) ≤ k) = true := by simp; omega
        go_enter Try.func36, Try.ntmps36
        go_wp2
        go_ret
        exact ⟨rfl, (by repeat (first | exact Ext.refl _ | assumption | apply Ext.plus_ | apply Ext.alloc | apply Ext.drew))⟩
      · have d : decide (QOK k n) = false := decide_eq_false (by unfold QOK; omega)
        rw [d]
        go_enter Try.func36, Try.ntmps36
        go_wp2
        go_ret
        exact ⟨rfl, (by repeat (first | exact Ext.refl _ | assumption | apply Ext.plus_ | apply Ext.alloc | apply Ext.drew))⟩
    · have d : decide (QOK k n) = false := decide_eq_false (by unfold QOK; omega)
      rw [d]
      go_enter Try.func36, Try.ntmps36
      go_wp2
      go_ret
      exact ⟨rfl, (by repeat (first | exact Ext.refl _ | assumption | apply Ext.plus_ | apply Ext.alloc | apply Ext.drew))⟩
  · have d : decide (QOK k n) = false := decide_eq_false (by unfold QOK; omega)
    rw [d]
    go_enter Try.func36, Try.ntmps36
    go_wp2
    go_ret
    exact ⟨rfl, (by repeat (first | exact Ext.refl _ | assumption | apply Ext.plus_ | apply Ext.alloc | apply Ext.drew))⟩

theorem room_any (k : Int) (A : Option Addr) (n c : Nat) (w : World) (hn : n ≤ 9223372036854775807) :
    Calls Try.prog 35 #[qu k A n c] w fun e w' => e = .returned (.int .i64 (qroom k n)) ∧ Ext w w' := by
  unfold qroom
  by_cases h : QOK k n
  · have d : decide (QOK k n) = true := decide_eq_true h
    have H := Lib.hid d
    rw [if_pos h]
    obtain ⟨h0, h1, h2⟩ := h
    go_enter Try.func35, Try.ntmps35
    go_wp2_with fail
    refine (valid_any k A n c _ hn).mono ?_
    rw [H.out]
    rintro e w' ⟨rfl, hE⟩
    obtain ⟨x, rfl⟩ := hE.plus
    clear hE
    go_wp2
    go_ret
    exact ⟨rfl, (by repeat (first | exact Ext.refl _ | assumption | apply Ext.plus_ | apply Ext.alloc | apply Ext.drew))⟩
  · have d : decide (QOK k n) = false := decide_eq_false h
    rw [if_neg h]
    go_enter Try.func35, Try.ntmps35
    go_wp2_with fail
    refine (valid_any k A n c _ hn).mono ?_
    rw [d]
    rintro e w' ⟨rfl, hE⟩
    obtain ⟨x, rfl⟩ := hE.plus
    clear hE
    go_wp2
    go_ret
    exact ⟨rfl, (by repeat (first | exact Ext.refl _ | assumption | apply Ext.plus_ | apply Ext.alloc | apply Ext.drew))⟩
theorem refRoom_any (k : Int) (A : Option Addr) (n c : Nat) (w : World) (hn : n ≤ 9223372036854775807) :
    Calls Try.prog 44 #[qu k A n c] w fun e w' => e = .returned (.int .i64 (qroom k n)) ∧ Ext w w' := by
  unfold qroom
  by_cases h : QOK k n
  · have d : decide (QOK k n) = true := decide_eq_true h
    have H := Lib.hid d
    rw [if_pos h]
    obtain ⟨h0, h1, h2⟩ := h
    go_enter Try.func44, Try.ntmps44
    go_wp2_with fail
    refine (refValid_any k A n c _ hn).mono ?_
    rw [H.out]
    rintro e w' ⟨rfl, hE⟩
    obtain ⟨x, rfl⟩ := hE.plus
    clear hE
    go_wp2
    go_ret
    exact ⟨rfl, (by repeat (first | exact Ext.refl _ | assumption | apply Ext.plus_ | apply Ext.alloc | apply Ext.drew))⟩
  · have d : decide (QOK k n) = false := decide_eq_false h
    rw [if_neg h]
    go_enter Try.func44, Try.ntmps44
    go_wp2_with fail
    refine (refValid_any k A n c _ hn).mono ?_
    rw [d]
    rintro e w' ⟨rfl, hE⟩
    obtain ⟨x, rfl⟩ := hE.plus
    clear hE
    go_wp2
    go_ret
    exact ⟨rfl, (by repeat (first | exact Ext.refl _ | assumption | apply Ext.plus_ | apply Ext.alloc | apply Ext.drew))⟩

def qcap (most : Int) : Int := if most < 0 then 0 else if most ≤ 1000000 then most else 1000000
theorem new_any (most : Int) (w : World) :
    Calls Try.prog 32 #[.int .i64 most] w fun e w' => e = .returned (qu (qcap most) none 0 0) ∧ Ext w w' := by
  unfold qcap
  by_cases h0 : most < 0
  · rw [if_pos h0]
    go_enter Try.func32, Try.ntmps32
    go_wp2
    refine bodyPost_ret (v := (qu 0 none 0 0)) (by simp [results, Try.results32, go_sem]) rfl ?_
    exact ⟨rfl, (by repeat (first | exact Ext.refl _ | assumption | apply Ext.plus_ | apply Ext.alloc | apply Ext.drew))⟩
  · rw [if_neg h0]
    by_cases h1 : most ≤ 1000000
    · rw [if_pos h1]
      go_enter Try.func32, Try.ntmps32
      go_wp2
      refine bodyPost_ret (v := (qu most none 0 0)) (by simp [results, Try.results32, go_sem]) rfl ?_
      exact ⟨rfl, (by repeat (first | exact Ext.refl _ | assumption | apply Ext.plus_ | apply Ext.alloc | apply Ext.drew))⟩
    · rw [if_neg h1]
      go_enter Try.func32, Try.ntmps32
      go_wp2
      refine bodyPost_ret (v := (qu 1000000 none 0 0)) (by simp [results, Try.results32, go_sem]) rfl ?_
      exact ⟨rfl, (by repeat (first | exact Ext.refl _ | assumption | apply Ext.plus_ | apply Ext.alloc | apply Ext.drew))⟩
theorem refNew_any (most : Int) (w : World) :
    Calls Try.prog 33 #[.int .i64 most] w fun e w' => e = .returned (qu (qcap most) none 0 0) ∧ Ext w w' := by
  unfold qcap
  by_cases h0 : most < 0
  · rw [if_pos h0]
    go_enter Try.func33, Try.ntmps33
    go_wp2
    refine bodyPost_ret (v := (qu 0 none 0 0)) (by simp [results, Try.results33, go_sem]) rfl ?_
    exact ⟨rfl, (by repeat (first | exact Ext.refl _ | assumption | apply Ext.plus_ | apply Ext.alloc | apply Ext.drew))⟩
  · rw [if_neg h0]
    by_cases h1 : most ≤ 1000000
    · rw [if_pos h1]
      go_enter Try.func33, Try.ntmps33
      go_wp2
      refine bodyPost_ret (v := (qu most none 0 0)) (by simp [results, Try.results33, go_sem]) rfl ?_
      exact ⟨rfl, (by repeat (first | exact Ext.refl _ | assumption | apply Ext.plus_ | apply Ext.alloc | apply Ext.drew))⟩
    · rw [if_neg h1]
      go_enter Try.func33, Try.ntmps33
      go_wp2
      refine bodyPost_ret (v := (qu 1000000 none 0 0)) (by simp [results, Try.results33, go_sem]) rfl ?_
      exact ⟨rfl, (by repeat (first | exact Ext.refl _ | assumption | apply Ext.plus_ | apply Ext.alloc | apply Ext.drew))⟩
end Go.Proofs.Ytphbmibgnnobcaa
