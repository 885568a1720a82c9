/- Ports: classes, new ports. -/
import Derived.Test.YtphbmibgnnobcaaQueueA
import Derived.Test.YtphbmibgnnobcaaBoxes
set_option linter.unusedVariables false
namespace Go.Proofs.Ytphbmibgnnobcaa
open Go.RowKit Go.Rg

/-- The class of an ID. -/
def clsF (i : Int) : Int := if 0 < i ∧ i < 100000 then 1 else if 100000 < i ∧ i < 200000 then 2 else if 200000 < i ∧ i < 300000 then 3 else if 1000000 < i ∧ i < 2000000 then 4 else if 2000000 < i ∧ i < 3000000 then 5 else if 3000000 < i ∧ i ≤ 3900000 then 6 else 0
theorem cls_cases (i : Int) : (0 < i ∧ i < 100000) ∨ (100000 < i ∧ i < 200000) ∨ (200000 < i ∧ i < 300000) ∨ (1000000 < i ∧ i < 2000000) ∨ (2000000 < i ∧ i < 3000000) ∨ (3000000 < i ∧ i ≤ 3900000) ∨ (i ≤ 0) ∨ i = 100000 ∨ i = 200000 ∨ (300000 ≤ i ∧ i ≤ 1000000) ∨ i = 2000000 ∨ i = 3000000 ∨ 3900000 < i := by omega
set_option maxHeartbeats 2000000 in
theorem cls_any (i : Int) (w : World) : Calls Try.prog 7 #[.int .i64 i] w fun e w' => e = .returned (.int .i64 (clsF i)) ∧ Ext w w' := by
  rcases cls_cases i with h | h | h | h | h | h | h | h | h | h | h | h | h
  · rw [show clsF i = 1 by unfold clsF; rw [if_pos h]]
    obtain ⟨h1, h2⟩ := h
    go_enter Try.func7, Try.ntmps7
    go_wp2
    all_goals go_ret
    all_goals exact ⟨rfl, (by repeat (first | exact Ext.refl _ | assumption | apply Ext.plus_ | apply Ext.alloc | apply Ext.drew))⟩
  · rw [show clsF i = 2 by unfold clsF; rw [if_neg (by omega), if_pos h]]
    obtain ⟨h1, h2⟩ := h
    go_enter Try.func7, Try.ntmps7
    go_wp2
    all_goals go_ret
    all_goals exact ⟨rfl, (by repeat (first | exact Ext.refl _ | assumption | apply Ext.plus_ | apply Ext.alloc | apply Ext.drew))⟩
  · rw [show clsF i = 3 by unfold clsF; rw [if_neg (by omega), if_neg (by omega), if_pos h]]
    obtain ⟨h1, h2⟩ := h
    go_enter Try.func7, Try.ntmps7
    go_wp2
    all_goals go_ret
    all_goals exact ⟨rfl, (by repeat (first | exact Ext.refl _ | assumption | apply Ext.plus_ | apply Ext.alloc | apply Ext.drew))⟩
  · rw [show clsF i = 4 by unfold clsF; rw [if_neg (by omega), if_neg (by omega), if_neg (by omega), if_pos h]]
    obtain ⟨h1, h2⟩ := h
    go_enter Try.func7, Try.ntmps7
    go_wp2
    all_goals go_ret
    all_goals exact ⟨rfl, (by repeat (first | exact Ext.refl _ | assumption | apply Ext.plus_ | apply Ext.alloc | apply Ext.drew))⟩
  · rw [show clsF i = 5 by unfold clsF; rw [if_neg (by omega), if_neg (by omega), if_neg (by omega), if_neg (by omega), if_pos h]]
    obtain ⟨h1, h2⟩ := h
    go_enter Try.func7, Try.ntmps7
    go_wp2
    all_goals go_ret
    all_goals exact ⟨rfl, (by repeat (first | exact Ext.refl _ | assumption | apply Ext.plus_ | apply Ext.alloc | apply Ext.drew))⟩
  · rw [show clsF i = 6 by unfold clsF; rw [if_neg (by omega), if_neg (by omega), if_neg (by omega), if_neg (by omega), if_neg (by omega), if_pos h]]
    obtain ⟨h1, h2⟩ := h
    go_enter Try.func7, Try.ntmps7
    go_wp2
    all_goals go_ret
    all_goals exact ⟨rfl, (by repeat (first | exact Ext.refl _ | assumption | apply Ext.plus_ | apply Ext.alloc | apply Ext.drew))⟩
  all_goals rw [show clsF i = 0 by unfold clsF; rw [if_neg (by omega), if_neg (by omega), if_neg (by omega), if_neg (by omega), if_neg (by omega), if_neg (by omega)]]
  all_goals
    go_enter Try.func7, Try.ntmps7
    go_wp2
    all_goals go_ret
    all_goals exact ⟨rfl, (by repeat (first | exact Ext.refl _ | assumption | apply Ext.plus_ | apply Ext.alloc | apply Ext.drew))⟩
set_option maxHeartbeats 2000000 in
theorem refCls_any (i : Int) (w : World) : Calls Try.prog 8 #[.int .i64 i] w fun e w' => e = .returned (.int .i64 (clsF i)) ∧ Ext w w' := by
  rcases cls_cases i with h | h | h | h | h | h | h | h | h | h | h | h | h
  · rw [show clsF i = 1 by unfold clsF; rw [if_pos h]]
    obtain ⟨h1, h2⟩ := h
    go_enter Try.func8, Try.ntmps8
    go_wp2
    all_goals go_ret
    all_goals exact ⟨rfl, (by repeat (first | exact Ext.refl _ | assumption | apply Ext.plus_ | apply Ext.alloc | apply Ext.drew))⟩
  · rw [show clsF i = 2 by unfold clsF; rw [if_neg (by omega), if_pos h]]
    obtain ⟨h1, h2⟩ := h
    go_enter Try.func8, Try.ntmps8
    go_wp2
    all_goals go_ret
    all_goals exact ⟨rfl, (by repeat (first | exact Ext.refl _ | assumption | apply Ext.plus_ | apply Ext.alloc | apply Ext.drew))⟩
  · rw [show clsF i = 3 by unfold clsF; rw [if_neg (by omega), if_neg (by omega), if_pos h]]
    obtain ⟨h1, h2⟩ := h
    go_enter Try.func8, Try.ntmps8
    go_wp2
    all_goals go_ret
    all_goals exact ⟨rfl, (by repeat (first | exact Ext.refl _ | assumption | apply Ext.plus_ | apply Ext.alloc | apply Ext.drew))⟩
  · rw [show clsF i = 4 by unfold clsF; rw [if_neg (by omega), if_neg (by omega), if_neg (by omega), if_pos h]]
    obtain ⟨h1, h2⟩ := h
    go_enter Try.func8, Try.ntmps8
    go_wp2
    all_goals go_ret
    all_goals exact ⟨rfl, (by repeat (first | exact Ext.refl _ | assumption | apply Ext.plus_ | apply Ext.alloc | apply Ext.drew))⟩
  · rw [show clsF i = 5 by unfold clsF; rw [if_neg (by omega), if_neg (by omega), if_neg (by omega), if_neg (by omega), if_pos h]]
    obtain ⟨h1, h2⟩ := h
    go_enter Try.func8, Try.ntmps8
    go_wp2
    all_goals go_ret
    all_goals exact ⟨rfl, (by repeat (first | exact Ext.refl _ | assumption | apply Ext.plus_ | apply Ext.alloc | apply Ext.drew))⟩
  · rw [show clsF i = 6 by unfold clsF; rw [if_neg (by omega), if_neg (by omega), if_neg (by omega), if_neg (by omega), if_neg (by omega), if_pos h]]
    obtain ⟨h1, h2⟩ := h
    go_enter Try.func8, Try.ntmps8
    go_wp2
    all_goals go_ret
    all_goals exact ⟨rfl, (by repeat (first | exact Ext.refl _ | assumption | apply Ext.plus_ | apply Ext.alloc | apply Ext.drew))⟩
  all_goals rw [show clsF i = 0 by unfold clsF; rw [if_neg (by omega), if_neg (by omega), if_neg (by omega), if_neg (by omega), if_neg (by omega), if_neg (by omega)]]
  all_goals
    go_enter Try.func8, Try.ntmps8
    go_wp2
    all_goals go_ret
    all_goals exact ⟨rfl, (by repeat (first | exact Ext.refl _ | assumption | apply Ext.plus_ | apply Ext.alloc | apply Ext.drew))⟩

/-- A port as a value. -/
abbrev pv (id cl ic : Int) (A : Option Addr) (n c : Nat) (oc : Int) (B : Option Addr) (m d : Nat) (bu : Int) (en cg : Bool) : Value :=
  .agg #[.int .i64 id, .int .i64 cl, .int .i64 ic, .slice A n c, .int .i64 oc, .slice B m d, .int .i64 bu, .bool en, .bool cg]
set_option maxHeartbeats 1000000 in
theorem pnew_any (id i o : Int) (w : World) : Calls Try.prog 10 #[.int .i64 id, .int .i64 i, .int .i64 o] w fun e w' => e = .returned (pv id (clsF id) (qcap i) none 0 0 (qcap o) none 0 0 0 false false) ∧ Ext w w' := by
  obtain ⟨cl, hcl⟩ : ∃ c, c = clsF id := ⟨_, rfl⟩
  have C := Lib.hid (fun w => cls_any id w)
  have C1 := Lib.hid (fun w => new_any i w)
  have C2 := Lib.hid (fun w => new_any o w)
  obtain ⟨qi, hqi⟩ : ∃ c, c = qcap i := ⟨_, rfl⟩
  obtain ⟨qo, hqo⟩ : ∃ c, c = qcap o := ⟨_, rfl⟩
  rw [← hcl] at C
  rw [← hqi] at C1
  rw [← hqo] at C2
  rw [← hcl, ← hqi, ← hqo]
  clear hcl hqi hqo
  go_enter Try.func10, Try.ntmps10
  go_wp2_with fail
  refine (C.out _).mono ?_
  rintro e w' ⟨rfl, hE⟩
  obtain ⟨x, rfl⟩ := hE.plus
  clear hE
  go_wp2_with fail
  refine (C1.out _).mono ?_
  rintro e w' ⟨rfl, hE⟩
  obtain ⟨x, rfl⟩ := hE.plus
  clear hE
  go_wp2_with fail
  refine (C2.out _).mono ?_
  rintro e w' ⟨rfl, hE⟩
  obtain ⟨x, rfl⟩ := hE.plus
  clear hE
  go_wp2_with fail
  go_wp2
  refine bodyPost_ret (v := (pv id cl qi none 0 0 qo none 0 0 0 false false)) (by simp [results, Try.results10, go_sem]) rfl ?_
  refine ⟨rfl, ?_⟩
  repeat (first | exact Ext.refl _ | apply Ext.drew | apply Ext.drewN | apply Ext.plus_ | apply Ext.alloc | assumption)
set_option maxHeartbeats 1000000 in
theorem refPnew_any (id i o : Int) (w : World) : Calls Try.prog 11 #[.int .i64 id, .int .i64 i, .int .i64 o] w fun e w' => e = .returned (pv id (clsF id) (qcap i) none 0 0 (qcap o) none 0 0 0 false false) ∧ Ext w w' := by
  obtain ⟨cl, hcl⟩ : ∃ c, c = clsF id := ⟨_, rfl⟩
  have C := Lib.hid (fun w => refCls_any id w)
  have C1 := Lib.hid (fun w => refNew_any i w)
  have C2 := Lib.hid (fun w => refNew_any o w)
  obtain ⟨qi, hqi⟩ : ∃ c, c = qcap i := ⟨_, rfl⟩
  obtain ⟨qo, hqo⟩ : ∃ c, c = qcap o := ⟨_, rfl⟩
  rw [← hcl] at C
  rw [← hqi] at C1
  rw [← hqo] at C2
  rw [← hcl, ← hqi, ← hqo]
  clear hcl hqi hqo
  go_enter Try.func11, Try.ntmps11
  go_wp2_with fail
  refine (C.out _).mono ?_
  rintro e w' ⟨rfl, hE⟩
  obtain ⟨x, rfl⟩ := hE.plus
  clear hE
  go_wp2_with fail
  refine (C1.out _).mono ?_
  rintro e w' ⟨rfl, hE⟩
  obtain ⟨x, rfl⟩ := hE.plus
  clear hE
  go_wp2_with fail
  refine (C2.out _).mono ?_
  rintro e w' ⟨rfl, hE⟩
  obtain ⟨x, rfl⟩ := hE.plus
  clear hE
  go_wp2_with fail
  go_wp2
  refine bodyPost_ret (v := (pv id cl qi none 0 0 qo none 0 0 0 false false)) (by simp [results, Try.results11, go_sem]) rfl ?_
  refine ⟨rfl, ?_⟩
  repeat (first | exact Ext.refl _ | apply Ext.drew | apply Ext.drewN | apply Ext.plus_ | apply Ext.alloc | assumption)
end Go.Proofs.Ytphbmibgnnobcaa
