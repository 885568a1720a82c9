/- Rollouts: the reference's Command. -/
import Derived.Test.YtidndcigloohoaaRoll2
set_option linter.unusedVariables false
namespace Go.Proofs.Ytidndcigloohoaa
open Go.RowKit Go.Rg

set_option maxHeartbeats 2000000 in
theorem refCmd_1 (r : Ro) (w : World) : Calls Try.prog 32 #[rv r, .int .i64 1] w fun e w' => e = .returned (.tuple #[rv (cmdR r 1).1, .int .i64 (cmdR r 1).2]) ∧ Ext w w' := by
  obtain ⟨s, g, h, t, e, a⟩ := r
  by_cases s0 : s = 0
  · subst s0
    rw [show cmdR ⟨0, g, h, t, e, a⟩ 1 = (at_ 1, 0) by simp [cmdR]]
    go_enter Try.func32, Try.ntmps32
    go_wp2
    refine bodyPost_ret (v := .tuple #[.agg #[.int .i64 1, .int .i64 0, .int .i64 0, .int .i64 0, .int .i64 0, .int .i64 0], .int .i64 0]) (by simp [results, Try.results32, go_sem]) rfl ?_
    refine ⟨rfl, ?_⟩
    repeat (first | exact Ext.refl _ | apply Ext.drew | apply Ext.drewN | apply Ext.plus_ | apply Ext.alloc | assumption)
  by_cases s1 : s = 1
  · subst s1
    rw [show cmdR ⟨1, g, h, t, e, a⟩ 1 = (at_ 0, 7) by simp [cmdR]]
    go_enter Try.func32, Try.ntmps32
    go_wp2
    refine bodyPost_ret (v := .tuple #[.agg #[.int .i64 0, .int .i64 0, .int .i64 0, .int .i64 0, .int .i64 0, .int .i64 0], .int .i64 7]) (by simp [results, Try.results32, go_sem]) rfl ?_
    refine ⟨rfl, ?_⟩
    repeat (first | exact Ext.refl _ | apply Ext.drew | apply Ext.drewN | apply Ext.plus_ | apply Ext.alloc | assumption)
  by_cases s4 : s = 4
  · subst s4
    rw [show cmdR ⟨4, g, h, t, e, a⟩ 1 = (at_ 0, 7) by simp [cmdR]]
    go_enter Try.func32, Try.ntmps32
    go_wp2
    refine bodyPost_ret (v := .tuple #[.agg #[.int .i64 0, .int .i64 0, .int .i64 0, .int .i64 0, .int .i64 0, .int .i64 0], .int .i64 7]) (by simp [results, Try.results32, go_sem]) rfl ?_
    refine ⟨rfl, ?_⟩
    repeat (first | exact Ext.refl _ | apply Ext.drew | apply Ext.drewN | apply Ext.plus_ | apply Ext.alloc | assumption)
  by_cases s2 : s = 2
  · subst s2
    rw [show cmdR ⟨2, g, h, t, e, a⟩ 1 = (at_ 0, 7) by simp [cmdR]]
    go_enter Try.func32, Try.ntmps32
    go_wp2
    refine bodyPost_ret (v := .tuple #[.agg #[.int .i64 0, .int .i64 0, .int .i64 0, .int .i64 0, .int .i64 0, .int .i64 0], .int .i64 7]) (by simp [results, Try.results32, go_sem]) rfl ?_
    refine ⟨rfl, ?_⟩
    repeat (first | exact Ext.refl _ | apply Ext.drew | apply Ext.drewN | apply Ext.plus_ | apply Ext.alloc | assumption)
  · skip
    have e0 : (s == 0) = false := by simp [s0]
    have e1 : (s == 1) = false := by simp [s1]
    have e4 : (s == 4) = false := by simp [s4]
    have e2 : (s == 2) = false := by simp [s2]
    rw [show cmdR ⟨s, g, h, t, e, a⟩ 1 = (at_ 0, 7) by simp [cmdR, s0, s1, s4, s2]]
    go_enter Try.func32, Try.ntmps32
    go_wp2
    refine bodyPost_ret (v := .tuple #[.agg #[.int .i64 0, .int .i64 0, .int .i64 0, .int .i64 0, .int .i64 0, .int .i64 0], .int .i64 7]) (by simp [results, Try.results32, go_sem]) rfl ?_
    refine ⟨rfl, ?_⟩
    repeat (first | exact Ext.refl _ | apply Ext.drew | apply Ext.drewN | apply Ext.plus_ | apply Ext.alloc | assumption)
set_option maxHeartbeats 2000000 in
theorem refCmd_2 (r : Ro) (w : World) : Calls Try.prog 32 #[rv r, .int .i64 2] w fun e w' => e = .returned (.tuple #[rv (cmdR r 2).1, .int .i64 (cmdR r 2).2]) ∧ Ext w w' := by
  obtain ⟨s, g, h, t, e, a⟩ := r
  by_cases s0 : s = 0
  · subst s0
    rw [show cmdR ⟨0, g, h, t, e, a⟩ 2 = (at_ 0, 7) by simp [cmdR]]
    go_enter Try.func32, Try.ntmps32
    go_wp2
    refine bodyPost_ret (v := .tuple #[.agg #[.int .i64 0, .int .i64 0, .int .i64 0, .int .i64 0, .int .i64 0, .int .i64 0], .int .i64 7]) (by simp [results, Try.results32, go_sem]) rfl ?_
    refine ⟨rfl, ?_⟩
    repeat (first | exact Ext.refl _ | apply Ext.drew | apply Ext.drewN | apply Ext.plus_ | apply Ext.alloc | assumption)
  by_cases s1 : s = 1
  · subst s1
    rw [show cmdR ⟨1, g, h, t, e, a⟩ 2 = (⟨4, g, h, t, e, a⟩, 0) by simp [cmdR]]
    go_enter Try.func32, Try.ntmps32
    go_wp2
    refine bodyPost_ret (v := .tuple #[.agg #[.int .i64 4, .int .i64 g, .int .i64 h, .int .i64 t, .int .i64 e, .int .i64 a], .int .i64 0]) (by simp [results, Try.results32, go_sem]) rfl ?_
    refine ⟨rfl, ?_⟩
    repeat (first | exact Ext.refl _ | apply Ext.drew | apply Ext.drewN | apply Ext.plus_ | apply Ext.alloc | assumption)
  by_cases s4 : s = 4
  · subst s4
    rw [show cmdR ⟨4, g, h, t, e, a⟩ 2 = (at_ 0, 7) by simp [cmdR]]
    go_enter Try.func32, Try.ntmps32
    go_wp2
    refine bodyPost_ret (v := .tuple #[.agg #[.int .i64 0, .int .i64 0, .int .i64 0, .int .i64 0, .int .i64 0, .int .i64 0], .int .i64 7]) (by simp [results, Try.results32, go_sem]) rfl ?_
    refine ⟨rfl, ?_⟩
    repeat (first | exact Ext.refl _ | apply Ext.drew | apply Ext.drewN | apply Ext.plus_ | apply Ext.alloc | assumption)
  by_cases s2 : s = 2
  · subst s2
    rw [show cmdR ⟨2, g, h, t, e, a⟩ 2 = (at_ 0, 7) by simp [cmdR]]
    go_enter Try.func32, Try.ntmps32
    go_wp2
    refine bodyPost_ret (v := .tuple #[.agg #[.int .i64 0, .int .i64 0, .int .i64 0, .int .i64 0, .int .i64 0, .int .i64 0], .int .i64 7]) (by simp [results, Try.results32, go_sem]) rfl ?_
    refine ⟨rfl, ?_⟩
    repeat (first | exact Ext.refl _ | apply Ext.drew | apply Ext.drewN | apply Ext.plus_ | apply Ext.alloc | assumption)
  · skip
    have e0 : (s == 0) = false := by simp [s0]
    have e1 : (s == 1) = false := by simp [s1]
    have e4 : (s == 4) = false := by simp [s4]
    have e2 : (s == 2) = false := by simp [s2]
    rw [show cmdR ⟨s, g, h, t, e, a⟩ 2 = (at_ 0, 7) by simp [cmdR, s0, s1, s4, s2]]
    go_enter Try.func32, Try.ntmps32
    go_wp2
    refine bodyPost_ret (v := .tuple #[.agg #[.int .i64 0, .int .i64 0, .int .i64 0, .int .i64 0, .int .i64 0, .int .i64 0], .int .i64 7]) (by simp [results, Try.results32, go_sem]) rfl ?_
    refine ⟨rfl, ?_⟩
    repeat (first | exact Ext.refl _ | apply Ext.drew | apply Ext.drewN | apply Ext.plus_ | apply Ext.alloc | assumption)
set_option maxHeartbeats 2000000 in
theorem refCmd_3 (r : Ro) (w : World) : Calls Try.prog 32 #[rv r, .int .i64 3] w fun e w' => e = .returned (.tuple #[rv (cmdR r 3).1, .int .i64 (cmdR r 3).2]) ∧ Ext w w' := by
  obtain ⟨s, g, h, t, e, a⟩ := r
  by_cases s0 : s = 0
  · subst s0
    rw [show cmdR ⟨0, g, h, t, e, a⟩ 3 = (at_ 0, 7) by simp [cmdR]]
    go_enter Try.func32, Try.ntmps32
    go_wp2
    refine bodyPost_ret (v := .tuple #[.agg #[.int .i64 0, .int .i64 0, .int .i64 0, .int .i64 0, .int .i64 0, .int .i64 0], .int .i64 7]) (by simp [results, Try.results32, go_sem]) rfl ?_
    refine ⟨rfl, ?_⟩
    repeat (first | exact Ext.refl _ | apply Ext.drew | apply Ext.drewN | apply Ext.plus_ | apply Ext.alloc | assumption)
  by_cases s1 : s = 1
  · subst s1
    rw [show cmdR ⟨1, g, h, t, e, a⟩ 3 = (at_ 0, 7) by simp [cmdR]]
    go_enter Try.func32, Try.ntmps32
    go_wp2
    refine bodyPost_ret (v := .tuple #[.agg #[.int .i64 0, .int .i64 0, .int .i64 0, .int .i64 0, .int .i64 0, .int .i64 0], .int .i64 7]) (by simp [results, Try.results32, go_sem]) rfl ?_
    refine ⟨rfl, ?_⟩
    repeat (first | exact Ext.refl _ | apply Ext.drew | apply Ext.drewN | apply Ext.plus_ | apply Ext.alloc | assumption)
  by_cases s4 : s = 4
  · subst s4
    rw [show cmdR ⟨4, g, h, t, e, a⟩ 3 = (⟨1, g, h, t, e, a⟩, 0) by simp [cmdR]]
    go_enter Try.func32, Try.ntmps32
    go_wp2
    refine bodyPost_ret (v := .tuple #[.agg #[.int .i64 1, .int .i64 g, .int .i64 h, .int .i64 t, .int .i64 e, .int .i64 a], .int .i64 0]) (by simp [results, Try.results32, go_sem]) rfl ?_
    refine ⟨rfl, ?_⟩
    repeat (first | exact Ext.refl _ | apply Ext.drew | apply Ext.drewN | apply Ext.plus_ | apply Ext.alloc | assumption)
  by_cases s2 : s = 2
  · subst s2
    rw [show cmdR ⟨2, g, h, t, e, a⟩ 3 = (at_ 0, 7) by simp [cmdR]]
    go_enter Try.func32, Try.ntmps32
    go_wp2
    refine bodyPost_ret (v := .tuple #[.agg #[.int .i64 0, .int .i64 0, .int .i64 0, .int .i64 0, .int .i64 0, .int .i64 0], .int .i64 7]) (by simp [results, Try.results32, go_sem]) rfl ?_
    refine ⟨rfl, ?_⟩
    repeat (first | exact Ext.refl _ | apply Ext.drew | apply Ext.drewN | apply Ext.plus_ | apply Ext.alloc | assumption)
  · skip
    have e0 : (s == 0) = false := by simp [s0]
    have e1 : (s == 1) = false := by simp [s1]
    have e4 : (s == 4) = false := by simp [s4]
    have e2 : (s == 2) = false := by simp [s2]
    rw [show cmdR ⟨s, g, h, t, e, a⟩ 3 = (at_ 0, 7) by simp [cmdR, s0, s1, s4, s2]]
    go_enter Try.func32, Try.ntmps32
    go_wp2
    refine bodyPost_ret (v := .tuple #[.agg #[.int .i64 0, .int .i64 0, .int .i64 0, .int .i64 0, .int .i64 0, .int .i64 0], .int .i64 7]) (by simp [results, Try.results32, go_sem]) rfl ?_
    refine ⟨rfl, ?_⟩
    repeat (first | exact Ext.refl _ | apply Ext.drew | apply Ext.drewN | apply Ext.plus_ | apply Ext.alloc | assumption)
set_option maxHeartbeats 2000000 in
theorem refCmd_4 (r : Ro) (w : World) : Calls Try.prog 32 #[rv r, .int .i64 4] w fun e w' => e = .returned (.tuple #[rv (cmdR r 4).1, .int .i64 (cmdR r 4).2]) ∧ Ext w w' := by
  obtain ⟨s, g, h, t, e, a⟩ := r
  by_cases s0 : s = 0
  · subst s0
    rw [show cmdR ⟨0, g, h, t, e, a⟩ 4 = (at_ 0, 7) by simp [cmdR]]
    go_enter Try.func32, Try.ntmps32
    go_wp2
    refine bodyPost_ret (v := .tuple #[.agg #[.int .i64 0, .int .i64 0, .int .i64 0, .int .i64 0, .int .i64 0, .int .i64 0], .int .i64 7]) (by simp [results, Try.results32, go_sem]) rfl ?_
    refine ⟨rfl, ?_⟩
    repeat (first | exact Ext.refl _ | apply Ext.drew | apply Ext.drewN | apply Ext.plus_ | apply Ext.alloc | assumption)
  by_cases s1 : s = 1
  · subst s1
    rw [show cmdR ⟨1, g, h, t, e, a⟩ 4 = (at_ 2, 0) by simp [cmdR]]
    go_enter Try.func32, Try.ntmps32
    go_wp2
    refine bodyPost_ret (v := .tuple #[.agg #[.int .i64 2, .int .i64 0, .int .i64 0, .int .i64 0, .int .i64 0, .int .i64 0], .int .i64 0]) (by simp [results, Try.results32, go_sem]) rfl ?_
    refine ⟨rfl, ?_⟩
    repeat (first | exact Ext.refl _ | apply Ext.drew | apply Ext.drewN | apply Ext.plus_ | apply Ext.alloc | assumption)
  by_cases s4 : s = 4
  · subst s4
    rw [show cmdR ⟨4, g, h, t, e, a⟩ 4 = (at_ 2, 0) by simp [cmdR]]
    go_enter Try.func32, Try.ntmps32
    go_wp2
    refine bodyPost_ret (v := .tuple #[.agg #[.int .i64 2, .int .i64 0, .int .i64 0, .int .i64 0, .int .i64 0, .int .i64 0], .int .i64 0]) (by simp [results, Try.results32, go_sem]) rfl ?_
    refine ⟨rfl, ?_⟩
    repeat (first | exact Ext.refl _ | apply Ext.drew | apply Ext.drewN | apply Ext.plus_ | apply Ext.alloc | assumption)
  by_cases s2 : s = 2
  · subst s2
    rw [show cmdR ⟨2, g, h, t, e, a⟩ 4 = (at_ 0, 7) by simp [cmdR]]
    go_enter Try.func32, Try.ntmps32
    go_wp2
    refine bodyPost_ret (v := .tuple #[.agg #[.int .i64 0, .int .i64 0, .int .i64 0, .int .i64 0, .int .i64 0, .int .i64 0], .int .i64 7]) (by simp [results, Try.results32, go_sem]) rfl ?_
    refine ⟨rfl, ?_⟩
    repeat (first | exact Ext.refl _ | apply Ext.drew | apply Ext.drewN | apply Ext.plus_ | apply Ext.alloc | assumption)
  · skip
    have e0 : (s == 0) = false := by simp [s0]
    have e1 : (s == 1) = false := by simp [s1]
    have e4 : (s == 4) = false := by simp [s4]
    have e2 : (s == 2) = false := by simp [s2]
    rw [show cmdR ⟨s, g, h, t, e, a⟩ 4 = (at_ 0, 7) by simp [cmdR, s0, s1, s4, s2]]
    go_enter Try.func32, Try.ntmps32
    go_wp2
    refine bodyPost_ret (v := .tuple #[.agg #[.int .i64 0, .int .i64 0, .int .i64 0, .int .i64 0, .int .i64 0, .int .i64 0], .int .i64 7]) (by simp [results, Try.results32, go_sem]) rfl ?_
    refine ⟨rfl, ?_⟩
    repeat (first | exact Ext.refl _ | apply Ext.drew | apply Ext.drewN | apply Ext.plus_ | apply Ext.alloc | assumption)
set_option maxHeartbeats 2000000 in
theorem refCmd_5 (r : Ro) (w : World) : Calls Try.prog 32 #[rv r, .int .i64 5] w fun e w' => e = .returned (.tuple #[rv (cmdR r 5).1, .int .i64 (cmdR r 5).2]) ∧ Ext w w' := by
  obtain ⟨s, g, h, t, e, a⟩ := r
  by_cases s0 : s = 0
  · subst s0
    rw [show cmdR ⟨0, g, h, t, e, a⟩ 5 = (at_ 0, 7) by simp [cmdR]]
    go_enter Try.func32, Try.ntmps32
    go_wp2
    refine bodyPost_ret (v := .tuple #[.agg #[.int .i64 0, .int .i64 0, .int .i64 0, .int .i64 0, .int .i64 0, .int .i64 0], .int .i64 7]) (by simp [results, Try.results32, go_sem]) rfl ?_
    refine ⟨rfl, ?_⟩
    repeat (first | exact Ext.refl _ | apply Ext.drew | apply Ext.drewN | apply Ext.plus_ | apply Ext.alloc | assumption)
  by_cases s1 : s = 1
  · subst s1
    rw [show cmdR ⟨1, g, h, t, e, a⟩ 5 = (at_ 3, 0) by simp [cmdR]]
    go_enter Try.func32, Try.ntmps32
    go_wp2
    refine bodyPost_ret (v := .tuple #[.agg #[.int .i64 3, .int .i64 0, .int .i64 0, .int .i64 0, .int .i64 0, .int .i64 0], .int .i64 0]) (by simp [results, Try.results32, go_sem]) rfl ?_
    refine ⟨rfl, ?_⟩
    repeat (first | exact Ext.refl _ | apply Ext.drew | apply Ext.drewN | apply Ext.plus_ | apply Ext.alloc | assumption)
  by_cases s4 : s = 4
  · subst s4
    rw [show cmdR ⟨4, g, h, t, e, a⟩ 5 = (at_ 3, 0) by simp [cmdR]]
    go_enter Try.func32, Try.ntmps32
    go_wp2
    refine bodyPost_ret (v := .tuple #[.agg #[.int .i64 3, .int .i64 0, .int .i64 0, .int .i64 0, .int .i64 0, .int .i64 0], .int .i64 0]) (by simp [results, Try.results32, go_sem]) rfl ?_
    refine ⟨rfl, ?_⟩
    repeat (first | exact Ext.refl _ | apply Ext.drew | apply Ext.drewN | apply Ext.plus_ | apply Ext.alloc | assumption)
  by_cases s2 : s = 2
  · subst s2
    rw [show cmdR ⟨2, g, h, t, e, a⟩ 5 = (at_ 3, 0) by simp [cmdR]]
    go_enter Try.func32, Try.ntmps32
    go_wp2
    refine bodyPost_ret (v := .tuple #[.agg #[.int .i64 3, .int .i64 0, .int .i64 0, .int .i64 0, .int .i64 0, .int .i64 0], .int .i64 0]) (by simp [results, Try.results32, go_sem]) rfl ?_
    refine ⟨rfl, ?_⟩
    repeat (first | exact Ext.refl _ | apply Ext.drew | apply Ext.drewN | apply Ext.plus_ | apply Ext.alloc | assumption)
  · skip
    have e0 : (s == 0) = false := by simp [s0]
    have e1 : (s == 1) = false := by simp [s1]
    have e4 : (s == 4) = false := by simp [s4]
    have e2 : (s == 2) = false := by simp [s2]
    rw [show cmdR ⟨s, g, h, t, e, a⟩ 5 = (at_ 0, 7) by simp [cmdR, s0, s1, s4, s2]]
    go_enter Try.func32, Try.ntmps32
    go_wp2
    refine bodyPost_ret (v := .tuple #[.agg #[.int .i64 0, .int .i64 0, .int .i64 0, .int .i64 0, .int .i64 0, .int .i64 0], .int .i64 7]) (by simp [results, Try.results32, go_sem]) rfl ?_
    refine ⟨rfl, ?_⟩
    repeat (first | exact Ext.refl _ | apply Ext.drew | apply Ext.drewN | apply Ext.plus_ | apply Ext.alloc | assumption)
set_option maxHeartbeats 2000000 in
theorem refCmd_6 (r : Ro) (w : World) : Calls Try.prog 32 #[rv r, .int .i64 6] w fun e w' => e = .returned (.tuple #[rv (cmdR r 6).1, .int .i64 (cmdR r 6).2]) ∧ Ext w w' := by
  obtain ⟨s, g, h, t, e, a⟩ := r
  by_cases s0 : s = 0
  · subst s0
    rw [show cmdR ⟨0, g, h, t, e, a⟩ 6 = (at_ 0, 0) by simp [cmdR]]
    go_enter Try.func32, Try.ntmps32
    go_wp2
    refine bodyPost_ret (v := .tuple #[.agg #[.int .i64 0, .int .i64 0, .int .i64 0, .int .i64 0, .int .i64 0, .int .i64 0], .int .i64 0]) (by simp [results, Try.results32, go_sem]) rfl ?_
    refine ⟨rfl, ?_⟩
    repeat (first | exact Ext.refl _ | apply Ext.drew | apply Ext.drewN | apply Ext.plus_ | apply Ext.alloc | assumption)
  by_cases s1 : s = 1
  · subst s1
    rw [show cmdR ⟨1, g, h, t, e, a⟩ 6 = (at_ 0, 0) by simp [cmdR]]
    go_enter Try.func32, Try.ntmps32
    go_wp2
    refine bodyPost_ret (v := .tuple #[.agg #[.int .i64 0, .int .i64 0, .int .i64 0, .int .i64 0, .int .i64 0, .int .i64 0], .int .i64 0]) (by simp [results, Try.results32, go_sem]) rfl ?_
    refine ⟨rfl, ?_⟩
    repeat (first | exact Ext.refl _ | apply Ext.drew | apply Ext.drewN | apply Ext.plus_ | apply Ext.alloc | assumption)
  by_cases s4 : s = 4
  · subst s4
    rw [show cmdR ⟨4, g, h, t, e, a⟩ 6 = (at_ 0, 0) by simp [cmdR]]
    go_enter Try.func32, Try.ntmps32
    go_wp2
    refine bodyPost_ret (v := .tuple #[.agg #[.int .i64 0, .int .i64 0, .int .i64 0, .int .i64 0, .int .i64 0, .int .i64 0], .int .i64 0]) (by simp [results, Try.results32, go_sem]) rfl ?_
    refine ⟨rfl, ?_⟩
    repeat (first | exact Ext.refl _ | apply Ext.drew | apply Ext.drewN | apply Ext.plus_ | apply Ext.alloc | assumption)
  by_cases s2 : s = 2
  · subst s2
    rw [show cmdR ⟨2, g, h, t, e, a⟩ 6 = (at_ 0, 0) by simp [cmdR]]
    go_enter Try.func32, Try.ntmps32
    go_wp2
    refine bodyPost_ret (v := .tuple #[.agg #[.int .i64 0, .int .i64 0, .int .i64 0, .int .i64 0, .int .i64 0, .int .i64 0], .int .i64 0]) (by simp [results, Try.results32, go_sem]) rfl ?_
    refine ⟨rfl, ?_⟩
    repeat (first | exact Ext.refl _ | apply Ext.drew | apply Ext.drewN | apply Ext.plus_ | apply Ext.alloc | assumption)
  · skip
    have e0 : (s == 0) = false := by simp [s0]
    have e1 : (s == 1) = false := by simp [s1]
    have e4 : (s == 4) = false := by simp [s4]
    have e2 : (s == 2) = false := by simp [s2]
    rw [show cmdR ⟨s, g, h, t, e, a⟩ 6 = (at_ 0, 0) by simp [cmdR, s0, s1, s4, s2]]
    go_enter Try.func32, Try.ntmps32
    go_wp2
    refine bodyPost_ret (v := .tuple #[.agg #[.int .i64 0, .int .i64 0, .int .i64 0, .int .i64 0, .int .i64 0, .int .i64 0], .int .i64 0]) (by simp [results, Try.results32, go_sem]) rfl ?_
    refine ⟨rfl, ?_⟩
    repeat (first | exact Ext.refl _ | apply Ext.drew | apply Ext.drewN | apply Ext.plus_ | apply Ext.alloc | assumption)
set_option maxHeartbeats 2000000 in
theorem refCmd_0 (r : Ro) (n : Int) (w : World) (h1 : ¬ n = 1) (h2 : ¬ n = 2) (h3 : ¬ n = 3) (h4 : ¬ n = 4) (h5 : ¬ n = 5) (h6 : ¬ n = 6) : Calls Try.prog 32 #[rv r, .int .i64 n] w fun e w' => e = .returned (.tuple #[rv (cmdR r n).1, .int .i64 (cmdR r n).2]) ∧ Ext w w' := by
  rw [show cmdR r n = (at_ 0, 1) by unfold cmdR; rw [if_neg h1, if_neg h2, if_neg h3, if_neg h4, if_neg h5, if_neg h6]]
  obtain ⟨s, g, h, t, e, a⟩ := r
  by_cases s1 : s = 1
  · subst s1
    go_enter Try.func32, Try.ntmps32
    go_wp2
    refine bodyPost_ret (v := .tuple #[.agg #[.int .i64 0, .int .i64 0, .int .i64 0, .int .i64 0, .int .i64 0, .int .i64 0], .int .i64 1]) (by simp [results, Try.results32, go_sem]) rfl ?_
    refine ⟨rfl, ?_⟩
    repeat (first | exact Ext.refl _ | apply Ext.drew | apply Ext.drewN | apply Ext.plus_ | apply Ext.alloc | assumption)
  by_cases s4 : s = 4
  · subst s4
    go_enter Try.func32, Try.ntmps32
    go_wp2
    refine bodyPost_ret (v := .tuple #[.agg #[.int .i64 0, .int .i64 0, .int .i64 0, .int .i64 0, .int .i64 0, .int .i64 0], .int .i64 1]) (by simp [results, Try.results32, go_sem]) rfl ?_
    refine ⟨rfl, ?_⟩
    repeat (first | exact Ext.refl _ | apply Ext.drew | apply Ext.drewN | apply Ext.plus_ | apply Ext.alloc | assumption)
  · skip
    go_enter Try.func32, Try.ntmps32
    go_wp2
    refine bodyPost_ret (v := .tuple #[.agg #[.int .i64 0, .int .i64 0, .int .i64 0, .int .i64 0, .int .i64 0, .int .i64 0], .int .i64 1]) (by simp [results, Try.results32, go_sem]) rfl ?_
    refine ⟨rfl, ?_⟩
    repeat (first | exact Ext.refl _ | apply Ext.drew | apply Ext.drewN | apply Ext.plus_ | apply Ext.alloc | assumption)
theorem refCommand_any (r : Ro) (n : Int) (w : World) : Calls Try.prog 32 #[rv r, .int .i64 n] w fun e w' => e = .returned (.tuple #[rv (cmdR r n).1, .int .i64 (cmdR r n).2]) ∧ Ext w w' := by
  by_cases h1 : n = 1
  · subst h1; exact refCmd_1 r w
  by_cases h2 : n = 2
  · subst h2; exact refCmd_2 r w
  by_cases h3 : n = 3
  · subst h3; exact refCmd_3 r w
  by_cases h4 : n = 4
  · subst h4; exact refCmd_4 r w
  by_cases h5 : n = 5
  · subst h5; exact refCmd_5 r w
  by_cases h6 : n = 6
  · subst h6; exact refCmd_6 r w
  exact refCmd_0 r n w h1 h2 h3 h4 h5 h6

end Go.Proofs.Ytidndcigloohoaa
