/- The window package's functions and their references: what each call computes. -/
import Derived.Test.YtidndcigloohoaaRows
import Derived.WalkKit
import Derived.WalkSpells
import Derived.WalkLawsBesides
import Derived.Lib.Hide
import Derived.Test.YtidndcigloohoaaPlus
import Derived.Test.YtidndcigloohoaaWithin
set_option linter.unusedVariables false
namespace Go.Proofs.Ytidndcigloohoaa
open Go.RowKit Go.Rg

abbrev win (t e a : Int) : Value := .agg #[.int .i64 t, .int .i64 e, .int .i64 a]

set_option maxHeartbeats 400000 in
theorem tick_closes (t e a L : Int) (w : World) (hL : L ≤ 9223372036854775807) (h : L ≤ max a 0 + 1) :
    Calls Try.prog 24 #[win t e a, .int .i64 L] w fun e w' => e = .returned (.tuple #[win 0 0 0, .bool true]) ∧ Ext w w' := by
  rcases Int.lt_or_le a 0 with h0 | h0
  all_goals
  go_enter Try.func24, Try.ntmps24
  go_wp2
  all_goals
    refine bodyPost_ret (v := .tuple #[win 0 0 0, .bool true]) (by simp [results, Try.results24, go_sem]) rfl ⟨rfl, ?_⟩
    repeat (first | exact Ext.refl _ | apply Ext.drew | apply Ext.drewN | apply Ext.plus_ | apply Ext.alloc | assumption)

set_option maxHeartbeats 400000 in
theorem tick_goes (t e a L : Int) (w : World) (hL : L ≤ 9223372036854775807) (h : max a 0 + 1 < L) :
    Calls Try.prog 24 #[win t e a, .int .i64 L] w fun ee w' => ee = .returned (.tuple #[win t e (max a 0 + 1), .bool false]) ∧ Ext w w' := by
  rcases Int.lt_or_le a 0 with h0 | h0
  · have hm : max a 0 = 0 := by omega
    rw [hm] at h ⊢
    clear hm
    go_enter Try.func24, Try.ntmps24
    go_wp2
    refine bodyPost_ret (v := .tuple #[win t e (0 + 1), .bool false]) (by simp [results, Try.results24, go_sem]) rfl ⟨rfl, ?_⟩
    repeat (first | exact Ext.refl _ | apply Ext.drew | apply Ext.drewN | apply Ext.plus_ | apply Ext.alloc | assumption)
  · have hm : max a 0 = a := by omega
    rw [hm] at h ⊢
    clear hm
    go_enter Try.func24, Try.ntmps24
    go_wp2
    refine bodyPost_ret (v := .tuple #[win t e (a + 1), .bool false]) (by simp [results, Try.results24, go_sem]) rfl ⟨rfl, ?_⟩
    repeat (first | exact Ext.refl _ | apply Ext.drew | apply Ext.drewN | apply Ext.plus_ | apply Ext.alloc | assumption)
set_option maxHeartbeats 400000 in
theorem refTick_closes (t e a L : Int) (w : World) (hL : L ≤ 9223372036854775807) (h : L ≤ max a 0 + 1) :
    Calls Try.prog 26 #[win t e a, .int .i64 L] w fun e w' => e = .returned (.tuple #[win 0 0 0, .bool true]) ∧ Ext w w' := by
  rcases Int.lt_or_le a 0 with h0 | h0
  all_goals
  go_enter Try.func26, Try.ntmps26
  go_wp2
  all_goals
    refine bodyPost_ret (v := .tuple #[win 0 0 0, .bool true]) (by simp [results, Try.results26, go_sem]) rfl ⟨rfl, ?_⟩
    repeat (first | exact Ext.refl _ | apply Ext.drew | apply Ext.drewN | apply Ext.plus_ | apply Ext.alloc | assumption)

set_option maxHeartbeats 400000 in
theorem refTick_goes (t e a L : Int) (w : World) (hL : L ≤ 9223372036854775807) (h : max a 0 + 1 < L) :
    Calls Try.prog 26 #[win t e a, .int .i64 L] w fun ee w' => ee = .returned (.tuple #[win t e (max a 0 + 1), .bool false]) ∧ Ext w w' := by
  rcases Int.lt_or_le a 0 with h0 | h0
  · have hm : max a 0 = 0 := by omega
    rw [hm] at h ⊢
    clear hm
    go_enter Try.func26, Try.ntmps26
    go_wp2
    refine bodyPost_ret (v := .tuple #[win t e (0 + 1), .bool false]) (by simp [results, Try.results26, go_sem]) rfl ⟨rfl, ?_⟩
    repeat (first | exact Ext.refl _ | apply Ext.drew | apply Ext.drewN | apply Ext.plus_ | apply Ext.alloc | assumption)
  · have hm : max a 0 = a := by omega
    rw [hm] at h ⊢
    clear hm
    go_enter Try.func26, Try.ntmps26
    go_wp2
    refine bodyPost_ret (v := .tuple #[win t e (a + 1), .bool false]) (by simp [results, Try.results26, go_sem]) rfl ⟨rfl, ?_⟩
    repeat (first | exact Ext.refl _ | apply Ext.drew | apply Ext.drewN | apply Ext.plus_ | apply Ext.alloc | assumption)
end Go.Proofs.Ytidndcigloohoaa
