/- The window package's functions and their references: what each call computes. -/
import Derived.Test.YtngokfaaaeikoaaRows
import Derived.WalkKit
import Derived.WalkSpells
import Derived.WalkLawsBesides
import Derived.Lib.Hide
import Derived.Test.YtngokfaaaeikoaaPlus
namespace Go.Proofs.Ytngokfaaaeikoaa
open Go.RowKit Go.Rg

abbrev win (t e a : Int) : Value := .agg #[.int .i64 t, .int .i64 e, .int .i64 a]

theorem within_num (x n : Int) (hn : 0 < n) (hn' : n ≤ 1000000) : (wrap64 (x.tmod n + n)).tmod n = x % n := by
  have h1 : -n < x.tmod n := by have := Int.lt_tmod_of_pos x hn; omega
  have h2 : x.tmod n < n := Int.tmod_lt_of_pos x hn
  rw [IntWalk.wrap64_in _ ⟨by omega, by omega⟩, Int.tmod_eq_emod_of_nonneg (by omega)]
  rw [Int.add_emod_right]
  have := Int.tmod_eq_emod (a := x) (b := n)
  rw [this]
  have hn2 : (n.natAbs : Int) = n := by omega
  split
  · simp
  · rw [hn2, Int.sub_emod_right]; simp

set_option maxHeartbeats 400000 in
theorem within_any (x n : Int) (w : World) (hn : 0 < n) (hn' : n ≤ 1000000) :
    Calls Try.prog 7 #[.int .i64 x, .int .i64 n] w fun e w' => e = .returned (.int .i64 (x % n)) ∧ w = w' := by
  have hz : (n == 0) = false := by simp; omega
  go_enter Try.func7, Try.ntmps7
  go_wp2
  go_ret
  exact ⟨by show Ending.returned (.int .i64 ((wrap64 (x.tmod n + n)).tmod n)) = _; rw [within_num x n hn hn'], rfl⟩

set_option maxHeartbeats 400000 in
theorem tick_closes (t e a L : Int) (w : World) (hL : L ≤ 9223372036854775807) (h : L ≤ max a 0 + 1) :
    Calls Try.prog 8 #[win t e a, .int .i64 L] w fun e w' => e = .returned (.tuple #[win 0 0 0, .bool true]) ∧ Ext w w' := by
  rcases Int.lt_or_le a 0 with h0 | h0
  all_goals
  go_enter Try.func8, Try.ntmps8
  go_wp2
  all_goals
    refine bodyPost_ret (v := .tuple #[win 0 0 0, .bool true]) (by simp [results, Try.results8, go_sem]) rfl ⟨rfl, ?_⟩
    repeat (first | exact Ext.refl _ | apply Ext.drew | apply Ext.drewN | apply Ext.plus_ | apply Ext.alloc | assumption)

set_option maxHeartbeats 400000 in
theorem tick_goes (t e a L : Int) (w : World) (hL : L ≤ 9223372036854775807) (h : max a 0 + 1 < L) :
    Calls Try.prog 8 #[win t e a, .int .i64 L] w fun ee w' => ee = .returned (.tuple #[win t e (max a 0 + 1), .bool false]) ∧ Ext w w' := by
  rcases Int.lt_or_le a 0 with h0 | h0
  · have hm : max a 0 = 0 := by omega
    rw [hm] at h ⊢
    clear hm
    go_enter Try.func8, Try.ntmps8
    go_wp2
    refine bodyPost_ret (v := .tuple #[win t e (0 + 1), .bool false]) (by simp [results, Try.results8, go_sem]) rfl ⟨rfl, ?_⟩
    repeat (first | exact Ext.refl _ | apply Ext.drew | apply Ext.drewN | apply Ext.plus_ | apply Ext.alloc | assumption)
  · have hm : max a 0 = a := by omega
    rw [hm] at h ⊢
    clear hm
    go_enter Try.func8, Try.ntmps8
    go_wp2
    refine bodyPost_ret (v := .tuple #[win t e (a + 1), .bool false]) (by simp [results, Try.results8, go_sem]) rfl ⟨rfl, ?_⟩
    repeat (first | exact Ext.refl _ | apply Ext.drew | apply Ext.drewN | apply Ext.plus_ | apply Ext.alloc | assumption)
set_option maxHeartbeats 400000 in
theorem refTick_closes (t e a L : Int) (w : World) (hL : L ≤ 9223372036854775807) (h : L ≤ max a 0 + 1) :
    Calls Try.prog 9 #[win t e a, .int .i64 L] w fun e w' => e = .returned (.tuple #[win 0 0 0, .bool true]) ∧ Ext w w' := by
  rcases Int.lt_or_le a 0 with h0 | h0
  all_goals
  go_enter Try.func9, Try.ntmps9
  go_wp2
  all_goals
    refine bodyPost_ret (v := .tuple #[win 0 0 0, .bool true]) (by simp [results, Try.results9, go_sem]) rfl ⟨rfl, ?_⟩
    repeat (first | exact Ext.refl _ | apply Ext.drew | apply Ext.drewN | apply Ext.plus_ | apply Ext.alloc | assumption)

set_option maxHeartbeats 400000 in
theorem refTick_goes (t e a L : Int) (w : World) (hL : L ≤ 9223372036854775807) (h : max a 0 + 1 < L) :
    Calls Try.prog 9 #[win t e a, .int .i64 L] w fun ee w' => ee = .returned (.tuple #[win t e (max a 0 + 1), .bool false]) ∧ Ext w w' := by
  rcases Int.lt_or_le a 0 with h0 | h0
  · have hm : max a 0 = 0 := by omega
    rw [hm] at h ⊢
    clear hm
    go_enter Try.func9, Try.ntmps9
    go_wp2
    refine bodyPost_ret (v := .tuple #[win t e (0 + 1), .bool false]) (by simp [results, Try.results9, go_sem]) rfl ⟨rfl, ?_⟩
    repeat (first | exact Ext.refl _ | apply Ext.drew | apply Ext.drewN | apply Ext.plus_ | apply Ext.alloc | assumption)
  · have hm : max a 0 = a := by omega
    rw [hm] at h ⊢
    clear hm
    go_enter Try.func9, Try.ntmps9
    go_wp2
    refine bodyPost_ret (v := .tuple #[win t e (a + 1), .bool false]) (by simp [results, Try.results9, go_sem]) rfl ⟨rfl, ?_⟩
    repeat (first | exact Ext.refl _ | apply Ext.drew | apply Ext.drewN | apply Ext.plus_ | apply Ext.alloc | assumption)
end Go.Proofs.Ytngokfaaaeikoaa
