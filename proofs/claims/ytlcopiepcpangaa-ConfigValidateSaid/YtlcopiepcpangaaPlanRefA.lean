/- The reference of plan.Validate on a plan with a number out of its range, first half. -/
import Derived.Test.YtlcopiepcpangaaPlanRef0
import Derived.Deep.QuietTactic
import Derived.BigQuiet
set_option linter.unusedVariables false
namespace Go.Proofs.Ytlcopiepcpangaa
open Go.RowKit Go.Rg


set_option maxRecDepth 100000 in
set_option maxHeartbeats 1000000 in
theorem refPlan_b0 (A : Option Addr) (n c : Nat) (l : List Int) (mi nu de ho wi : Int) (w : World) (hr : Row w w.heap.size 1 A n (ints l)) (hn : n ≤ 9223372036854775807)  (g : n < 1) :
    Calls Try.prog 25 #[pl A n c mi nu de ho wi] w fun e w' => e = .returned (.int .i64 8) ∧ Ext w w' := by
  have q : decide ((1 : Int) ≤ (n : Int)) = false := by simp; omega
  go_enter Try.func25, Try.ntmps25
  go_wp2_with fail
  obtain ⟨F, hF⟩ : ∃ F : Nat → Bool, F = fun _ => false := ⟨_, rfl⟩
  go_loopw [3, 4] (fun ok i wr => RefRel w n #[.slice A n c, .int .i64 mi, .int .i64 nu, .int .i64 de, .int .i64 ho, .int .i64 wi] F ok i wr) (fun _ i _ => n - (intOf i).toNat)
  case atStart => exact ⟨0, _, Nat.zero_le _, rfl, by simp [hF], World.plus_self _⟩
  case round =>
    obtain ⟨k, x, hk, rfl, rfl, rfl⟩ := hrel
    have hFk : F k = false := by rw [hF]
    rw [hFk]
    clear hF hFk
    have hk0 : k = 0 := by omega
    have hn0 : n = 0 := by omega
    subst hk0
    subst hn0
    go_wp2
    go_ret
    exact ⟨rfl, (by repeat (first | exact Ext.refl _ | assumption | apply Ext.plus_ | apply Ext.alloc | apply Ext.drew))⟩

set_option maxRecDepth 100000 in
set_option maxHeartbeats 1000000 in
theorem refPlan_b1 (A : Option Addr) (n c : Nat) (l : List Int) (mi nu de ho wi : Int) (w : World) (hr : Row w w.heap.size 1 A n (ints l)) (hn : n ≤ 9223372036854775807) (g0 : 1 ≤ n) (g : 8 < n) :
    Calls Try.prog 25 #[pl A n c mi nu de ho wi] w fun e w' => e = .returned (.int .i64 8) ∧ Ext w w' := by
  have q : decide ((n : Int) ≤ 8) = false := by simp; omega
  go_enter Try.func25, Try.ntmps25
  go_wp2_with fail
  obtain ⟨F, hF⟩ : ∃ F : Nat → Bool, F = fun _ => false := ⟨_, rfl⟩
  go_loopw [3, 4] (fun ok i wr => RefRel w n #[.slice A n c, .int .i64 mi, .int .i64 nu, .int .i64 de, .int .i64 ho, .int .i64 wi] F ok i wr) (fun _ i _ => n - (intOf i).toNat)
  case atStart => exact ⟨0, _, Nat.zero_le _, rfl, by simp [hF], World.plus_self _⟩
  case round =>
    obtain ⟨k, x, hk, rfl, rfl, rfl⟩ := hrel
    have hFk : F k = false := by rw [hF]
    have HF := Lib.hid hF
    rw [hFk]
    clear hF hFk
    by_cases hlt : k < n
    · clear hr
      go_wp2_with fail
      go_quiet (fail)
      go_wp2
      go_roundw
      case rel => exact ⟨k + 1, _, by omega, by go_num, by rw [show F (k + 1) = false from by rw [HF.out]], rfl⟩
      case measure => simp [intOf]; omega
    · go_wp2
      go_ret
      exact ⟨rfl, (by repeat (first | exact Ext.refl _ | assumption | apply Ext.plus_ | apply Ext.alloc | apply Ext.drew))⟩

set_option maxRecDepth 100000 in
set_option maxHeartbeats 1000000 in
theorem refPlan_b2 (A : Option Addr) (n c : Nat) (l : List Int) (mi nu de ho wi : Int) (w : World) (hr : Row w w.heap.size 1 A n (ints l)) (hn : n ≤ 9223372036854775807) (g0 : 1 ≤ n) (g1 : n ≤ 8) (g : mi < 1) :
    Calls Try.prog 25 #[pl A n c mi nu de ho wi] w fun e w' => e = .returned (.int .i64 8) ∧ Ext w w' := by
  have q : decide (1 ≤ mi) = false := by simp; omega
  go_enter Try.func25, Try.ntmps25
  go_wp2_with fail
  obtain ⟨F, hF⟩ : ∃ F : Nat → Bool, F = fun _ => false := ⟨_, rfl⟩
  go_loopw [3, 4] (fun ok i wr => RefRel w n #[.slice A n c, .int .i64 mi, .int .i64 nu, .int .i64 de, .int .i64 ho, .int .i64 wi] F ok i wr) (fun _ i _ => n - (intOf i).toNat)
  case atStart => exact ⟨0, _, Nat.zero_le _, rfl, by simp [hF], World.plus_self _⟩
  case round =>
    obtain ⟨k, x, hk, rfl, rfl, rfl⟩ := hrel
    have hFk : F k = false := by rw [hF]
    have HF := Lib.hid hF
    rw [hFk]
    clear hF hFk
    by_cases hlt : k < n
    · clear hr
      go_wp2_with fail
      go_quiet (fail)
      go_wp2
      go_roundw
      case rel => exact ⟨k + 1, _, by omega, by go_num, by rw [show F (k + 1) = false from by rw [HF.out]], rfl⟩
      case measure => simp [intOf]; omega
    · go_wp2
      go_ret
      exact ⟨rfl, (by repeat (first | exact Ext.refl _ | assumption | apply Ext.plus_ | apply Ext.alloc | apply Ext.drew))⟩

set_option maxRecDepth 100000 in
set_option maxHeartbeats 1000000 in
theorem refPlan_b3 (A : Option Addr) (n c : Nat) (l : List Int) (mi nu de ho wi : Int) (w : World) (hr : Row w w.heap.size 1 A n (ints l)) (hn : n ≤ 9223372036854775807) (g0 : 1 ≤ n) (g1 : n ≤ 8) (g2 : 1 ≤ mi) (g : 1000000 < mi) :
    Calls Try.prog 25 #[pl A n c mi nu de ho wi] w fun e w' => e = .returned (.int .i64 8) ∧ Ext w w' := by
  have q : decide (mi ≤ 1000000) = false := by simp; omega
  go_enter Try.func25, Try.ntmps25
  go_wp2_with fail
  obtain ⟨F, hF⟩ : ∃ F : Nat → Bool, F = fun _ => false := ⟨_, rfl⟩
  go_loopw [3, 4] (fun ok i wr => RefRel w n #[.slice A n c, .int .i64 mi, .int .i64 nu, .int .i64 de, .int .i64 ho, .int .i64 wi] F ok i wr) (fun _ i _ => n - (intOf i).toNat)
  case atStart => exact ⟨0, _, Nat.zero_le _, rfl, by simp [hF], World.plus_self _⟩
  case round =>
    obtain ⟨k, x, hk, rfl, rfl, rfl⟩ := hrel
    have hFk : F k = false := by rw [hF]
    have HF := Lib.hid hF
    rw [hFk]
    clear hF hFk
    by_cases hlt : k < n
    · clear hr
      go_wp2_with fail
      go_quiet (fail)
      go_wp2
      go_roundw
      case rel => exact ⟨k + 1, _, by omega, by go_num, by rw [show F (k + 1) = false from by rw [HF.out]], rfl⟩
      case measure => simp [intOf]; omega
    · go_wp2
      go_ret
      exact ⟨rfl, (by repeat (first | exact Ext.refl _ | assumption | apply Ext.plus_ | apply Ext.alloc | apply Ext.drew))⟩

set_option maxRecDepth 100000 in
set_option maxHeartbeats 1000000 in
theorem refPlan_b4 (A : Option Addr) (n c : Nat) (l : List Int) (mi nu de ho wi : Int) (w : World) (hr : Row w w.heap.size 1 A n (ints l)) (hn : n ≤ 9223372036854775807) (g0 : 1 ≤ n) (g1 : n ≤ 8) (g2 : 1 ≤ mi) (g3 : mi ≤ 1000000) (g : nu < 0) :
    Calls Try.prog 25 #[pl A n c mi nu de ho wi] w fun e w' => e = .returned (.int .i64 8) ∧ Ext w w' := by
  have q : decide (0 ≤ nu) = false := by simp; omega
  go_enter Try.func25, Try.ntmps25
  go_wp2_with fail
  obtain ⟨F, hF⟩ : ∃ F : Nat → Bool, F = fun _ => false := ⟨_, rfl⟩
  go_loopw [3, 4] (fun ok i wr => RefRel w n #[.slice A n c, .int .i64 mi, .int .i64 nu, .int .i64 de, .int .i64 ho, .int .i64 wi] F ok i wr) (fun _ i _ => n - (intOf i).toNat)
  case atStart => exact ⟨0, _, Nat.zero_le _, rfl, by simp [hF], World.plus_self _⟩
  case round =>
    obtain ⟨k, x, hk, rfl, rfl, rfl⟩ := hrel
    have hFk : F k = false := by rw [hF]
    have HF := Lib.hid hF
    rw [hFk]
    clear hF hFk
    by_cases hlt : k < n
    · clear hr
      go_wp2_with fail
      go_quiet (fail)
      go_wp2
      go_roundw
      case rel => exact ⟨k + 1, _, by omega, by go_num, by rw [show F (k + 1) = false from by rw [HF.out]], rfl⟩
      case measure => simp [intOf]; omega
    · go_wp2
      go_ret
      exact ⟨rfl, (by repeat (first | exact Ext.refl _ | assumption | apply Ext.plus_ | apply Ext.alloc | apply Ext.drew))⟩

set_option maxRecDepth 100000 in
set_option maxHeartbeats 1000000 in
theorem refPlan_b5 (A : Option Addr) (n c : Nat) (l : List Int) (mi nu de ho wi : Int) (w : World) (hr : Row w w.heap.size 1 A n (ints l)) (hn : n ≤ 9223372036854775807) (g0 : 1 ≤ n) (g1 : n ≤ 8) (g2 : 1 ≤ mi) (g3 : mi ≤ 1000000) (g4 : 0 ≤ nu) (g : 1000000 < nu) :
    Calls Try.prog 25 #[pl A n c mi nu de ho wi] w fun e w' => e = .returned (.int .i64 8) ∧ Ext w w' := by
  have q : decide (nu ≤ 1000000) = false := by simp; omega
  go_enter Try.func25, Try.ntmps25
  go_wp2_with fail
  obtain ⟨F, hF⟩ : ∃ F : Nat → Bool, F = fun _ => false := ⟨_, rfl⟩
  go_loopw [3, 4] (fun ok i wr => RefRel w n #[.slice A n c, .int .i64 mi, .int .i64 nu, .int .i64 de, .int .i64 ho, .int .i64 wi] F ok i wr) (fun _ i _ => n - (intOf i).toNat)
  case atStart => exact ⟨0, _, Nat.zero_le _, rfl, by simp [hF], World.plus_self _⟩
  case round =>
    obtain ⟨k, x, hk, rfl, rfl, rfl⟩ := hrel
    have hFk : F k = false := by rw [hF]
    have HF := Lib.hid hF
    rw [hFk]
    clear hF hFk
    by_cases hlt : k < n
    · clear hr
      go_wp2_with fail
      go_quiet (fail)
      go_wp2
      go_roundw
      case rel => exact ⟨k + 1, _, by omega, by go_num, by rw [show F (k + 1) = false from by rw [HF.out]], rfl⟩
      case measure => simp [intOf]; omega
    · go_wp2
      go_ret
      exact ⟨rfl, (by repeat (first | exact Ext.refl _ | assumption | apply Ext.plus_ | apply Ext.alloc | apply Ext.drew))⟩

end Go.Proofs.Ytlcopiepcpangaa
