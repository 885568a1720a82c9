/- The reference of plan.Validate on a plan with a number out of its range, second half. -/
import Derived.Test.YtlcopiepcpangaaPlanRef0
import Derived.Deep.QuietTactic
import Derived.BigQuiet
set_option linter.unusedVariables false
namespace Go.Proofs.Ytlcopiepcpangaa
open Go.RowKit Go.Rg


set_option maxRecDepth 100000 in
set_option maxHeartbeats 1000000 in
theorem refPlan_b6 (A : Option Addr) (n c : Nat) (l : List Int) (mi nu de ho wi : Int) (w : World) (hr : Row w w.heap.size 1 A n (ints l)) (hn : n ≤ 9223372036854775807) (g0 : 1 ≤ n) (g1 : n ≤ 8) (g2 : 1 ≤ mi) (g3 : mi ≤ 1000000) (g4 : 0 ≤ nu) (g5 : nu ≤ 1000000) (g : de < 1) :
    Calls Try.prog 25 #[pl A n c mi nu de ho wi] w fun e w' => e = .returned (.int .i64 8) ∧ Ext w w' := by
  have q : decide (1 ≤ de) = false := by simp; omega
  go_enter Try.func25, Try.ntmps25
  go_wp2_with fail
  obtain ⟨F, hF⟩ : ∃ F : Nat → Bool, F = fun _ => false := ⟨_, rfl⟩
  go_loopw [3, 4] (fun ok i wr => RefRel w n #[.slice A n c, .int .i64 mi, .int .i64 nu, .int .i64 de, .int .i64 ho, .int .i64 wi] F ok i wr) (fun _ i _ => n - (intOf i).toNat)
  case atStart => exact ⟨0, _, Nat.zero_le _, rfl, by simp [hF], World.plus_self _⟩
  case round =>
    obtain ⟨k, x, hk, rfl, rfl, rfl⟩ := hrel
    have hFk : F k = false := by rw [hF]
    have HF := Lib.hid hF
    rw [hFk]
    clear hF hFk
    by_cases hlt : k < n
    · clear hr
      go_wp2_with fail
      go_quiet (fail)
      go_wp2
      go_roundw
      case rel => exact ⟨k + 1, _, by omega, by go_num, by rw [show F (k + 1) = false from by rw [HF.out]], rfl⟩
      case measure => simp [intOf]; omega
    · go_wp2
      go_ret
      exact ⟨rfl, (by repeat (first | exact Ext.refl _ | assumption | apply Ext.plus_ | apply Ext.alloc | apply Ext.drew))⟩

set_option maxRecDepth 100000 in
set_option maxHeartbeats 1000000 in
theorem refPlan_b7 (A : Option Addr) (n c : Nat) (l : List Int) (mi nu de ho wi : Int) (w : World) (hr : Row w w.heap.size 1 A n (ints l)) (hn : n ≤ 9223372036854775807) (g0 : 1 ≤ n) (g1 : n ≤ 8) (g2 : 1 ≤ mi) (g3 : mi ≤ 1000000) (g4 : 0 ≤ nu) (g5 : nu ≤ 1000000) (g6 : 1 ≤ de) (g : 1000000 < de) :
    Calls Try.prog 25 #[pl A n c mi nu de ho wi] w fun e w' => e = .returned (.int .i64 8) ∧ Ext w w' := by
  have q : decide (de ≤ 1000000) = false := by simp; omega
  go_enter Try.func25, Try.ntmps25
  go_wp2_with fail
  obtain ⟨F, hF⟩ : ∃ F : Nat → Bool, F = fun _ => false := ⟨_, rfl⟩
  go_loopw [3, 4] (fun ok i wr => RefRel w n #[.slice A n c, .int .i64 mi, .int .i64 nu, .int .i64 de, .int .i64 ho, .int .i64 wi] F ok i wr) (fun _ i _ => n - (intOf i).toNat)
  case atStart => exact ⟨0, _, Nat.zero_le _, rfl, by simp [hF], World.plus_self _⟩
  case round =>
    obtain ⟨k, x, hk, rfl, rfl, rfl⟩ := hrel
    have hFk : F k = false := by rw [hF]
    have HF := Lib.hid hF
    rw [hFk]
    clear hF hFk
    by_cases hlt : k < n
    · clear hr
      go_wp2_with fail
      go_quiet (fail)
      go_wp2
      go_roundw
      case rel => exact ⟨k + 1, _, by omega, by go_num, by rw [show F (k + 1) = false from by rw [HF.out]], rfl⟩
      case measure => simp [intOf]; omega
    · go_wp2
      go_ret
      exact ⟨rfl, (by repeat (first | exact Ext.refl _ | assumption | apply Ext.plus_ | apply Ext.alloc | apply Ext.drew))⟩

set_option maxRecDepth 100000 in
set_option maxHeartbeats 1000000 in
theorem refPlan_b8 (A : Option Addr) (n c : Nat) (l : List Int) (mi nu de ho wi : Int) (w : World) (hr : Row w w.heap.size 1 A n (ints l)) (hn : n ≤ 9223372036854775807) (g0 : 1 ≤ n) (g1 : n ≤ 8) (g2 : 1 ≤ mi) (g3 : mi ≤ 1000000) (g4 : 0 ≤ nu) (g5 : nu ≤ 1000000) (g6 : 1 ≤ de) (g7 : de ≤ 1000000) (g : ho < 1) :
    Calls Try.prog 25 #[pl A n c mi nu de ho wi] w fun e w' => e = .returned (.int .i64 8) ∧ Ext w w' := by
  have q : decide (1 ≤ ho) = false := by simp; omega
  go_enter Try.func25, Try.ntmps25
  go_wp2_with fail
  obtain ⟨F, hF⟩ : ∃ F : Nat → Bool, F = fun _ => false := ⟨_, rfl⟩
  go_loopw [3, 4] (fun ok i wr => RefRel w n #[.slice A n c, .int .i64 mi, .int .i64 nu, .int .i64 de, .int .i64 ho, .int .i64 wi] F ok i wr) (fun _ i _ => n - (intOf i).toNat)
  case atStart => exact ⟨0, _, Nat.zero_le _, rfl, by simp [hF], World.plus_self _⟩
  case round =>
    obtain ⟨k, x, hk, rfl, rfl, rfl⟩ := hrel
    have hFk : F k = false := by rw [hF]
    have HF := Lib.hid hF
    rw [hFk]
    clear hF hFk
    by_cases hlt : k < n
    · clear hr
      go_wp2_with fail
      go_quiet (fail)
      go_wp2
      go_roundw
      case rel => exact ⟨k + 1, _, by omega, by go_num, by rw [show F (k + 1) = false from by rw [HF.out]], rfl⟩
      case measure => simp [intOf]; omega
    · go_wp2
      go_ret
      exact ⟨rfl, (by repeat (first | exact Ext.refl _ | assumption | apply Ext.plus_ | apply Ext.alloc | apply Ext.drew))⟩

set_option maxRecDepth 100000 in
set_option maxHeartbeats 1000000 in
theorem refPlan_b9 (A : Option Addr) (n c : Nat) (l : List Int) (mi nu de ho wi : Int) (w : World) (hr : Row w w.heap.size 1 A n (ints l)) (hn : n ≤ 9223372036854775807) (g0 : 1 ≤ n) (g1 : n ≤ 8) (g2 : 1 ≤ mi) (g3 : mi ≤ 1000000) (g4 : 0 ≤ nu) (g5 : nu ≤ 1000000) (g6 : 1 ≤ de) (g7 : de ≤ 1000000) (g8 : 1 ≤ ho) (g : 100 < ho) :
    Calls Try.prog 25 #[pl A n c mi nu de ho wi] w fun e w' => e = .returned (.int .i64 8) ∧ Ext w w' := by
  have q : decide (ho ≤ 100) = false := by simp; omega
  go_enter Try.func25, Try.ntmps25
  go_wp2_with fail
  obtain ⟨F, hF⟩ : ∃ F : Nat → Bool, F = fun _ => false := ⟨_, rfl⟩
  go_loopw [3, 4] (fun ok i wr => RefRel w n #[.slice A n c, .int .i64 mi, .int .i64 nu, .int .i64 de, .int .i64 ho, .int .i64 wi] F ok i wr) (fun _ i _ => n - (intOf i).toNat)
  case atStart => exact ⟨0, _, Nat.zero_le _, rfl, by simp [hF], World.plus_self _⟩
  case round =>
    obtain ⟨k, x, hk, rfl, rfl, rfl⟩ := hrel
    have hFk : F k = false := by rw [hF]
    have HF := Lib.hid hF
    rw [hFk]
    clear hF hFk
    by_cases hlt : k < n
    · clear hr
      go_wp2_with fail
      go_quiet (fail)
      go_wp2
      go_roundw
      case rel => exact ⟨k + 1, _, by omega, by go_num, by rw [show F (k + 1) = false from by rw [HF.out]], rfl⟩
      case measure => simp [intOf]; omega
    · go_wp2
      go_ret
      exact ⟨rfl, (by repeat (first | exact Ext.refl _ | assumption | apply Ext.plus_ | apply Ext.alloc | apply Ext.drew))⟩

set_option maxRecDepth 100000 in
set_option maxHeartbeats 1000000 in
theorem refPlan_b10 (A : Option Addr) (n c : Nat) (l : List Int) (mi nu de ho wi : Int) (w : World) (hr : Row w w.heap.size 1 A n (ints l)) (hn : n ≤ 9223372036854775807) (g0 : 1 ≤ n) (g1 : n ≤ 8) (g2 : 1 ≤ mi) (g3 : mi ≤ 1000000) (g4 : 0 ≤ nu) (g5 : nu ≤ 1000000) (g6 : 1 ≤ de) (g7 : de ≤ 1000000) (g8 : 1 ≤ ho) (g9 : ho ≤ 100) (g : wi < 1) :
    Calls Try.prog 25 #[pl A n c mi nu de ho wi] w fun e w' => e = .returned (.int .i64 8) ∧ Ext w w' := by
  have q : decide (1 ≤ wi) = false := by simp; omega
  go_enter Try.func25, Try.ntmps25
  go_wp2_with fail
  obtain ⟨F, hF⟩ : ∃ F : Nat → Bool, F = fun _ => false := ⟨_, rfl⟩
  go_loopw [3, 4] (fun ok i wr => RefRel w n #[.slice A n c, .int .i64 mi, .int .i64 nu, .int .i64 de, .int .i64 ho, .int .i64 wi] F ok i wr) (fun _ i _ => n - (intOf i).toNat)
  case atStart => exact ⟨0, _, Nat.zero_le _, rfl, by simp [hF], World.plus_self _⟩
  case round =>
    obtain ⟨k, x, hk, rfl, rfl, rfl⟩ := hrel
    have hFk : F k = false := by rw [hF]
    have HF := Lib.hid hF
    rw [hFk]
    clear hF hFk
    by_cases hlt : k < n
    · clear hr
      go_wp2_with fail
      go_quiet (fail)
      go_wp2
      go_roundw
      case rel => exact ⟨k + 1, _, by omega, by go_num, by rw [show F (k + 1) = false from by rw [HF.out]], rfl⟩
      case measure => simp [intOf]; omega
    · go_wp2
      go_ret
      exact ⟨rfl, (by repeat (first | exact Ext.refl _ | assumption | apply Ext.plus_ | apply Ext.alloc | apply Ext.drew))⟩

set_option maxRecDepth 100000 in
set_option maxHeartbeats 1000000 in
theorem refPlan_b11 (A : Option Addr) (n c : Nat) (l : List Int) (mi nu de ho wi : Int) (w : World) (hr : Row w w.heap.size 1 A n (ints l)) (hn : n ≤ 9223372036854775807) (g0 : 1 ≤ n) (g1 : n ≤ 8) (g2 : 1 ≤ mi) (g3 : mi ≤ 1000000) (g4 : 0 ≤ nu) (g5 : nu ≤ 1000000) (g6 : 1 ≤ de) (g7 : de ≤ 1000000) (g8 : 1 ≤ ho) (g9 : ho ≤ 100) (g10 : 1 ≤ wi) (g : 1000000 < wi) :
    Calls Try.prog 25 #[pl A n c mi nu de ho wi] w fun e w' => e = .returned (.int .i64 8) ∧ Ext w w' := by
  have q : decide (wi ≤ 1000000) = false := by simp; omega
  go_enter Try.func25, Try.ntmps25
  go_wp2_with fail
  obtain ⟨F, hF⟩ : ∃ F : Nat → Bool, F = fun _ => false := ⟨_, rfl⟩
  go_loopw [3, 4] (fun ok i wr => RefRel w n #[.slice A n c, .int .i64 mi, .int .i64 nu, .int .i64 de, .int .i64 ho, .int .i64 wi] F ok i wr) (fun _ i _ => n - (intOf i).toNat)
  case atStart => exact ⟨0, _, Nat.zero_le _, rfl, by simp [hF], World.plus_self _⟩
  case round =>
    obtain ⟨k, x, hk, rfl, rfl, rfl⟩ := hrel
    have hFk : F k = false := by rw [hF]
    have HF := Lib.hid hF
    rw [hFk]
    clear hF hFk
    by_cases hlt : k < n
    · clear hr
      go_wp2_with fail
      go_quiet (fail)
      go_wp2
      go_roundw
      case rel => exact ⟨k + 1, _, by omega, by go_num, by rw [show F (k + 1) = false from by rw [HF.out]], rfl⟩
      case measure => simp [intOf]; omega
    · go_wp2
      go_ret
      exact ⟨rfl, (by repeat (first | exact Ext.refl _ | assumption | apply Ext.plus_ | apply Ext.alloc | apply Ext.drew))⟩

end Go.Proofs.Ytlcopiepcpangaa
