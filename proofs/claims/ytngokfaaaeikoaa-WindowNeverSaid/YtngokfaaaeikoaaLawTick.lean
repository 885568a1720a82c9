/- WindowTick -/
import Derived.Test.YtngokfaaaeikoaaCount
import Derived.Test.YtngokfaaaeikoaaOpen
namespace Go.Proofs.Ytngokfaaaeikoaa
open Go.RowKit Go.Rg

set_option maxHeartbeats 400000 in
theorem awake_any (w : World) : Calls Try.prog 10 #[] w fun ee w' => ee = .returned (.bool true) ∧ Ext w w' := by
  have h1 : cap2 0 1 = 1 := by decide
  have h2 : cap2 0 (bit true) = 1 := by decide
  go_enter Try.func10, Try.ntmps10
  go_wp2_with fail
  refine (tick_closes 5 0 9 10 _ (by decide) (by decide)).mono ?_
  rintro e w' ⟨rfl, hE⟩
  obtain ⟨x, rfl⟩ := hE.plus
  clear hE
  go_wp2_with fail
  refine (count_any 0 0 0 true _).mono ?_
  rintro e w' ⟨rfl, hE⟩
  obtain ⟨x, rfl⟩ := hE.plus
  clear hE
  go_wp2_with fail
  go_ret
  refine ⟨rfl, ?_⟩
  repeat (first | exact Ext.refl _ | apply Ext.drew | apply Ext.drewN | apply Ext.plus_ | apply Ext.alloc | assumption)

set_option maxHeartbeats 400000 in
theorem tick_raw (t e a L : Int) (w : World) (hL : L ≤ 9223372036854775807) :
    Calls Try.prog 3 #[win t e a, .int .i64 L, .bool true] w fun ee w' => ee = .returned (.bool true) ∧ Ext w w' := by
  rcases Int.lt_or_le (max a 0 + 1) L with h | h
  all_goals
    go_enter Try.func3, Try.ntmps3
    go_wp2_with fail
  · refine (tick_goes t e a L _ hL h).mono ?_
    rintro e w' ⟨rfl, hE⟩
    obtain ⟨x, rfl⟩ := hE.plus
    clear hE
    go_wp2_with fail
    refine (refTick_goes t e a L _ hL h).mono ?_
    rintro e w' ⟨rfl, hE⟩
    obtain ⟨x, rfl⟩ := hE.plus
    clear hE
    go_wp2_with fail
    refine (awake_any _).mono ?_
    rintro e w' ⟨rfl, hE⟩
    obtain ⟨x, rfl⟩ := hE.plus
    clear hE
    go_wp2_with fail
    go_ret
    refine ⟨rfl, ?_⟩
    repeat (first | exact Ext.refl _ | apply Ext.drew | apply Ext.drewN | apply Ext.plus_ | apply Ext.alloc | assumption)
  · refine (tick_closes t e a L _ hL h).mono ?_
    rintro e w' ⟨rfl, hE⟩
    obtain ⟨x, rfl⟩ := hE.plus
    clear hE
    go_wp2_with fail
    refine (refTick_closes t e a L _ hL h).mono ?_
    rintro e w' ⟨rfl, hE⟩
    obtain ⟨x, rfl⟩ := hE.plus
    clear hE
    go_wp2_with fail
    refine (awake_any _).mono ?_
    rintro e w' ⟨rfl, hE⟩
    obtain ⟨x, rfl⟩ := hE.plus
    clear hE
    go_wp2_with fail
    go_ret
    refine ⟨rfl, ?_⟩
    repeat (first | exact Ext.refl _ | apply Ext.drew | apply Ext.drewN | apply Ext.plus_ | apply Ext.alloc | assumption)

set_option maxHeartbeats 400000 in
theorem tick_small (t e a L : Int) (w : World) :
    Calls Try.prog 3 #[win t e a, .int .i64 L, .bool false] w fun ee w' => ee = .returned (.bool true) ∧ Ext w w' := by
  obtain ⟨a', ha⟩ : ∃ a', a' = a % 12 := ⟨_, rfl⟩
  obtain ⟨L', hLq⟩ : ∃ L', L' = L % 12 := ⟨_, rfl⟩
  have hL : L' ≤ 9223372036854775807 := by omega
  have C1 := Lib.hid (fun w => within_any a 12 w (by decide) (by decide))
  have C2 := Lib.hid (fun w => within_any L 12 w (by decide) (by decide))
  rw [← ha] at C1
  rw [← hLq] at C2
  clear ha hLq
  rcases Int.lt_or_le (max a' 0 + 1) L' with h | h
  all_goals
    go_enter Try.func3, Try.ntmps3
    go_wp2_with fail
    refine (C1.out _).mono ?_
    rintro e w' ⟨rfl, rfl⟩
    go_wp2_with fail
    refine (C2.out _).mono ?_
    rintro e w' ⟨rfl, rfl⟩
    go_wp2_with fail
  · refine (tick_goes t e a' L' _ hL h).mono ?_
    rintro e w' ⟨rfl, hE⟩
    obtain ⟨x, rfl⟩ := hE.plus
    clear hE
    go_wp2_with fail
    refine (refTick_goes t e a' L' _ hL h).mono ?_
    rintro e w' ⟨rfl, hE⟩
    obtain ⟨x, rfl⟩ := hE.plus
    clear hE
    go_wp2_with fail
    refine (awake_any _).mono ?_
    rintro e w' ⟨rfl, hE⟩
    obtain ⟨x, rfl⟩ := hE.plus
    clear hE
    go_wp2_with fail
    go_ret
    refine ⟨rfl, ?_⟩
    repeat (first | exact Ext.refl _ | apply Ext.drew | apply Ext.drewN | apply Ext.plus_ | apply Ext.alloc | assumption)
  · refine (tick_closes t e a' L' _ hL h).mono ?_
    rintro e w' ⟨rfl, hE⟩
    obtain ⟨x, rfl⟩ := hE.plus
    clear hE
    go_wp2_with fail
    refine (refTick_closes t e a' L' _ hL h).mono ?_
    rintro e w' ⟨rfl, hE⟩
    obtain ⟨x, rfl⟩ := hE.plus
    clear hE
    go_wp2_with fail
    refine (awake_any _).mono ?_
    rintro e w' ⟨rfl, hE⟩
    obtain ⟨x, rfl⟩ := hE.plus
    clear hE
    go_wp2_with fail
    go_ret
    refine ⟨rfl, ?_⟩
    repeat (first | exact Ext.refl _ | apply Ext.drew | apply Ext.drewN | apply Ext.plus_ | apply Ext.alloc | assumption)

theorem law_tick (v0 v1 v2 : Value) (w : World) (p0 : ∃ t e a, v0 = win t e a ∧ I64 t ∧ I64 e ∧ I64 a) (p1 : ∃ n, v1 = .int .i64 n ∧ I64 n) (p2 : ∃ b, v2 = .bool b) :
    Calls Try.prog 3 #[v0, v1, v2] w fun ee w' => ee = .returned (.bool true) ∧ Ext w w' := by
  obtain ⟨t, e, a, rfl, _, _, _⟩ := p0
  obtain ⟨L, rfl, hL⟩ := p1
  obtain ⟨b, rfl⟩ := p2
  cases b
  · exact tick_small t e a L w
  · exact tick_raw t e a L w hL.2
end Go.Proofs.Ytngokfaaaeikoaa
