/- The reference of plan.Validate. -/
import Derived.Test.YtlcopiepcpangaaPlanRefA
import Derived.Test.YtlcopiepcpangaaPlanRefB
import Derived.Deep.QuietTactic
import Derived.BigQuiet
set_option linter.unusedVariables false
namespace Go.Proofs.Ytlcopiepcpangaa
open Go.RowKit Go.Rg

set_option maxRecDepth 100000 in
set_option maxHeartbeats 2000000 in
theorem refPlan_ok (A : Option Addr) (n c : Nat) (l : List Int) (mi nu de ho wi : Int) (w : World) (hr : Row w w.heap.size 1 A n (ints l)) (h : PlanOK l mi nu de ho wi) (hc : n ≤ c) :
    Calls Try.prog 25 #[pl A n c mi nu de ho wi] w fun e w' => e = .returned (.int .i64 0) ∧ Ext w w' := by
  have hl := ints_len hr
  obtain ⟨h0, a1, a2, b1, b2, c1, c2, d1, d2, e1, e2, f1, f2⟩ := h
  rw [hl] at h0 a1 a2
  have H0 := Lib.hid h0
  clear h0 hl
  go_enter Try.func25, Try.ntmps25
  go_wp2_with fail
  obtain ⟨F, hF⟩ : ∃ F : Nat → Bool, F = fun _ => true := ⟨_, rfl⟩
  go_loopw [3, 4] (fun ok i wr => RefRel w n #[.slice A n c, .int .i64 mi, .int .i64 nu, .int .i64 de, .int .i64 ho, .int .i64 wi] F ok i wr) (fun _ i _ => n - (intOf i).toNat)
  case atStart => exact ⟨0, _, Nat.zero_le _, rfl, by simp [hF], World.plus_self _⟩
  case round =>
    obtain ⟨k, x, hk, rfl, rfl, rfl⟩ := hrel
    have hFk : F k = true := by rw [hF]
    have HF := Lib.hid hF
    rw [hFk]
    clear hF hFk
    by_cases hlt : k < n
    · obtain ⟨b, o, z, rfl, hb, hz, hcell⟩ := hr.int_at (show k < n by omega)
      obtain ⟨s1, s2, s3⟩ := stepOK.of hz (H0.out k hlt)
      rcases Nat.eq_zero_or_pos k with hk0 | hk0
      · subst hk0
        have hcell : w.cell? ⟨b, o, none⟩ = some (.int .i64 z) := hcell
        clear hr hz s3
        go_wp2_with fail
        go_quiet (fail)
        go_wp2
        go_roundw
        case rel => exact ⟨0 + 1, _, by omega, by go_num, by rw [show F (0 + 1) = true from by rw [HF.out]], rfl⟩
        case measure => simp [intOf]; omega
      · obtain ⟨y, hy, s4⟩ := s3.resolve_left (by omega)
        obtain ⟨b', o', y', he, _, hy', hcy⟩ := hr.int_at (show k - 1 < n by omega)
        have e0 : b = b' ∧ o = o' := by injection he with he; injection he with h1 h2; exact ⟨h1, h2⟩
        obtain ⟨rfl, rfl⟩ := e0
        have e1 : y' = y := by rw [hy] at hy'; exact (Option.some.inj hy').symm
        subst e1
        have hd1 : ((k : Int) == 0) = false := by simp; omega
        clear hr hz hy he s3 hy'
        go_wp2_with fail
        go_quiet (fail)
        go_wp2
        go_roundw
        case rel => exact ⟨k + 1, _, by omega, by go_num, by rw [show F (k + 1) = true from by rw [HF.out]], rfl⟩
        case measure => simp [intOf]; omega
    · go_wp2
      go_ret
      exact ⟨rfl, (by repeat (first | exact Ext.refl _ | assumption | apply Ext.plus_ | apply Ext.alloc | apply Ext.drew))⟩

theorem refPlan_base (A : Option Addr) (n c : Nat) (l : List Int) (mi nu de ho wi : Int) (w : World) (hr : Row w w.heap.size 1 A n (ints l)) (hn : n ≤ 9223372036854775807)
    (h : ¬ (1 ≤ n ∧ n ≤ 8 ∧ 1 ≤ mi ∧ mi ≤ 1000000 ∧ 0 ≤ nu ∧ nu ≤ 1000000 ∧ 1 ≤ de ∧ de ≤ 1000000 ∧ 1 ≤ ho ∧ ho ≤ 100 ∧ 1 ≤ wi ∧ wi ≤ 1000000)) :
    Calls Try.prog 25 #[pl A n c mi nu de ho wi] w fun e w' => e = .returned (.int .i64 8) ∧ Ext w w' := by
  by_cases g0 : 1 ≤ n
  case neg => exact refPlan_b0 A n c l mi nu de ho wi w hr hn  (by omega)
  by_cases g1 : n ≤ 8
  case neg => exact refPlan_b1 A n c l mi nu de ho wi w hr hn g0 (by omega)
  by_cases g2 : 1 ≤ mi
  case neg => exact refPlan_b2 A n c l mi nu de ho wi w hr hn g0 g1 (by omega)
  by_cases g3 : mi ≤ 1000000
  case neg => exact refPlan_b3 A n c l mi nu de ho wi w hr hn g0 g1 g2 (by omega)
  by_cases g4 : 0 ≤ nu
  case neg => exact refPlan_b4 A n c l mi nu de ho wi w hr hn g0 g1 g2 g3 (by omega)
  by_cases g5 : nu ≤ 1000000
  case neg => exact refPlan_b5 A n c l mi nu de ho wi w hr hn g0 g1 g2 g3 g4 (by omega)
  by_cases g6 : 1 ≤ de
  case neg => exact refPlan_b6 A n c l mi nu de ho wi w hr hn g0 g1 g2 g3 g4 g5 (by omega)
  by_cases g7 : de ≤ 1000000
  case neg => exact refPlan_b7 A n c l mi nu de ho wi w hr hn g0 g1 g2 g3 g4 g5 g6 (by omega)
  by_cases g8 : 1 ≤ ho
  case neg => exact refPlan_b8 A n c l mi nu de ho wi w hr hn g0 g1 g2 g3 g4 g5 g6 g7 (by omega)
  by_cases g9 : ho ≤ 100
  case neg => exact refPlan_b9 A n c l mi nu de ho wi w hr hn g0 g1 g2 g3 g4 g5 g6 g7 g8 (by omega)
  by_cases g10 : 1 ≤ wi
  case neg => exact refPlan_b10 A n c l mi nu de ho wi w hr hn g0 g1 g2 g3 g4 g5 g6 g7 g8 g9 (by omega)
  by_cases g11 : wi ≤ 1000000
  case neg => exact refPlan_b11 A n c l mi nu de ho wi w hr hn g0 g1 g2 g3 g4 g5 g6 g7 g8 g9 g10 (by omega)
  exact absurd ⟨g0, g1, g2, g3, g4, g5, g6, g7, g8, g9, g10, g11⟩ h

set_option maxRecDepth 100000 in
set_option maxHeartbeats 2000000 in
theorem refPlan_step (A : Option Addr) (n c m : Nat) (l : List Int) (mi nu de ho wi : Int) (w : World) (hr : Row w w.heap.size 1 A n (ints l)) (hc : n ≤ c)
    (h : 1 ≤ n ∧ n ≤ 8 ∧ 1 ≤ mi ∧ mi ≤ 1000000 ∧ 0 ≤ nu ∧ nu ≤ 1000000 ∧ 1 ≤ de ∧ de ≤ 1000000 ∧ 1 ≤ ho ∧ ho ≤ 100 ∧ 1 ≤ wi ∧ wi ≤ 1000000) (h0 : okTo l m) (hm : m < n) (hs : ¬ stepOK l m) :
    Calls Try.prog 25 #[pl A n c mi nu de ho wi] w fun e w' => e = .returned (.int .i64 8) ∧ Ext w w' := by
  obtain ⟨a1, a2, b1, b2, c1, c2, d1, d2, e1, e2, f1, f2⟩ := h
  have H0 := Lib.hid h0
  have HS := Lib.hid hs
  clear h0 hs
  go_enter Try.func25, Try.ntmps25
  go_wp2_with fail
  obtain ⟨F, hF⟩ : ∃ F : Nat → Bool, F = fun k => decide (k ≤ m) := ⟨_, rfl⟩
  go_loopw [3, 4] (fun ok i wr => RefRel w n #[.slice A n c, .int .i64 mi, .int .i64 nu, .int .i64 de, .int .i64 ho, .int .i64 wi] F ok i wr) (fun _ i _ => n - (intOf i).toNat)
  case atStart => exact ⟨0, _, Nat.zero_le _, rfl, by simp [hF], World.plus_self _⟩
  case round =>
    obtain ⟨k, x, hk, rfl, rfl, rfl⟩ := hrel
    have HF := Lib.hid hF
    clear hF
    by_cases hlt : k < m
    · rw [show F k = true from by rw [HF.out]; simp; omega]
      obtain ⟨b, o, z, rfl, hb, hz, hcell⟩ := hr.int_at (show k < n by omega)
      obtain ⟨s1, s2, s3⟩ := stepOK.of hz (H0.out k hlt)
      rcases Nat.eq_zero_or_pos k with hk0 | hk0
      · subst hk0
        have hcell : w.cell? ⟨b, o, none⟩ = some (.int .i64 z) := hcell
        clear hr hz s3
        go_wp2_with fail
        go_quiet (fail)
        go_wp2
        go_roundw
        case rel => exact ⟨0 + 1, _, by omega, by go_num, by rw [show F (0 + 1) = true from by rw [HF.out]; simp; omega], rfl⟩
        case measure => simp [intOf]; omega
      · obtain ⟨y, hy, s4⟩ := s3.resolve_left (by omega)
        obtain ⟨b', o', y', he, _, hy', hcy⟩ := hr.int_at (show k - 1 < n by omega)
        have e0 : b = b' ∧ o = o' := by injection he with he; injection he with h1 h2; exact ⟨h1, h2⟩
        obtain ⟨rfl, rfl⟩ := e0
        have e1 : y' = y := by rw [hy] at hy'; exact (Option.some.inj hy').symm
        subst e1
        have hd1 : ((k : Int) == 0) = false := by simp; omega
        clear hr hz hy he s3 hy'
        go_wp2_with fail
        go_quiet (fail)
        go_wp2
        go_roundw
        case rel => exact ⟨k + 1, _, by omega, by go_num, by rw [show F (k + 1) = true from by rw [HF.out]; simp; omega], rfl⟩
        case measure => simp [intOf]; omega
    · by_cases hkm : k = m
      · subst hkm
        rw [show F k = true from by rw [HF.out]; simp]
        obtain ⟨b, o, z, rfl, hb, hz, hcell⟩ := hr.int_at hm
        have hno : ¬ stepOK l k := HS.out
        by_cases hz1 : 1 ≤ z
        · by_cases hz2 : z ≤ 10000
          · have hk0 : ¬ k = 0 := fun e => hno ⟨by rw [getD_of hz]; exact hz1, by rw [getD_of hz]; exact hz2, .inl e⟩
            obtain ⟨b', o', y, he, _, hy, hcy⟩ := hr.int_at (show k - 1 < n by omega)
            have e0 : b = b' ∧ o = o' := by injection he with he; injection he with h1 h2; exact ⟨h1, h2⟩
            obtain ⟨rfl, rfl⟩ := e0
            have s4 : z ≤ y := by
              rcases Int.lt_or_le y z with h | h
              · exact absurd ⟨by rw [getD_of hz]; exact hz1, by rw [getD_of hz]; exact hz2, .inr (by rw [getD_of hz, getD_of hy]; exact h)⟩ hno
              · exact h
            have hk1 : 0 < k := by omega
            have hd1 : ((k : Int) == 0) = false := by simp; omega
            have hd2 : decide (y < z) = false := by simp; omega
            clear hr hz hy he hno
            go_wp2_with fail
            go_quiet (fail)
            go_wp2
            go_roundw
            case rel => exact ⟨k + 1, _, by omega, by go_num, by rw [show F (k + 1) = false from by rw [HF.out]; simp], rfl⟩
            case measure => simp [intOf]; omega
          · have hd1 : decide (z ≤ 10000) = false := by simp; omega
            clear hr hz hno
            go_wp2_with fail
            go_quiet (fail)
            go_wp2
            go_roundw
            case rel => exact ⟨k + 1, _, by omega, by go_num, by rw [show F (k + 1) = false from by rw [HF.out]; simp], rfl⟩
            case measure => simp [intOf]; omega
        · have hd1 : decide (1 ≤ z) = false := by simp; omega
          clear hr hz hno
          go_wp2_with fail
          go_quiet (fail)
          go_wp2
          go_roundw
          case rel => exact ⟨k + 1, _, by omega, by go_num, by rw [show F (k + 1) = false from by rw [HF.out]; simp], rfl⟩
          case measure => simp [intOf]; omega
      · rw [show F k = false from by rw [HF.out]; simp; omega]
        by_cases hlt2 : k < n
        · clear hr
          go_wp2_with fail
          go_quiet (fail)
          go_wp2
          go_roundw
          case rel => exact ⟨k + 1, _, by omega, by go_num, by rw [show F (k + 1) = false from by rw [HF.out]; simp; omega], rfl⟩
          case measure => simp [intOf]; omega
        · go_wp2
          go_ret
          exact ⟨rfl, (by repeat (first | exact Ext.refl _ | assumption | apply Ext.plus_ | apply Ext.alloc | apply Ext.drew))⟩

theorem refPlan_bad (A : Option Addr) (n c : Nat) (l : List Int) (mi nu de ho wi : Int) (w : World) (hr : Row w w.heap.size 1 A n (ints l)) (h : ¬ PlanOK l mi nu de ho wi) (hn : n ≤ 9223372036854775807) (hc : n ≤ c) :
    Calls Try.prog 25 #[pl A n c mi nu de ho wi] w fun e w' => e = .returned (.int .i64 8) ∧ Ext w w' := by
  have hl := ints_len hr
  rcases Classical.em (1 ≤ n ∧ n ≤ 8 ∧ 1 ≤ mi ∧ mi ≤ 1000000 ∧ 0 ≤ nu ∧ nu ≤ 1000000 ∧ 1 ≤ de ∧ de ≤ 1000000 ∧ 1 ≤ ho ∧ ho ≤ 100 ∧ 1 ≤ wi ∧ wi ≤ 1000000) with hb | hb
  · have h1 : ¬ okTo l n := fun h0 => by
      obtain ⟨a1, a2, b1, b2, c1, c2, d1, d2, e1, e2, f1, f2⟩ := hb
      exact h ⟨by rw [hl]; exact h0, by rw [hl]; exact a1, by rw [hl]; exact a2, b1, b2, c1, c2, d1, d2, e1, e2, f1, f2⟩
    obtain ⟨m, hm, h2, h3⟩ := first_bad l n h1
    exact refPlan_step A n c m l mi nu de ho wi w hr hc hb h2 hm h3
  · exact refPlan_base A n c l mi nu de ho wi w hr hn hb
end Go.Proofs.Ytlcopiepcpangaa
