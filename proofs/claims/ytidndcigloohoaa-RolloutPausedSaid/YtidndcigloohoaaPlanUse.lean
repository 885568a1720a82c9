/- Weight and Verdict, and their references. -/
import Derived.Test.YtidndcigloohoaaPlanRef
import Derived.Test.YtidndcigloohoaaSrcPlan
set_option linter.unusedVariables false
namespace Go.Proofs.Ytidndcigloohoaa
open Go.RowKit Go.Rg

/-- The weight of a stage. -/
def wt (l : List Int) (mi nu de ho wi st : Int) (x : Int) : Prop := (PlanOK l mi nu de ho wi ∧ 0 ≤ st ∧ st < l.length ∧ x = l.getD st.toNat 0) ∨ (¬ (PlanOK l mi nu de ho wi ∧ 0 ≤ st ∧ st < l.length) ∧ x = 0)

set_option maxHeartbeats 1000000 in
theorem weight_in (A : Option Addr) (n c : Nat) (l : List Int) (mi nu de ho wi st : Int) (w : World) (hr : Row w w.heap.size 1 A n (ints l)) (h : PlanOK l mi nu de ho wi) (hc : n ≤ c) (hn : n ≤ 9223372036854775807) (h0 : 0 ≤ st) (h1 : st < n) :
    Calls Try.prog 28 #[pl A n c mi nu de ho wi, .int .i64 st] w fun e w' => e = .returned (.int .i64 (l.getD st.toNat 0)) ∧ Ext w w' := by
  obtain ⟨k, rfl⟩ := Int.eq_ofNat_of_zero_le h0
  obtain ⟨b, o, z, rfl, hb, hz, hcell⟩ := hr.int_at (show k < n by omega)
  rw [Int.toNat_natCast, getD_of hz]
  have H := Lib.hid h
  have hd1 : decide ((n : Int) ≤ (k : Int)) = false := by simp; omega
  have hk : k < n := by omega
  clear h hz
  go_enter Try.func28, Try.ntmps28
  go_wp2_with fail
  refine (validate_ok (some ⟨b, o, none⟩) n c l mi nu de ho wi _ (hr.lift (by repeat (first | exact Ext.refl _ | assumption | apply Ext.plus_ | apply Ext.alloc | apply Ext.drew))) H.out hc).mono ?_
  rintro e w' ⟨rfl, hE⟩
  obtain ⟨x, rfl⟩ := hE.plus
  clear hE
  go_wp2_with fail
  go_wp2
  go_ret
  exact ⟨rfl, (by repeat (first | exact Ext.refl _ | assumption | apply Ext.plus_ | apply Ext.alloc | apply Ext.drew))⟩
set_option maxHeartbeats 1000000 in
theorem weight_out (A : Option Addr) (n c : Nat) (l : List Int) (mi nu de ho wi st : Int) (w : World) (hr : Row w w.heap.size 1 A n (ints l)) (hc : n ≤ c) (hn : n ≤ 9223372036854775807) (h : ¬ (PlanOK l mi nu de ho wi ∧ 0 ≤ st ∧ st < n)) :
    Calls Try.prog 28 #[pl A n c mi nu de ho wi, .int .i64 st] w fun e w' => e = .returned (.int .i64 0) ∧ Ext w w' := by
  rcases Classical.em (PlanOK l mi nu de ho wi) with hp | hp
  · have hx : st < 0 ∨ (0 ≤ st ∧ (n : Int) ≤ st) := by
      rcases Int.lt_or_le st 0 with h1 | h1
      · exact .inl h1
      · rcases Int.lt_or_le st n with h2 | h2
        · exact absurd ⟨hp, h1, h2⟩ h
        · exact .inr ⟨h1, h2⟩
    have H := Lib.hid hp
    clear hp h
    rcases hx with hx | ⟨hx, hy⟩
    all_goals
      go_enter Try.func28, Try.ntmps28
      go_wp2_with fail
      refine (validate_ok A n c l mi nu de ho wi _ (hr.lift (by repeat (first | exact Ext.refl _ | assumption | apply Ext.plus_ | apply Ext.alloc | apply Ext.drew))) H.out hc).mono ?_
      rintro e w' ⟨rfl, hE⟩
      obtain ⟨x, rfl⟩ := hE.plus
      clear hE
      go_wp2_with fail
      go_wp2
      go_ret
      exact ⟨rfl, (by repeat (first | exact Ext.refl _ | assumption | apply Ext.plus_ | apply Ext.alloc | apply Ext.drew))⟩
  · have H := Lib.hid hp
    clear hp h
    go_enter Try.func28, Try.ntmps28
    go_wp2_with fail
    refine (validate_bad A n c l mi nu de ho wi _ (hr.lift (by repeat (first | exact Ext.refl _ | assumption | apply Ext.plus_ | apply Ext.alloc | apply Ext.drew))) H.out hn hc).mono ?_
    rintro e w' ⟨rfl, hE⟩
    obtain ⟨x, rfl⟩ := hE.plus
    clear hE
    go_wp2_with fail
    go_wp2
    go_ret
    exact ⟨rfl, (by repeat (first | exact Ext.refl _ | assumption | apply Ext.plus_ | apply Ext.alloc | apply Ext.drew))⟩
set_option maxHeartbeats 1000000 in
theorem stage_in (A : Option Addr) (n c : Nat) (l : List Int) (mi nu de ho wi st : Int) (w : World) (hr : Row w w.heap.size 1 A n (ints l)) (h : PlanOK l mi nu de ho wi) (hc : n ≤ c) (hn : n ≤ 9223372036854775807) (h0 : 0 ≤ st) (h1 : st < n) :
    Calls Try.prog 29 #[pl A n c mi nu de ho wi, .int .i64 st] w fun e w' => e = .returned (.int .i64 (l.getD st.toNat 0)) ∧ Ext w w' := by
  obtain ⟨k, rfl⟩ := Int.eq_ofNat_of_zero_le h0
  obtain ⟨b, o, z, rfl, hb, hz, hcell⟩ := hr.int_at (show k < n by omega)
  rw [Int.toNat_natCast, getD_of hz]
  have H := Lib.hid h
  have hd1 : decide ((n : Int) ≤ (k : Int)) = false := by simp; omega
  have hk : k < n := by omega
  clear h hz
  go_enter Try.func29, Try.ntmps29
  go_wp2_with fail
  refine (refPlan_ok (some ⟨b, o, none⟩) n c l mi nu de ho wi _ (hr.lift (by repeat (first | exact Ext.refl _ | assumption | apply Ext.plus_ | apply Ext.alloc | apply Ext.drew))) H.out hc).mono ?_
  rintro e w' ⟨rfl, hE⟩
  obtain ⟨x, rfl⟩ := hE.plus
  clear hE
  go_wp2_with fail
  go_wp2
  go_ret
  exact ⟨rfl, (by repeat (first | exact Ext.refl _ | assumption | apply Ext.plus_ | apply Ext.alloc | apply Ext.drew))⟩
set_option maxHeartbeats 1000000 in
theorem stage_out (A : Option Addr) (n c : Nat) (l : List Int) (mi nu de ho wi st : Int) (w : World) (hr : Row w w.heap.size 1 A n (ints l)) (hc : n ≤ c) (hn : n ≤ 9223372036854775807) (h : ¬ (PlanOK l mi nu de ho wi ∧ 0 ≤ st ∧ st < n)) :
    Calls Try.prog 29 #[pl A n c mi nu de ho wi, .int .i64 st] w fun e w' => e = .returned (.int .i64 0) ∧ Ext w w' := by
  rcases Classical.em (PlanOK l mi nu de ho wi) with hp | hp
  · have hx : st < 0 ∨ (0 ≤ st ∧ (n : Int) ≤ st) := by
      rcases Int.lt_or_le st 0 with h1 | h1
      · exact .inl h1
      · rcases Int.lt_or_le st n with h2 | h2
        · exact absurd ⟨hp, h1, h2⟩ h
        · exact .inr ⟨h1, h2⟩
    have H := Lib.hid hp
    clear hp h
    rcases hx with hx | ⟨hx, hy⟩
    all_goals
      go_enter Try.func29, Try.ntmps29
      go_wp2_with fail
      refine (refPlan_ok A n c l mi nu de ho wi _ (hr.lift (by repeat (first | exact Ext.refl _ | assumption | apply Ext.plus_ | apply Ext.alloc | apply Ext.drew))) H.out hc).mono ?_
      rintro e w' ⟨rfl, hE⟩
      obtain ⟨x, rfl⟩ := hE.plus
      clear hE
      go_wp2_with fail
      go_wp2
      go_ret
      exact ⟨rfl, (by repeat (first | exact Ext.refl _ | assumption | apply Ext.plus_ | apply Ext.alloc | apply Ext.drew))⟩
  · have H := Lib.hid hp
    clear hp h
    go_enter Try.func29, Try.ntmps29
    go_wp2_with fail
    refine (refPlan_bad A n c l mi nu de ho wi _ (hr.lift (by repeat (first | exact Ext.refl _ | assumption | apply Ext.plus_ | apply Ext.alloc | apply Ext.drew))) H.out hn hc).mono ?_
    rintro e w' ⟨rfl, hE⟩
    obtain ⟨x, rfl⟩ := hE.plus
    clear hE
    go_wp2_with fail
    go_wp2
    go_ret
    exact ⟨rfl, (by repeat (first | exact Ext.refl _ | assumption | apply Ext.plus_ | apply Ext.alloc | apply Ext.drew))⟩
end Go.Proofs.Ytidndcigloohoaa
