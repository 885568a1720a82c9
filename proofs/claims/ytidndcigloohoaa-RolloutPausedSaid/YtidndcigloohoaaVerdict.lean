/- The verdict on a window, and its reference. -/
import Derived.Test.YtidndcigloohoaaPlanRef
set_option linter.unusedVariables false
namespace Go.Proofs.Ytidndcigloohoaa
open Go.RowKit Go.Rg

abbrev win_ (t e a : Int) : Value := .agg #[.int .i64 t, .int .i64 e, .int .i64 a]
/-- The numbers of a window are counters. -/
def WinOK (t e : Int) : Prop := 0 ≤ t ∧ t ≤ 1000000000 ∧ 0 ≤ e ∧ e ≤ 1000000000

theorem mul_bd (x y m n : Int) (h0 : 0 ≤ x) (h1 : x ≤ m) (g0 : 0 ≤ y) (g1 : y ≤ n) : 0 ≤ x * y ∧ x * y ≤ m * n :=
  ⟨Int.mul_nonneg h0 g0, Int.mul_le_mul h1 g1 g0 (by omega)⟩

set_option maxHeartbeats 1000000 in
theorem verdict_thin (A : Option Addr) (n c : Nat) (l : List Int) (mi nu de ho wi t e a : Int) (w : World) (hr : Row w w.heap.size 1 A n (ints l)) (h : PlanOK l mi nu de ho wi) (hc : n ≤ c) (hw : WinOK t e) (hv : t < mi) :
    Calls Try.prog 20 #[pl A n c mi nu de ho wi, win_ t e a] w fun ee w' => ee = .returned (.int .i64 1) ∧ Ext w w' := by
  obtain ⟨t0, t1, e0, e1⟩ := hw
  have H := Lib.hid h
  have m1 := mul_bd e de 1000000000 1000000 e0 e1 (by have := h.de1; omega) h.de2
  have m2 := mul_bd nu t 1000000 1000000000 h.nu1 h.nu2 t0 t1
  obtain ⟨m1, m1'⟩ := m1
  obtain ⟨m2, m2'⟩ := m2
  simp only [Int.reduceMul] at m1' m2'
  clear h
  go_enter Try.func20, Try.ntmps20
  go_wp2_with fail
  refine (validate_ok A n c l mi nu de ho wi _ (hr.lift (by repeat (first | exact Ext.refl _ | assumption | apply Ext.plus_ | apply Ext.alloc | apply Ext.drew))) H.out hc).mono ?_
  rintro e w' ⟨rfl, hE⟩
  obtain ⟨x, rfl⟩ := hE.plus
  clear hE
  go_wp2_with fail
  refine (within_yes t 0 1000000000 _ t0 t1).mono ?_
  rintro e w' ⟨rfl, rfl⟩
  go_wp2_with fail
  refine (within_yes e 0 1000000000 _ e0 e1).mono ?_
  rintro e w' ⟨rfl, rfl⟩
  go_wp2_with fail
  go_wp2
  go_ret
  exact ⟨rfl, (by repeat (first | exact Ext.refl _ | assumption | apply Ext.plus_ | apply Ext.alloc | apply Ext.drew))⟩
set_option maxHeartbeats 1000000 in
theorem verdict_fail (A : Option Addr) (n c : Nat) (l : List Int) (mi nu de ho wi t e a : Int) (w : World) (hr : Row w w.heap.size 1 A n (ints l)) (h : PlanOK l mi nu de ho wi) (hc : n ≤ c) (hw : WinOK t e) (hv : mi ≤ t) (hf : nu * t < e * de) :
    Calls Try.prog 20 #[pl A n c mi nu de ho wi, win_ t e a] w fun ee w' => ee = .returned (.int .i64 3) ∧ Ext w w' := by
  obtain ⟨t0, t1, e0, e1⟩ := hw
  have H := Lib.hid h
  have m1 := mul_bd e de 1000000000 1000000 e0 e1 (by have := h.de1; omega) h.de2
  have m2 := mul_bd nu t 1000000 1000000000 h.nu1 h.nu2 t0 t1
  obtain ⟨m1, m1'⟩ := m1
  obtain ⟨m2, m2'⟩ := m2
  simp only [Int.reduceMul] at m1' m2'
  clear h
  go_enter Try.func20, Try.ntmps20
  go_wp2_with fail
  refine (validate_ok A n c l mi nu de ho wi _ (hr.lift (by repeat (first | exact Ext.refl _ | assumption | apply Ext.plus_ | apply Ext.alloc | apply Ext.drew))) H.out hc).mono ?_
  rintro e w' ⟨rfl, hE⟩
  obtain ⟨x, rfl⟩ := hE.plus
  clear hE
  go_wp2_with fail
  refine (within_yes t 0 1000000000 _ t0 t1).mono ?_
  rintro e w' ⟨rfl, rfl⟩
  go_wp2_with fail
  refine (within_yes e 0 1000000000 _ e0 e1).mono ?_
  rintro e w' ⟨rfl, rfl⟩
  go_wp2_with fail
  go_wp2
  go_ret
  exact ⟨rfl, (by repeat (first | exact Ext.refl _ | assumption | apply Ext.plus_ | apply Ext.alloc | apply Ext.drew))⟩
set_option maxHeartbeats 1000000 in
theorem verdict_good (A : Option Addr) (n c : Nat) (l : List Int) (mi nu de ho wi t e a : Int) (w : World) (hr : Row w w.heap.size 1 A n (ints l)) (h : PlanOK l mi nu de ho wi) (hc : n ≤ c) (hw : WinOK t e) (hv : mi ≤ t) (hf : e * de ≤ nu * t) :
    Calls Try.prog 20 #[pl A n c mi nu de ho wi, win_ t e a] w fun ee w' => ee = .returned (.int .i64 2) ∧ Ext w w' := by
  obtain ⟨t0, t1, e0, e1⟩ := hw
  have H := Lib.hid h
  have m1 := mul_bd e de 1000000000 1000000 e0 e1 (by have := h.de1; omega) h.de2
  have m2 := mul_bd nu t 1000000 1000000000 h.nu1 h.nu2 t0 t1
  obtain ⟨m1, m1'⟩ := m1
  obtain ⟨m2, m2'⟩ := m2
  simp only [Int.reduceMul] at m1' m2'
  clear h
  go_enter Try.func20, Try.ntmps20
  go_wp2_with fail
  refine (validate_ok A n c l mi nu de ho wi _ (hr.lift (by repeat (first | exact Ext.refl _ | assumption | apply Ext.plus_ | apply Ext.alloc | apply Ext.drew))) H.out hc).mono ?_
  rintro e w' ⟨rfl, hE⟩
  obtain ⟨x, rfl⟩ := hE.plus
  clear hE
  go_wp2_with fail
  refine (within_yes t 0 1000000000 _ t0 t1).mono ?_
  rintro e w' ⟨rfl, rfl⟩
  go_wp2_with fail
  refine (within_yes e 0 1000000000 _ e0 e1).mono ?_
  rintro e w' ⟨rfl, rfl⟩
  go_wp2_with fail
  go_wp2
  go_ret
  exact ⟨rfl, (by repeat (first | exact Ext.refl _ | assumption | apply Ext.plus_ | apply Ext.alloc | apply Ext.drew))⟩
set_option maxHeartbeats 1000000 in
theorem verdict_plan (A : Option Addr) (n c : Nat) (l : List Int) (mi nu de ho wi t e a : Int) (w : World) (hr : Row w w.heap.size 1 A n (ints l)) (h : ¬ PlanOK l mi nu de ho wi) (hc : n ≤ c) (hn : n ≤ 9223372036854775807) :
    Calls Try.prog 20 #[pl A n c mi nu de ho wi, win_ t e a] w fun ee w' => ee = .returned (.int .i64 0) ∧ Ext w w' := by
  have H := Lib.hid h
  clear h
  go_enter Try.func20, Try.ntmps20
  go_wp2_with fail
  refine (validate_bad A n c l mi nu de ho wi _ (hr.lift (by repeat (first | exact Ext.refl _ | assumption | apply Ext.plus_ | apply Ext.alloc | apply Ext.drew))) H.out hn hc).mono ?_
  rintro e w' ⟨rfl, hE⟩
  obtain ⟨x, rfl⟩ := hE.plus
  clear hE
  go_wp2_with fail
  go_wp2
  go_ret
  exact ⟨rfl, (by repeat (first | exact Ext.refl _ | assumption | apply Ext.plus_ | apply Ext.alloc | apply Ext.drew))⟩
set_option maxHeartbeats 1000000 in
theorem refVerdict_thin (A : Option Addr) (n c : Nat) (l : List Int) (mi nu de ho wi t e a : Int) (w : World) (hr : Row w w.heap.size 1 A n (ints l)) (h : PlanOK l mi nu de ho wi) (hc : n ≤ c) (hw : WinOK t e) (hv : t < mi) :
    Calls Try.prog 27 #[pl A n c mi nu de ho wi, win_ t e a] w fun ee w' => ee = .returned (.int .i64 1) ∧ Ext w w' := by
  obtain ⟨t0, t1, e0, e1⟩ := hw
  have H := Lib.hid h
  have m1 := mul_bd e de 1000000000 1000000 e0 e1 (by have := h.de1; omega) h.de2
  have m2 := mul_bd nu t 1000000 1000000000 h.nu1 h.nu2 t0 t1
  obtain ⟨m1, m1'⟩ := m1
  obtain ⟨m2, m2'⟩ := m2
  simp only [Int.reduceMul] at m1' m2'
  clear h
  go_enter Try.func27, Try.ntmps27
  go_wp2_with fail
  refine (refPlan_ok A n c l mi nu de ho wi _ (hr.lift (by repeat (first | exact Ext.refl _ | assumption | apply Ext.plus_ | apply Ext.alloc | apply Ext.drew))) H.out hc).mono ?_
  rintro e w' ⟨rfl, hE⟩
  obtain ⟨x, rfl⟩ := hE.plus
  clear hE
  go_wp2_with fail
  skip
  go_wp2
  go_ret
  exact ⟨rfl, (by repeat (first | exact Ext.refl _ | assumption | apply Ext.plus_ | apply Ext.alloc | apply Ext.drew))⟩
set_option maxHeartbeats 1000000 in
theorem refVerdict_fail (A : Option Addr) (n c : Nat) (l : List Int) (mi nu de ho wi t e a : Int) (w : World) (hr : Row w w.heap.size 1 A n (ints l)) (h : PlanOK l mi nu de ho wi) (hc : n ≤ c) (hw : WinOK t e) (hv : mi ≤ t) (hf : nu * t < e * de) :
    Calls Try.prog 27 #[pl A n c mi nu de ho wi, win_ t e a] w fun ee w' => ee = .returned (.int .i64 3) ∧ Ext w w' := by
  obtain ⟨t0, t1, e0, e1⟩ := hw
  have H := Lib.hid h
  have m1 := mul_bd e de 1000000000 1000000 e0 e1 (by have := h.de1; omega) h.de2
  have m2 := mul_bd nu t 1000000 1000000000 h.nu1 h.nu2 t0 t1
  obtain ⟨m1, m1'⟩ := m1
  obtain ⟨m2, m2'⟩ := m2
  simp only [Int.reduceMul] at m1' m2'
  clear h
  go_enter Try.func27, Try.ntmps27
  go_wp2_with fail
  refine (refPlan_ok A n c l mi nu de ho wi _ (hr.lift (by repeat (first | exact Ext.refl _ | assumption | apply Ext.plus_ | apply Ext.alloc | apply Ext.drew))) H.out hc).mono ?_
  rintro e w' ⟨rfl, hE⟩
  obtain ⟨x, rfl⟩ := hE.plus
  clear hE
  go_wp2_with fail
  skip
  go_wp2
  go_ret
  exact ⟨rfl, (by repeat (first | exact Ext.refl _ | assumption | apply Ext.plus_ | apply Ext.alloc | apply Ext.drew))⟩
set_option maxHeartbeats 1000000 in
theorem refVerdict_good (A : Option Addr) (n c : Nat) (l : List Int) (mi nu de ho wi t e a : Int) (w : World) (hr : Row w w.heap.size 1 A n (ints l)) (h : PlanOK l mi nu de ho wi) (hc : n ≤ c) (hw : WinOK t e) (hv : mi ≤ t) (hf : e * de ≤ nu * t) :
    Calls Try.prog 27 #[pl A n c mi nu de ho wi, win_ t e a] w fun ee w' => ee = .returned (.int .i64 2) ∧ Ext w w' := by
  obtain ⟨t0, t1, e0, e1⟩ := hw
  have H := Lib.hid h
  have m1 := mul_bd e de 1000000000 1000000 e0 e1 (by have := h.de1; omega) h.de2
  have m2 := mul_bd nu t 1000000 1000000000 h.nu1 h.nu2 t0 t1
  obtain ⟨m1, m1'⟩ := m1
  obtain ⟨m2, m2'⟩ := m2
  simp only [Int.reduceMul] at m1' m2'
  clear h
  go_enter Try.func27, Try.ntmps27
  go_wp2_with fail
  refine (refPlan_ok A n c l mi nu de ho wi _ (hr.lift (by repeat (first | exact Ext.refl _ | assumption | apply Ext.plus_ | apply Ext.alloc | apply Ext.drew))) H.out hc).mono ?_
  rintro e w' ⟨rfl, hE⟩
  obtain ⟨x, rfl⟩ := hE.plus
  clear hE
  go_wp2_with fail
  skip
  go_wp2
  go_ret
  exact ⟨rfl, (by repeat (first | exact Ext.refl _ | assumption | apply Ext.plus_ | apply Ext.alloc | apply Ext.drew))⟩
set_option maxHeartbeats 1000000 in
theorem refVerdict_plan (A : Option Addr) (n c : Nat) (l : List Int) (mi nu de ho wi t e a : Int) (w : World) (hr : Row w w.heap.size 1 A n (ints l)) (h : ¬ PlanOK l mi nu de ho wi) (hc : n ≤ c) (hn : n ≤ 9223372036854775807) :
    Calls Try.prog 27 #[pl A n c mi nu de ho wi, win_ t e a] w fun ee w' => ee = .returned (.int .i64 0) ∧ Ext w w' := by
  have H := Lib.hid h
  clear h
  go_enter Try.func27, Try.ntmps27
  go_wp2_with fail
  refine (refPlan_bad A n c l mi nu de ho wi _ (hr.lift (by repeat (first | exact Ext.refl _ | assumption | apply Ext.plus_ | apply Ext.alloc | apply Ext.drew))) H.out hn hc).mono ?_
  rintro e w' ⟨rfl, hE⟩
  obtain ⟨x, rfl⟩ := hE.plus
  clear hE
  go_wp2_with fail
  go_wp2
  go_ret
  exact ⟨rfl, (by repeat (first | exact Ext.refl _ | assumption | apply Ext.plus_ | apply Ext.alloc | apply Ext.drew))⟩

set_option maxHeartbeats 1000000 in
theorem verdict_t (A : Option Addr) (n c : Nat) (l : List Int) (mi nu de ho wi t e a : Int) (w : World) (hr : Row w w.heap.size 1 A n (ints l)) (h : PlanOK l mi nu de ho wi) (hc : n ≤ c) (ht : t < 0 ∨ 1000000000 < t) :
    Calls Try.prog 20 #[pl A n c mi nu de ho wi, win_ t e a] w fun ee w' => ee = .returned (.int .i64 0) ∧ Ext w w' := by
  have H := Lib.hid h
  clear h
  go_enter Try.func20, Try.ntmps20
  go_wp2_with fail
  refine (validate_ok A n c l mi nu de ho wi _ (hr.lift (by repeat (first | exact Ext.refl _ | assumption | apply Ext.plus_ | apply Ext.alloc | apply Ext.drew))) H.out hc).mono ?_
  rintro e w' ⟨rfl, hE⟩
  obtain ⟨x, rfl⟩ := hE.plus
  clear hE
  go_wp2_with fail
  refine (within_no t 0 1000000000 _ ht).mono ?_
  rintro e w' ⟨rfl, rfl⟩
  go_wp2_with fail
  go_ret
  exact ⟨rfl, (by repeat (first | exact Ext.refl _ | assumption | apply Ext.plus_ | apply Ext.alloc | apply Ext.drew))⟩
set_option maxHeartbeats 1000000 in
theorem verdict_e (A : Option Addr) (n c : Nat) (l : List Int) (mi nu de ho wi t e a : Int) (w : World) (hr : Row w w.heap.size 1 A n (ints l)) (h : PlanOK l mi nu de ho wi) (hc : n ≤ c) (t0 : 0 ≤ t) (t1 : t ≤ 1000000000) (ht : e < 0 ∨ 1000000000 < e) :
    Calls Try.prog 20 #[pl A n c mi nu de ho wi, win_ t e a] w fun ee w' => ee = .returned (.int .i64 0) ∧ Ext w w' := by
  have H := Lib.hid h
  clear h
  go_enter Try.func20, Try.ntmps20
  go_wp2_with fail
  refine (validate_ok A n c l mi nu de ho wi _ (hr.lift (by repeat (first | exact Ext.refl _ | assumption | apply Ext.plus_ | apply Ext.alloc | apply Ext.drew))) H.out hc).mono ?_
  rintro e w' ⟨rfl, hE⟩
  obtain ⟨x, rfl⟩ := hE.plus
  clear hE
  go_wp2_with fail
  refine (within_yes t 0 1000000000 _ t0 t1).mono ?_
  rintro e w' ⟨rfl, rfl⟩
  go_wp2_with fail
  refine (within_no e 0 1000000000 _ ht).mono ?_
  rintro e w' ⟨rfl, rfl⟩
  go_wp2_with fail
  go_ret
  exact ⟨rfl, (by repeat (first | exact Ext.refl _ | assumption | apply Ext.plus_ | apply Ext.alloc | apply Ext.drew))⟩
set_option maxHeartbeats 1000000 in
theorem refVerdict_out (A : Option Addr) (n c : Nat) (l : List Int) (mi nu de ho wi t e a : Int) (w : World) (hr : Row w w.heap.size 1 A n (ints l)) (h : PlanOK l mi nu de ho wi) (hc : n ≤ c) (hw : ¬ WinOK t e) :
    Calls Try.prog 27 #[pl A n c mi nu de ho wi, win_ t e a] w fun ee w' => ee = .returned (.int .i64 0) ∧ Ext w w' := by
  have H := Lib.hid h
  clear h
  have hx : t < 0 ∨ (0 ≤ t ∧ 1000000000 < t) ∨ (0 ≤ t ∧ t ≤ 1000000000 ∧ e < 0) ∨ (0 ≤ t ∧ t ≤ 1000000000 ∧ 0 ≤ e ∧ 1000000000 < e) := by unfold WinOK at hw; omega
  clear hw
  rcases hx with hx | ⟨hx, hy⟩ | ⟨hx, hy, hz⟩ | ⟨hx, hy, hz, hu⟩
  all_goals
    go_enter Try.func27, Try.ntmps27
    go_wp2_with fail
    refine (refPlan_ok A n c l mi nu de ho wi _ (hr.lift (by repeat (first | exact Ext.refl _ | assumption | apply Ext.plus_ | apply Ext.alloc | apply Ext.drew))) H.out hc).mono ?_
    rintro e w' ⟨rfl, hE⟩
    obtain ⟨x, rfl⟩ := hE.plus
    clear hE
    go_wp2_with fail
    go_wp2
    go_ret
    exact ⟨rfl, (by repeat (first | exact Ext.refl _ | assumption | apply Ext.plus_ | apply Ext.alloc | apply Ext.drew))⟩
theorem verdict_out (A : Option Addr) (n c : Nat) (l : List Int) (mi nu de ho wi t e a : Int) (w : World) (hr : Row w w.heap.size 1 A n (ints l)) (h : PlanOK l mi nu de ho wi) (hc : n ≤ c) (hw : ¬ WinOK t e) :
    Calls Try.prog 20 #[pl A n c mi nu de ho wi, win_ t e a] w fun ee w' => ee = .returned (.int .i64 0) ∧ Ext w w' := by
  by_cases ht : 0 ≤ t ∧ t ≤ 1000000000
  · exact verdict_e A n c l mi nu de ho wi t e a w hr h hc ht.1 ht.2 (by unfold WinOK at hw; omega)
  · exact verdict_t A n c l mi nu de ho wi t e a w hr h hc (by omega)

instance (l : List Int) (k : Nat) : Decidable (stepOK l k) := by unfold stepOK; infer_instance
instance (l : List Int) (k : Nat) : Decidable (okTo l k) := by unfold okTo; infer_instance
instance (t e : Int) : Decidable (WinOK t e) := by unfold WinOK; infer_instance
instance (l : List Int) (mi nu de ho wi : Int) : Decidable (PlanOK l mi nu de ho wi) :=
  decidable_of_iff (okTo l l.length ∧ 1 ≤ l.length ∧ l.length ≤ 8 ∧ (1 ≤ mi ∧ mi ≤ 1000000) ∧ (0 ≤ nu ∧ nu ≤ 1000000) ∧ (1 ≤ de ∧ de ≤ 1000000) ∧ (1 ≤ ho ∧ ho ≤ 100) ∧ (1 ≤ wi ∧ wi ≤ 1000000))
    ⟨fun ⟨h0, a1, a2, ⟨b1, b2⟩, ⟨c1, c2⟩, ⟨d1, d2⟩, ⟨e1, e2⟩, f1, f2⟩ => ⟨h0, a1, a2, b1, b2, c1, c2, d1, d2, e1, e2, f1, f2⟩, fun ⟨h0, a1, a2, b1, b2, c1, c2, d1, d2, e1, e2, f1, f2⟩ => ⟨h0, a1, a2, ⟨b1, b2⟩, ⟨c1, c2⟩, ⟨d1, d2⟩, ⟨e1, e2⟩, f1, f2⟩⟩
/-- What both come to. -/
def vd (l : List Int) (mi nu de ho wi t e : Int) : Int :=
  if PlanOK l mi nu de ho wi ∧ WinOK t e then (if t < mi then 1 else if nu * t < e * de then 3 else 2) else 0
theorem verdict_any (A : Option Addr) (n c : Nat) (l : List Int) (mi nu de ho wi t e a : Int) (w : World) (hr : Row w w.heap.size 1 A n (ints l)) (hc : n ≤ c) (hn : n ≤ 9223372036854775807) :
    Calls Try.prog 20 #[pl A n c mi nu de ho wi, win_ t e a] w fun ee w' => ee = .returned (.int .i64 (vd l mi nu de ho wi t e)) ∧ Ext w w' := by
  unfold vd
  rcases Classical.em (PlanOK l mi nu de ho wi) with h | h
  · rcases Classical.em (WinOK t e) with hw | hw
    · rw [if_pos ⟨h, hw⟩]
      rcases Int.lt_or_le t mi with h1 | h1
      · rw [if_pos h1]; exact verdict_thin A n c l mi nu de ho wi t e a w hr h hc hw h1
      · rw [if_neg (by omega)]
        rcases Int.lt_or_le (nu * t) (e * de) with h2 | h2
        · rw [if_pos h2]; exact verdict_fail A n c l mi nu de ho wi t e a w hr h hc hw h1 h2
        · rw [if_neg (by omega)]; exact verdict_good A n c l mi nu de ho wi t e a w hr h hc hw h1 h2
    · rw [if_neg (fun x => hw x.2)]; exact verdict_out A n c l mi nu de ho wi t e a w hr h hc hw
  · rw [if_neg (fun x => h x.1)]; exact verdict_plan A n c l mi nu de ho wi t e a w hr h hc hn
theorem refVerdict_any (A : Option Addr) (n c : Nat) (l : List Int) (mi nu de ho wi t e a : Int) (w : World) (hr : Row w w.heap.size 1 A n (ints l)) (hc : n ≤ c) (hn : n ≤ 9223372036854775807) :
    Calls Try.prog 27 #[pl A n c mi nu de ho wi, win_ t e a] w fun ee w' => ee = .returned (.int .i64 (vd l mi nu de ho wi t e)) ∧ Ext w w' := by
  unfold vd
  rcases Classical.em (PlanOK l mi nu de ho wi) with h | h
  · rcases Classical.em (WinOK t e) with hw | hw
    · rw [if_pos ⟨h, hw⟩]
      rcases Int.lt_or_le t mi with h1 | h1
      · rw [if_pos h1]; exact refVerdict_thin A n c l mi nu de ho wi t e a w hr h hc hw h1
      · rw [if_neg (by omega)]
        rcases Int.lt_or_le (nu * t) (e * de) with h2 | h2
        · rw [if_pos h2]; exact refVerdict_fail A n c l mi nu de ho wi t e a w hr h hc hw h1 h2
        · rw [if_neg (by omega)]; exact refVerdict_good A n c l mi nu de ho wi t e a w hr h hc hw h1 h2
    · rw [if_neg (fun x => hw x.2)]; exact refVerdict_out A n c l mi nu de ho wi t e a w hr h hc hw
  · rw [if_neg (fun x => h x.1)]; exact refVerdict_plan A n c l mi nu de ho wi t e a w hr h hc hn
end Go.Proofs.Ytidndcigloohoaa
