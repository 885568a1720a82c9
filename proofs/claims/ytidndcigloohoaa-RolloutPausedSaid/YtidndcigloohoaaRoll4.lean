/- Rollouts: Weight, Step and their references. -/
import Derived.Test.YtidndcigloohoaaRoll1
import Derived.Test.YtidndcigloohoaaRoll3
import Derived.Test.YtidndcigloohoaaObs
import Derived.Test.YtidndcigloohoaaRefTick
set_option linter.unusedVariables false
namespace Go.Proofs.Ytidndcigloohoaa
open Go.RowKit Go.Rg

def wv (l : List Int) (mi nu de ho wi st : Int) : Int := if PlanOK l mi nu de ho wi ∧ 0 ≤ st ∧ st < l.length then l.getD st.toNat 0 else 0
theorem weight_any (A : Option Addr) (n c : Nat) (l : List Int) (mi nu de ho wi st : Int) (w : World) (hr : Row w w.heap.size 1 A n (ints l)) (hc : n ≤ c) (hn : n ≤ 9223372036854775807) :
    Calls Try.prog 28 #[pl A n c mi nu de ho wi, .int .i64 st] w fun e w' => e = .returned (.int .i64 (wv l mi nu de ho wi st)) ∧ Ext w w' := by
  have hl := ints_len hr
  unfold wv
  split
  · rename_i h; exact weight_in A n c l mi nu de ho wi st w hr h.1 hc hn h.2.1 (by omega)
  · rename_i h; exact weight_out A n c l mi nu de ho wi st w hr hc hn (by rw [← hl]; exact h)
theorem stage_any (A : Option Addr) (n c : Nat) (l : List Int) (mi nu de ho wi st : Int) (w : World) (hr : Row w w.heap.size 1 A n (ints l)) (hc : n ≤ c) (hn : n ≤ 9223372036854775807) :
    Calls Try.prog 29 #[pl A n c mi nu de ho wi, .int .i64 st] w fun e w' => e = .returned (.int .i64 (wv l mi nu de ho wi st)) ∧ Ext w w' := by
  have hl := ints_len hr
  unfold wv
  split
  · rename_i h; exact stage_in A n c l mi nu de ho wi st w hr h.1 hc hn h.2.1 (by omega)
  · rename_i h; exact stage_out A n c l mi nu de ho wi st w hr hc hn (by rw [← hl]; exact h)
/-- Weight. -/
def weightR (l : List Int) (mi nu de ho wi : Int) (r : Ro) : Int := if r.s = 1 ∨ r.s = 4 then wv l mi nu de ho wi r.g else if r.s = 2 then 10000 else 0
set_option maxHeartbeats 1000000 in
theorem rweight_any (A : Option Addr) (n c : Nat) (l : List Int) (mi nu de ho wi : Int) (r : Ro) (w : World) (hr : Row w w.heap.size 1 A n (ints l)) (hc : n ≤ c) (hn : n ≤ 9223372036854775807) :
    Calls Try.prog 14 #[rv r, pl A n c mi nu de ho wi] w fun e w' => e = .returned (.int .i64 (weightR l mi nu de ho wi r)) ∧ Ext w w' := by
  obtain ⟨s, g, h, t, e, a⟩ := r
  have C := Lib.hid (fun w hr => weight_any A n c l mi nu de ho wi g w hr hc hn)
  by_cases s1 : s = 1
  · subst s1
    rw [show weightR l mi nu de ho wi ⟨1, g, h, t, e, a⟩ = wv l mi nu de ho wi g by simp [weightR]]
    go_enter Try.func14, Try.ntmps14
    go_wp2_with fail
    refine (C.out _ (hr.lift (by repeat (first | exact Ext.refl _ | assumption | apply Ext.plus_ | apply Ext.alloc | apply Ext.drew)))).mono ?_
    rintro e w' ⟨rfl, hE⟩
    obtain ⟨x, rfl⟩ := hE.plus
    clear hE
    go_wp2_with fail
    go_ret
    refine ⟨rfl, ?_⟩
    repeat (first | exact Ext.refl _ | apply Ext.drew | apply Ext.drewN | apply Ext.plus_ | apply Ext.alloc | assumption)
  by_cases s4 : s = 4
  · subst s4
    rw [show weightR l mi nu de ho wi ⟨4, g, h, t, e, a⟩ = wv l mi nu de ho wi g by simp [weightR]]
    go_enter Try.func14, Try.ntmps14
    go_wp2_with fail
    refine (C.out _ (hr.lift (by repeat (first | exact Ext.refl _ | assumption | apply Ext.plus_ | apply Ext.alloc | apply Ext.drew)))).mono ?_
    rintro e w' ⟨rfl, hE⟩
    obtain ⟨x, rfl⟩ := hE.plus
    clear hE
    go_wp2_with fail
    go_ret
    refine ⟨rfl, ?_⟩
    repeat (first | exact Ext.refl _ | apply Ext.drew | apply Ext.drewN | apply Ext.plus_ | apply Ext.alloc | assumption)
  by_cases s2 : s = 2
  · subst s2
    rw [show weightR l mi nu de ho wi ⟨2, g, h, t, e, a⟩ = 10000 by simp [weightR]]
    go_enter Try.func14, Try.ntmps14
    go_wp2
    go_ret
    refine ⟨rfl, ?_⟩
    repeat (first | exact Ext.refl _ | apply Ext.drew | apply Ext.drewN | apply Ext.plus_ | apply Ext.alloc | assumption)
  · rw [show weightR l mi nu de ho wi ⟨s, g, h, t, e, a⟩ = 0 by simp [weightR, s1, s4, s2]]
    go_enter Try.func14, Try.ntmps14
    go_wp2
    go_ret
    refine ⟨rfl, ?_⟩
    repeat (first | exact Ext.refl _ | apply Ext.drew | apply Ext.drewN | apply Ext.plus_ | apply Ext.alloc | assumption)
set_option maxHeartbeats 1000000 in
theorem refWeight_any (A : Option Addr) (n c : Nat) (l : List Int) (mi nu de ho wi : Int) (r : Ro) (w : World) (hr : Row w w.heap.size 1 A n (ints l)) (hc : n ≤ c) (hn : n ≤ 9223372036854775807) :
    Calls Try.prog 15 #[rv r, pl A n c mi nu de ho wi] w fun e w' => e = .returned (.int .i64 (weightR l mi nu de ho wi r)) ∧ Ext w w' := by
  obtain ⟨s, g, h, t, e, a⟩ := r
  have C := Lib.hid (fun w hr => stage_any A n c l mi nu de ho wi g w hr hc hn)
  by_cases s1 : s = 1
  · subst s1
    rw [show weightR l mi nu de ho wi ⟨1, g, h, t, e, a⟩ = wv l mi nu de ho wi g by simp [weightR]]
    go_enter Try.func15, Try.ntmps15
    go_wp2_with fail
    refine (C.out _ (hr.lift (by repeat (first | exact Ext.refl _ | assumption | apply Ext.plus_ | apply Ext.alloc | apply Ext.drew)))).mono ?_
    rintro e w' ⟨rfl, hE⟩
    obtain ⟨x, rfl⟩ := hE.plus
    clear hE
    go_wp2_with fail
    go_ret
    refine ⟨rfl, ?_⟩
    repeat (first | exact Ext.refl _ | apply Ext.drew | apply Ext.drewN | apply Ext.plus_ | apply Ext.alloc | assumption)
  by_cases s4 : s = 4
  · subst s4
    rw [show weightR l mi nu de ho wi ⟨4, g, h, t, e, a⟩ = wv l mi nu de ho wi g by simp [weightR]]
    go_enter Try.func15, Try.ntmps15
    go_wp2_with fail
    refine (C.out _ (hr.lift (by repeat (first | exact Ext.refl _ | assumption | apply Ext.plus_ | apply Ext.alloc | apply Ext.drew)))).mono ?_
    rintro e w' ⟨rfl, hE⟩
    obtain ⟨x, rfl⟩ := hE.plus
    clear hE
    go_wp2_with fail
    go_ret
    refine ⟨rfl, ?_⟩
    repeat (first | exact Ext.refl _ | apply Ext.drew | apply Ext.drewN | apply Ext.plus_ | apply Ext.alloc | assumption)
  by_cases s2 : s = 2
  · subst s2
    rw [show weightR l mi nu de ho wi ⟨2, g, h, t, e, a⟩ = 10000 by simp [weightR]]
    go_enter Try.func15, Try.ntmps15
    go_wp2
    go_ret
    refine ⟨rfl, ?_⟩
    repeat (first | exact Ext.refl _ | apply Ext.drew | apply Ext.drewN | apply Ext.plus_ | apply Ext.alloc | assumption)
  · rw [show weightR l mi nu de ho wi ⟨s, g, h, t, e, a⟩ = 0 by simp [weightR, s1, s4, s2]]
    go_enter Try.func15, Try.ntmps15
    go_wp2
    go_ret
    refine ⟨rfl, ?_⟩
    repeat (first | exact Ext.refl _ | apply Ext.drew | apply Ext.drewN | apply Ext.plus_ | apply Ext.alloc | assumption)

/-- Step. -/
def stepR (l : List Int) (mi nu de ho wi : Int) (r : Ro) (k x : Int) : Ro :=
  if k = 1 then tickR l mi nu de ho wi r else if k = 2 then obsR r false else if k = 3 then obsR r true
  else if k = 4 then (if (cmdR r x).2 = 0 then (cmdR r x).1 else r) else r
set_option maxHeartbeats 2000000 in
theorem step_tick (A : Option Addr) (n c : Nat) (l : List Int) (mi nu de ho wi : Int) (r : Ro) (x : Int) (w : World) (hr : Row w w.heap.size 1 A n (ints l)) (hc : n ≤ c) (hP : PlanOK l mi nu de ho wi) (hI : InvR n ho r) :
    Calls Try.prog 16 #[rv r, pl A n c mi nu de ho wi, .agg #[.int .i64 1, .int .i64 x]] w fun e w' => e = .returned (rv (stepR l mi nu de ho wi r 1 x)) ∧ Ext w w' := by
  have C := Lib.hid (fun w hr => tick_any A n c l mi nu de ho wi r w hr hc hP hI)
  rw [show stepR l mi nu de ho wi r 1 x = tickR l mi nu de ho wi r from if_pos rfl]
  clear hP hI
  obtain ⟨⟨s', g', h', t', e', a'⟩, hrr⟩ : ∃ rr, rr = tickR l mi nu de ho wi r := ⟨_, rfl⟩
  rw [← hrr] at C ⊢
  clear hrr
  obtain ⟨s, g, h, t, e, a⟩ := r
  go_enter Try.func16, Try.ntmps16
  go_wp2_with fail
  refine (C.out _ (hr.lift (by repeat (first | exact Ext.refl _ | assumption | apply Ext.plus_ | apply Ext.alloc | apply Ext.drew)))).mono ?_
  rintro e w' ⟨rfl, hE⟩
  obtain ⟨x, rfl⟩ := hE.plus
  clear hE
  go_wp2_with fail
  go_wp2
  refine bodyPost_ret (v := (rv ⟨s', g', h', t', e', a'⟩)) (by simp [results, Try.results16, go_sem]) rfl ?_
  refine ⟨rfl, ?_⟩
  repeat (first | exact Ext.refl _ | apply Ext.drew | apply Ext.drewN | apply Ext.plus_ | apply Ext.alloc | assumption)
set_option maxHeartbeats 2000000 in
theorem step_obs2 (A : Option Addr) (n c : Nat) (l : List Int) (mi nu de ho wi : Int) (r : Ro) (x : Int) (w : World) :
    Calls Try.prog 16 #[rv r, pl A n c mi nu de ho wi, .agg #[.int .i64 2, .int .i64 x]] w fun e w' => e = .returned (rv (stepR l mi nu de ho wi r 2 x)) ∧ Ext w w' := by
  have C := Lib.hid (fun w => observe_any r false w)
  rw [show stepR l mi nu de ho wi r 2 x = obsR r false by simp [stepR]]
  obtain ⟨⟨s', g', h', t', e', a'⟩, hrr⟩ : ∃ rr, rr = obsR r false := ⟨_, rfl⟩
  rw [← hrr] at C ⊢
  clear hrr
  obtain ⟨s, g, h, t, e, a⟩ := r
  go_enter Try.func16, Try.ntmps16
  go_wp2_with fail
  refine (C.out _).mono ?_
  rintro e w' ⟨rfl, hE⟩
  obtain ⟨x, rfl⟩ := hE.plus
  clear hE
  go_wp2_with fail
  go_wp2
  refine bodyPost_ret (v := (rv ⟨s', g', h', t', e', a'⟩)) (by simp [results, Try.results16, go_sem]) rfl ?_
  refine ⟨rfl, ?_⟩
  repeat (first | exact Ext.refl _ | apply Ext.drew | apply Ext.drewN | apply Ext.plus_ | apply Ext.alloc | assumption)
set_option maxHeartbeats 2000000 in
theorem step_obs3 (A : Option Addr) (n c : Nat) (l : List Int) (mi nu de ho wi : Int) (r : Ro) (x : Int) (w : World) :
    Calls Try.prog 16 #[rv r, pl A n c mi nu de ho wi, .agg #[.int .i64 3, .int .i64 x]] w fun e w' => e = .returned (rv (stepR l mi nu de ho wi r 3 x)) ∧ Ext w w' := by
  have C := Lib.hid (fun w => observe_any r true w)
  rw [show stepR l mi nu de ho wi r 3 x = obsR r true by simp [stepR]]
  obtain ⟨⟨s', g', h', t', e', a'⟩, hrr⟩ : ∃ rr, rr = obsR r true := ⟨_, rfl⟩
  rw [← hrr] at C ⊢
  clear hrr
  obtain ⟨s, g, h, t, e, a⟩ := r
  go_enter Try.func16, Try.ntmps16
  go_wp2_with fail
  refine (C.out _).mono ?_
  rintro e w' ⟨rfl, hE⟩
  obtain ⟨x, rfl⟩ := hE.plus
  clear hE
  go_wp2_with fail
  go_wp2
  refine bodyPost_ret (v := (rv ⟨s', g', h', t', e', a'⟩)) (by simp [results, Try.results16, go_sem]) rfl ?_
  refine ⟨rfl, ?_⟩
  repeat (first | exact Ext.refl _ | apply Ext.drew | apply Ext.drewN | apply Ext.plus_ | apply Ext.alloc | assumption)
set_option maxHeartbeats 2000000 in
theorem step_cmd (A : Option Addr) (n c : Nat) (l : List Int) (mi nu de ho wi : Int) (r : Ro) (x : Int) (w : World) :
    Calls Try.prog 16 #[rv r, pl A n c mi nu de ho wi, .agg #[.int .i64 4, .int .i64 x]] w fun e w' => e = .returned (rv (stepR l mi nu de ho wi r 4 x)) ∧ Ext w w' := by
  have C := Lib.hid (fun w => command_any r x w)
  rw [show stepR l mi nu de ho wi r 4 x = if (cmdR r x).2 = 0 then (cmdR r x).1 else r by simp [stepR]]
  obtain ⟨er, her⟩ : ∃ er, er = (cmdR r x).2 := ⟨_, rfl⟩
  obtain ⟨⟨s', g', h', t', e', a'⟩, hrr⟩ : ∃ rr, rr = (cmdR r x).1 := ⟨_, rfl⟩
  rw [← hrr, ← her] at C
  rw [← hrr, ← her]
  clear hrr her
  obtain ⟨s, g, h, t, e, a⟩ := r
  by_cases h0 : er = 0
  · subst h0
    rw [if_pos rfl]
    go_enter Try.func16, Try.ntmps16
    go_wp2_with fail
    refine (C.out _).mono ?_
    rintro e w' ⟨rfl, hE⟩
    obtain ⟨x, rfl⟩ := hE.plus
    clear hE
    go_wp2_with fail
    go_wp2
    refine bodyPost_ret (v := (rv ⟨s', g', h', t', e', a'⟩)) (by simp [results, Try.results16, go_sem]) rfl ?_
    refine ⟨rfl, ?_⟩
    repeat (first | exact Ext.refl _ | apply Ext.drew | apply Ext.drewN | apply Ext.plus_ | apply Ext.alloc | assumption)
  · rw [if_neg h0]
    go_enter Try.func16, Try.ntmps16
    go_wp2_with fail
    refine (C.out _).mono ?_
    rintro e w' ⟨rfl, hE⟩
    obtain ⟨x, rfl⟩ := hE.plus
    clear hE
    go_wp2_with fail
    go_wp2
    refine bodyPost_ret (v := (rv ⟨s, g, h, t, e, a⟩)) (by simp [results, Try.results16, go_sem]) rfl ?_
    refine ⟨rfl, ?_⟩
    repeat (first | exact Ext.refl _ | apply Ext.drew | apply Ext.drewN | apply Ext.plus_ | apply Ext.alloc | assumption)
set_option maxHeartbeats 2000000 in
theorem step_rest (A : Option Addr) (n c : Nat) (l : List Int) (mi nu de ho wi : Int) (r : Ro) (k x : Int) (w : World) (h1 : ¬ k = 1) (h2 : ¬ k = 2) (h3 : ¬ k = 3) (h4 : ¬ k = 4) :
    Calls Try.prog 16 #[rv r, pl A n c mi nu de ho wi, .agg #[.int .i64 k, .int .i64 x]] w fun e w' => e = .returned (rv (stepR l mi nu de ho wi r k x)) ∧ Ext w w' := by
  rw [show stepR l mi nu de ho wi r k x = r by simp [stepR, h1, h2, h3, h4]]
  obtain ⟨s, g, h, t, e, a⟩ := r
  go_enter Try.func16, Try.ntmps16
  go_wp2_with fail
  refine bodyPost_ret (v := (rv ⟨s, g, h, t, e, a⟩)) (by simp [results, Try.results16, go_sem]) rfl ?_
  refine ⟨rfl, ?_⟩
  repeat (first | exact Ext.refl _ | apply Ext.drew | apply Ext.drewN | apply Ext.plus_ | apply Ext.alloc | assumption)
theorem step_any (A : Option Addr) (n c : Nat) (l : List Int) (mi nu de ho wi : Int) (r : Ro) (k x : Int) (w : World) (hr : Row w w.heap.size 1 A n (ints l)) (hc : n ≤ c) (hP : PlanOK l mi nu de ho wi) (hI : InvR n ho r) :
    Calls Try.prog 16 #[rv r, pl A n c mi nu de ho wi, .agg #[.int .i64 k, .int .i64 x]] w fun e w' => e = .returned (rv (stepR l mi nu de ho wi r k x)) ∧ Ext w w' := by
  by_cases h1 : k = 1
  · subst h1; exact step_tick A n c l mi nu de ho wi r x w hr hc hP hI
  by_cases h2 : k = 2
  · subst h2; exact step_obs2 A n c l mi nu de ho wi r x w
  by_cases h3 : k = 3
  · subst h3; exact step_obs3 A n c l mi nu de ho wi r x w
  by_cases h4 : k = 4
  · subst h4; exact step_cmd A n c l mi nu de ho wi r x w
  exact step_rest A n c l mi nu de ho wi r k x w h1 h2 h3 h4
set_option maxHeartbeats 2000000 in
theorem refStep_tick (A : Option Addr) (n c : Nat) (l : List Int) (mi nu de ho wi : Int) (r : Ro) (x : Int) (w : World) (hr : Row w w.heap.size 1 A n (ints l)) (hc : n ≤ c) (hP : PlanOK l mi nu de ho wi) (hI : InvR n ho r) :
    Calls Try.prog 17 #[rv r, pl A n c mi nu de ho wi, .agg #[.int .i64 1, .int .i64 x]] w fun e w' => e = .returned (rv (stepR l mi nu de ho wi r 1 x)) ∧ Ext w w' := by
  have C := Lib.hid (fun w hr => refTick_any A n c l mi nu de ho wi r w hr hc hP hI)
  rw [show stepR l mi nu de ho wi r 1 x = tickR l mi nu de ho wi r from if_pos rfl]
  clear hP hI
  obtain ⟨⟨s', g', h', t', e', a'⟩, hrr⟩ : ∃ rr, rr = tickR l mi nu de ho wi r := ⟨_, rfl⟩
  rw [← hrr] at C ⊢
  clear hrr
  obtain ⟨s, g, h, t, e, a⟩ := r
  go_enter Try.func17, Try.ntmps17
  go_wp2_with fail
  refine (C.out _ (hr.lift (by repeat (first | exact Ext.refl _ | assumption | apply Ext.plus_ | apply Ext.alloc | apply Ext.drew)))).mono ?_
  rintro e w' ⟨rfl, hE⟩
  obtain ⟨x, rfl⟩ := hE.plus
  clear hE
  go_wp2_with fail
  go_wp2
  refine bodyPost_ret (v := (rv ⟨s', g', h', t', e', a'⟩)) (by simp [results, Try.results17, go_sem]) rfl ?_
  refine ⟨rfl, ?_⟩
  repeat (first | exact Ext.refl _ | apply Ext.drew | apply Ext.drewN | apply Ext.plus_ | apply Ext.alloc | assumption)
set_option maxHeartbeats 2000000 in
theorem refStep_obs2 (A : Option Addr) (n c : Nat) (l : List Int) (mi nu de ho wi : Int) (r : Ro) (x : Int) (w : World) :
    Calls Try.prog 17 #[rv r, pl A n c mi nu de ho wi, .agg #[.int .i64 2, .int .i64 x]] w fun e w' => e = .returned (rv (stepR l mi nu de ho wi r 2 x)) ∧ Ext w w' := by
  have C := Lib.hid (fun w => refObserve_any r false w)
  rw [show stepR l mi nu de ho wi r 2 x = obsR r false by simp [stepR]]
  obtain ⟨⟨s', g', h', t', e', a'⟩, hrr⟩ : ∃ rr, rr = obsR r false := ⟨_, rfl⟩
  rw [← hrr] at C ⊢
  clear hrr
  obtain ⟨s, g, h, t, e, a⟩ := r
  go_enter Try.func17, Try.ntmps17
  go_wp2_with fail
  refine (C.out _).mono ?_
  rintro e w' ⟨rfl, hE⟩
  obtain ⟨x, rfl⟩ := hE.plus
  clear hE
  go_wp2_with fail
  go_wp2
  refine bodyPost_ret (v := (rv ⟨s', g', h', t', e', a'⟩)) (by simp [results, Try.results17, go_sem]) rfl ?_
  refine ⟨rfl, ?_⟩
  repeat (first | exact Ext.refl _ | apply Ext.drew | apply Ext.drewN | apply Ext.plus_ | apply Ext.alloc | assumption)
set_option maxHeartbeats 2000000 in
theorem refStep_obs3 (A : Option Addr) (n c : Nat) (l : List Int) (mi nu de ho wi : Int) (r : Ro) (x : Int) (w : World) :
    Calls Try.prog 17 #[rv r, pl A n c mi nu de ho wi, .agg #[.int .i64 3, .int .i64 x]] w fun e w' => e = .returned (rv (stepR l mi nu de ho wi r 3 x)) ∧ Ext w w' := by
  have C := Lib.hid (fun w => refObserve_any r true w)
  rw [show stepR l mi nu de ho wi r 3 x = obsR r true by simp [stepR]]
  obtain ⟨⟨s', g', h', t', e', a'⟩, hrr⟩ : ∃ rr, rr = obsR r true := ⟨_, rfl⟩
  rw [← hrr] at C ⊢
  clear hrr
  obtain ⟨s, g, h, t, e, a⟩ := r
  go_enter Try.func17, Try.ntmps17
  go_wp2_with fail
  refine (C.out _).mono ?_
  rintro e w' ⟨rfl, hE⟩
  obtain ⟨x, rfl⟩ := hE.plus
  clear hE
  go_wp2_with fail
  go_wp2
  refine bodyPost_ret (v := (rv ⟨s', g', h', t', e', a'⟩)) (by simp [results, Try.results17, go_sem]) rfl ?_
  refine ⟨rfl, ?_⟩
  repeat (first | exact Ext.refl _ | apply Ext.drew | apply Ext.drewN | apply Ext.plus_ | apply Ext.alloc | assumption)
set_option maxHeartbeats 2000000 in
theorem refStep_cmd (A : Option Addr) (n c : Nat) (l : List Int) (mi nu de ho wi : Int) (r : Ro) (x : Int) (w : World) :
    Calls Try.prog 17 #[rv r, pl A n c mi nu de ho wi, .agg #[.int .i64 4, .int .i64 x]] w fun e w' => e = .returned (rv (stepR l mi nu de ho wi r 4 x)) ∧ Ext w w' := by
  have C := Lib.hid (fun w => refCommand_any r x w)
  rw [show stepR l mi nu de ho wi r 4 x = if (cmdR r x).2 = 0 then (cmdR r x).1 else r by simp [stepR]]
  obtain ⟨er, her⟩ : ∃ er, er = (cmdR r x).2 := ⟨_, rfl⟩
  obtain ⟨⟨s', g', h', t', e', a'⟩, hrr⟩ : ∃ rr, rr = (cmdR r x).1 := ⟨_, rfl⟩
  rw [← hrr, ← her] at C
  rw [← hrr, ← her]
  clear hrr her
  obtain ⟨s, g, h, t, e, a⟩ := r
  by_cases h0 : er = 0
  · subst h0
    rw [if_pos rfl]
    go_enter Try.func17, Try.ntmps17
    go_wp2_with fail
    refine (C.out _).mono ?_
    rintro e w' ⟨rfl, hE⟩
    obtain ⟨x, rfl⟩ := hE.plus
    clear hE
    go_wp2_with fail
    go_wp2
    refine bodyPost_ret (v := (rv ⟨s', g', h', t', e', a'⟩)) (by simp [results, Try.results17, go_sem]) rfl ?_
    refine ⟨rfl, ?_⟩
    repeat (first | exact Ext.refl _ | apply Ext.drew | apply Ext.drewN | apply Ext.plus_ | apply Ext.alloc | assumption)
  · rw [if_neg h0]
    go_enter Try.func17, Try.ntmps17
    go_wp2_with fail
    refine (C.out _).mono ?_
    rintro e w' ⟨rfl, hE⟩
    obtain ⟨x, rfl⟩ := hE.plus
    clear hE
    go_wp2_with fail
    go_wp2
    refine bodyPost_ret (v := (rv ⟨s, g, h, t, e, a⟩)) (by simp [results, Try.results17, go_sem]) rfl ?_
    refine ⟨rfl, ?_⟩
    repeat (first | exact Ext.refl _ | apply Ext.drew | apply Ext.drewN | apply Ext.plus_ | apply Ext.alloc | assumption)
set_option maxHeartbeats 2000000 in
theorem refStep_rest (A : Option Addr) (n c : Nat) (l : List Int) (mi nu de ho wi : Int) (r : Ro) (k x : Int) (w : World) (h1 : ¬ k = 1) (h2 : ¬ k = 2) (h3 : ¬ k = 3) (h4 : ¬ k = 4) :
    Calls Try.prog 17 #[rv r, pl A n c mi nu de ho wi, .agg #[.int .i64 k, .int .i64 x]] w fun e w' => e = .returned (rv (stepR l mi nu de ho wi r k x)) ∧ Ext w w' := by
  rw [show stepR l mi nu de ho wi r k x = r by simp [stepR, h1, h2, h3, h4]]
  obtain ⟨s, g, h, t, e, a⟩ := r
  go_enter Try.func17, Try.ntmps17
  go_wp2_with fail
  refine bodyPost_ret (v := (rv ⟨s, g, h, t, e, a⟩)) (by simp [results, Try.results17, go_sem]) rfl ?_
  refine ⟨rfl, ?_⟩
  repeat (first | exact Ext.refl _ | apply Ext.drew | apply Ext.drewN | apply Ext.plus_ | apply Ext.alloc | assumption)
theorem refStep_any (A : Option Addr) (n c : Nat) (l : List Int) (mi nu de ho wi : Int) (r : Ro) (k x : Int) (w : World) (hr : Row w w.heap.size 1 A n (ints l)) (hc : n ≤ c) (hP : PlanOK l mi nu de ho wi) (hI : InvR n ho r) :
    Calls Try.prog 17 #[rv r, pl A n c mi nu de ho wi, .agg #[.int .i64 k, .int .i64 x]] w fun e w' => e = .returned (rv (stepR l mi nu de ho wi r k x)) ∧ Ext w w' := by
  by_cases h1 : k = 1
  · subst h1; exact refStep_tick A n c l mi nu de ho wi r x w hr hc hP hI
  by_cases h2 : k = 2
  · subst h2; exact refStep_obs2 A n c l mi nu de ho wi r x w
  by_cases h3 : k = 3
  · subst h3; exact refStep_obs3 A n c l mi nu de ho wi r x w
  by_cases h4 : k = 4
  · subst h4; exact refStep_cmd A n c l mi nu de ho wi r x w
  exact refStep_rest A n c l mi nu de ho wi r k x w h1 h2 h3 h4
end Go.Proofs.Ytidndcigloohoaa
