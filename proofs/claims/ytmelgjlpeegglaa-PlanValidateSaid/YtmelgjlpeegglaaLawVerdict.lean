/- PlanVerdict: the walk -/
import Derived.Test.YtmelgjlpeegglaaLawWeight
namespace Go.Proofs.Ytmelgjlpeegglaa
open Go.RowKit Go.Rg

set_option maxHeartbeats 2000000 in
theorem verdict_rr (lv : Value) (A : Option Addr) (n c : Nat) (l : List Int) (mi nu de ho wi t e a q : Int) (w : World) (hr : Row w w.heap.size 1 A n (ints l)) (hc : n ≤ c) (hn : n ≤ 9223372036854775807) (hlv : ∃ B k d, lv = .slice B k d)
    (hk : bits .and .i64 q 1 ≠ 0) (hk2 : bits .and .i64 q 2 ≠ 0) :
    Calls Try.prog 5 #[lv, pl A n c mi nu de ho wi, win_ t e a, .int .i64 q] w fun ee w' => ee = .returned (.bool true) ∧ Ext w w' := by
  obtain ⟨B, kk, d, rfl⟩ := hlv
  go_enter Try.func5, Try.ntmps5
  go_wp2_with fail
  apply wp_region_ext 10 [is _, is _, is (.int .i64 (vd l mi nu de ho wi t e)), is _, is _, is (.int .i64 (vd l mi nu de ho wi t e)), is _, is _, is (.bool true), is _] (by kernel_rfl) (by kernel_rfl) rfl
  case hops =>
    simp only [List.take_succ_cons, List.take_zero]
    refine ⟨?_, ?_, ?_, ?_, ?_, ?_, ?_, ?_, ?_, ?_, trivial⟩
    all_goals
      intro vs x hd
      simp only [putAll, Act.put, List.setIfInBounds_toArray, List.set_cons_succ, List.set_cons_zero, Nat.zero_add, Nat.reduceAdd]
      simp [depFacts, is, isRow, isRowN, isBox, dataE] at hd
      try simp only [World.plus_plus] at hd
      simp only [Region.wanted, if_true, comes]
      try simp [yielded, hd, comes]
      go_simp
      try go_bits
      first
        | exact ⟨Ext.refl _, rfl⟩
        | exact rfl
        | exact ⟨(Ext.refl _).alloc _, _, rfl, Cells.new _ _ _ _ rfl⟩
        | exact ⟨(Ext.refl _).alloc _, _, rfl, Box.new _ _ _ _ (by simp [World.le_plus]) rfl⟩
        | ((go_at_call 14); refine (verdict_any A n c l mi nu de ho wi t e a _ (hr.lift (by repeat (first | exact Ext.refl _ | assumption | apply Ext.plus_ | apply Ext.alloc | apply Ext.drew))) hc hn).mono ?_; rintro e w' ⟨rfl, hE⟩; exact ⟨_, rfl, hE, rfl⟩)
        | ((go_at_call 15); refine (refVerdict_any A n c l mi nu de ho wi t e a _ (hr.lift (by repeat (first | exact Ext.refl _ | assumption | apply Ext.plus_ | apply Ext.alloc | apply Ext.drew))) hc hn).mono ?_; rintro e w' ⟨rfl, hE⟩; exact ⟨_, rfl, hE, rfl⟩)
        | ((go_at_call 11); refine (awake_any _).mono ?_; rintro e w' ⟨rfl, hE⟩; exact ⟨_, rfl, hE, rfl⟩)
  case hst => exact ⟨(by apply is.st), (by apply is.st), (by apply is.st), (by apply is.st), (by apply is.st), (by apply is.st), (by apply is.st), (by apply is.st), (by apply is.st), (by apply is.st), trivial⟩
  case hfin =>
    intro vs x hf
    try simp only [World.plus_plus] at hf ⊢
    simp only [List.take_succ_cons, List.take_zero, List.drop_succ_cons, List.drop_zero, putAll, Act.put, List.setIfInBounds_toArray, List.set_cons_succ, List.set_cons_zero]
    simp only [facts, is, Nat.zero_add, Nat.reduceAdd] at hf
    simp only [Nat.zero_add, Nat.reduceAdd, hf]
    clear hf
    go_wp2
    go_ret
    refine ⟨rfl, ?_⟩
    repeat (first | exact Ext.refl _ | apply Ext.drew | apply Ext.drewN | apply Ext.plus_ | apply Ext.alloc | assumption)
set_option maxHeartbeats 2000000 in
theorem verdict_rs (lv : Value) (A : Option Addr) (n c : Nat) (l : List Int) (mi nu de ho wi t e a q : Int) (w : World) (hr : Row w w.heap.size 1 A n (ints l)) (hc : n ≤ c) (hn : n ≤ 9223372036854775807) (hlv : ∃ B k d, lv = .slice B k d)
    (hk : bits .and .i64 q 1 ≠ 0) (hk2 : bits .and .i64 q 2 = 0) :
    Calls Try.prog 5 #[lv, pl A n c mi nu de ho wi, win_ t e a, .int .i64 q] w fun ee w' => ee = .returned (.bool true) ∧ Ext w w' := by
  obtain ⟨B, kk, d, rfl⟩ := hlv
  have C1 := Lib.hid (fun w => within_any t 20 w (by decide) (by decide))
  obtain ⟨t', ht⟩ : ∃ t', t' = t % 20 := ⟨_, rfl⟩
  have ht1 : 0 ≤ t' := by omega
  have ht2 : t' < 20 := by omega
  rw [← ht] at C1
  have C2 := Lib.hid (fun w => within_any e (t' + 1) w (by omega) (by omega))
  obtain ⟨e', he⟩ : ∃ e', e' = e % (t' + 1) := ⟨_, rfl⟩
  rw [← he] at C2
  clear ht he
  go_enter Try.func5, Try.ntmps5
  go_wp2_with fail
  refine (C1.out _).mono ?_
  rintro e w' ⟨rfl, rfl⟩
  go_wp2_with fail
  refine (C2.out _).mono ?_
  rintro e w' ⟨rfl, rfl⟩
  go_wp2_with fail
  clear C1 C2
  apply wp_region_ext 10 [is _, is _, is (.int .i64 (vd l mi nu de ho wi t' e')), is _, is _, is (.int .i64 (vd l mi nu de ho wi t' e')), is _, is _, is (.bool true), is _] (by kernel_rfl) (by kernel_rfl) rfl
  case hops =>
    simp only [List.take_succ_cons, List.take_zero]
    refine ⟨?_, ?_, ?_, ?_, ?_, ?_, ?_, ?_, ?_, ?_, trivial⟩
    all_goals
      intro vs x hd
      simp only [putAll, Act.put, List.setIfInBounds_toArray, List.set_cons_succ, List.set_cons_zero, Nat.zero_add, Nat.reduceAdd]
      simp [depFacts, is, isRow, isRowN, isBox, dataE] at hd
      try simp only [World.plus_plus] at hd
      simp only [Region.wanted, if_true, comes]
      try simp [yielded, hd, comes]
      go_simp
      try go_bits
      first
        | exact ⟨Ext.refl _, rfl⟩
        | exact rfl
        | exact ⟨(Ext.refl _).alloc _, _, rfl, Cells.new _ _ _ _ rfl⟩
        | exact ⟨(Ext.refl _).alloc _, _, rfl, Box.new _ _ _ _ (by simp [World.le_plus]) rfl⟩
        | ((go_at_call 14); refine (verdict_any A n c l mi nu de ho wi t' e' a _ (hr.lift (by repeat (first | exact Ext.refl _ | assumption | apply Ext.plus_ | apply Ext.alloc | apply Ext.drew))) hc hn).mono ?_; rintro e w' ⟨rfl, hE⟩; exact ⟨_, rfl, hE, rfl⟩)
        | ((go_at_call 15); refine (refVerdict_any A n c l mi nu de ho wi t' e' a _ (hr.lift (by repeat (first | exact Ext.refl _ | assumption | apply Ext.plus_ | apply Ext.alloc | apply Ext.drew))) hc hn).mono ?_; rintro e w' ⟨rfl, hE⟩; exact ⟨_, rfl, hE, rfl⟩)
        | ((go_at_call 11); refine (awake_any _).mono ?_; rintro e w' ⟨rfl, hE⟩; exact ⟨_, rfl, hE, rfl⟩)
  case hst => exact ⟨(by apply is.st), (by apply is.st), (by apply is.st), (by apply is.st), (by apply is.st), (by apply is.st), (by apply is.st), (by apply is.st), (by apply is.st), (by apply is.st), trivial⟩
  case hfin =>
    intro vs x hf
    try simp only [World.plus_plus] at hf ⊢
    simp only [List.take_succ_cons, List.take_zero, List.drop_succ_cons, List.drop_zero, putAll, Act.put, List.setIfInBounds_toArray, List.set_cons_succ, List.set_cons_zero]
    simp only [facts, is, Nat.zero_add, Nat.reduceAdd] at hf
    simp only [Nat.zero_add, Nat.reduceAdd, hf]
    clear hf
    go_wp2
    go_ret
    refine ⟨rfl, ?_⟩
    repeat (first | exact Ext.refl _ | apply Ext.drew | apply Ext.drewN | apply Ext.plus_ | apply Ext.alloc | assumption)
set_option maxHeartbeats 2000000 in
theorem verdict_mr (B : Option Addr) (k d : Nat) (ll : List Int) (A : Option Addr) (n c : Nat) (mi nu de ho wi t e a q : Int) (w : World) (hB : Row w w.heap.size 1 B k (ints ll)) (hk : k ≤ 9223372036854775807)
    (hk1 : bits .and .i64 q 1 = 0) (hk2 : bits .and .i64 q 2 ≠ 0) :
    Calls Try.prog 5 #[.slice B k d, pl A n c mi nu de ho wi, win_ t e a, .int .i64 q] w fun ee w' => ee = .returned (.bool true) ∧ Ext w w' := by
  go_enter Try.func5, Try.ntmps5
  go_wp2_with fail
  refine (srcPlan_any (w.heap.size + 1 + 1 + 1) B k d ll 0 _ ?hsrc).mono ?_
  case hsrc => exact src_at hB (by repeat (first | exact Ext.refl _ | assumption | apply Ext.plus_ | apply Ext.alloc | apply Ext.drew)) (by simp) hk
  rintro e w' ⟨A, c, wl, mi, nu, de, ho, wi, rfl, hsm, hown, hc, hc2, v, hE⟩
  obtain ⟨x, rfl⟩ := hE.plus
  have hx : RowX x (w.heap.size + 1 + 1 + 1 + 1) A wl.length (ints wl) := by
    have := RowX.of_own hown (by simp)
    simpa using this
  have hn3 := hsm.n3
  have hn : wl.length ≤ 9223372036854775807 := by omega
  clear hown hE hsm hn3
  go_wp2_with fail
  apply wp_region_ext 10 [is _, is _, is (.int .i64 (vd wl mi nu de ho wi t e)), is _, is _, is (.int .i64 (vd wl mi nu de ho wi t e)), is _, is _, is (.bool true), is _] (by kernel_rfl) (by kernel_rfl) rfl
  case hops =>
    simp only [List.take_succ_cons, List.take_zero]
    refine ⟨?_, ?_, ?_, ?_, ?_, ?_, ?_, ?_, ?_, ?_, trivial⟩
    all_goals
      intro vs x hd
      simp only [putAll, Act.put, List.setIfInBounds_toArray, List.set_cons_succ, List.set_cons_zero, Nat.zero_add, Nat.reduceAdd]
      simp [depFacts, is, isRow, isRowN, isBox, dataE] at hd
      try simp only [World.plus_plus] at hd
      simp only [Region.wanted, if_true, comes]
      try simp [yielded, hd, comes]
      go_simp
      try go_bits
      first
        | exact ⟨Ext.refl _, rfl⟩
        | exact rfl
        | exact ⟨(Ext.refl _).alloc _, _, rfl, Cells.new _ _ _ _ rfl⟩
        | exact ⟨(Ext.refl _).alloc _, _, rfl, Box.new _ _ _ _ (by simp [World.le_plus]) rfl⟩
        | ((go_at_call 14); refine (verdict_any A wl.length c wl mi nu de ho wi t e a _ (by (repeat (refine Row.up_alloc ?_ _)); apply RowX.row; (repeat (first | exact hx | apply RowX.more | apply RowX.draws)); simp) hc hn).mono ?_; rintro e w' ⟨rfl, hE⟩; exact ⟨_, rfl, hE, rfl⟩)
        | ((go_at_call 15); refine (refVerdict_any A wl.length c wl mi nu de ho wi t e a _ (by (repeat (refine Row.up_alloc ?_ _)); apply RowX.row; (repeat (first | exact hx | apply RowX.more | apply RowX.draws)); simp) hc hn).mono ?_; rintro e w' ⟨rfl, hE⟩; exact ⟨_, rfl, hE, rfl⟩)
        | ((go_at_call 11); refine (awake_any _).mono ?_; rintro e w' ⟨rfl, hE⟩; exact ⟨_, rfl, hE, rfl⟩)
  case hst => exact ⟨(by apply is.st), (by apply is.st), (by apply is.st), (by apply is.st), (by apply is.st), (by apply is.st), (by apply is.st), (by apply is.st), (by apply is.st), (by apply is.st), trivial⟩
  case hfin =>
    intro vs x hf
    try simp only [World.plus_plus] at hf ⊢
    simp only [List.take_succ_cons, List.take_zero, List.drop_succ_cons, List.drop_zero, putAll, Act.put, List.setIfInBounds_toArray, List.set_cons_succ, List.set_cons_zero]
    simp only [facts, is, Nat.zero_add, Nat.reduceAdd] at hf
    simp only [Nat.zero_add, Nat.reduceAdd, hf]
    clear hf
    go_wp2
    go_ret
    refine ⟨rfl, ?_⟩
    repeat (first | exact Ext.refl _ | apply Ext.drew | apply Ext.drewN | apply Ext.plus_ | apply Ext.alloc | assumption)
set_option maxHeartbeats 2000000 in
theorem verdict_ms (B : Option Addr) (k d : Nat) (ll : List Int) (A : Option Addr) (n c : Nat) (mi nu de ho wi t e a q : Int) (w : World) (hB : Row w w.heap.size 1 B k (ints ll)) (hk : k ≤ 9223372036854775807)
    (hk1 : bits .and .i64 q 1 = 0) (hk2 : bits .and .i64 q 2 = 0) :
    Calls Try.prog 5 #[.slice B k d, pl A n c mi nu de ho wi, win_ t e a, .int .i64 q] w fun ee w' => ee = .returned (.bool true) ∧ Ext w w' := by
  have C1 := Lib.hid (fun w => within_any t 20 w (by decide) (by decide))
  obtain ⟨t', ht⟩ : ∃ t', t' = t % 20 := ⟨_, rfl⟩
  have ht1 : 0 ≤ t' := by omega
  have ht2 : t' < 20 := by omega
  rw [← ht] at C1
  have C2 := Lib.hid (fun w => within_any e (t' + 1) w (by omega) (by omega))
  obtain ⟨e', he⟩ : ∃ e', e' = e % (t' + 1) := ⟨_, rfl⟩
  rw [← he] at C2
  clear ht he
  go_enter Try.func5, Try.ntmps5
  go_wp2_with fail
  refine (srcPlan_any (w.heap.size + 1 + 1 + 1) B k d ll 0 _ ?hsrc).mono ?_
  case hsrc => exact src_at hB (by repeat (first | exact Ext.refl _ | assumption | apply Ext.plus_ | apply Ext.alloc | apply Ext.drew)) (by simp) hk
  rintro e w' ⟨A, c, wl, mi, nu, de, ho, wi, rfl, hsm, hown, hc, hc2, v, hE⟩
  obtain ⟨x, rfl⟩ := hE.plus
  have hx : RowX x (w.heap.size + 1 + 1 + 1 + 1) A wl.length (ints wl) := by
    have := RowX.of_own hown (by simp)
    simpa using this
  have hn3 := hsm.n3
  have hn : wl.length ≤ 9223372036854775807 := by omega
  clear hown hE hsm hn3
  go_wp2_with fail
  refine (C1.out _).mono ?_
  rintro e w' ⟨rfl, rfl⟩
  go_wp2_with fail
  refine (C2.out _).mono ?_
  rintro e w' ⟨rfl, rfl⟩
  go_wp2_with fail
  clear C1 C2
  apply wp_region_ext 10 [is _, is _, is (.int .i64 (vd wl mi nu de ho wi t' e')), is _, is _, is (.int .i64 (vd wl mi nu de ho wi t' e')), is _, is _, is (.bool true), is _] (by kernel_rfl) (by kernel_rfl) rfl
  case hops =>
    simp only [List.take_succ_cons, List.take_zero]
    refine ⟨?_, ?_, ?_, ?_, ?_, ?_, ?_, ?_, ?_, ?_, trivial⟩
    all_goals
      intro vs x hd
      simp only [putAll, Act.put, List.setIfInBounds_toArray, List.set_cons_succ, List.set_cons_zero, Nat.zero_add, Nat.reduceAdd]
      simp [depFacts, is, isRow, isRowN, isBox, dataE] at hd
      try simp only [World.plus_plus] at hd
      simp only [Region.wanted, if_true, comes]
      try simp [yielded, hd, comes]
      go_simp
      try go_bits
      first
        | exact ⟨Ext.refl _, rfl⟩
        | exact rfl
        | exact ⟨(Ext.refl _).alloc _, _, rfl, Cells.new _ _ _ _ rfl⟩
        | exact ⟨(Ext.refl _).alloc _, _, rfl, Box.new _ _ _ _ (by simp [World.le_plus]) rfl⟩
        | ((go_at_call 14); refine (verdict_any A wl.length c wl mi nu de ho wi t' e' a _ (by (repeat (refine Row.up_alloc ?_ _)); apply RowX.row; (repeat (first | exact hx | apply RowX.more | apply RowX.draws)); simp) hc hn).mono ?_; rintro e w' ⟨rfl, hE⟩; exact ⟨_, rfl, hE, rfl⟩)
        | ((go_at_call 15); refine (refVerdict_any A wl.length c wl mi nu de ho wi t' e' a _ (by (repeat (refine Row.up_alloc ?_ _)); apply RowX.row; (repeat (first | exact hx | apply RowX.more | apply RowX.draws)); simp) hc hn).mono ?_; rintro e w' ⟨rfl, hE⟩; exact ⟨_, rfl, hE, rfl⟩)
        | ((go_at_call 11); refine (awake_any _).mono ?_; rintro e w' ⟨rfl, hE⟩; exact ⟨_, rfl, hE, rfl⟩)
  case hst => exact ⟨(by apply is.st), (by apply is.st), (by apply is.st), (by apply is.st), (by apply is.st), (by apply is.st), (by apply is.st), (by apply is.st), (by apply is.st), (by apply is.st), trivial⟩
  case hfin =>
    intro vs x hf
    try simp only [World.plus_plus] at hf ⊢
    simp only [List.take_succ_cons, List.take_zero, List.drop_succ_cons, List.drop_zero, putAll, Act.put, List.setIfInBounds_toArray, List.set_cons_succ, List.set_cons_zero]
    simp only [facts, is, Nat.zero_add, Nat.reduceAdd] at hf
    simp only [Nat.zero_add, Nat.reduceAdd, hf]
    clear hf
    go_wp2
    go_ret
    refine ⟨rfl, ?_⟩
    repeat (first | exact Ext.refl _ | apply Ext.drew | apply Ext.drewN | apply Ext.plus_ | apply Ext.alloc | assumption)

theorem law_verdict (v0 v1 v2 v3 : Value) (w : World) (p0 : ∃ A n c, ∃ l : List Int, v0 = .slice A n c ∧ ArgRow w A n c (l.map (Value.int .i64)) ∧ ∀ x ∈ l, I64 x)
    (p1 : ∃ A n c, ∃ (l : List Int) (mi nu de ho wi : Int), v1 = .agg #[.slice A n c, .int .i64 mi, .int .i64 nu, .int .i64 de, .int .i64 ho, .int .i64 wi] ∧ ArgRow w A n c (l.map (Value.int .i64)) ∧ I64 mi ∧ I64 nu ∧ I64 de ∧ I64 ho ∧ I64 wi)
    (p2 : ∃ t e a, v2 = .agg #[.int .i64 t, .int .i64 e, .int .i64 a] ∧ I64 t ∧ I64 e ∧ I64 a) (p3 : ∃ n, v3 = .int .i64 n ∧ I64 n) :
    Calls Try.prog 5 #[v0, v1, v2, v3] w fun ee w' => ee = .returned (.bool true) ∧ Ext w w' := by
  obtain ⟨B, k, d, ll, rfl, ⟨hB, hkd, hdm, _⟩, _⟩ := p0
  obtain ⟨A, n, c, l, mi, nu, de, ho, wi, rfl, ⟨hA, hnc, hcm, _⟩, _⟩ := p1
  obtain ⟨t, e, a, rfl, _⟩ := p2
  obtain ⟨q, rfl, _⟩ := p3
  by_cases h1 : bits .and .i64 q 1 = 0 <;> by_cases h2 : bits .and .i64 q 2 = 0
  · exact verdict_ms B k d ll A n c mi nu de ho wi t e a q w hB (by omega) h1 h2
  · exact verdict_mr B k d ll A n c mi nu de ho wi t e a q w hB (by omega) h1 h2
  · exact verdict_rs _ A n c l mi nu de ho wi t e a q w hA hnc (by omega) ⟨B, k, d, rfl⟩ h1 h2
  · exact verdict_rr _ A n c l mi nu de ho wi t e a q w hA hnc (by omega) ⟨B, k, d, rfl⟩ h1 h2
end Go.Proofs.Ytmelgjlpeegglaa
