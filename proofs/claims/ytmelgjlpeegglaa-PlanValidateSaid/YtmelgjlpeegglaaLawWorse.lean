/- PlanWorse: the walk -/
import Derived.Test.YtmelgjlpeegglaaLawVerdict
namespace Go.Proofs.Ytmelgjlpeegglaa
open Go.RowKit Go.Rg

theorem vd_1 {l : List Int} {mi nu de ho wi t e : Int} (h : PlanOK l mi nu de ho wi) (w : WinOK t e) (a : t < mi) : vd l mi nu de ho wi t e = 1 := by
  unfold vd; rw [if_pos ⟨h, w⟩, if_pos a]
theorem vd_3 {l : List Int} {mi nu de ho wi t e : Int} (h : PlanOK l mi nu de ho wi) (w : WinOK t e) (a : mi ≤ t) (b : nu * t < e * de) : vd l mi nu de ho wi t e = 3 := by
  unfold vd; rw [if_pos ⟨h, w⟩, if_neg (by omega), if_pos b]
theorem vd_2 {l : List Int} {mi nu de ho wi t e : Int} (h : PlanOK l mi nu de ho wi) (w : WinOK t e) (a : mi ≤ t) (b : e * de ≤ nu * t) : vd l mi nu de ho wi t e = 2 := by
  unfold vd; rw [if_pos ⟨h, w⟩, if_neg (by omega), if_neg (by omega)]
/-- More errors are no better, and the share alone decides. -/
theorem vd_worse (l : List Int) (mi nu de ho wi t e m f : Int) (h : PlanOK l mi nu de ho wi) (t0 : 0 ≤ t) (t1 : t ≤ 1000) (e0 : 0 ≤ e) (m0 : 0 ≤ m) (em : e + m ≤ t) (f0 : 0 ≤ f) (f1 : f ≤ 1000) :
    ∃ VA VB VC, vd l mi nu de ho wi t e = VA ∧ vd l mi nu de ho wi t (e + m) = VB ∧ vd l mi nu de ho wi (t * (1 + f)) (e * (1 + f)) = VC ∧ ((VA = 1 ∧ VB = 1) ∨ (VA = 3 ∧ VB = 3 ∧ VC = 3) ∨ (VA = 2 ∧ VB = 2 ∧ VC = 2) ∨ (VA = 2 ∧ VB = 3 ∧ VC = 2)) := by
  obtain ⟨k1, k1'⟩ := mul_bd t (1 + f) 1000 1001 t0 t1 (by omega) (by omega)
  obtain ⟨k2, k2'⟩ := mul_bd e (1 + f) 1000 1001 e0 (by omega) (by omega) (by omega)
  simp only [Int.reduceMul] at k1' k2'
  have w1 : WinOK t e := by unfold WinOK; omega
  have w2 : WinOK t (e + m) := by unfold WinOK; omega
  have w3 : WinOK (t * (1 + f)) (e * (1 + f)) := by unfold WinOK; omega
  rcases Int.lt_or_le t mi with a | a
  · exact ⟨1, 1, _, vd_1 h w1 a, vd_1 h w2 a, rfl, .inl ⟨rfl, rfl⟩⟩
  · have tk : t ≤ t * (1 + f) := by
      have : 0 ≤ t * f := Int.mul_nonneg t0 f0
      rw [Int.mul_add]; omega
    have a' : mi ≤ t * (1 + f) := by omega
    have dm : e * de ≤ (e + m) * de := by
      have : 0 ≤ m * de := Int.mul_nonneg m0 (by have := h.de1; omega)
      rw [Int.add_mul]; omega
    have s1 : nu * (t * (1 + f)) = (nu * t) * (1 + f) := by rw [Int.mul_assoc]
    have s2 : e * (1 + f) * de = (e * de) * (1 + f) := by rw [Int.mul_assoc, Int.mul_assoc, Int.mul_comm (1 + f) de]
    rcases Int.lt_or_le (nu * t) (e * de) with b | b
    · have c : nu * t * (1 + f) < e * de * (1 + f) := Int.mul_lt_mul_of_pos_right b (by omega)
      exact ⟨3, 3, 3, vd_3 h w1 a b, vd_3 h w2 a (by omega), vd_3 h w3 a' (by rw [s1, s2]; exact c), .inr (.inl ⟨rfl, rfl, rfl⟩)⟩
    · have c : e * de * (1 + f) ≤ nu * t * (1 + f) := Int.mul_le_mul_of_nonneg_right b (by omega)
      have z := vd_2 h w3 a' (by rw [s1, s2]; exact c)
      rcases Int.lt_or_le (nu * t) ((e + m) * de) with b' | b'
      · exact ⟨2, 3, 2, vd_2 h w1 a b, vd_3 h w2 a b', z, .inr (.inr (.inr ⟨rfl, rfl, rfl⟩))⟩
      · exact ⟨2, 2, 2, vd_2 h w1 a b, vd_2 h w2 a b', z, .inr (.inr (.inl ⟨rfl, rfl, rfl⟩))⟩

theorem verdict_as (A : Option Addr) (n c : Nat) (l : List Int) (mi nu de ho wi t e a V : Int) (w : World) (hr : Row w w.heap.size 1 A n (ints l)) (hc : n ≤ c) (hn : n ≤ 9223372036854775807) (hV : vd l mi nu de ho wi t e = V) :
    Calls Try.prog 14 #[pl A n c mi nu de ho wi, win_ t e a] w fun ee w' => ee = .returned (.int .i64 V) ∧ Ext w w' := by
  subst hV
  exact verdict_any A n c l mi nu de ho wi t e a w hr hc hn

attribute [local irreducible] vd
set_option maxHeartbeats 1000000 in
theorem worse_walk (B : Option Addr) (k d : Nat) (ll : List Int) (t0 e0 m0 f0 : Int) (w : World) (hB : Row w w.heap.size 1 B k (ints ll)) (hk : k ≤ 9223372036854775807) :
    Calls Try.prog 6 #[.slice B k d, .int .i64 t0, .int .i64 e0, .int .i64 m0, .int .i64 f0] w fun ee w' => ee = .returned (.bool true) ∧ Ext w w' := by
  have C1 := Lib.hid (fun w => within_any t0 1000 w (by decide) (by decide))
  obtain ⟨t, ht⟩ : ∃ t', t' = t0 % 1000 := ⟨_, rfl⟩
  have ht1 : 0 ≤ t := by omega
  have ht2 : t ≤ 1000 := by omega
  rw [← ht] at C1
  have C2 := Lib.hid (fun w => within_any e0 (t + 1) w (by omega) (by omega))
  obtain ⟨e, he⟩ : ∃ e', e' = e0 % (t + 1) := ⟨_, rfl⟩
  rw [← he] at C2
  have he1 : 0 ≤ e := by rw [he]; exact Int.emod_nonneg _ (by omega)
  have he2 : e ≤ t := by have := Int.emod_lt_of_pos e0 (show 0 < t + 1 by omega); omega
  have C3 := Lib.hid (fun w => within_any m0 (t - e + 1) w (by omega) (by omega))
  obtain ⟨m, hm⟩ : ∃ m', m' = m0 % (t - e + 1) := ⟨_, rfl⟩
  rw [← hm] at C3
  have hm1 : 0 ≤ m := by rw [hm]; exact Int.emod_nonneg _ (by omega)
  have hm2 : e + m ≤ t := by have := Int.emod_lt_of_pos m0 (show 0 < t - e + 1 by omega); omega
  have C4 := Lib.hid (fun w => within_any f0 1000 w (by decide) (by decide))
  obtain ⟨f, hf⟩ : ∃ f', f' = f0 % 1000 := ⟨_, rfl⟩
  have hf1 : 0 ≤ f := by omega
  have hf2 : f ≤ 1000 := by omega
  rw [← hf] at C4
  clear ht he hm hf
  have k1 := mul_bd t (1 + f) 1000 1001 ht1 ht2 (by omega) (by omega)
  have k2 := mul_bd e (1 + f) 1000 1001 he1 (by omega) (by omega) (by omega)
  simp only [Int.reduceMul] at k1 k2
  obtain ⟨k1, k1'⟩ := k1
  obtain ⟨k2, k2'⟩ := k2
  go_enter Try.func6, Try.ntmps6
  go_wp2_with fail
  refine (srcPlan_any (w.heap.size) B k d ll 0 _ ?hsrc).mono ?_
  case hsrc => exact src_at hB (by repeat (first | exact Ext.refl _ | assumption | apply Ext.plus_ | apply Ext.alloc | apply Ext.drew)) (by simp) hk
  rintro ee w1 ⟨A, c, wl, mi, nu, de, ho, wi, rfl, hsm, hown, hc, hc2, v, hE⟩
  have hr : Row w1 w1.heap.size 1 A wl.length (ints wl) := by
    obtain ⟨x, rfl⟩ := hE.plus
    exact (RowX.of_own hown (by simp)).row rfl
  have hE0 : Ext w w1 := by
    obtain ⟨x, rfl⟩ := hE.plus
    clear hown hE hr
    go_simp
    exact (by repeat (first | exact Ext.refl _ | assumption | apply Ext.plus_ | apply Ext.alloc | apply Ext.drew))
  have hn3 := hsm.n3
  have hn : wl.length ≤ 9223372036854775807 := by omega
  obtain ⟨VA, VB, VC, hA, hB', hC, hV⟩ := vd_worse wl mi nu de ho wi t e m f hsm.ok ht1 ht2 he1 hm1 hm2 hf1 hf2
  have hA := Lib.hid hA
  have hB' := Lib.hid hB'
  have hC := Lib.hid hC
  have hV := Lib.hid hV
  clear hown hE hsm hn3
  go_wp2_with fail
  refine (C1.out _).mono ?_
  rintro e w' ⟨rfl, rfl⟩
  go_wp2_with fail
  refine (C2.out _).mono ?_
  rintro e w' ⟨rfl, rfl⟩
  go_wp2_with fail
  refine (C3.out _).mono ?_
  rintro e w' ⟨rfl, rfl⟩
  go_wp2_with fail
  clear C1 C2 C3
  apply wp_region_ext 12 [is _, is _, is _, is _, is (.int .i64 VA), is _, is _, is _, is _, is _, is _, is (.int .i64 VB)] (by kernel_rfl) (by kernel_rfl) rfl
  case hops =>
    simp only [List.take_succ_cons, List.take_zero]
    refine ⟨?_, ?_, ?_, ?_, ?_, ?_, ?_, ?_, ?_, ?_, ?_, ?_, trivial⟩
    all_goals
      intro vs x hd
      simp only [putAll, Act.put, List.setIfInBounds_toArray, List.set_cons_succ, List.set_cons_zero, Nat.zero_add, Nat.reduceAdd]
      simp [depFacts, is, isRow, isRowN, isBox, dataE] at hd
      try simp only [World.plus_plus] at hd
      simp only [Region.wanted, if_true, comes]
      try simp [yielded, hd, comes]
      go_simp
      try go_bits
      first
        | exact ⟨Ext.refl _, rfl⟩
        | exact rfl
        | exact ⟨(Ext.refl _).alloc _, _, rfl, Cells.new _ _ _ _ rfl⟩
        | exact ⟨(Ext.refl _).alloc _, _, rfl, Box.new _ _ _ _ (by simp [World.le_plus]) rfl⟩
        | ((go_at_call 14); refine (verdict_as A wl.length c wl mi nu de ho wi t _ 0 _ _ (hr.lift (by repeat (first | exact Ext.refl _ | assumption | apply Ext.plus_ | apply Ext.alloc | apply Ext.drew))) hc hn (by first | exact hA.out | exact hB'.out)).mono ?_; rintro e w' ⟨rfl, hE⟩; exact ⟨_, rfl, hE, rfl⟩)
  case hst => exact ⟨(by apply is.st), (by apply is.st), (by apply is.st), (by apply is.st), (by apply is.st), (by apply is.st), (by apply is.st), (by apply is.st), (by apply is.st), (by apply is.st), (by apply is.st), (by apply is.st), trivial⟩
  case hfin =>
    intro vs x hf
    try simp only [World.plus_plus] at hf ⊢
    simp only [List.take_succ_cons, List.take_zero, List.drop_succ_cons, List.drop_zero, putAll, Act.put, List.setIfInBounds_toArray, List.set_cons_succ, List.set_cons_zero]
    simp only [facts, is, Nat.zero_add, Nat.reduceAdd] at hf
    simp only [Nat.zero_add, Nat.reduceAdd, hf]
    clear hf
    go_wp2_with fail
    refine (C4.out _).mono ?_
    rintro e w' ⟨rfl, rfl⟩
    go_wp2_with fail
    clear C4
    clear hA hB'
    replace hV := hV.out
    rcases hV with ⟨rfl, rfl⟩ | ⟨rfl, rfl, rfl⟩ | ⟨rfl, rfl, rfl⟩ | ⟨rfl, rfl, rfl⟩
    all_goals
      refine (verdict_as A wl.length c wl mi nu de ho wi (t * (1 + f)) (e * (1 + f)) 0 _ _ (hr.lift (by repeat (first | exact Ext.refl _ | assumption | apply Ext.plus_ | apply Ext.alloc | apply Ext.drew))) hc hn hC.out).mono ?_
      rintro e w' ⟨rfl, hE⟩
      obtain ⟨x, rfl⟩ := hE.plus
      clear hE
      go_wp2_with fail
      refine (awake_any _).mono ?_
      rintro e w' ⟨rfl, hE⟩
      obtain ⟨x, rfl⟩ := hE.plus
      clear hE
      go_wp2_with fail
      go_ret
      exact ⟨rfl, hE0.trans (by repeat (first | exact Ext.refl _ | assumption | apply Ext.plus_ | apply Ext.alloc | apply Ext.drew))⟩

theorem law_worse (v0 v1 v2 v3 v4 : Value) (w : World) (p0 : ∃ A n c, ∃ l : List Int, v0 = .slice A n c ∧ ArgRow w A n c (l.map (Value.int .i64)) ∧ ∀ x ∈ l, I64 x)
    (p1 : ∃ n, v1 = .int .i64 n ∧ I64 n) (p2 : ∃ n, v2 = .int .i64 n ∧ I64 n) (p3 : ∃ n, v3 = .int .i64 n ∧ I64 n) (p4 : ∃ n, v4 = .int .i64 n ∧ I64 n) :
    Calls Try.prog 6 #[v0, v1, v2, v3, v4] w fun ee w' => ee = .returned (.bool true) ∧ Ext w w' := by
  obtain ⟨B, k, d, ll, rfl, ⟨hB, hkd, hdm, _⟩, _⟩ := p0
  obtain ⟨t, rfl, _⟩ := p1
  obtain ⟨e, rfl, _⟩ := p2
  obtain ⟨m, rfl, _⟩ := p3
  obtain ⟨f, rfl, _⟩ := p4
  exact worse_walk B k d ll t e m f w hB (by omega)
end Go.Proofs.Ytmelgjlpeegglaa
