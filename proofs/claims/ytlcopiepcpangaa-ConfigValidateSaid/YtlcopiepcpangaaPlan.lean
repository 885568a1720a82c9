/- The plan package and its reference: what they compute. -/
import Derived.Test.YtlcopiepcpangaaNum0
import Derived.Test.YtlcopiepcpangaaRg
set_option linter.unusedVariables false
namespace Go.Proofs.Ytlcopiepcpangaa
open Go.RowKit Go.Rg

/-- The weight at k is in range, and above the one before it. -/
def stepOK (l : List Int) (k : Nat) : Prop := 1 ≤ l.getD k 0 ∧ l.getD k 0 ≤ 10000 ∧ (k = 0 ∨ l.getD (k - 1) 0 < l.getD k 0)
def okTo (l : List Int) (k : Nat) : Prop := ∀ j, j < k → stepOK l j
theorem okTo.succ {l : List Int} {k : Nat} (h : okTo l k) (hs : stepOK l k) : okTo l (k + 1) := fun j hj => by
  rcases Nat.lt_or_ge j k with h1 | h1
  · exact h j h1
  · have : j = k := by omega
    subst this; exact hs
structure PlanOK (l : List Int) (mi nu de ho wi : Int) : Prop where
  w : okTo l l.length
  n1 : 1 ≤ l.length
  n2 : l.length ≤ 8
  mi1 : 1 ≤ mi
  mi2 : mi ≤ 1000000
  nu1 : 0 ≤ nu
  nu2 : nu ≤ 1000000
  de1 : 1 ≤ de
  de2 : de ≤ 1000000
  ho1 : 1 ≤ ho
  ho2 : ho ≤ 100
  wi1 : 1 ≤ wi
  wi2 : wi ≤ 1000000

abbrev pl (A : Option Addr) (n c : Nat) (mi nu de ho wi : Int) : Value := .agg #[.slice A n c, .int .i64 mi, .int .i64 nu, .int .i64 de, .int .i64 ho, .int .i64 wi]

set_option maxHeartbeats 400000 in
theorem within_yes (n lo hi : Int) (w : World) (h1 : lo ≤ n) (h2 : n ≤ hi) :
    Calls Try.prog 30 #[.int .i64 n, .int .i64 lo, .int .i64 hi] w fun e w' => e = .returned (.bool true) ∧ w = w' := by
  go_enter Try.func30, Try.ntmps30
  go_wp2
  go_ret
  exact ⟨rfl, rfl⟩
set_option maxHeartbeats 400000 in
theorem within_no (n lo hi : Int) (w : World) (h : n < lo ∨ hi < n) :
    Calls Try.prog 30 #[.int .i64 n, .int .i64 lo, .int .i64 hi] w fun e w' => e = .returned (.bool false) ∧ w = w' := by
  rcases Int.lt_or_le n lo with h1 | h1
  · have h2 : decide (lo ≤ n) = false := by simp; omega
    clear h
    go_enter Try.func30, Try.ntmps30
    go_wp2
    go_ret
    exact ⟨rfl, rfl⟩
  · have h2 : decide (n ≤ hi) = false := by simp; omega
    go_enter Try.func30, Try.ntmps30
    go_wp2
    go_ret
    exact ⟨rfl, rfl⟩

theorem getD_of {l : List Int} {k : Nat} {z : Int} (h : l[k]? = some z) : l.getD k 0 = z := by simp [h]

set_option maxHeartbeats 1000000 in
theorem weights_yes (A : Option Addr) (n c : Nat) (l : List Int) (w : World) (hr : Row w w.heap.size 1 A n (ints l)) (h : okTo l n) (h1 : 1 ≤ n) (h2 : n ≤ 8) (hc : n ≤ c) :
    Calls Try.prog 29 #[.slice A n c] w fun e w' => e = .returned (.bool true) ∧ w = w' := by
  have H := Lib.hid h
  clear h
  go_enter Try.func29, Try.ntmps29
  go_wp2
  go_loop [8] (fun i => ∃ k : Nat, k ≤ n ∧ i = .int .i64 k) (fun i => n - (intOf i).toNat)
  case atStart => exact ⟨0, Nat.zero_le _, rfl⟩
  case round =>
    obtain ⟨k, hk, rfl⟩ := hrel
    by_cases hlt : k < n
    · obtain ⟨b, o, z, rfl, hb, hz, hcell⟩ := hr.int_at (show k < n by omega)
      obtain ⟨s1, s2, s3⟩ := H.out k hlt
      rw [getD_of hz] at s1 s2 s3
      by_cases hk0 : k = 0
      · subst hk0
        have hcell : w.cell? ⟨b, o, none⟩ = some (.int .i64 z) := hcell
        clear hr hz s3
        go_wp2_with (go_at_call 30; refine (within_yes z 1 10000 _ s1 s2).mono ?_; rintro e w' ⟨rfl, rfl⟩)
        go_round
        case rel => exact ⟨1, by omega, rfl⟩
        case measure => simp [intOf]; omega
      · obtain ⟨b', o', y, he, _, hy, hcy⟩ := hr.int_at (show k - 1 < n by omega)
        have e0 : b = b' ∧ o = o' := by injection he with he; injection he with h1 h2; exact ⟨h1, h2⟩
        obtain ⟨rfl, rfl⟩ := e0
        rw [getD_of hy] at s3
        have s4 : y < z := by omega
        have hk1 : 0 < k := by omega
        have hd1 : decide ((0 : Int) < (k : Int)) = true := by simp; omega
        have hd2 : decide (z ≤ y) = false := by simp; omega
        have hkc : k ≤ c := by omega
        clear hr hz hy he s3
        go_wp2_with (go_at_call 30; refine (within_yes z 1 10000 _ s1 s2).mono ?_; rintro e w' ⟨rfl, rfl⟩)
        go_round
        case rel => exact ⟨k + 1, by omega, by go_num⟩
        case measure => simp [intOf]; omega
    · go_wp2_with (go_at_call 30; refine (within_yes n 1 8 _ (by omega) (by omega)).mono ?_; rintro e w' ⟨rfl, rfl⟩)
      go_ret
      exact ⟨rfl, rfl⟩

set_option maxHeartbeats 1000000 in
theorem weights_count (A : Option Addr) (n c : Nat) (l : List Int) (w : World) (hr : Row w w.heap.size 1 A n (ints l)) (h : okTo l n) (h1 : n = 0 ∨ 8 < n) (hn : n ≤ 9223372036854775807) (hc : n ≤ c) :
    Calls Try.prog 29 #[.slice A n c] w fun e w' => e = .returned (.bool false) ∧ w = w' := by
  have H := Lib.hid h
  clear h
  go_enter Try.func29, Try.ntmps29
  go_wp2
  go_loop [8] (fun i => ∃ k : Nat, k ≤ n ∧ i = .int .i64 k) (fun i => n - (intOf i).toNat)
  case atStart => exact ⟨0, Nat.zero_le _, rfl⟩
  case round =>
    obtain ⟨k, hk, rfl⟩ := hrel
    by_cases hlt : k < n
    · obtain ⟨b, o, z, rfl, hb, hz, hcell⟩ := hr.int_at (show k < n by omega)
      obtain ⟨s1, s2, s3⟩ := H.out k hlt
      rw [getD_of hz] at s1 s2 s3
      by_cases hk0 : k = 0
      · subst hk0
        have hcell : w.cell? ⟨b, o, none⟩ = some (.int .i64 z) := hcell
        clear hr hz s3
        go_wp2_with (go_at_call 30; refine (within_yes z 1 10000 _ s1 s2).mono ?_; rintro e w' ⟨rfl, rfl⟩)
        go_round
        case rel => exact ⟨1, by omega, rfl⟩
        case measure => simp [intOf]; omega
      · obtain ⟨b', o', y, he, _, hy, hcy⟩ := hr.int_at (show k - 1 < n by omega)
        have e0 : b = b' ∧ o = o' := by injection he with he; injection he with h1 h2; exact ⟨h1, h2⟩
        obtain ⟨rfl, rfl⟩ := e0
        rw [getD_of hy] at s3
        have s4 : y < z := by omega
        have hk1 : 0 < k := by omega
        have hd1 : decide ((0 : Int) < (k : Int)) = true := by simp; omega
        have hd2 : decide (z ≤ y) = false := by simp; omega
        have hkc : k ≤ c := by omega
        clear hr hz hy he s3
        go_wp2_with (go_at_call 30; refine (within_yes z 1 10000 _ s1 s2).mono ?_; rintro e w' ⟨rfl, rfl⟩)
        go_round
        case rel => exact ⟨k + 1, by omega, by go_num⟩
        case measure => simp [intOf]; omega
    · go_wp2_with (go_at_call 30; refine (within_no n 1 8 _ (by omega)).mono ?_; rintro e w' ⟨rfl, rfl⟩)
      go_ret
      exact ⟨rfl, rfl⟩

set_option maxHeartbeats 1000000 in
theorem weights_step (A : Option Addr) (n c m : Nat) (l : List Int) (w : World) (hr : Row w w.heap.size 1 A n (ints l)) (h : okTo l m) (hm : m < n) (hs : ¬ stepOK l m) (hn : n ≤ 9223372036854775807) (hc : n ≤ c) :
    Calls Try.prog 29 #[.slice A n c] w fun e w' => e = .returned (.bool false) ∧ w = w' := by
  have H := Lib.hid h
  have HS := Lib.hid hs
  clear h hs
  go_enter Try.func29, Try.ntmps29
  go_wp2
  go_loop [8] (fun i => ∃ k : Nat, k ≤ m ∧ i = .int .i64 k) (fun i => n - (intOf i).toNat)
  case atStart => exact ⟨0, Nat.zero_le _, rfl⟩
  case round =>
    obtain ⟨k, hk, rfl⟩ := hrel
    by_cases hlt : k < m
    · obtain ⟨b, o, z, rfl, hb, hz, hcell⟩ := hr.int_at (show k < n by omega)
      obtain ⟨s1, s2, s3⟩ := H.out k hlt
      rw [getD_of hz] at s1 s2 s3
      by_cases hk0 : k = 0
      · subst hk0
        have hcell : w.cell? ⟨b, o, none⟩ = some (.int .i64 z) := hcell
        clear hr hz s3
        go_wp2_with (go_at_call 30; refine (within_yes z 1 10000 _ s1 s2).mono ?_; rintro e w' ⟨rfl, rfl⟩)
        go_round
        case rel => exact ⟨1, by omega, rfl⟩
        case measure => simp [intOf]; omega
      · obtain ⟨b', o', y, he, _, hy, hcy⟩ := hr.int_at (show k - 1 < n by omega)
        have e0 : b = b' ∧ o = o' := by injection he with he; injection he with h1 h2; exact ⟨h1, h2⟩
        obtain ⟨rfl, rfl⟩ := e0
        rw [getD_of hy] at s3
        have s4 : y < z := by omega
        have hk1 : 0 < k := by omega
        have hd1 : decide ((0 : Int) < (k : Int)) = true := by simp; omega
        have hd2 : decide (z ≤ y) = false := by simp; omega
        have hkc : k ≤ c := by omega
        clear hr hz hy he s3
        go_wp2_with (go_at_call 30; refine (within_yes z 1 10000 _ s1 s2).mono ?_; rintro e w' ⟨rfl, rfl⟩)
        go_round
        case rel => exact ⟨k + 1, by omega, by go_num⟩
        case measure => simp [intOf]; omega
    · have hkm : k = m := by omega
      subst hkm
      obtain ⟨b, o, z, rfl, hb, hz, hcell⟩ := hr.int_at hm
      by_cases hz1 : 1 ≤ z ∧ z ≤ 10000
      · have hk0 : ¬ k = 0 := fun e => HS.out ⟨by rw [getD_of hz]; exact hz1.1, by rw [getD_of hz]; exact hz1.2, .inl e⟩
        obtain ⟨b', o', y, he, _, hy, hcy⟩ := hr.int_at (show k - 1 < n by omega)
        have e0 : b = b' ∧ o = o' := by injection he with he; injection he with h1 h2; exact ⟨h1, h2⟩
        obtain ⟨rfl, rfl⟩ := e0
        have s4 : z ≤ y := by
          rcases Int.lt_or_le y z with h | h
          · exact absurd ⟨by rw [getD_of hz]; exact hz1.1, by rw [getD_of hz]; exact hz1.2, .inr (by rw [getD_of hz, getD_of hy]; exact h)⟩ HS.out
          · exact h
        obtain ⟨s1, s2⟩ := hz1
        have hk1 : 0 < k := by omega
        have hd1 : decide ((0 : Int) < (k : Int)) = true := by simp; omega
        have hd2 : decide (z ≤ y) = true := by simp; omega
        have hkc : k ≤ c := by omega
        clear hr hz hy he
        go_wp2_with (go_at_call 30; refine (within_yes z 1 10000 _ s1 s2).mono ?_; rintro e w' ⟨rfl, rfl⟩)
        go_ret
        exact ⟨rfl, rfl⟩
      · have hkc : k ≤ c := by omega
        clear hr hz
        go_wp2_with (go_at_call 30; refine (within_no z 1 10000 _ (by omega)).mono ?_; rintro e w' ⟨rfl, rfl⟩)
        go_ret
        exact ⟨rfl, rfl⟩

theorem first_bad (l : List Int) : ∀ n : Nat, ¬ okTo l n → ∃ m, m < n ∧ okTo l m ∧ ¬ stepOK l m
  | 0, h => absurd (fun j hj => absurd hj (by omega)) h
  | n + 1, h => by
    rcases Classical.em (okTo l n) with h1 | h1
    · exact ⟨n, by omega, h1, fun hs => h (h1.succ hs)⟩
    · obtain ⟨m, hm, h2⟩ := first_bad l n h1
      exact ⟨m, by omega, h2⟩
theorem weights_no (A : Option Addr) (n c : Nat) (l : List Int) (w : World) (hr : Row w w.heap.size 1 A n (ints l)) (h : ¬ (okTo l n ∧ 1 ≤ n ∧ n ≤ 8)) (hn : n ≤ 9223372036854775807) (hc : n ≤ c) :
    Calls Try.prog 29 #[.slice A n c] w fun e w' => e = .returned (.bool false) ∧ w = w' := by
  rcases Classical.em (okTo l n) with h1 | h1
  · have h2 : ¬ (1 ≤ n ∧ n ≤ 8) := fun x => h ⟨h1, x⟩
    exact weights_count A n c l w hr h1 (by omega) hn hc
  · obtain ⟨m, hm, h2, h3⟩ := first_bad l n h1
    exact weights_step A n c m l w hr h2 hm h3 hn hc

theorem ints_len {w : World} {B n : Nat} {A : Option Addr} {l : List Int} (h : Row w B 1 A n (ints l)) : l.length = n := by have := h.1; simp at this; exact this

/-! ### Validate -/
set_option maxHeartbeats 1000000 in
theorem validate_ok (A : Option Addr) (n c : Nat) (l : List Int) (mi nu de ho wi : Int) (w : World) (hr : Row w w.heap.size 1 A n (ints l)) (h : PlanOK l mi nu de ho wi) (hc : n ≤ c) :
    Calls Try.prog 23 #[pl A n c mi nu de ho wi] w fun e w' => e = .returned (.int .i64 0) ∧ Ext w w' := by
  have hl := ints_len hr
  obtain ⟨h0, a1, a2, b1, b2, c1, c2, d1, d2, e1, e2, f1, f2⟩ := h
  rw [hl] at h0 a1 a2
  have H0 := Lib.hid h0
  clear h0 hl
  go_enter Try.func23, Try.ntmps23
  go_wp2_with fail
  refine (weights_yes A n c l _ (hr.lift (by repeat (first | exact Ext.refl _ | assumption | apply Ext.plus_ | apply Ext.alloc | apply Ext.drew))) H0.out a1 a2 hc).mono ?_
  rintro e w' ⟨rfl, rfl⟩
  go_wp2_with fail
  refine (within_yes mi 1 1000000 _ b1 b2).mono ?_
  rintro e w' ⟨rfl, rfl⟩
  go_wp2_with fail
  refine (within_yes nu 0 1000000 _ c1 c2).mono ?_
  rintro e w' ⟨rfl, rfl⟩
  go_wp2_with fail
  refine (within_yes de 1 1000000 _ d1 d2).mono ?_
  rintro e w' ⟨rfl, rfl⟩
  go_wp2_with fail
  refine (within_yes ho 1 100 _ e1 e2).mono ?_
  rintro e w' ⟨rfl, rfl⟩
  go_wp2_with fail
  refine (within_yes wi 1 1000000 _ f1 f2).mono ?_
  rintro e w' ⟨rfl, rfl⟩
  go_wp2_with fail
  go_ret
  exact ⟨rfl, (by repeat (first | exact Ext.refl _ | assumption | apply Ext.plus_ | apply Ext.alloc | apply Ext.drew))⟩

set_option maxHeartbeats 1000000 in
theorem validate_bad (A : Option Addr) (n c : Nat) (l : List Int) (mi nu de ho wi : Int) (w : World) (hr : Row w w.heap.size 1 A n (ints l)) (h : ¬ PlanOK l mi nu de ho wi) (hn : n ≤ 9223372036854775807) (hc : n ≤ c) :
    Calls Try.prog 23 #[pl A n c mi nu de ho wi] w fun e w' => e = .returned (.int .i64 8) ∧ Ext w w' := by
  have hl := ints_len hr
  rcases Classical.em (okTo l n ∧ 1 ≤ n ∧ n ≤ 8) with ⟨h0, a1, a2⟩ | h0
  · have H0 := Lib.hid h0
    have hx : ¬ (1 ≤ mi ∧ mi ≤ 1000000 ∧ 0 ≤ nu ∧ nu ≤ 1000000 ∧ 1 ≤ de ∧ de ≤ 1000000 ∧ 1 ≤ ho ∧ ho ≤ 100 ∧ 1 ≤ wi ∧ wi ≤ 1000000) := fun ⟨b1, b2, c1, c2, d1, d2, e1, e2, f1, f2⟩ =>
      h ⟨by rw [hl]; exact h0, by rw [hl]; exact a1, by rw [hl]; exact a2, b1, b2, c1, c2, d1, d2, e1, e2, f1, f2⟩
    clear h h0 hl
    rcases (show (mi < 1 ∨ 1000000 < mi) ∨ ((1 ≤ mi ∧ mi ≤ 1000000) ∧ (nu < 0 ∨ 1000000 < nu)) ∨ ((1 ≤ mi ∧ mi ≤ 1000000) ∧ (0 ≤ nu ∧ nu ≤ 1000000) ∧ (de < 1 ∨ 1000000 < de)) ∨
      ((1 ≤ mi ∧ mi ≤ 1000000) ∧ (0 ≤ nu ∧ nu ≤ 1000000) ∧ (1 ≤ de ∧ de ≤ 1000000) ∧ (ho < 1 ∨ 100 < ho)) ∨
      ((1 ≤ mi ∧ mi ≤ 1000000) ∧ (0 ≤ nu ∧ nu ≤ 1000000) ∧ (1 ≤ de ∧ de ≤ 1000000) ∧ (1 ≤ ho ∧ ho ≤ 100) ∧ (wi < 1 ∨ 1000000 < wi)) by omega) with b | ⟨b, c0⟩ | ⟨b, c0, d⟩ | ⟨b, c0, d, e⟩ | ⟨b, c0, d, e, f⟩
    all_goals
      clear hx
      go_enter Try.func23, Try.ntmps23
      go_wp2_with fail
      refine (weights_yes A n c l _ (hr.lift (by repeat (first | exact Ext.refl _ | assumption | apply Ext.plus_ | apply Ext.alloc | apply Ext.drew))) H0.out a1 a2 hc).mono ?_
      rintro e w' ⟨rfl, rfl⟩
      go_wp2_with fail
    · refine (within_no mi 1 1000000 _ b).mono ?_
      rintro e w' ⟨rfl, rfl⟩
      go_wp2_with fail
      go_ret
      exact ⟨rfl, (by repeat (first | exact Ext.refl _ | assumption | apply Ext.plus_ | apply Ext.alloc | apply Ext.drew))⟩
    · refine (within_yes mi 1 1000000 _ b.1 b.2).mono ?_
      rintro e w' ⟨rfl, rfl⟩
      go_wp2_with fail
      refine (within_no nu 0 1000000 _ c0).mono ?_
      rintro e w' ⟨rfl, rfl⟩
      go_wp2_with fail
      go_ret
      exact ⟨rfl, (by repeat (first | exact Ext.refl _ | assumption | apply Ext.plus_ | apply Ext.alloc | apply Ext.drew))⟩
    · refine (within_yes mi 1 1000000 _ b.1 b.2).mono ?_
      rintro e w' ⟨rfl, rfl⟩
      go_wp2_with fail
      refine (within_yes nu 0 1000000 _ c0.1 c0.2).mono ?_
      rintro e w' ⟨rfl, rfl⟩
      go_wp2_with fail
      refine (within_no de 1 1000000 _ d).mono ?_
      rintro e w' ⟨rfl, rfl⟩
      go_wp2_with fail
      go_ret
      exact ⟨rfl, (by repeat (first | exact Ext.refl _ | assumption | apply Ext.plus_ | apply Ext.alloc | apply Ext.drew))⟩
    · refine (within_yes mi 1 1000000 _ b.1 b.2).mono ?_
      rintro e w' ⟨rfl, rfl⟩
      go_wp2_with fail
      refine (within_yes nu 0 1000000 _ c0.1 c0.2).mono ?_
      rintro e w' ⟨rfl, rfl⟩
      go_wp2_with fail
      refine (within_yes de 1 1000000 _ d.1 d.2).mono ?_
      rintro e w' ⟨rfl, rfl⟩
      go_wp2_with fail
      refine (within_no ho 1 100 _ e).mono ?_
      rintro e w' ⟨rfl, rfl⟩
      go_wp2_with fail
      go_ret
      exact ⟨rfl, (by repeat (first | exact Ext.refl _ | assumption | apply Ext.plus_ | apply Ext.alloc | apply Ext.drew))⟩
    · refine (within_yes mi 1 1000000 _ b.1 b.2).mono ?_
      rintro e w' ⟨rfl, rfl⟩
      go_wp2_with fail
      refine (within_yes nu 0 1000000 _ c0.1 c0.2).mono ?_
      rintro e w' ⟨rfl, rfl⟩
      go_wp2_with fail
      refine (within_yes de 1 1000000 _ d.1 d.2).mono ?_
      rintro e w' ⟨rfl, rfl⟩
      go_wp2_with fail
      refine (within_yes ho 1 100 _ e.1 e.2).mono ?_
      rintro e w' ⟨rfl, rfl⟩
      go_wp2_with fail
      refine (within_no wi 1 1000000 _ f).mono ?_
      rintro e w' ⟨rfl, rfl⟩
      go_wp2_with fail
      go_ret
      exact ⟨rfl, (by repeat (first | exact Ext.refl _ | assumption | apply Ext.plus_ | apply Ext.alloc | apply Ext.drew))⟩
  · have H0 := Lib.hid h0
    clear h h0 hl
    go_enter Try.func23, Try.ntmps23
    go_wp2_with fail
    refine (weights_no A n c l _ (hr.lift (by repeat (first | exact Ext.refl _ | assumption | apply Ext.plus_ | apply Ext.alloc | apply Ext.drew))) H0.out hn hc).mono ?_
    rintro e w' ⟨rfl, rfl⟩
    go_wp2_with fail
    go_ret
    exact ⟨rfl, (by repeat (first | exact Ext.refl _ | assumption | apply Ext.plus_ | apply Ext.alloc | apply Ext.drew))⟩

end Go.Proofs.Ytlcopiepcpangaa
