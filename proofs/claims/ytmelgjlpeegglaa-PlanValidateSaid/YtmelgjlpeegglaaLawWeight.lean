/- PlanWeight: the walk -/
import Derived.Test.YtmelgjlpeegglaaLawPlan
import Derived.Test.YtmelgjlpeegglaaOpen
namespace Go.Proofs.Ytmelgjlpeegglaa
open Go.RowKit Go.Rg

def wv (l : List Int) (mi nu de ho wi st : Int) : Int := if PlanOK l mi nu de ho wi ∧ 0 ≤ st ∧ st < l.length then l.getD st.toNat 0 else 0
theorem wv_bd (l : List Int) (mi nu de ho wi st : Int) : 0 ≤ wv l mi nu de ho wi st ∧ wv l mi nu de ho wi st ≤ 10000 := by
  unfold wv
  split
  · rename_i h
    have := h.1.w st.toNat (by omega)
    exact ⟨by have := this.1; omega, this.2.1⟩
  · omega
theorem wv_in (l : List Int) (mi nu de ho wi st : Int) (h : wv l mi nu de ho wi st ≠ 0) : 0 ≤ st ∧ st < l.length := by
  unfold wv at h
  split at h
  · rename_i g; exact g.2
  · exact absurd rfl h
theorem wv_up (l : List Int) (mi nu de ho wi st : Int) (h : wv l mi nu de ho wi st ≠ 0) (h0 : st ≠ 0) : wv l mi nu de ho wi (st - 1) < wv l mi nu de ho wi st := by
  unfold wv at h ⊢
  split at h
  · rename_i g
    rw [if_pos g, if_pos ⟨g.1, by omega, by omega⟩]
    have := (g.1.w st.toNat (by omega)).2.2
    rcases this with h1 | h1
    · omega
    · rw [show (st - 1).toNat = st.toNat - 1 by omega]; exact h1
  · exact absurd rfl h
theorem weight_any (A : Option Addr) (n c : Nat) (l : List Int) (mi nu de ho wi st : Int) (w : World) (hr : Row w w.heap.size 1 A n (ints l)) (hc : n ≤ c) (hn : n ≤ 9223372036854775807) :
    Calls Try.prog 12 #[pl A n c mi nu de ho wi, .int .i64 st] w fun e w' => e = .returned (.int .i64 (wv l mi nu de ho wi st)) ∧ Ext w w' := by
  have hl := ints_len hr
  unfold wv
  split
  · rename_i h; exact weight_in A n c l mi nu de ho wi st w hr h.1 hc hn h.2.1 (by omega)
  · rename_i h; exact weight_out A n c l mi nu de ho wi st w hr hc hn (by rw [← hl]; exact h)
theorem stage_any (A : Option Addr) (n c : Nat) (l : List Int) (mi nu de ho wi st : Int) (w : World) (hr : Row w w.heap.size 1 A n (ints l)) (hc : n ≤ c) (hn : n ≤ 9223372036854775807) :
    Calls Try.prog 13 #[pl A n c mi nu de ho wi, .int .i64 st] w fun e w' => e = .returned (.int .i64 (wv l mi nu de ho wi st)) ∧ Ext w w' := by
  have hl := ints_len hr
  unfold wv
  split
  · rename_i h; exact stage_in A n c l mi nu de ho wi st w hr h.1 hc hn h.2.1 (by omega)
  · rename_i h; exact stage_out A n c l mi nu de ho wi st w hr hc hn (by rw [← hl]; exact h)

set_option maxHeartbeats 2000000 in
theorem weight_wild (lv : Value) (A : Option Addr) (n c : Nat) (l : List Int) (mi nu de ho wi st : Int) (w : World) (hr : Row w w.heap.size 1 A n (ints l)) (hc : n ≤ c) (hn : n ≤ 9223372036854775807) (hlv : ∃ B k d, lv = .slice B k d) :
    Calls Try.prog 4 #[lv, pl A n c mi nu de ho wi, .int .i64 st, .bool true] w fun ee w' => ee = .returned (.bool true) ∧ Ext w w' := by
  obtain ⟨B, k, d, rfl⟩ := hlv
  have b1 := wv_bd l mi nu de ho wi st
  have b2 := wv_up l mi nu de ho wi st
  have b4 := wv_in l mi nu de ho wi st
  have hl := ints_len hr
  obtain ⟨x, hx⟩ : ∃ x, x = wv l mi nu de ho wi st := ⟨_, rfl⟩
  obtain ⟨y, hy⟩ : ∃ y, y = wv l mi nu de ho wi (st - 1) := ⟨_, rfl⟩
  have C1 := Lib.hid (fun w' hr => weight_any A n c l mi nu de ho wi st w' hr hc hn)
  have C2 := Lib.hid (fun w' hr => stage_any A n c l mi nu de ho wi st w' hr hc hn)
  have C3 := Lib.hid (fun w' hr => weight_any A n c l mi nu de ho wi (st - 1) w' hr hc hn)
  rw [← hx] at b1 b2 b4 C1 C2
  rw [← hy] at b2 C3
  clear hx hy
  obtain ⟨b1, b1'⟩ := b1
  by_cases h0 : x = 0
  · subst h0
    clear b2 b4 hl
    go_enter Try.func4, Try.ntmps4
    go_wp2_with fail
    refine (C1.out _ (hr.lift (by repeat (first | exact Ext.refl _ | assumption | apply Ext.plus_ | apply Ext.alloc | apply Ext.drew)))).mono ?_
    rintro e w' ⟨rfl, hE⟩
    obtain ⟨x, rfl⟩ := hE.plus
    clear hE
    go_wp2_with fail
    refine (C2.out _ (hr.lift (by repeat (first | exact Ext.refl _ | assumption | apply Ext.plus_ | apply Ext.alloc | apply Ext.drew)))).mono ?_
    rintro e w' ⟨rfl, hE⟩
    obtain ⟨x, rfl⟩ := hE.plus
    clear hE
    go_wp2_with fail
    refine (awake_any _).mono ?_
    rintro e w' ⟨rfl, hE⟩
    obtain ⟨x, rfl⟩ := hE.plus
    clear hE
    go_wp2_with fail
    go_ret
    refine ⟨rfl, ?_⟩
    repeat (first | exact Ext.refl _ | apply Ext.drew | apply Ext.drewN | apply Ext.plus_ | apply Ext.alloc | assumption)
  · have e0 : (x == 0) = false := by simp; exact h0
    by_cases h1 : st = 0
    · subst h1
      clear b2 b4 hl
      go_enter Try.func4, Try.ntmps4
      go_wp2_with fail
      refine (C1.out _ (hr.lift (by repeat (first | exact Ext.refl _ | assumption | apply Ext.plus_ | apply Ext.alloc | apply Ext.drew)))).mono ?_
      rintro e w' ⟨rfl, hE⟩
      obtain ⟨x, rfl⟩ := hE.plus
      clear hE
      go_wp2_with fail
      refine (C2.out _ (hr.lift (by repeat (first | exact Ext.refl _ | assumption | apply Ext.plus_ | apply Ext.alloc | apply Ext.drew)))).mono ?_
      rintro e w' ⟨rfl, hE⟩
      obtain ⟨x, rfl⟩ := hE.plus
      clear hE
      go_wp2_with fail
      refine (awake_any _).mono ?_
      rintro e w' ⟨rfl, hE⟩
      obtain ⟨x, rfl⟩ := hE.plus
      clear hE
      go_wp2_with fail
      go_ret
      refine ⟨rfl, ?_⟩
      repeat (first | exact Ext.refl _ | apply Ext.drew | apply Ext.drewN | apply Ext.plus_ | apply Ext.alloc | assumption)
    · have e1 : (st == 0) = false := by simp; exact h1
      have b3 := b2 h0 h1
      have b5 := b4 h0
      have b6 : 0 ≤ st := b5.1
      have b7 : st ≤ 9223372036854775807 := by omega
      clear b2 b4 b5 hl
      go_enter Try.func4, Try.ntmps4
      go_wp2_with fail
      refine (C1.out _ (hr.lift (by repeat (first | exact Ext.refl _ | assumption | apply Ext.plus_ | apply Ext.alloc | apply Ext.drew)))).mono ?_
      rintro e w' ⟨rfl, hE⟩
      obtain ⟨x, rfl⟩ := hE.plus
      clear hE
      go_wp2_with fail
      refine (C2.out _ (hr.lift (by repeat (first | exact Ext.refl _ | assumption | apply Ext.plus_ | apply Ext.alloc | apply Ext.drew)))).mono ?_
      rintro e w' ⟨rfl, hE⟩
      obtain ⟨x, rfl⟩ := hE.plus
      clear hE
      go_wp2_with fail
      refine (C3.out _ (hr.lift (by repeat (first | exact Ext.refl _ | assumption | apply Ext.plus_ | apply Ext.alloc | apply Ext.drew)))).mono ?_
      rintro e w' ⟨rfl, hE⟩
      obtain ⟨x, rfl⟩ := hE.plus
      clear hE
      go_wp2_with fail
      refine (awake_any _).mono ?_
      rintro e w' ⟨rfl, hE⟩
      obtain ⟨x, rfl⟩ := hE.plus
      clear hE
      go_wp2_with fail
      go_ret
      refine ⟨rfl, ?_⟩
      repeat (first | exact Ext.refl _ | apply Ext.drew | apply Ext.drewN | apply Ext.plus_ | apply Ext.alloc | assumption)

set_option maxHeartbeats 2000000 in
theorem weight_made (B : Option Addr) (k d : Nat) (ll : List Int) (A : Option Addr) (n c : Nat) (mi nu de ho wi st0 : Int) (w : World) (hB : Row w w.heap.size 1 B k (ints ll)) (hk : k ≤ 9223372036854775807) :
    Calls Try.prog 4 #[.slice B k d, pl A n c mi nu de ho wi, .int .i64 st0, .bool false] w fun ee w' => ee = .returned (.bool true) ∧ Ext w w' := by
  go_enter Try.func4, Try.ntmps4
  go_wp2_with fail
  refine (srcPlan_any (w.heap.size + 1 + 1) B k d ll 0 _ ?hsrc).mono ?_
  case hsrc => exact src_at hB (by repeat (first | exact Ext.refl _ | assumption | apply Ext.plus_ | apply Ext.alloc | apply Ext.drew)) (by simp) hk
  rintro e w' ⟨A', c', wl, mi', nu', de', ho', wi', rfl, hsm, hown, hc1, hc2, v, hE⟩
  obtain ⟨x, rfl⟩ := hE.plus
  have hx : RowX x (w.heap.size + 1 + 1 + 1) A' wl.length (ints wl) := by
    have := RowX.of_own hown (by simp)
    simpa using this
  clear hown hE
  obtain ⟨z, hz⟩ : ∃ z, z = st0 % 11 := ⟨_, rfl⟩
  have hz1 : 0 ≤ z := by omega
  have hz2 : z < 11 := by omega
  have CW := Lib.hid (fun w => within_any st0 11 w (by decide) (by decide))
  rw [← hz] at CW
  clear hz
  obtain ⟨st, hst⟩ : ∃ st, st = z - 1 := ⟨_, rfl⟩
  have hst1 : -1 ≤ st := by omega
  have hst2 : st ≤ 9 := by omega
  have hp := hsm.ok
  have b1 := wv_bd wl mi' nu' de' ho' wi' st
  have b2 := wv_up wl mi' nu' de' ho' wi' st
  obtain ⟨y0, hx0⟩ : ∃ x, x = wv wl mi' nu' de' ho' wi' st := ⟨_, rfl⟩
  obtain ⟨y, hy⟩ : ∃ y, y = wv wl mi' nu' de' ho' wi' (st - 1) := ⟨_, rfl⟩
  have hn3 := hsm.n3
  have C1 := Lib.hid (fun w' hr => weight_any A' wl.length c' wl mi' nu' de' ho' wi' st w' hr hc1 (by omega))
  have C2 := Lib.hid (fun w' hr => stage_any A' wl.length c' wl mi' nu' de' ho' wi' st w' hr hc1 (by omega))
  have C3 := Lib.hid (fun w' hr => weight_any A' wl.length c' wl mi' nu' de' ho' wi' (st - 1) w' hr hc1 (by omega))
  rw [← hx0] at b1 b2 C1 C2
  rw [← hy] at b2 C3
  clear hx0 hy hsm hp
  obtain ⟨b1, b1'⟩ := b1
  go_wp2_with fail
  refine (CW.out _).mono ?_
  rintro e w' ⟨rfl, rfl⟩
  go_wp2_with fail
  clear CW
  rw [← hst]
  clear hst hz1 hz2
  by_cases h0 : y0 = 0
  · subst h0
    clear b2
    refine (C1.out _ (by (repeat (refine Row.up_alloc ?_ _)); apply RowX.row; (repeat (first | exact hx | apply RowX.more | apply RowX.draws)); simp)).mono ?_
    rintro e w' ⟨rfl, hE⟩
    obtain ⟨x, rfl⟩ := hE.plus
    clear hE
    go_wp2_with fail
    refine (C2.out _ (by (repeat (refine Row.up_alloc ?_ _)); apply RowX.row; (repeat (first | exact hx | apply RowX.more | apply RowX.draws)); simp)).mono ?_
    rintro e w' ⟨rfl, hE⟩
    obtain ⟨x, rfl⟩ := hE.plus
    clear hE
    go_wp2_with fail
    refine (awake_any _).mono ?_
    rintro e w' ⟨rfl, hE⟩
    obtain ⟨x, rfl⟩ := hE.plus
    clear hE
    go_wp2_with fail
    go_ret
    refine ⟨rfl, ?_⟩
    repeat (first | exact Ext.refl _ | apply Ext.drew | apply Ext.drewN | apply Ext.plus_ | apply Ext.alloc | assumption)
  · have e0 : (y0 == 0) = false := by simp; exact h0
    by_cases h1 : st = 0
    · subst h1
      clear b2
      refine (C1.out _ (by (repeat (refine Row.up_alloc ?_ _)); apply RowX.row; (repeat (first | exact hx | apply RowX.more | apply RowX.draws)); simp)).mono ?_
      rintro e w' ⟨rfl, hE⟩
      obtain ⟨x, rfl⟩ := hE.plus
      clear hE
      go_wp2_with fail
      refine (C2.out _ (by (repeat (refine Row.up_alloc ?_ _)); apply RowX.row; (repeat (first | exact hx | apply RowX.more | apply RowX.draws)); simp)).mono ?_
      rintro e w' ⟨rfl, hE⟩
      obtain ⟨x, rfl⟩ := hE.plus
      clear hE
      go_wp2_with fail
      refine (awake_any _).mono ?_
      rintro e w' ⟨rfl, hE⟩
      obtain ⟨x, rfl⟩ := hE.plus
      clear hE
      go_wp2_with fail
      go_ret
      refine ⟨rfl, ?_⟩
      repeat (first | exact Ext.refl _ | apply Ext.drew | apply Ext.drewN | apply Ext.plus_ | apply Ext.alloc | assumption)
    · have e1 : (st == 0) = false := by simp; exact h1
      have b3 := b2 h0 h1
      clear b2
      refine (C1.out _ (by (repeat (refine Row.up_alloc ?_ _)); apply RowX.row; (repeat (first | exact hx | apply RowX.more | apply RowX.draws)); simp)).mono ?_
      rintro e w' ⟨rfl, hE⟩
      obtain ⟨x, rfl⟩ := hE.plus
      clear hE
      go_wp2_with fail
      refine (C2.out _ (by (repeat (refine Row.up_alloc ?_ _)); apply RowX.row; (repeat (first | exact hx | apply RowX.more | apply RowX.draws)); simp)).mono ?_
      rintro e w' ⟨rfl, hE⟩
      obtain ⟨x, rfl⟩ := hE.plus
      clear hE
      go_wp2_with fail
      refine (C3.out _ (by (repeat (refine Row.up_alloc ?_ _)); apply RowX.row; (repeat (first | exact hx | apply RowX.more | apply RowX.draws)); simp)).mono ?_
      rintro e w' ⟨rfl, hE⟩
      obtain ⟨x, rfl⟩ := hE.plus
      clear hE
      go_wp2_with fail
      refine (awake_any _).mono ?_
      rintro e w' ⟨rfl, hE⟩
      obtain ⟨x, rfl⟩ := hE.plus
      clear hE
      go_wp2_with fail
      go_ret
      refine ⟨rfl, ?_⟩
      repeat (first | exact Ext.refl _ | apply Ext.drew | apply Ext.drewN | apply Ext.plus_ | apply Ext.alloc | assumption)

theorem law_weight (v0 v1 v2 v3 : Value) (w : World) (p0 : ∃ A n c, ∃ l : List Int, v0 = .slice A n c ∧ ArgRow w A n c (l.map (Value.int .i64)) ∧ ∀ x ∈ l, I64 x)
    (p1 : ∃ A n c, ∃ (l : List Int) (mi nu de ho wi : Int), v1 = .agg #[.slice A n c, .int .i64 mi, .int .i64 nu, .int .i64 de, .int .i64 ho, .int .i64 wi] ∧ ArgRow w A n c (l.map (Value.int .i64)) ∧ I64 mi ∧ I64 nu ∧ I64 de ∧ I64 ho ∧ I64 wi)
    (p2 : ∃ n, v2 = .int .i64 n ∧ I64 n) (p3 : ∃ b, v3 = .bool b) :
    Calls Try.prog 4 #[v0, v1, v2, v3] w fun ee w' => ee = .returned (.bool true) ∧ Ext w w' := by
  obtain ⟨B, k, d, ll, rfl, ⟨hB, hkd, hdm, _⟩, _⟩ := p0
  obtain ⟨A, n, c, l, mi, nu, de, ho, wi, rfl, ⟨hA, hnc, hcm, _⟩, _⟩ := p1
  obtain ⟨st, rfl, _⟩ := p2
  obtain ⟨b, rfl⟩ := p3
  cases b
  · exact weight_made B k d ll A n c mi nu de ho wi st w hB (by omega)
  · exact weight_wild _ A n c l mi nu de ho wi st w hA hnc (by omega) ⟨B, k, d, rfl⟩
end Go.Proofs.Ytmelgjlpeegglaa
