/- WindowCloses: the walk -/
import Derived.Test.YtngokfaaaeikoaaLawTick
namespace Go.Proofs.Ytngokfaaaeikoaa
open Go.RowKit Go.Rg

theorem div_step (k L : Int) (hk : 0 ≤ k) (hL : 0 < L) :
    (k % L + 1 < L → (k + 1) / L = k / L ∧ (k + 1) % L = k % L + 1) ∧ (L ≤ k % L + 1 → (k + 1) / L = k / L + 1 ∧ (k + 1) % L = 0) := by
  have h1 := Int.mul_ediv_add_emod k L
  have h2 := Int.emod_nonneg k (by omega : L ≠ 0)
  have h3 := Int.emod_lt_of_pos k hL
  refine ⟨fun h => ?_, fun h => ?_⟩
  · have e : k + 1 = (k % L + 1) + L * (k / L) := by omega
    have h4 : (k % L + 1) / L = 0 := Int.ediv_eq_zero_of_lt (by omega) h
    have h5 : (k % L + 1) % L = k % L + 1 := Int.emod_eq_of_lt (by omega) h
    constructor
    · rw [e, Int.add_mul_ediv_left _ _ (by omega), h4, Int.zero_add]
    · rw [e, Int.add_mul_emod_self_left, h5]
  · have e : k + 1 = 0 + L * (k / L + 1) := by rw [Int.mul_add]; omega
    constructor
    · rw [e, Int.add_mul_ediv_left _ _ (by omega)]; simp
    · rw [e, Int.add_mul_emod_self_left]; simp

def CloseRel (w : World) (N L : Int) (i cl : Value) (wr : World) : Prop :=
  ∃ (k : Nat) (q r : Int) (x : Array Obj × Nat), (k : Int) ≤ N ∧ i = .int .i64 k ∧ cl = .int .i64 q ∧ Hid (q = (k : Int) / L ∧ r = (k : Int) % L) ∧ 0 ≤ r ∧ r < L ∧ 0 ≤ q ∧ q ≤ k ∧ wr = (w.alloc (.cells #[.int .i64 0, .int .i64 0, .int .i64 r] 23)).plus x

set_option maxHeartbeats 1000000 in
theorem closes_walk (l n : Int) (w : World) :
    Calls Try.prog 5 #[.int .i64 l, .int .i64 n] w fun ee w' => ee = .returned (.bool true) ∧ Ext w w' := by
  obtain ⟨L0, hL0⟩ : ∃ L', L' = l % 20 := ⟨_, rfl⟩
  obtain ⟨N, hN⟩ : ∃ N', N' = n % 200 := ⟨_, rfl⟩
  have hb1 : 0 ≤ L0 := by omega
  have hb2 : L0 < 20 := by omega
  have hb3 : 0 ≤ N := by omega
  have hb4 : N < 200 := by omega
  have C1 := Lib.hid (fun w => within_any l 20 w (by decide) (by decide))
  have C2 := Lib.hid (fun w => within_any n 200 w (by decide) (by decide))
  rw [← hL0] at C1
  rw [← hN] at C2
  clear hL0 hN
  go_enter Try.func5, Try.ntmps5
  go_wp2_with fail
  refine (C1.out _).mono ?_
  rintro e w' ⟨rfl, rfl⟩
  go_wp2_with fail
  refine (C2.out _).mono ?_
  rintro e w' ⟨rfl, rfl⟩
  go_wp2_with fail
  clear C1 C2
  obtain ⟨L, hL⟩ : ∃ L, 1 + L0 = L := ⟨_, rfl⟩
  rw [hL]
  have hl1 : 1 ≤ L := by omega
  have hl2 : L ≤ 20 := by omega
  clear hL hb1 hb2
  go_loopw [7, 6] (fun i cl wr => CloseRel w N L i cl wr) (fun i _ _ => (N - intOf i).toNat)
  case atStart => exact ⟨0, 0, 0, _, by omega, rfl, rfl, ⟨by simp, by simp⟩, by omega, by omega, by omega, by omega, World.plus_self _⟩
  case round =>
    obtain ⟨k, q, r, x, hk, rfl, rfl, hid, h0, h1, h2, h3, rfl⟩ := hrel
    have hs := div_step k L (by omega) (by omega)
    rw [← hid.out.1, ← hid.out.2] at hs
    have HS := Lib.hid hs
    clear hs
    by_cases hlt : (k : Int) < N
    · rcases Int.lt_or_le (max r 0 + 1) L with h | h
      all_goals go_wp2_with fail
      · refine (tick_goes 0 0 r L _ (by omega) h).mono ?_
        rintro e w' ⟨rfl, hE⟩
        obtain ⟨x, rfl⟩ := hE.plus
        clear hE
        go_wp2_with fail
        have hmr : max r 0 = r := by omega
        have h5 := HS.out.1 (by omega)
        go_roundw
        case rel => exact ⟨k + 1, q, r + 1, _, by omega, by go_num, rfl, ⟨h5.1.symm, h5.2.symm⟩, by omega, by omega, by omega, by omega, by rw [hmr]⟩
        case measure => simp [intOf]; omega
      · refine (tick_closes 0 0 r L _ (by omega) h).mono ?_
        rintro e w' ⟨rfl, hE⟩
        obtain ⟨x, rfl⟩ := hE.plus
        clear hE
        go_wp2_with fail
        have h5 := HS.out.2 (by omega)
        go_roundw
        case rel => exact ⟨k + 1, q + 1, 0, _, by omega, by go_num, by go_num, ⟨h5.1.symm, h5.2.symm⟩, by omega, by omega, by omega, by omega, rfl⟩
        case measure => simp [intOf]; omega
    · have hkN : (k : Int) = N := by omega
      have e1 : N / L = q := by rw [← hkN]; exact hid.out.1.symm
      have e2 : N % L = r := by rw [← hkN]; exact hid.out.2.symm
      have e3 : ¬ L = 0 := by omega
      clear hid HS
      go_wp2_with fail
      apply wp_region_ext 17 [is _, is _, is _, is _, is _, is _, is _, is _, is _, is _, is _, is _, is _, is _, is (.bool true), is _, is _] (by kernel_rfl) (by kernel_rfl) rfl
      case hops =>
        simp only [List.take_succ_cons, List.take_zero]
        refine ⟨?_, ?_, ?_, ?_, ?_, ?_, ?_, ?_, ?_, ?_, ?_, ?_, ?_, ?_, ?_, ?_, ?_, trivial⟩
        all_goals
          intro vs x hd
          simp only [putAll, Act.put, List.setIfInBounds_toArray, List.set_cons_succ, List.set_cons_zero, Nat.zero_add, Nat.reduceAdd]
          simp [depFacts, is, isRow, isRowN, isBox, dataE] at hd
          try simp only [World.plus_plus] at hd
          simp only [Region.wanted, if_true, comes]
          try simp [yielded, hd, comes]
          go_simp
          try go_bits
          first
            | exact ⟨Ext.refl _, rfl⟩
            | exact ⟨(Ext.refl _).alloc _, _, rfl, Cells.new _ _ _ _ rfl⟩
            | exact ⟨(Ext.refl _).alloc _, _, rfl, Box.new _ _ _ _ (by simp [World.le_plus]) rfl⟩
            | (refine (awake_any _).mono ?_; rintro e w' ⟨rfl, hE⟩; exact ⟨_, rfl, hE, rfl⟩)
      case hst => exact ⟨(by apply is.st), (by apply is.st), (by apply is.st), (by apply is.st), (by apply is.st), (by apply is.st), (by apply is.st), (by apply is.st), (by apply is.st), (by apply is.st), (by apply is.st), (by apply is.st), (by apply is.st), (by apply is.st), (by apply is.st), (by apply is.st), (by apply is.st), trivial⟩
      case hfin =>
        intro vs x hf
        try simp only [World.plus_plus] at hf ⊢
        simp only [List.take_succ_cons, List.take_zero, List.drop_succ_cons, List.drop_zero, putAll, Act.put, List.setIfInBounds_toArray, List.set_cons_succ, List.set_cons_zero]
        simp only [facts, is, Nat.zero_add, Nat.reduceAdd] at hf
        simp only [Nat.zero_add, Nat.reduceAdd, hf]
        clear hf
        go_wp2
        go_ret
        refine ⟨rfl, ?_⟩
        repeat (first | exact Ext.refl _ | apply Ext.drew | apply Ext.drewN | apply Ext.plus_ | apply Ext.alloc | assumption)

theorem law_closes (v0 v1 : Value) (w : World) (p0 : ∃ n, v0 = .int .i64 n ∧ I64 n) (p1 : ∃ n, v1 = .int .i64 n ∧ I64 n) :
    Calls Try.prog 5 #[v0, v1] w fun ee w' => ee = .returned (.bool true) ∧ Ext w w' := by
  obtain ⟨l, rfl, _⟩ := p0
  obtain ⟨n, rfl, _⟩ := p1
  exact closes_walk l n w
end Go.Proofs.Ytngokfaaaeikoaa
