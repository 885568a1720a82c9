/- number.Add and its reference. -/
import Derived.Test.YtphbmibgnnobcaaNum0
set_option linter.unusedVariables false
namespace Go.Proofs.Ytphbmibgnnobcaa
open Go.RowKit

/-- number.Add's sum: each summand from 0 on, as far as there is room below most. -/
def addTo (most : Int) (zs : List Int) (k : Nat) : Int := (zs.take k).foldl (fun s n => s + min (max n 0) (max most 0 - s)) 0

theorem addTo_succ (most : Int) (zs : List Int) (k : Nat) (z : Int) (h : zs[k]? = some z) : addTo most zs (k + 1) = addTo most zs k + min (max z 0) (max most 0 - addTo most zs k) := by
  unfold addTo
  rw [List.take_add_one, h, Option.toList, List.foldl_append]
  rfl
theorem addTo_bd (most : Int) (zs : List Int) (k : Nat) : 0 ≤ addTo most zs k ∧ addTo most zs k ≤ max most 0 := by
  induction k with
  | zero => simp [addTo]; omega
  | succ k ih =>
    rcases h : zs[k]? with _ | z
    · have : addTo most zs (k + 1) = addTo most zs k := by unfold addTo; rw [List.take_add_one, h]; simp
      omega
    · rw [addTo_succ most zs k z h]; omega

set_option maxHeartbeats 400000 in
theorem add_any (most : Int) (A : Option Addr) (n c : Nat) (zs : List Int) (w : World) (hr : Row w w.heap.size 1 A n (ints zs)) (hm : most ≤ 9223372036854775807) (hn : n ≤ 9223372036854775807) :
    Calls Try.prog 45 #[.int .i64 most, .slice A n c] w fun e w' => e = .returned (.int .i64 (addTo most zs n)) ∧ w = w' := by
  go_enter Try.func45, Try.ntmps45
  go_wp2
  go_loop [5, 10] (fun s i => ∃ k : Nat, k ≤ n ∧ i = .int .i64 k ∧ s = .int .i64 (addTo most zs k)) (fun _ i => n - (intOf i).toNat)
  case atStart => exact ⟨0, Nat.zero_le _, rfl, rfl⟩
  case round =>
    obtain ⟨k, hk, rfl, rfl⟩ := hrel
    have hbd := addTo_bd most zs k
    by_cases hlt : k < n
    · obtain ⟨b, o, z, rfl, hb, hz, hcell⟩ := hr.int_at hlt
      have HS := Lib.hid (addTo_succ most zs k z hz)
      clear hr hz
      obtain ⟨s, hs⟩ : ∃ s, addTo most zs k = s := ⟨_, rfl⟩
      rw [hs] at hbd HS ⊢
      clear hs
      go_wp2
      all_goals
        go_round
        case rel => exact ⟨k + 1, by omega, by go_num, by rw [HS.out]; congr 1; omega⟩
        case measure => simp [intOf]; omega
    · go_wp2
      go_ret
      have hkn : k = n := by omega
      subst hkn
      exact ⟨rfl, rfl⟩

theorem addTo_full (most : Int) (zs : List Int) (k : Nat) (h : addTo most zs k = max most 0) (j : Nat) : addTo most zs (k + j) = max most 0 := by
  induction j with
  | zero => exact h
  | succ j ih =>
    rcases hz : zs[k + j]? with _ | z
    · have : addTo most zs (k + j + 1) = addTo most zs (k + j) := by unfold addTo; rw [List.take_add_one, hz]; simp
      rw [← Nat.add_assoc, this, ih]
    · rw [← Nat.add_assoc, addTo_succ most zs _ z hz, ih]; omega

theorem addTo_neg (most : Int) (zs : List Int) (n : Nat) (h : most < 0) : addTo most zs n = 0 := by
  have := addTo_bd most zs n; omega

set_option maxHeartbeats 400000 in
theorem refAdd_any (most : Int) (A : Option Addr) (n c : Nat) (zs : List Int) (w : World) (hr : Row w w.heap.size 1 A n (ints zs)) (hm : most ≤ 9223372036854775807) (hn : n ≤ 9223372036854775807) :
    Calls Try.prog 41 #[.int .i64 most, .slice A n c] w fun e w' => e = .returned (.int .i64 (addTo most zs n)) ∧ w = w' := by
  rcases Int.lt_or_le most 0 with h0 | h0
  · go_enter Try.func41, Try.ntmps41
    go_wp2
    go_ret
    exact ⟨ret_int (by rw [addTo_neg most zs n h0]), rfl⟩
  · go_enter Try.func41, Try.ntmps41
    go_wp2
    go_loop [5, 6] (fun s i => ∃ k : Nat, k ≤ n ∧ i = .int .i64 k ∧ s = .int .i64 (addTo most zs k)) (fun _ i => n - (intOf i).toNat)
    case atStart => exact ⟨0, Nat.zero_le _, rfl, rfl⟩
    case round =>
      obtain ⟨k, hk, rfl, rfl⟩ := hrel
      have hbd := addTo_bd most zs k
      by_cases hlt : k < n
      · obtain ⟨b, o, z, rfl, hb, hz, hcell⟩ := hr.int_at hlt
        have HS := Lib.hid (addTo_succ most zs k z hz)
        have HF := Lib.hid (addTo_full most zs (k + 1))
        clear hr hz
        obtain ⟨s, hs⟩ : ∃ s, addTo most zs k = s := ⟨_, rfl⟩
        rw [hs] at hbd HS ⊢
        clear hs
        go_wp2
        all_goals first
          | (go_ret
             refine ⟨ret_int ?_, rfl⟩
             have h1 := HS.out
             have h2 := HF.out (by omega) (n - (k + 1))
             rw [show k + 1 + (n - (k + 1)) = n from by omega] at h2
             show most = _
             omega)
          | (go_round
             case rel => exact ⟨k + 1, by omega, by go_num, by rw [HS.out]; congr 1; omega⟩
             case measure => simp [intOf]; omega)
      · go_wp2
        go_ret
        have hkn : k = n := by omega
        subst hkn
        exact ⟨rfl, rfl⟩
end Go.Proofs.Ytphbmibgnnobcaa
