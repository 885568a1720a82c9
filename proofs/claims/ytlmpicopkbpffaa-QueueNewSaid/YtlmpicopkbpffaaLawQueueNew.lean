/- QueueNew: the walk. -/
import Derived.Test.YtlmpicopkbpffaaQueueB
import Derived.Test.YtlmpicopkbpffaaOpen
set_option linter.unusedVariables false
namespace Go.Proofs.Ytlmpicopkbpffaa
open Go.RowKit Go.Rg

theorem qok_cap (m : Int) : decide (QOK (qcap m) 0) = true := by
  apply decide_eq_true
  unfold QOK qcap
  split
  · omega
  · split <;> omega
set_option maxHeartbeats 4000000 in
theorem law_qnew_ (most k : Int) (A : Option Addr) (n c : Nat) (w : World) (hn : n ≤ 9223372036854775807) :
    Calls Try.prog 3 #[.int .i64 most, qu k A n c] w fun e w' => e = .returned (.bool true) ∧ Ext w w' := by
  have HQ := Lib.hid (qok_cap most)
  have H0 := Lib.hid (show (0 : Nat) ≤ 9223372036854775807 by omega)
  have HN := Lib.hid hn
  obtain ⟨q, hq⟩ : ∃ q, q = qcap most := ⟨_, rfl⟩
  rw [← hq] at HQ
  have HC := Lib.hid hq
  obtain ⟨vq, hvq⟩ : ∃ vq, vq = decide (QOK k n) := ⟨_, rfl⟩
  obtain ⟨rq, hrq⟩ : ∃ rq, rq = qroom k n := ⟨_, rfl⟩
  have HV := Lib.hid (And.intro hvq hrq)
  clear hq hvq hrq
  go_enter Try.func3, Try.ntmps3
  go_wp2_with fail
  refine (new_any most _).mono ?_
  rw [← HC.out]
  rintro e w1 ⟨rfl, hE⟩
  obtain ⟨x, rfl⟩ := hE.plus
  clear hE
  go_wp2_with fail
  apply wp_region_ext 25 [is _, is _, is (qu q none 0 0), is (.bool true), is _, is _, is (.bool true), is _, is _, is _, is (.bool vq), is _, is (.bool vq), is _, is _, is _, is _, is (.int .i64 rq), is _, is (.int .i64 rq), is _, is _, is _, is (.bool true), is _] (by kernel_rfl) (by kernel_rfl) rfl
  case hops =>
    simp only [List.take_succ_cons, List.take_zero]
    refine ⟨?_, ?_, ?_, ?_, ?_, ?_, ?_, ?_, ?_, ?_, ?_, ?_, ?_, ?_, ?_, ?_, ?_, ?_, ?_, ?_, ?_, ?_, ?_, ?_, ?_, trivial⟩
    all_goals
      intro vs x hd
      simp only [putAll, Act.put, List.setIfInBounds_toArray, List.set_cons_succ, List.set_cons_zero, Nat.zero_add, Nat.reduceAdd]
      simp [depFacts, is, isRow, isRowN, isBox, dataE] at hd
      try simp only [World.plus_plus] at hd
      simp only [Region.wanted, if_true, comes]
      try simp [yielded, hd, comes]
      go_simp
      try go_bits
      first
        | exact ⟨Ext.refl _, rfl⟩
        | exact rfl
        | exact ⟨(Ext.refl _).alloc _, _, rfl, Cells.new _ _ _ _ rfl⟩
        | exact ⟨(Ext.refl _).alloc _, _, rfl, Box.new _ _ _ _ (by simp [World.le_plus]) rfl⟩
        | ((go_at_call 10); refine (refNew_any most _).mono ?_; rw [← HC.out]; rintro e w' ⟨rfl, hE⟩; exact ⟨_, rfl, hE, rfl⟩)
        | ((go_at_call 9); refine (same_any q none 0 0 none 0 0 [] _ Row.nil Row.nil).mono ?_; rintro e w' ⟨rfl, hE⟩; exact ⟨_, rfl, hE, rfl⟩)
        | ((go_at_call 11); refine (valid_any _ _ _ _ _ (by first | exact H0.out | exact HN.out)).mono ?_; (first | rw [HQ.out] | rw [← HV.out.1]); rintro e w' ⟨rfl, hE⟩; exact ⟨_, rfl, hE, rfl⟩)
        | ((go_at_call 12); refine (refValid_any k A n c _ HN.out).mono ?_; rw [← HV.out.1]; rintro e w' ⟨rfl, hE⟩; exact ⟨_, rfl, hE, rfl⟩)
        | ((go_at_call 13); refine (room_any k A n c _ HN.out).mono ?_; rw [← HV.out.2]; rintro e w' ⟨rfl, hE⟩; exact ⟨_, rfl, hE, rfl⟩)
        | ((go_at_call 14); refine (refRoom_any k A n c _ HN.out).mono ?_; rw [← HV.out.2]; rintro e w' ⟨rfl, hE⟩; exact ⟨_, rfl, hE, rfl⟩)
        | ((go_at_call 15); refine (awake_any _).mono ?_; rintro e w' ⟨rfl, hE⟩; exact ⟨_, rfl, hE, rfl⟩)
  case hst => exact ⟨(by apply is.st), (by apply is.st), (by apply is.st), (by apply is.st), (by apply is.st), (by apply is.st), (by apply is.st), (by apply is.st), (by apply is.st), (by apply is.st), (by apply is.st), (by apply is.st), (by apply is.st), (by apply is.st), (by apply is.st), (by apply is.st), (by apply is.st), (by apply is.st), (by apply is.st), (by apply is.st), (by apply is.st), (by apply is.st), (by apply is.st), (by apply is.st), (by apply is.st), trivial⟩
  case hfin =>
    intro vs x hf
    try simp only [World.plus_plus] at hf ⊢
    simp only [List.take_succ_cons, List.take_zero, List.drop_succ_cons, List.drop_zero, putAll, Act.put, List.setIfInBounds_toArray, List.set_cons_succ, List.set_cons_zero]
    simp only [facts, is, Nat.zero_add, Nat.reduceAdd] at hf
    simp only [Nat.zero_add, Nat.reduceAdd, hf]
    clear hf
    go_wp2
    go_ret
    exact ⟨by simp, (by repeat (first | exact Ext.refl _ | assumption | apply Ext.plus_ | apply Ext.alloc | apply Ext.drew))⟩
theorem law_qnew (v0 v1 : Value) (W : World) (o0 : ∃ m, v0 = .int .i64 m ∧ I64 m) (o1 : ∃ (k : Int) (A : Option Addr) (n c : Nat) (l : List Int), v1 = .agg #[.int .i64 k, .slice A n c] ∧ I64 k ∧ ArgRow W A n c (l.map (Value.int .u8)) ∧ ∀ x ∈ l, 0 ≤ x ∧ x ≤ 255) :
    Calls Try.prog 3 #[v0, v1] W fun e w' => e = .returned (.bool true) ∧ Ext W w' := by
  obtain ⟨m, rfl, _⟩ := o0
  obtain ⟨k, A, n, c, l, rfl, _, ⟨hr, h1, h2, _⟩, _⟩ := o1
  exact law_qnew_ m k A n c W (by omega)
end Go.Proofs.Ytlmpicopkbpffaa
