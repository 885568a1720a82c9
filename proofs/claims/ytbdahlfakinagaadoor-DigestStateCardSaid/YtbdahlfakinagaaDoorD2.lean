/- Turning a word to the right. -/
import Derived.Test.YtbdahlfakinagaaDoorD1
import Derived.Deep.CutRange
import Derived.Test.YtbdahlfakinagaaDoorRet
set_option linter.unusedVariables false
namespace Go.Proofs.YtbdahlfakinagaaDoor
open Go.RowKit Go.Rg

theorem rr_comm (n : Nat) (t : W32) : (t <<< (32 - n)) ||| (t >>> n) = rr n t := BitVec.or_comm _ _
theorem rot2 (t : W32) (w : World) : Calls Tryd.prog 29 #[bw t, .int .i64 (-2)] w fun e w' => e = .returned (bw (rr 2 t)) ∧ Ext w w' := by
  have q : (t <<< 30) ||| (t >>> 2) = rr 2 t := BitVec.or_comm _ _
  go_enter Tryd.func29, Tryd.ntmps29
  go_upto_region 2 with fail
  refine act_at fun A0 hAq => ?_
  have hsz : A0.tmps.size = 17 := by
    rw [hAq]
    rfl
  have hA0 : A0.tmps.getD 0 undef = bw (t) := by
    rw [hAq]
    first | rfl | kernel_rfl
  have hA5 : A0.tmps.getD 5 undef = .int .u64 30 := by
    rw [hAq]
    first | rfl | kernel_rfl
  have HAq := Lib.hid hAq
  clear hAq
  apply wp_region_seq 8 [is (bw (t)), is (.int .u64 30), is (bw ((t) <<< 30)), is (bw (t)), is (.int .u64 30), is (.int .u64 2), is (bw ((t) >>> 2)), is (bw (((t) <<< 30) ||| ((t) >>> 2)))] (by kernel_rfl) (by kernel_rfl) rfl
  case hops =>
    simp only [List.take_succ_cons, List.take_zero]
    with_reducible refine xOps_cons ?_ ?_
    · with_reducible refine xop_un ?_ ?_
      · rfl
      · intro vs x F hF hd
        have e1 : F.tmps.getD 0 undef = bw (t) := (hF.a 0 (by kernel_rfl) (by rw [hsz]; rfl)).trans hA0
        exact m_v e1
    with_reducible refine xOps_cons ?_ ?_
    · with_reducible refine xop_un ?_ ?_
      · rfl
      · intro vs x F hF hd
        have e1 : F.tmps.getD 5 undef = .int .u64 30 := (hF.a 5 (by kernel_rfl) (by rw [hsz]; rfl)).trans hA5
        exact m_v e1
    with_reducible refine xOps_cons ?_ ?_
    · with_reducible refine xop_un ?_ ?_
      · rfl
      · intro vs x F hF hd
        have e1 : F.tmps.getD 9 undef = bw (t) := (hF.v 9 0 (by kernel_rfl) (by rw [hsz]; rfl)).trans (dep_at hd 0 0 (is (bw (t))) (by kernel_rfl) (by kernel_rfl))
        have e2 : F.tmps.getD 10 undef = .int .u64 30 := (hF.v 10 1 (by kernel_rfl) (by rw [hsz]; rfl)).trans (dep_at hd 1 1 (is (.int .u64 30)) (by kernel_rfl) (by kernel_rfl))
        exact w_shl_u64 (n := 30) e1 e2 (by omega)
    with_reducible refine xOps_cons ?_ ?_
    · with_reducible refine xop_un ?_ ?_
      · rfl
      · intro vs x F hF hd
        have e1 : F.tmps.getD 0 undef = bw (t) := (hF.a 0 (by kernel_rfl) (by rw [hsz]; rfl)).trans hA0
        exact m_v e1
    with_reducible refine xOps_cons ?_ ?_
    · with_reducible refine xop_un ?_ ?_
      · rfl
      · intro vs x F hF hd
        have e1 : F.tmps.getD 5 undef = .int .u64 30 := (hF.a 5 (by kernel_rfl) (by rw [hsz]; rfl)).trans hA5
        exact m_v e1
    with_reducible refine xOps_cons ?_ ?_
    · with_reducible refine xop_un ?_ ?_
      · rfl
      · intro vs x F hF hd
        have e2 : F.tmps.getD 13 undef = .int .u64 30 := (hF.v 13 4 (by kernel_rfl) (by rw [hsz]; rfl)).trans (dep_at hd 0 4 (is (.int .u64 30)) (by kernel_rfl) (by kernel_rfl))
        exact u_sub (a := 32) (b := 30) rfl e2 (by omega) (by omega)
    with_reducible refine xOps_cons ?_ ?_
    · with_reducible refine xop_un ?_ ?_
      · rfl
      · intro vs x F hF hd
        have e1 : F.tmps.getD 12 undef = bw (t) := (hF.v 12 3 (by kernel_rfl) (by rw [hsz]; rfl)).trans (dep_at hd 0 3 (is (bw (t))) (by kernel_rfl) (by kernel_rfl))
        have e2 : F.tmps.getD 14 undef = .int .u64 2 := (hF.v 14 5 (by kernel_rfl) (by rw [hsz]; rfl)).trans (dep_at hd 1 5 (is (.int .u64 2)) (by kernel_rfl) (by kernel_rfl))
        exact w_shr_u64 (n := 2) e1 e2 (by omega)
    with_reducible refine xOps_cons ?_ ?_
    · with_reducible refine xop_un ?_ ?_
      · rfl
      · intro vs x F hF hd
        have e1 : F.tmps.getD 11 undef = bw ((t) <<< 30) := (hF.v 11 2 (by kernel_rfl) (by rw [hsz]; rfl)).trans (dep_at hd 0 2 (is (bw ((t) <<< 30))) (by kernel_rfl) (by kernel_rfl))
        have e2 : F.tmps.getD 15 undef = bw ((t) >>> 2) := (hF.v 15 6 (by kernel_rfl) (by rw [hsz]; rfl)).trans (dep_at hd 1 6 (is (bw ((t) >>> 2))) (by kernel_rfl) (by kernel_rfl))
        exact w_or e1 e2
    exact xOps_nil
  case hst => exact ⟨is.st _, is.st _, is.st _, is.st _, is.st _, is.st _, is.st _, is.st _, trivial⟩
  case hfin =>
    intro vs x hf
    have f7 : vs 7 = bw (((t) <<< 30) ||| ((t) >>> 2)) := hf.2.2.2.2.2.2.2.1
    clear hf
    have hAq := HAq.out
    subst hAq
    clear hsz hA0 hA5
    simp only [List.take_succ_cons, List.take_zero, List.drop_succ_cons, List.drop_zero, putAll, Act.put, List.setIfInBounds_toArray, List.set_cons_succ, List.set_cons_zero, Nat.zero_add, Nat.reduceAdd]
    clear HAq
    rw [f7]
    clear f7
    go_wp2
    go_ret
    exact ⟨by rw [← q]; rfl, (by repeat (first | exact Ext.refl _ | assumption | apply Ext.plus_ | apply Ext.alloc | apply Ext.drew))⟩
theorem right2 (t : W32) (w : World) : Calls Tryd.prog 25 #[bw t, .int .i64 2] w fun e w' => e = .returned (bw (rr 2 t)) ∧ Ext w w' := by
  go_enter Tryd.func25, Tryd.ntmps25
  go_upto_region 1 with fail
  refine act_at fun A0 hAq => ?_
  have hsz : A0.tmps.size = 13 := by
    rw [hAq]
    rfl
  have hA0 : A0.tmps.getD 0 undef = bw (t) := by
    rw [hAq]
    first | rfl | kernel_rfl
  have hA1 : A0.tmps.getD 1 undef = nw (2) := by
    rw [hAq]
    first | rfl | kernel_rfl
  have HAq := Lib.hid hAq
  clear hAq
  apply wp_region_ext 8 [is (bw (t)), is (nw (2)), is (bw ((t) >>> 2)), is (bw (t)), is (nw (2)), is (nw (30)), is (bw ((t) <<< 30)), is (bw (((t) >>> 2) ||| ((t) <<< 30)))] (by kernel_rfl) (by kernel_rfl) rfl
  case hops =>
    simp only [List.take_succ_cons, List.take_zero]
    with_reducible refine xOps_cons ?_ ?_
    · with_reducible refine xop_un ?_ ?_
      · rfl
      · intro vs x F hF hd
        have e1 : F.tmps.getD 0 undef = bw (t) := (hF.a 0 (by kernel_rfl) (by rw [hsz]; rfl)).trans hA0
        exact m_v e1
    with_reducible refine xOps_cons ?_ ?_
    · with_reducible refine xop_un ?_ ?_
      · rfl
      · intro vs x F hF hd
        have e1 : F.tmps.getD 1 undef = nw (2) := (hF.a 1 (by kernel_rfl) (by rw [hsz]; rfl)).trans hA1
        exact m_v e1
    with_reducible refine xOps_cons ?_ ?_
    · with_reducible refine xop_un ?_ ?_
      · rfl
      · intro vs x F hF hd
        have e1 : F.tmps.getD 5 undef = bw (t) := (hF.v 5 0 (by kernel_rfl) (by rw [hsz]; rfl)).trans (dep_at hd 0 0 (is (bw (t))) (by kernel_rfl) (by kernel_rfl))
        have e2 : F.tmps.getD 6 undef = nw (2) := (hF.v 6 1 (by kernel_rfl) (by rw [hsz]; rfl)).trans (dep_at hd 1 1 (is (nw (2))) (by kernel_rfl) (by kernel_rfl))
        exact w_shr_i64 (n := 2) e1 e2 (by omega)
    with_reducible refine xOps_cons ?_ ?_
    · with_reducible refine xop_un ?_ ?_
      · rfl
      · intro vs x F hF hd
        have e1 : F.tmps.getD 0 undef = bw (t) := (hF.a 0 (by kernel_rfl) (by rw [hsz]; rfl)).trans hA0
        exact m_v e1
    with_reducible refine xOps_cons ?_ ?_
    · with_reducible refine xop_un ?_ ?_
      · rfl
      · intro vs x F hF hd
        have e1 : F.tmps.getD 1 undef = nw (2) := (hF.a 1 (by kernel_rfl) (by rw [hsz]; rfl)).trans hA1
        exact m_v e1
    with_reducible refine xOps_cons ?_ ?_
    · with_reducible refine xop_un ?_ ?_
      · rfl
      · intro vs x F hF hd
        have e2 : F.tmps.getD 9 undef = nw (2) := (hF.v 9 4 (by kernel_rfl) (by rw [hsz]; rfl)).trans (dep_at hd 0 4 (is (nw (2))) (by kernel_rfl) (by kernel_rfl))
        exact n_sub (a := 32) (b := 2) rfl e2 (by omega) (by omega)
    with_reducible refine xOps_cons ?_ ?_
    · with_reducible refine xop_un ?_ ?_
      · rfl
      · intro vs x F hF hd
        have e1 : F.tmps.getD 8 undef = bw (t) := (hF.v 8 3 (by kernel_rfl) (by rw [hsz]; rfl)).trans (dep_at hd 0 3 (is (bw (t))) (by kernel_rfl) (by kernel_rfl))
        have e2 : F.tmps.getD 10 undef = nw (30) := (hF.v 10 5 (by kernel_rfl) (by rw [hsz]; rfl)).trans (dep_at hd 1 5 (is (nw (30))) (by kernel_rfl) (by kernel_rfl))
        exact w_shl_i64 (n := 30) e1 e2 (by omega)
    with_reducible refine xOps_cons ?_ ?_
    · with_reducible refine xop_un ?_ ?_
      · rfl
      · intro vs x F hF hd
        have e1 : F.tmps.getD 7 undef = bw ((t) >>> 2) := (hF.v 7 2 (by kernel_rfl) (by rw [hsz]; rfl)).trans (dep_at hd 0 2 (is (bw ((t) >>> 2))) (by kernel_rfl) (by kernel_rfl))
        have e2 : F.tmps.getD 11 undef = bw ((t) <<< 30) := (hF.v 11 6 (by kernel_rfl) (by rw [hsz]; rfl)).trans (dep_at hd 1 6 (is (bw ((t) <<< 30))) (by kernel_rfl) (by kernel_rfl))
        exact w_or e1 e2
    exact xOps_nil
  case hst => exact ⟨is.st _, is.st _, is.st _, is.st _, is.st _, is.st _, is.st _, is.st _, trivial⟩
  case hfin =>
    intro vs x hf
    have f7 : vs 7 = bw (((t) >>> 2) ||| ((t) <<< 30)) := hf.2.2.2.2.2.2.2.1
    clear hf
    have hAq := HAq.out
    subst hAq
    clear hsz hA0 hA1
    simp only [List.take_succ_cons, List.take_zero, List.drop_succ_cons, List.drop_zero, putAll, Act.put, List.setIfInBounds_toArray, List.set_cons_succ, List.set_cons_zero, Nat.zero_add, Nat.reduceAdd]
    clear HAq
    rw [f7]
    clear f7
    go_wp2
    go_ret
    exact ⟨rfl, (by repeat (first | exact Ext.refl _ | assumption | apply Ext.plus_ | apply Ext.alloc | apply Ext.drew))⟩
theorem rot6 (t : W32) (w : World) : Calls Tryd.prog 29 #[bw t, .int .i64 (-6)] w fun e w' => e = .returned (bw (rr 6 t)) ∧ Ext w w' := by
  have q : (t <<< 26) ||| (t >>> 6) = rr 6 t := BitVec.or_comm _ _
  go_enter Tryd.func29, Tryd.ntmps29
  go_upto_region 2 with fail
  refine act_at fun A0 hAq => ?_
  have hsz : A0.tmps.size = 17 := by
    rw [hAq]
    rfl
  have hA0 : A0.tmps.getD 0 undef = bw (t) := by
    rw [hAq]
    first | rfl | kernel_rfl
  have hA5 : A0.tmps.getD 5 undef = .int .u64 26 := by
    rw [hAq]
    first | rfl | kernel_rfl
  have HAq := Lib.hid hAq
  clear hAq
  apply wp_region_seq 8 [is (bw (t)), is (.int .u64 26), is (bw ((t) <<< 26)), is (bw (t)), is (.int .u64 26), is (.int .u64 6), is (bw ((t) >>> 6)), is (bw (((t) <<< 26) ||| ((t) >>> 6)))] (by kernel_rfl) (by kernel_rfl) rfl
  case hops =>
    simp only [List.take_succ_cons, List.take_zero]
    with_reducible refine xOps_cons ?_ ?_
    · with_reducible refine xop_un ?_ ?_
      · rfl
      · intro vs x F hF hd
        have e1 : F.tmps.getD 0 undef = bw (t) := (hF.a 0 (by kernel_rfl) (by rw [hsz]; rfl)).trans hA0
        exact m_v e1
    with_reducible refine xOps_cons ?_ ?_
    · with_reducible refine xop_un ?_ ?_
      · rfl
      · intro vs x F hF hd
        have e1 : F.tmps.getD 5 undef = .int .u64 26 := (hF.a 5 (by kernel_rfl) (by rw [hsz]; rfl)).trans hA5
        exact m_v e1
    with_reducible refine xOps_cons ?_ ?_
    · with_reducible refine xop_un ?_ ?_
      · rfl
      · intro vs x F hF hd
        have e1 : F.tmps.getD 9 undef = bw (t) := (hF.v 9 0 (by kernel_rfl) (by rw [hsz]; rfl)).trans (dep_at hd 0 0 (is (bw (t))) (by kernel_rfl) (by kernel_rfl))
        have e2 : F.tmps.getD 10 undef = .int .u64 26 := (hF.v 10 1 (by kernel_rfl) (by rw [hsz]; rfl)).trans (dep_at hd 1 1 (is (.int .u64 26)) (by kernel_rfl) (by kernel_rfl))
        exact w_shl_u64 (n := 26) e1 e2 (by omega)
    with_reducible refine xOps_cons ?_ ?_
    · with_reducible refine xop_un ?_ ?_
      · rfl
      · intro vs x F hF hd
        have e1 : F.tmps.getD 0 undef = bw (t) := (hF.a 0 (by kernel_rfl) (by rw [hsz]; rfl)).trans hA0
        exact m_v e1
    with_reducible refine xOps_cons ?_ ?_
    · with_reducible refine xop_un ?_ ?_
      · rfl
      · intro vs x F hF hd
        have e1 : F.tmps.getD 5 undef = .int .u64 26 := (hF.a 5 (by kernel_rfl) (by rw [hsz]; rfl)).trans hA5
        exact m_v e1
    with_reducible refine xOps_cons ?_ ?_
    · with_reducible refine xop_un ?_ ?_
      · rfl
      · intro vs x F hF hd
        have e2 : F.tmps.getD 13 undef = .int .u64 26 := (hF.v 13 4 (by kernel_rfl) (by rw [hsz]; rfl)).trans (dep_at hd 0 4 (is (.int .u64 26)) (by kernel_rfl) (by kernel_rfl))
        exact u_sub (a := 32) (b := 26) rfl e2 (by omega) (by omega)
    with_reducible refine xOps_cons ?_ ?_
    · with_reducible refine xop_un ?_ ?_
      · rfl
      · intro vs x F hF hd
        have e1 : F.tmps.getD 12 undef = bw (t) := (hF.v 12 3 (by kernel_rfl) (by rw [hsz]; rfl)).trans (dep_at hd 0 3 (is (bw (t))) (by kernel_rfl) (by kernel_rfl))
        have e2 : F.tmps.getD 14 undef = .int .u64 6 := (hF.v 14 5 (by kernel_rfl) (by rw [hsz]; rfl)).trans (dep_at hd 1 5 (is (.int .u64 6)) (by kernel_rfl) (by kernel_rfl))
        exact w_shr_u64 (n := 6) e1 e2 (by omega)
    with_reducible refine xOps_cons ?_ ?_
    · with_reducible refine xop_un ?_ ?_
      · rfl
      · intro vs x F hF hd
        have e1 : F.tmps.getD 11 undef = bw ((t) <<< 26) := (hF.v 11 2 (by kernel_rfl) (by rw [hsz]; rfl)).trans (dep_at hd 0 2 (is (bw ((t) <<< 26))) (by kernel_rfl) (by kernel_rfl))
        have e2 : F.tmps.getD 15 undef = bw ((t) >>> 6) := (hF.v 15 6 (by kernel_rfl) (by rw [hsz]; rfl)).trans (dep_at hd 1 6 (is (bw ((t) >>> 6))) (by kernel_rfl) (by kernel_rfl))
        exact w_or e1 e2
    exact xOps_nil
  case hst => exact ⟨is.st _, is.st _, is.st _, is.st _, is.st _, is.st _, is.st _, is.st _, trivial⟩
  case hfin =>
    intro vs x hf
    have f7 : vs 7 = bw (((t) <<< 26) ||| ((t) >>> 6)) := hf.2.2.2.2.2.2.2.1
    clear hf
    have hAq := HAq.out
    subst hAq
    clear hsz hA0 hA5
    simp only [List.take_succ_cons, List.take_zero, List.drop_succ_cons, List.drop_zero, putAll, Act.put, List.setIfInBounds_toArray, List.set_cons_succ, List.set_cons_zero, Nat.zero_add, Nat.reduceAdd]
    clear HAq
    rw [f7]
    clear f7
    go_wp2
    go_ret
    exact ⟨by rw [← q]; rfl, (by repeat (first | exact Ext.refl _ | assumption | apply Ext.plus_ | apply Ext.alloc | apply Ext.drew))⟩
theorem right6 (t : W32) (w : World) : Calls Tryd.prog 25 #[bw t, .int .i64 6] w fun e w' => e = .returned (bw (rr 6 t)) ∧ Ext w w' := by
  go_enter Tryd.func25, Tryd.ntmps25
  go_upto_region 1 with fail
  refine act_at fun A0 hAq => ?_
  have hsz : A0.tmps.size = 13 := by
    rw [hAq]
    rfl
  have hA0 : A0.tmps.getD 0 undef = bw (t) := by
    rw [hAq]
    first | rfl | kernel_rfl
  have hA1 : A0.tmps.getD 1 undef = nw (6) := by
    rw [hAq]
    first | rfl | kernel_rfl
  have HAq := Lib.hid hAq
  clear hAq
  apply wp_region_ext 8 [is (bw (t)), is (nw (6)), is (bw ((t) >>> 6)), is (bw (t)), is (nw (6)), is (nw (26)), is (bw ((t) <<< 26)), is (bw (((t) >>> 6) ||| ((t) <<< 26)))] (by kernel_rfl) (by kernel_rfl) rfl
  case hops =>
    simp only [List.take_succ_cons, List.take_zero]
    with_reducible refine xOps_cons ?_ ?_
    · with_reducible refine xop_un ?_ ?_
      · rfl
      · intro vs x F hF hd
        have e1 : F.tmps.getD 0 undef = bw (t) := (hF.a 0 (by kernel_rfl) (by rw [hsz]; rfl)).trans hA0
        exact m_v e1
    with_reducible refine xOps_cons ?_ ?_
    · with_reducible refine xop_un ?_ ?_
      · rfl
      · intro vs x F hF hd
        have e1 : F.tmps.getD 1 undef = nw (6) := (hF.a 1 (by kernel_rfl) (by rw [hsz]; rfl)).trans hA1
        exact m_v e1
    with_reducible refine xOps_cons ?_ ?_
    · with_reducible refine xop_un ?_ ?_
      · rfl
      · intro vs x F hF hd
        have e1 : F.tmps.getD 5 undef = bw (t) := (hF.v 5 0 (by kernel_rfl) (by rw [hsz]; rfl)).trans (dep_at hd 0 0 (is (bw (t))) (by kernel_rfl) (by kernel_rfl))
        have e2 : F.tmps.getD 6 undef = nw (6) := (hF.v 6 1 (by kernel_rfl) (by rw [hsz]; rfl)).trans (dep_at hd 1 1 (is (nw (6))) (by kernel_rfl) (by kernel_rfl))
        exact w_shr_i64 (n := 6) e1 e2 (by omega)
    with_reducible refine xOps_cons ?_ ?_
    · with_reducible refine xop_un ?_ ?_
      · rfl
      · intro vs x F hF hd
        have e1 : F.tmps.getD 0 undef = bw (t) := (hF.a 0 (by kernel_rfl) (by rw [hsz]; rfl)).trans hA0
        exact m_v e1
    with_reducible refine xOps_cons ?_ ?_
    · with_reducible refine xop_un ?_ ?_
      · rfl
      · intro vs x F hF hd
        have e1 : F.tmps.getD 1 undef = nw (6) := (hF.a 1 (by kernel_rfl) (by rw [hsz]; rfl)).trans hA1
        exact m_v e1
    with_reducible refine xOps_cons ?_ ?_
    · with_reducible refine xop_un ?_ ?_
      · rfl
      · intro vs x F hF hd
        have e2 : F.tmps.getD 9 undef = nw (6) := (hF.v 9 4 (by kernel_rfl) (by rw [hsz]; rfl)).trans (dep_at hd 0 4 (is (nw (6))) (by kernel_rfl) (by kernel_rfl))
        exact n_sub (a := 32) (b := 6) rfl e2 (by omega) (by omega)
    with_reducible refine xOps_cons ?_ ?_
    · with_reducible refine xop_un ?_ ?_
      · rfl
      · intro vs x F hF hd
        have e1 : F.tmps.getD 8 undef = bw (t) := (hF.v 8 3 (by kernel_rfl) (by rw [hsz]; rfl)).trans (dep_at hd 0 3 (is (bw (t))) (by kernel_rfl) (by kernel_rfl))
        have e2 : F.tmps.getD 10 undef = nw (26) := (hF.v 10 5 (by kernel_rfl) (by rw [hsz]; rfl)).trans (dep_at hd 1 5 (is (nw (26))) (by kernel_rfl) (by kernel_rfl))
        exact w_shl_i64 (n := 26) e1 e2 (by omega)
    with_reducible refine xOps_cons ?_ ?_
    · with_reducible refine xop_un ?_ ?_
      · rfl
      · intro vs x F hF hd
        have e1 : F.tmps.getD 7 undef = bw ((t) >>> 6) := (hF.v 7 2 (by kernel_rfl) (by rw [hsz]; rfl)).trans (dep_at hd 0 2 (is (bw ((t) >>> 6))) (by kernel_rfl) (by kernel_rfl))
        have e2 : F.tmps.getD 11 undef = bw ((t) <<< 26) := (hF.v 11 6 (by kernel_rfl) (by rw [hsz]; rfl)).trans (dep_at hd 1 6 (is (bw ((t) <<< 26))) (by kernel_rfl) (by kernel_rfl))
        exact w_or e1 e2
    exact xOps_nil
  case hst => exact ⟨is.st _, is.st _, is.st _, is.st _, is.st _, is.st _, is.st _, is.st _, trivial⟩
  case hfin =>
    intro vs x hf
    have f7 : vs 7 = bw (((t) >>> 6) ||| ((t) <<< 26)) := hf.2.2.2.2.2.2.2.1
    clear hf
    have hAq := HAq.out
    subst hAq
    clear hsz hA0 hA1
    simp only [List.take_succ_cons, List.take_zero, List.drop_succ_cons, List.drop_zero, putAll, Act.put, List.setIfInBounds_toArray, List.set_cons_succ, List.set_cons_zero, Nat.zero_add, Nat.reduceAdd]
    clear HAq
    rw [f7]
    clear f7
    go_wp2
    go_ret
    exact ⟨rfl, (by repeat (first | exact Ext.refl _ | assumption | apply Ext.plus_ | apply Ext.alloc | apply Ext.drew))⟩
theorem rot7 (t : W32) (w : World) : Calls Tryd.prog 29 #[bw t, .int .i64 (-7)] w fun e w' => e = .returned (bw (rr 7 t)) ∧ Ext w w' := by
  have q : (t <<< 25) ||| (t >>> 7) = rr 7 t := BitVec.or_comm _ _
  go_enter Tryd.func29, Tryd.ntmps29
  go_upto_region 2 with fail
  refine act_at fun A0 hAq => ?_
  have hsz : A0.tmps.size = 17 := by
    rw [hAq]
    rfl
  have hA0 : A0.tmps.getD 0 undef = bw (t) := by
    rw [hAq]
    first | rfl | kernel_rfl
  have hA5 : A0.tmps.getD 5 undef = .int .u64 25 := by
    rw [hAq]
    first | rfl | kernel_rfl
  have HAq := Lib.hid hAq
  clear hAq
  apply wp_region_seq 8 [is (bw (t)), is (.int .u64 25), is (bw ((t) <<< 25)), is (bw (t)), is (.int .u64 25), is (.int .u64 7), is (bw ((t) >>> 7)), is (bw (((t) <<< 25) ||| ((t) >>> 7)))] (by kernel_rfl) (by kernel_rfl) rfl
  case hops =>
    simp only [List.take_succ_cons, List.take_zero]
    with_reducible refine xOps_cons ?_ ?_
    · with_reducible refine xop_un ?_ ?_
      · rfl
      · intro vs x F hF hd
        have e1 : F.tmps.getD 0 undef = bw (t) := (hF.a 0 (by kernel_rfl) (by rw [hsz]; rfl)).trans hA0
        exact m_v e1
    with_reducible refine xOps_cons ?_ ?_
    · with_reducible refine xop_un ?_ ?_
      · rfl
      · intro vs x F hF hd
        have e1 : F.tmps.getD 5 undef = .int .u64 25 := (hF.a 5 (by kernel_rfl) (by rw [hsz]; rfl)).trans hA5
        exact m_v e1
    with_reducible refine xOps_cons ?_ ?_
    · with_reducible refine xop_un ?_ ?_
      · rfl
      · intro vs x F hF hd
        have e1 : F.tmps.getD 9 undef = bw (t) := (hF.v 9 0 (by kernel_rfl) (by rw [hsz]; rfl)).trans (dep_at hd 0 0 (is (bw (t))) (by kernel_rfl) (by kernel_rfl))
        have e2 : F.tmps.getD 10 undef = .int .u64 25 := (hF.v 10 1 (by kernel_rfl) (by rw [hsz]; rfl)).trans (dep_at hd 1 1 (is (.int .u64 25)) (by kernel_rfl) (by kernel_rfl))
        exact w_shl_u64 (n := 25) e1 e2 (by omega)
    with_reducible refine xOps_cons ?_ ?_
    · with_reducible refine xop_un ?_ ?_
      · rfl
      · intro vs x F hF hd
        have e1 : F.tmps.getD 0 undef = bw (t) := (hF.a 0 (by kernel_rfl) (by rw [hsz]; rfl)).trans hA0
        exact m_v e1
    with_reducible refine xOps_cons ?_ ?_
    · with_reducible refine xop_un ?_ ?_
      · rfl
      · intro vs x F hF hd
        have e1 : F.tmps.getD 5 undef = .int .u64 25 := (hF.a 5 (by kernel_rfl) (by rw [hsz]; rfl)).trans hA5
        exact m_v e1
    with_reducible refine xOps_cons ?_ ?_
    · with_reducible refine xop_un ?_ ?_
      · rfl
      · intro vs x F hF hd
        have e2 : F.tmps.getD 13 undef = .int .u64 25 := (hF.v 13 4 (by kernel_rfl) (by rw [hsz]; rfl)).trans (dep_at hd 0 4 (is (.int .u64 25)) (by kernel_rfl) (by kernel_rfl))
        exact u_sub (a := 32) (b := 25) rfl e2 (by omega) (by omega)
    with_reducible refine xOps_cons ?_ ?_
    · with_reducible refine xop_un ?_ ?_
      · rfl
      · intro vs x F hF hd
        have e1 : F.tmps.getD 12 undef = bw (t) := (hF.v 12 3 (by kernel_rfl) (by rw [hsz]; rfl)).trans (dep_at hd 0 3 (is (bw (t))) (by kernel_rfl) (by kernel_rfl))
        have e2 : F.tmps.getD 14 undef = .int .u64 7 := (hF.v 14 5 (by kernel_rfl) (by rw [hsz]; rfl)).trans (dep_at hd 1 5 (is (.int .u64 7)) (by kernel_rfl) (by kernel_rfl))
        exact w_shr_u64 (n := 7) e1 e2 (by omega)
    with_reducible refine xOps_cons ?_ ?_
    · with_reducible refine xop_un ?_ ?_
      · rfl
      · intro vs x F hF hd
        have e1 : F.tmps.getD 11 undef = bw ((t) <<< 25) := (hF.v 11 2 (by kernel_rfl) (by rw [hsz]; rfl)).trans (dep_at hd 0 2 (is (bw ((t) <<< 25))) (by kernel_rfl) (by kernel_rfl))
        have e2 : F.tmps.getD 15 undef = bw ((t) >>> 7) := (hF.v 15 6 (by kernel_rfl) (by rw [hsz]; rfl)).trans (dep_at hd 1 6 (is (bw ((t) >>> 7))) (by kernel_rfl) (by kernel_rfl))
        exact w_or e1 e2
    exact xOps_nil
  case hst => exact ⟨is.st _, is.st _, is.st _, is.st _, is.st _, is.st _, is.st _, is.st _, trivial⟩
  case hfin =>
    intro vs x hf
    have f7 : vs 7 = bw (((t) <<< 25) ||| ((t) >>> 7)) := hf.2.2.2.2.2.2.2.1
    clear hf
    have hAq := HAq.out
    subst hAq
    clear hsz hA0 hA5
    simp only [List.take_succ_cons, List.take_zero, List.drop_succ_cons, List.drop_zero, putAll, Act.put, List.setIfInBounds_toArray, List.set_cons_succ, List.set_cons_zero, Nat.zero_add, Nat.reduceAdd]
    clear HAq
    rw [f7]
    clear f7
    go_wp2
    go_ret
    exact ⟨by rw [← q]; rfl, (by repeat (first | exact Ext.refl _ | assumption | apply Ext.plus_ | apply Ext.alloc | apply Ext.drew))⟩
theorem right7 (t : W32) (w : World) : Calls Tryd.prog 25 #[bw t, .int .i64 7] w fun e w' => e = .returned (bw (rr 7 t)) ∧ Ext w w' := by
  go_enter Tryd.func25, Tryd.ntmps25
  go_upto_region 1 with fail
  refine act_at fun A0 hAq => ?_
  have hsz : A0.tmps.size = 13 := by
    rw [hAq]
    rfl
  have hA0 : A0.tmps.getD 0 undef = bw (t) := by
    rw [hAq]
    first | rfl | kernel_rfl
  have hA1 : A0.tmps.getD 1 undef = nw (7) := by
    rw [hAq]
    first | rfl | kernel_rfl
  have HAq := Lib.hid hAq
  clear hAq
  apply wp_region_ext 8 [is (bw (t)), is (nw (7)), is (bw ((t) >>> 7)), is (bw (t)), is (nw (7)), is (nw (25)), is (bw ((t) <<< 25)), is (bw (((t) >>> 7) ||| ((t) <<< 25)))] (by kernel_rfl) (by kernel_rfl) rfl
  case hops =>
    simp only [List.take_succ_cons, List.take_zero]
    with_reducible refine xOps_cons ?_ ?_
    · with_reducible refine xop_un ?_ ?_
      · rfl
      · intro vs x F hF hd
        have e1 : F.tmps.getD 0 undef = bw (t) := (hF.a 0 (by kernel_rfl) (by rw [hsz]; rfl)).trans hA0
        exact m_v e1
    with_reducible refine xOps_cons ?_ ?_
    · with_reducible refine xop_un ?_ ?_
      · rfl
      · intro vs x F hF hd
        have e1 : F.tmps.getD 1 undef = nw (7) := (hF.a 1 (by kernel_rfl) (by rw [hsz]; rfl)).trans hA1
        exact m_v e1
    with_reducible refine xOps_cons ?_ ?_
    · with_reducible refine xop_un ?_ ?_
      · rfl
      · intro vs x F hF hd
        have e1 : F.tmps.getD 5 undef = bw (t) := (hF.v 5 0 (by kernel_rfl) (by rw [hsz]; rfl)).trans (dep_at hd 0 0 (is (bw (t))) (by kernel_rfl) (by kernel_rfl))
        have e2 : F.tmps.getD 6 undef = nw (7) := (hF.v 6 1 (by kernel_rfl) (by rw [hsz]; rfl)).trans (dep_at hd 1 1 (is (nw (7))) (by kernel_rfl) (by kernel_rfl))
        exact w_shr_i64 (n := 7) e1 e2 (by omega)
    with_reducible refine xOps_cons ?_ ?_
    · with_reducible refine xop_un ?_ ?_
      · rfl
      · intro vs x F hF hd
        have e1 : F.tmps.getD 0 undef = bw (t) := (hF.a 0 (by kernel_rfl) (by rw [hsz]; rfl)).trans hA0
        exact m_v e1
    with_reducible refine xOps_cons ?_ ?_
    · with_reducible refine xop_un ?_ ?_
      · rfl
      · intro vs x F hF hd
        have e1 : F.tmps.getD 1 undef = nw (7) := (hF.a 1 (by kernel_rfl) (by rw [hsz]; rfl)).trans hA1
        exact m_v e1
    with_reducible refine xOps_cons ?_ ?_
    · with_reducible refine xop_un ?_ ?_
      · rfl
      · intro vs x F hF hd
        have e2 : F.tmps.getD 9 undef = nw (7) := (hF.v 9 4 (by kernel_rfl) (by rw [hsz]; rfl)).trans (dep_at hd 0 4 (is (nw (7))) (by kernel_rfl) (by kernel_rfl))
        exact n_sub (a := 32) (b := 7) rfl e2 (by omega) (by omega)
    with_reducible refine xOps_cons ?_ ?_
    · with_reducible refine xop_un ?_ ?_
      · rfl
      · intro vs x F hF hd
        have e1 : F.tmps.getD 8 undef = bw (t) := (hF.v 8 3 (by kernel_rfl) (by rw [hsz]; rfl)).trans (dep_at hd 0 3 (is (bw (t))) (by kernel_rfl) (by kernel_rfl))
        have e2 : F.tmps.getD 10 undef = nw (25) := (hF.v 10 5 (by kernel_rfl) (by rw [hsz]; rfl)).trans (dep_at hd 1 5 (is (nw (25))) (by kernel_rfl) (by kernel_rfl))
        exact w_shl_i64 (n := 25) e1 e2 (by omega)
    with_reducible refine xOps_cons ?_ ?_
    · with_reducible refine xop_un ?_ ?_
      · rfl
      · intro vs x F hF hd
        have e1 : F.tmps.getD 7 undef = bw ((t) >>> 7) := (hF.v 7 2 (by kernel_rfl) (by rw [hsz]; rfl)).trans (dep_at hd 0 2 (is (bw ((t) >>> 7))) (by kernel_rfl) (by kernel_rfl))
        have e2 : F.tmps.getD 11 undef = bw ((t) <<< 25) := (hF.v 11 6 (by kernel_rfl) (by rw [hsz]; rfl)).trans (dep_at hd 1 6 (is (bw ((t) <<< 25))) (by kernel_rfl) (by kernel_rfl))
        exact w_or e1 e2
    exact xOps_nil
  case hst => exact ⟨is.st _, is.st _, is.st _, is.st _, is.st _, is.st _, is.st _, is.st _, trivial⟩
  case hfin =>
    intro vs x hf
    have f7 : vs 7 = bw (((t) >>> 7) ||| ((t) <<< 25)) := hf.2.2.2.2.2.2.2.1
    clear hf
    have hAq := HAq.out
    subst hAq
    clear hsz hA0 hA1
    simp only [List.take_succ_cons, List.take_zero, List.drop_succ_cons, List.drop_zero, putAll, Act.put, List.setIfInBounds_toArray, List.set_cons_succ, List.set_cons_zero, Nat.zero_add, Nat.reduceAdd]
    clear HAq
    rw [f7]
    clear f7
    go_wp2
    go_ret
    exact ⟨rfl, (by repeat (first | exact Ext.refl _ | assumption | apply Ext.plus_ | apply Ext.alloc | apply Ext.drew))⟩
theorem rot11 (t : W32) (w : World) : Calls Tryd.prog 29 #[bw t, .int .i64 (-11)] w fun e w' => e = .returned (bw (rr 11 t)) ∧ Ext w w' := by
  have q : (t <<< 21) ||| (t >>> 11) = rr 11 t := BitVec.or_comm _ _
  go_enter Tryd.func29, Tryd.ntmps29
  go_upto_region 2 with fail
  refine act_at fun A0 hAq => ?_
  have hsz : A0.tmps.size = 17 := by
    rw [hAq]
    rfl
  have hA0 : A0.tmps.getD 0 undef = bw (t) := by
    rw [hAq]
    first | rfl | kernel_rfl
  have hA5 : A0.tmps.getD 5 undef = .int .u64 21 := by
    rw [hAq]
    first | rfl | kernel_rfl
  have HAq := Lib.hid hAq
  clear hAq
  apply wp_region_seq 8 [is (bw (t)), is (.int .u64 21), is (bw ((t) <<< 21)), is (bw (t)), is (.int .u64 21), is (.int .u64 11), is (bw ((t) >>> 11)), is (bw (((t) <<< 21) ||| ((t) >>> 11)))] (by kernel_rfl) (by kernel_rfl) rfl
  case hops =>
    simp only [List.take_succ_cons, List.take_zero]
    with_reducible refine xOps_cons ?_ ?_
    · with_reducible refine xop_un ?_ ?_
      · rfl
      · intro vs x F hF hd
        have e1 : F.tmps.getD 0 undef = bw (t) := (hF.a 0 (by kernel_rfl) (by rw [hsz]; rfl)).trans hA0
        exact m_v e1
    with_reducible refine xOps_cons ?_ ?_
    · with_reducible refine xop_un ?_ ?_
      · rfl
      · intro vs x F hF hd
        have e1 : F.tmps.getD 5 undef = .int .u64 21 := (hF.a 5 (by kernel_rfl) (by rw [hsz]; rfl)).trans hA5
        exact m_v e1
    with_reducible refine xOps_cons ?_ ?_
    · with_reducible refine xop_un ?_ ?_
      · rfl
      · intro vs x F hF hd
        have e1 : F.tmps.getD 9 undef = bw (t) := (hF.v 9 0 (by kernel_rfl) (by rw [hsz]; rfl)).trans (dep_at hd 0 0 (is (bw (t))) (by kernel_rfl) (by kernel_rfl))
        have e2 : F.tmps.getD 10 undef = .int .u64 21 := (hF.v 10 1 (by kernel_rfl) (by rw [hsz]; rfl)).trans (dep_at hd 1 1 (is (.int .u64 21)) (by kernel_rfl) (by kernel_rfl))
        exact w_shl_u64 (n := 21) e1 e2 (by omega)
    with_reducible refine xOps_cons ?_ ?_
    · with_reducible refine xop_un ?_ ?_
      · rfl
      · intro vs x F hF hd
        have e1 : F.tmps.getD 0 undef = bw (t) := (hF.a 0 (by kernel_rfl) (by rw [hsz]; rfl)).trans hA0
        exact m_v e1
    with_reducible refine xOps_cons ?_ ?_
    · with_reducible refine xop_un ?_ ?_
      · rfl
      · intro vs x F hF hd
        have e1 : F.tmps.getD 5 undef = .int .u64 21 := (hF.a 5 (by kernel_rfl) (by rw [hsz]; rfl)).trans hA5
        exact m_v e1
    with_reducible refine xOps_cons ?_ ?_
    · with_reducible refine xop_un ?_ ?_
      · rfl
      · intro vs x F hF hd
        have e2 : F.tmps.getD 13 undef = .int .u64 21 := (hF.v 13 4 (by kernel_rfl) (by rw [hsz]; rfl)).trans (dep_at hd 0 4 (is (.int .u64 21)) (by kernel_rfl) (by kernel_rfl))
        exact u_sub (a := 32) (b := 21) rfl e2 (by omega) (by omega)
    with_reducible refine xOps_cons ?_ ?_
    · with_reducible refine xop_un ?_ ?_
      · rfl
      · intro vs x F hF hd
        have e1 : F.tmps.getD 12 undef = bw (t) := (hF.v 12 3 (by kernel_rfl) (by rw [hsz]; rfl)).trans (dep_at hd 0 3 (is (bw (t))) (by kernel_rfl) (by kernel_rfl))
        have e2 : F.tmps.getD 14 undef = .int .u64 11 := (hF.v 14 5 (by kernel_rfl) (by rw [hsz]; rfl)).trans (dep_at hd 1 5 (is (.int .u64 11)) (by kernel_rfl) (by kernel_rfl))
        exact w_shr_u64 (n := 11) e1 e2 (by omega)
    with_reducible refine xOps_cons ?_ ?_
    · with_reducible refine xop_un ?_ ?_
      · rfl
      · intro vs x F hF hd
        have e1 : F.tmps.getD 11 undef = bw ((t) <<< 21) := (hF.v 11 2 (by kernel_rfl) (by rw [hsz]; rfl)).trans (dep_at hd 0 2 (is (bw ((t) <<< 21))) (by kernel_rfl) (by kernel_rfl))
        have e2 : F.tmps.getD 15 undef = bw ((t) >>> 11) := (hF.v 15 6 (by kernel_rfl) (by rw [hsz]; rfl)).trans (dep_at hd 1 6 (is (bw ((t) >>> 11))) (by kernel_rfl) (by kernel_rfl))
        exact w_or e1 e2
    exact xOps_nil
  case hst => exact ⟨is.st _, is.st _, is.st _, is.st _, is.st _, is.st _, is.st _, is.st _, trivial⟩
  case hfin =>
    intro vs x hf
    have f7 : vs 7 = bw (((t) <<< 21) ||| ((t) >>> 11)) := hf.2.2.2.2.2.2.2.1
    clear hf
    have hAq := HAq.out
    subst hAq
    clear hsz hA0 hA5
    simp only [List.take_succ_cons, List.take_zero, List.drop_succ_cons, List.drop_zero, putAll, Act.put, List.setIfInBounds_toArray, List.set_cons_succ, List.set_cons_zero, Nat.zero_add, Nat.reduceAdd]
    clear HAq
    rw [f7]
    clear f7
    go_wp2
    go_ret
    exact ⟨by rw [← q]; rfl, (by repeat (first | exact Ext.refl _ | assumption | apply Ext.plus_ | apply Ext.alloc | apply Ext.drew))⟩
theorem right11 (t : W32) (w : World) : Calls Tryd.prog 25 #[bw t, .int .i64 11] w fun e w' => e = .returned (bw (rr 11 t)) ∧ Ext w w' := by
  go_enter Tryd.func25, Tryd.ntmps25
  go_upto_region 1 with fail
  refine act_at fun A0 hAq => ?_
  have hsz : A0.tmps.size = 13 := by
    rw [hAq]
    rfl
  have hA0 : A0.tmps.getD 0 undef = bw (t) := by
    rw [hAq]
    first | rfl | kernel_rfl
  have hA1 : A0.tmps.getD 1 undef = nw (11) := by
    rw [hAq]
    first | rfl | kernel_rfl
  have HAq := Lib.hid hAq
  clear hAq
  apply wp_region_ext 8 [is (bw (t)), is (nw (11)), is (bw ((t) >>> 11)), is (bw (t)), is (nw (11)), is (nw (21)), is (bw ((t) <<< 21)), is (bw (((t) >>> 11) ||| ((t) <<< 21)))] (by kernel_rfl) (by kernel_rfl) rfl
  case hops =>
    simp only [List.take_succ_cons, List.take_zero]
    with_reducible refine xOps_cons ?_ ?_
    · with_reducible refine xop_un ?_ ?_
      · rfl
      · intro vs x F hF hd
        have e1 : F.tmps.getD 0 undef = bw (t) := (hF.a 0 (by kernel_rfl) (by rw [hsz]; rfl)).trans hA0
        exact m_v e1
    with_reducible refine xOps_cons ?_ ?_
    · with_reducible refine xop_un ?_ ?_
      · rfl
      · intro vs x F hF hd
        have e1 : F.tmps.getD 1 undef = nw (11) := (hF.a 1 (by kernel_rfl) (by rw [hsz]; rfl)).trans hA1
        exact m_v e1
    with_reducible refine xOps_cons ?_ ?_
    · with_reducible refine xop_un ?_ ?_
      · rfl
      · intro vs x F hF hd
        have e1 : F.tmps.getD 5 undef = bw (t) := (hF.v 5 0 (by kernel_rfl) (by rw [hsz]; rfl)).trans (dep_at hd 0 0 (is (bw (t))) (by kernel_rfl) (by kernel_rfl))
        have e2 : F.tmps.getD 6 undef = nw (11) := (hF.v 6 1 (by kernel_rfl) (by rw [hsz]; rfl)).trans (dep_at hd 1 1 (is (nw (11))) (by kernel_rfl) (by kernel_rfl))
        exact w_shr_i64 (n := 11) e1 e2 (by omega)
    with_reducible refine xOps_cons ?_ ?_
    · with_reducible refine xop_un ?_ ?_
      · rfl
      · intro vs x F hF hd
        have e1 : F.tmps.getD 0 undef = bw (t) := (hF.a 0 (by kernel_rfl) (by rw [hsz]; rfl)).trans hA0
        exact m_v e1
    with_reducible refine xOps_cons ?_ ?_
    · with_reducible refine xop_un ?_ ?_
      · rfl
      · intro vs x F hF hd
        have e1 : F.tmps.getD 1 undef = nw (11) := (hF.a 1 (by kernel_rfl) (by rw [hsz]; rfl)).trans hA1
        exact m_v e1
    with_reducible refine xOps_cons ?_ ?_
    · with_reducible refine xop_un ?_ ?_
      · rfl
      · intro vs x F hF hd
        have e2 : F.tmps.getD 9 undef = nw (11) := (hF.v 9 4 (by kernel_rfl) (by rw [hsz]; rfl)).trans (dep_at hd 0 4 (is (nw (11))) (by kernel_rfl) (by kernel_rfl))
        exact n_sub (a := 32) (b := 11) rfl e2 (by omega) (by omega)
    with_reducible refine xOps_cons ?_ ?_
    · with_reducible refine xop_un ?_ ?_
      · rfl
      · intro vs x F hF hd
        have e1 : F.tmps.getD 8 undef = bw (t) := (hF.v 8 3 (by kernel_rfl) (by rw [hsz]; rfl)).trans (dep_at hd 0 3 (is (bw (t))) (by kernel_rfl) (by kernel_rfl))
        have e2 : F.tmps.getD 10 undef = nw (21) := (hF.v 10 5 (by kernel_rfl) (by rw [hsz]; rfl)).trans (dep_at hd 1 5 (is (nw (21))) (by kernel_rfl) (by kernel_rfl))
        exact w_shl_i64 (n := 21) e1 e2 (by omega)
    with_reducible refine xOps_cons ?_ ?_
    · with_reducible refine xop_un ?_ ?_
      · rfl
      · intro vs x F hF hd
        have e1 : F.tmps.getD 7 undef = bw ((t) >>> 11) := (hF.v 7 2 (by kernel_rfl) (by rw [hsz]; rfl)).trans (dep_at hd 0 2 (is (bw ((t) >>> 11))) (by kernel_rfl) (by kernel_rfl))
        have e2 : F.tmps.getD 11 undef = bw ((t) <<< 21) := (hF.v 11 6 (by kernel_rfl) (by rw [hsz]; rfl)).trans (dep_at hd 1 6 (is (bw ((t) <<< 21))) (by kernel_rfl) (by kernel_rfl))
        exact w_or e1 e2
    exact xOps_nil
  case hst => exact ⟨is.st _, is.st _, is.st _, is.st _, is.st _, is.st _, is.st _, is.st _, trivial⟩
  case hfin =>
    intro vs x hf
    have f7 : vs 7 = bw (((t) >>> 11) ||| ((t) <<< 21)) := hf.2.2.2.2.2.2.2.1
    clear hf
    have hAq := HAq.out
    subst hAq
    clear hsz hA0 hA1
    simp only [List.take_succ_cons, List.take_zero, List.drop_succ_cons, List.drop_zero, putAll, Act.put, List.setIfInBounds_toArray, List.set_cons_succ, List.set_cons_zero, Nat.zero_add, Nat.reduceAdd]
    clear HAq
    rw [f7]
    clear f7
    go_wp2
    go_ret
    exact ⟨rfl, (by repeat (first | exact Ext.refl _ | assumption | apply Ext.plus_ | apply Ext.alloc | apply Ext.drew))⟩
theorem rot13 (t : W32) (w : World) : Calls Tryd.prog 29 #[bw t, .int .i64 (-13)] w fun e w' => e = .returned (bw (rr 13 t)) ∧ Ext w w' := by
  have q : (t <<< 19) ||| (t >>> 13) = rr 13 t := BitVec.or_comm _ _
  go_enter Tryd.func29, Tryd.ntmps29
  go_upto_region 2 with fail
  refine act_at fun A0 hAq => ?_
  have hsz : A0.tmps.size = 17 := by
    rw [hAq]
    rfl
  have hA0 : A0.tmps.getD 0 undef = bw (t) := by
    rw [hAq]
    first | rfl | kernel_rfl
  have hA5 : A0.tmps.getD 5 undef = .int .u64 19 := by
    rw [hAq]
    first | rfl | kernel_rfl
  have HAq := Lib.hid hAq
  clear hAq
  apply wp_region_seq 8 [is (bw (t)), is (.int .u64 19), is (bw ((t) <<< 19)), is (bw (t)), is (.int .u64 19), is (.int .u64 13), is (bw ((t) >>> 13)), is (bw (((t) <<< 19) ||| ((t) >>> 13)))] (by kernel_rfl) (by kernel_rfl) rfl
  case hops =>
    simp only [List.take_succ_cons, List.take_zero]
    with_reducible refine xOps_cons ?_ ?_
    · with_reducible refine xop_un ?_ ?_
      · rfl
      · intro vs x F hF hd
        have e1 : F.tmps.getD 0 undef = bw (t) := (hF.a 0 (by kernel_rfl) (by rw [hsz]; rfl)).trans hA0
        exact m_v e1
    with_reducible refine xOps_cons ?_ ?_
    · with_reducible refine xop_un ?_ ?_
      · rfl
      · intro vs x F hF hd
        have e1 : F.tmps.getD 5 undef = .int .u64 19 := (hF.a 5 (by kernel_rfl) (by rw [hsz]; rfl)).trans hA5
        exact m_v e1
    with_reducible refine xOps_cons ?_ ?_
    · with_reducible refine xop_un ?_ ?_
      · rfl
      · intro vs x F hF hd
        have e1 : F.tmps.getD 9 undef = bw (t) := (hF.v 9 0 (by kernel_rfl) (by rw [hsz]; rfl)).trans (dep_at hd 0 0 (is (bw (t))) (by kernel_rfl) (by kernel_rfl))
        have e2 : F.tmps.getD 10 undef = .int .u64 19 := (hF.v 10 1 (by kernel_rfl) (by rw [hsz]; rfl)).trans (dep_at hd 1 1 (is (.int .u64 19)) (by kernel_rfl) (by kernel_rfl))
        exact w_shl_u64 (n := 19) e1 e2 (by omega)
    with_reducible refine xOps_cons ?_ ?_
    · with_reducible refine xop_un ?_ ?_
      · rfl
      · intro vs x F hF hd
        have e1 : F.tmps.getD 0 undef = bw (t) := (hF.a 0 (by kernel_rfl) (by rw [hsz]; rfl)).trans hA0
        exact m_v e1
    with_reducible refine xOps_cons ?_ ?_
    · with_reducible refine xop_un ?_ ?_
      · rfl
      · intro vs x F hF hd
        have e1 : F.tmps.getD 5 undef = .int .u64 19 := (hF.a 5 (by kernel_rfl) (by rw [hsz]; rfl)).trans hA5
        exact m_v e1
    with_reducible refine xOps_cons ?_ ?_
    · with_reducible refine xop_un ?_ ?_
      · rfl
      · intro vs x F hF hd
        have e2 : F.tmps.getD 13 undef = .int .u64 19 := (hF.v 13 4 (by kernel_rfl) (by rw [hsz]; rfl)).trans (dep_at hd 0 4 (is (.int .u64 19)) (by kernel_rfl) (by kernel_rfl))
        exact u_sub (a := 32) (b := 19) rfl e2 (by omega) (by omega)
    with_reducible refine xOps_cons ?_ ?_
    · with_reducible refine xop_un ?_ ?_
      · rfl
      · intro vs x F hF hd
        have e1 : F.tmps.getD 12 undef = bw (t) := (hF.v 12 3 (by kernel_rfl) (by rw [hsz]; rfl)).trans (dep_at hd 0 3 (is (bw (t))) (by kernel_rfl) (by kernel_rfl))
        have e2 : F.tmps.getD 14 undef = .int .u64 13 := (hF.v 14 5 (by kernel_rfl) (by rw [hsz]; rfl)).trans (dep_at hd 1 5 (is (.int .u64 13)) (by kernel_rfl) (by kernel_rfl))
        exact w_shr_u64 (n := 13) e1 e2 (by omega)
    with_reducible refine xOps_cons ?_ ?_
    · with_reducible refine xop_un ?_ ?_
      · rfl
      · intro vs x F hF hd
        have e1 : F.tmps.getD 11 undef = bw ((t) <<< 19) := (hF.v 11 2 (by kernel_rfl) (by rw [hsz]; rfl)).trans (dep_at hd 0 2 (is (bw ((t) <<< 19))) (by kernel_rfl) (by kernel_rfl))
        have e2 : F.tmps.getD 15 undef = bw ((t) >>> 13) := (hF.v 15 6 (by kernel_rfl) (by rw [hsz]; rfl)).trans (dep_at hd 1 6 (is (bw ((t) >>> 13))) (by kernel_rfl) (by kernel_rfl))
        exact w_or e1 e2
    exact xOps_nil
  case hst => exact ⟨is.st _, is.st _, is.st _, is.st _, is.st _, is.st _, is.st _, is.st _, trivial⟩
  case hfin =>
    intro vs x hf
    have f7 : vs 7 = bw (((t) <<< 19) ||| ((t) >>> 13)) := hf.2.2.2.2.2.2.2.1
    clear hf
    have hAq := HAq.out
    subst hAq
    clear hsz hA0 hA5
    simp only [List.take_succ_cons, List.take_zero, List.drop_succ_cons, List.drop_zero, putAll, Act.put, List.setIfInBounds_toArray, List.set_cons_succ, List.set_cons_zero, Nat.zero_add, Nat.reduceAdd]
    clear HAq
    rw [f7]
    clear f7
    go_wp2
    go_ret
    exact ⟨by rw [← q]; rfl, (by repeat (first | exact Ext.refl _ | assumption | apply Ext.plus_ | apply Ext.alloc | apply Ext.drew))⟩
theorem right13 (t : W32) (w : World) : Calls Tryd.prog 25 #[bw t, .int .i64 13] w fun e w' => e = .returned (bw (rr 13 t)) ∧ Ext w w' := by
  go_enter Tryd.func25, Tryd.ntmps25
  go_upto_region 1 with fail
  refine act_at fun A0 hAq => ?_
  have hsz : A0.tmps.size = 13 := by
    rw [hAq]
    rfl
  have hA0 : A0.tmps.getD 0 undef = bw (t) := by
    rw [hAq]
    first | rfl | kernel_rfl
  have hA1 : A0.tmps.getD 1 undef = nw (13) := by
    rw [hAq]
    first | rfl | kernel_rfl
  have HAq := Lib.hid hAq
  clear hAq
  apply wp_region_ext 8 [is (bw (t)), is (nw (13)), is (bw ((t) >>> 13)), is (bw (t)), is (nw (13)), is (nw (19)), is (bw ((t) <<< 19)), is (bw (((t) >>> 13) ||| ((t) <<< 19)))] (by kernel_rfl) (by kernel_rfl) rfl
  case hops =>
    simp only [List.take_succ_cons, List.take_zero]
    with_reducible refine xOps_cons ?_ ?_
    · with_reducible refine xop_un ?_ ?_
      · rfl
      · intro vs x F hF hd
        have e1 : F.tmps.getD 0 undef = bw (t) := (hF.a 0 (by kernel_rfl) (by rw [hsz]; rfl)).trans hA0
        exact m_v e1
    with_reducible refine xOps_cons ?_ ?_
    · with_reducible refine xop_un ?_ ?_
      · rfl
      · intro vs x F hF hd
        have e1 : F.tmps.getD 1 undef = nw (13) := (hF.a 1 (by kernel_rfl) (by rw [hsz]; rfl)).trans hA1
        exact m_v e1
    with_reducible refine xOps_cons ?_ ?_
    · with_reducible refine xop_un ?_ ?_
      · rfl
      · intro vs x F hF hd
        have e1 : F.tmps.getD 5 undef = bw (t) := (hF.v 5 0 (by kernel_rfl) (by rw [hsz]; rfl)).trans (dep_at hd 0 0 (is (bw (t))) (by kernel_rfl) (by kernel_rfl))
        have e2 : F.tmps.getD 6 undef = nw (13) := (hF.v 6 1 (by kernel_rfl) (by rw [hsz]; rfl)).trans (dep_at hd 1 1 (is (nw (13))) (by kernel_rfl) (by kernel_rfl))
        exact w_shr_i64 (n := 13) e1 e2 (by omega)
    with_reducible refine xOps_cons ?_ ?_
    · with_reducible refine xop_un ?_ ?_
      · rfl
      · intro vs x F hF hd
        have e1 : F.tmps.getD 0 undef = bw (t) := (hF.a 0 (by kernel_rfl) (by rw [hsz]; rfl)).trans hA0
        exact m_v e1
    with_reducible refine xOps_cons ?_ ?_
    · with_reducible refine xop_un ?_ ?_
      · rfl
      · intro vs x F hF hd
        have e1 : F.tmps.getD 1 undef = nw (13) := (hF.a 1 (by kernel_rfl) (by rw [hsz]; rfl)).trans hA1
        exact m_v e1
    with_reducible refine xOps_cons ?_ ?_
    · with_reducible refine xop_un ?_ ?_
      · rfl
      · intro vs x F hF hd
        have e2 : F.tmps.getD 9 undef = nw (13) := (hF.v 9 4 (by kernel_rfl) (by rw [hsz]; rfl)).trans (dep_at hd 0 4 (is (nw (13))) (by kernel_rfl) (by kernel_rfl))
        exact n_sub (a := 32) (b := 13) rfl e2 (by omega) (by omega)
    with_reducible refine xOps_cons ?_ ?_
    · with_reducible refine xop_un ?_ ?_
      · rfl
      · intro vs x F hF hd
        have e1 : F.tmps.getD 8 undef = bw (t) := (hF.v 8 3 (by kernel_rfl) (by rw [hsz]; rfl)).trans (dep_at hd 0 3 (is (bw (t))) (by kernel_rfl) (by kernel_rfl))
        have e2 : F.tmps.getD 10 undef = nw (19) := (hF.v 10 5 (by kernel_rfl) (by rw [hsz]; rfl)).trans (dep_at hd 1 5 (is (nw (19))) (by kernel_rfl) (by kernel_rfl))
        exact w_shl_i64 (n := 19) e1 e2 (by omega)
    with_reducible refine xOps_cons ?_ ?_
    · with_reducible refine xop_un ?_ ?_
      · rfl
      · intro vs x F hF hd
        have e1 : F.tmps.getD 7 undef = bw ((t) >>> 13) := (hF.v 7 2 (by kernel_rfl) (by rw [hsz]; rfl)).trans (dep_at hd 0 2 (is (bw ((t) >>> 13))) (by kernel_rfl) (by kernel_rfl))
        have e2 : F.tmps.getD 11 undef = bw ((t) <<< 19) := (hF.v 11 6 (by kernel_rfl) (by rw [hsz]; rfl)).trans (dep_at hd 1 6 (is (bw ((t) <<< 19))) (by kernel_rfl) (by kernel_rfl))
        exact w_or e1 e2
    exact xOps_nil
  case hst => exact ⟨is.st _, is.st _, is.st _, is.st _, is.st _, is.st _, is.st _, is.st _, trivial⟩
  case hfin =>
    intro vs x hf
    have f7 : vs 7 = bw (((t) >>> 13) ||| ((t) <<< 19)) := hf.2.2.2.2.2.2.2.1
    clear hf
    have hAq := HAq.out
    subst hAq
    clear hsz hA0 hA1
    simp only [List.take_succ_cons, List.take_zero, List.drop_succ_cons, List.drop_zero, putAll, Act.put, List.setIfInBounds_toArray, List.set_cons_succ, List.set_cons_zero, Nat.zero_add, Nat.reduceAdd]
    clear HAq
    rw [f7]
    clear f7
    go_wp2
    go_ret
    exact ⟨rfl, (by repeat (first | exact Ext.refl _ | assumption | apply Ext.plus_ | apply Ext.alloc | apply Ext.drew))⟩
theorem rot17 (t : W32) (w : World) : Calls Tryd.prog 29 #[bw t, .int .i64 (-17)] w fun e w' => e = .returned (bw (rr 17 t)) ∧ Ext w w' := by
  have q : (t <<< 15) ||| (t >>> 17) = rr 17 t := BitVec.or_comm _ _
  go_enter Tryd.func29, Tryd.ntmps29
  go_upto_region 2 with fail
  refine act_at fun A0 hAq => ?_
  have hsz : A0.tmps.size = 17 := by
    rw [hAq]
    rfl
  have hA0 : A0.tmps.getD 0 undef = bw (t) := by
    rw [hAq]
    first | rfl | kernel_rfl
  have hA5 : A0.tmps.getD 5 undef = .int .u64 15 := by
    rw [hAq]
    first | rfl | kernel_rfl
  have HAq := Lib.hid hAq
  clear hAq
  apply wp_region_seq 8 [is (bw (t)), is (.int .u64 15), is (bw ((t) <<< 15)), is (bw (t)), is (.int .u64 15), is (.int .u64 17), is (bw ((t) >>> 17)), is (bw (((t) <<< 15) ||| ((t) >>> 17)))] (by kernel_rfl) (by kernel_rfl) rfl
  case hops =>
    simp only [List.take_succ_cons, List.take_zero]
    with_reducible refine xOps_cons ?_ ?_
    · with_reducible refine xop_un ?_ ?_
      · rfl
      · intro vs x F hF hd
        have e1 : F.tmps.getD 0 undef = bw (t) := (hF.a 0 (by kernel_rfl) (by rw [hsz]; rfl)).trans hA0
        exact m_v e1
    with_reducible refine xOps_cons ?_ ?_
    · with_reducible refine xop_un ?_ ?_
      · rfl
      · intro vs x F hF hd
        have e1 : F.tmps.getD 5 undef = .int .u64 15 := (hF.a 5 (by kernel_rfl) (by rw [hsz]; rfl)).trans hA5
        exact m_v e1
    with_reducible refine xOps_cons ?_ ?_
    · with_reducible refine xop_un ?_ ?_
      · rfl
      · intro vs x F hF hd
        have e1 : F.tmps.getD 9 undef = bw (t) := (hF.v 9 0 (by kernel_rfl) (by rw [hsz]; rfl)).trans (dep_at hd 0 0 (is (bw (t))) (by kernel_rfl) (by kernel_rfl))
        have e2 : F.tmps.getD 10 undef = .int .u64 15 := (hF.v 10 1 (by kernel_rfl) (by rw [hsz]; rfl)).trans (dep_at hd 1 1 (is (.int .u64 15)) (by kernel_rfl) (by kernel_rfl))
        exact w_shl_u64 (n := 15) e1 e2 (by omega)
    with_reducible refine xOps_cons ?_ ?_
    · with_reducible refine xop_un ?_ ?_
      · rfl
      · intro vs x F hF hd
        have e1 : F.tmps.getD 0 undef = bw (t) := (hF.a 0 (by kernel_rfl) (by rw [hsz]; rfl)).trans hA0
        exact m_v e1
    with_reducible refine xOps_cons ?_ ?_
    · with_reducible refine xop_un ?_ ?_
      · rfl
      · intro vs x F hF hd
        have e1 : F.tmps.getD 5 undef = .int .u64 15 := (hF.a 5 (by kernel_rfl) (by rw [hsz]; rfl)).trans hA5
        exact m_v e1
    with_reducible refine xOps_cons ?_ ?_
    · with_reducible refine xop_un ?_ ?_
      · rfl
      · intro vs x F hF hd
        have e2 : F.tmps.getD 13 undef = .int .u64 15 := (hF.v 13 4 (by kernel_rfl) (by rw [hsz]; rfl)).trans (dep_at hd 0 4 (is (.int .u64 15)) (by kernel_rfl) (by kernel_rfl))
        exact u_sub (a := 32) (b := 15) rfl e2 (by omega) (by omega)
    with_reducible refine xOps_cons ?_ ?_
    · with_reducible refine xop_un ?_ ?_
      · rfl
      · intro vs x F hF hd
        have e1 : F.tmps.getD 12 undef = bw (t) := (hF.v 12 3 (by kernel_rfl) (by rw [hsz]; rfl)).trans (dep_at hd 0 3 (is (bw (t))) (by kernel_rfl) (by kernel_rfl))
        have e2 : F.tmps.getD 14 undef = .int .u64 17 := (hF.v 14 5 (by kernel_rfl) (by rw [hsz]; rfl)).trans (dep_at hd 1 5 (is (.int .u64 17)) (by kernel_rfl) (by kernel_rfl))
        exact w_shr_u64 (n := 17) e1 e2 (by omega)
    with_reducible refine xOps_cons ?_ ?_
    · with_reducible refine xop_un ?_ ?_
      · rfl
      · intro vs x F hF hd
        have e1 : F.tmps.getD 11 undef = bw ((t) <<< 15) := (hF.v 11 2 (by kernel_rfl) (by rw [hsz]; rfl)).trans (dep_at hd 0 2 (is (bw ((t) <<< 15))) (by kernel_rfl) (by kernel_rfl))
        have e2 : F.tmps.getD 15 undef = bw ((t) >>> 17) := (hF.v 15 6 (by kernel_rfl) (by rw [hsz]; rfl)).trans (dep_at hd 1 6 (is (bw ((t) >>> 17))) (by kernel_rfl) (by kernel_rfl))
        exact w_or e1 e2
    exact xOps_nil
  case hst => exact ⟨is.st _, is.st _, is.st _, is.st _, is.st _, is.st _, is.st _, is.st _, trivial⟩
  case hfin =>
    intro vs x hf
    have f7 : vs 7 = bw (((t) <<< 15) ||| ((t) >>> 17)) := hf.2.2.2.2.2.2.2.1
    clear hf
    have hAq := HAq.out
    subst hAq
    clear hsz hA0 hA5
    simp only [List.take_succ_cons, List.take_zero, List.drop_succ_cons, List.drop_zero, putAll, Act.put, List.setIfInBounds_toArray, List.set_cons_succ, List.set_cons_zero, Nat.zero_add, Nat.reduceAdd]
    clear HAq
    rw [f7]
    clear f7
    go_wp2
    go_ret
    exact ⟨by rw [← q]; rfl, (by repeat (first | exact Ext.refl _ | assumption | apply Ext.plus_ | apply Ext.alloc | apply Ext.drew))⟩
theorem right17 (t : W32) (w : World) : Calls Tryd.prog 25 #[bw t, .int .i64 17] w fun e w' => e = .returned (bw (rr 17 t)) ∧ Ext w w' := by
  go_enter Tryd.func25, Tryd.ntmps25
  go_upto_region 1 with fail
  refine act_at fun A0 hAq => ?_
  have hsz : A0.tmps.size = 13 := by
    rw [hAq]
    rfl
  have hA0 : A0.tmps.getD 0 undef = bw (t) := by
    rw [hAq]
    first | rfl | kernel_rfl
  have hA1 : A0.tmps.getD 1 undef = nw (17) := by
    rw [hAq]
    first | rfl | kernel_rfl
  have HAq := Lib.hid hAq
  clear hAq
  apply wp_region_ext 8 [is (bw (t)), is (nw (17)), is (bw ((t) >>> 17)), is (bw (t)), is (nw (17)), is (nw (15)), is (bw ((t) <<< 15)), is (bw (((t) >>> 17) ||| ((t) <<< 15)))] (by kernel_rfl) (by kernel_rfl) rfl
  case hops =>
    simp only [List.take_succ_cons, List.take_zero]
    with_reducible refine xOps_cons ?_ ?_
    · with_reducible refine xop_un ?_ ?_
      · rfl
      · intro vs x F hF hd
        have e1 : F.tmps.getD 0 undef = bw (t) := (hF.a 0 (by kernel_rfl) (by rw [hsz]; rfl)).trans hA0
        exact m_v e1
    with_reducible refine xOps_cons ?_ ?_
    · with_reducible refine xop_un ?_ ?_
      · rfl
      · intro vs x F hF hd
        have e1 : F.tmps.getD 1 undef = nw (17) := (hF.a 1 (by kernel_rfl) (by rw [hsz]; rfl)).trans hA1
        exact m_v e1
    with_reducible refine xOps_cons ?_ ?_
    · with_reducible refine xop_un ?_ ?_
      · rfl
      · intro vs x F hF hd
        have e1 : F.tmps.getD 5 undef = bw (t) := (hF.v 5 0 (by kernel_rfl) (by rw [hsz]; rfl)).trans (dep_at hd 0 0 (is (bw (t))) (by kernel_rfl) (by kernel_rfl))
        have e2 : F.tmps.getD 6 undef = nw (17) := (hF.v 6 1 (by kernel_rfl) (by rw [hsz]; rfl)).trans (dep_at hd 1 1 (is (nw (17))) (by kernel_rfl) (by kernel_rfl))
        exact w_shr_i64 (n := 17) e1 e2 (by omega)
    with_reducible refine xOps_cons ?_ ?_
    · with_reducible refine xop_un ?_ ?_
      · rfl
      · intro vs x F hF hd
        have e1 : F.tmps.getD 0 undef = bw (t) := (hF.a 0 (by kernel_rfl) (by rw [hsz]; rfl)).trans hA0
        exact m_v e1
    with_reducible refine xOps_cons ?_ ?_
    · with_reducible refine xop_un ?_ ?_
      · rfl
      · intro vs x F hF hd
        have e1 : F.tmps.getD 1 undef = nw (17) := (hF.a 1 (by kernel_rfl) (by rw [hsz]; rfl)).trans hA1
        exact m_v e1
    with_reducible refine xOps_cons ?_ ?_
    · with_reducible refine xop_un ?_ ?_
      · rfl
      · intro vs x F hF hd
        have e2 : F.tmps.getD 9 undef = nw (17) := (hF.v 9 4 (by kernel_rfl) (by rw [hsz]; rfl)).trans (dep_at hd 0 4 (is (nw (17))) (by kernel_rfl) (by kernel_rfl))
        exact n_sub (a := 32) (b := 17) rfl e2 (by omega) (by omega)
    with_reducible refine xOps_cons ?_ ?_
    · with_reducible refine xop_un ?_ ?_
      · rfl
      · intro vs x F hF hd
        have e1 : F.tmps.getD 8 undef = bw (t) := (hF.v 8 3 (by kernel_rfl) (by rw [hsz]; rfl)).trans (dep_at hd 0 3 (is (bw (t))) (by kernel_rfl) (by kernel_rfl))
        have e2 : F.tmps.getD 10 undef = nw (15) := (hF.v 10 5 (by kernel_rfl) (by rw [hsz]; rfl)).trans (dep_at hd 1 5 (is (nw (15))) (by kernel_rfl) (by kernel_rfl))
        exact w_shl_i64 (n := 15) e1 e2 (by omega)
    with_reducible refine xOps_cons ?_ ?_
    · with_reducible refine xop_un ?_ ?_
      · rfl
      · intro vs x F hF hd
        have e1 : F.tmps.getD 7 undef = bw ((t) >>> 17) := (hF.v 7 2 (by kernel_rfl) (by rw [hsz]; rfl)).trans (dep_at hd 0 2 (is (bw ((t) >>> 17))) (by kernel_rfl) (by kernel_rfl))
        have e2 : F.tmps.getD 11 undef = bw ((t) <<< 15) := (hF.v 11 6 (by kernel_rfl) (by rw [hsz]; rfl)).trans (dep_at hd 1 6 (is (bw ((t) <<< 15))) (by kernel_rfl) (by kernel_rfl))
        exact w_or e1 e2
    exact xOps_nil
  case hst => exact ⟨is.st _, is.st _, is.st _, is.st _, is.st _, is.st _, is.st _, is.st _, trivial⟩
  case hfin =>
    intro vs x hf
    have f7 : vs 7 = bw (((t) >>> 17) ||| ((t) <<< 15)) := hf.2.2.2.2.2.2.2.1
    clear hf
    have hAq := HAq.out
    subst hAq
    clear hsz hA0 hA1
    simp only [List.take_succ_cons, List.take_zero, List.drop_succ_cons, List.drop_zero, putAll, Act.put, List.setIfInBounds_toArray, List.set_cons_succ, List.set_cons_zero, Nat.zero_add, Nat.reduceAdd]
    clear HAq
    rw [f7]
    clear f7
    go_wp2
    go_ret
    exact ⟨rfl, (by repeat (first | exact Ext.refl _ | assumption | apply Ext.plus_ | apply Ext.alloc | apply Ext.drew))⟩
theorem rot18 (t : W32) (w : World) : Calls Tryd.prog 29 #[bw t, .int .i64 (-18)] w fun e w' => e = .returned (bw (rr 18 t)) ∧ Ext w w' := by
  have q : (t <<< 14) ||| (t >>> 18) = rr 18 t := BitVec.or_comm _ _
  go_enter Tryd.func29, Tryd.ntmps29
  go_upto_region 2 with fail
  refine act_at fun A0 hAq => ?_
  have hsz : A0.tmps.size = 17 := by
    rw [hAq]
    rfl
  have hA0 : A0.tmps.getD 0 undef = bw (t) := by
    rw [hAq]
    first | rfl | kernel_rfl
  have hA5 : A0.tmps.getD 5 undef = .int .u64 14 := by
    rw [hAq]
    first | rfl | kernel_rfl
  have HAq := Lib.hid hAq
  clear hAq
  apply wp_region_seq 8 [is (bw (t)), is (.int .u64 14), is (bw ((t) <<< 14)), is (bw (t)), is (.int .u64 14), is (.int .u64 18), is (bw ((t) >>> 18)), is (bw (((t) <<< 14) ||| ((t) >>> 18)))] (by kernel_rfl) (by kernel_rfl) rfl
  case hops =>
    simp only [List.take_succ_cons, List.take_zero]
    with_reducible refine xOps_cons ?_ ?_
    · with_reducible refine xop_un ?_ ?_
      · rfl
      · intro vs x F hF hd
        have e1 : F.tmps.getD 0 undef = bw (t) := (hF.a 0 (by kernel_rfl) (by rw [hsz]; rfl)).trans hA0
        exact m_v e1
    with_reducible refine xOps_cons ?_ ?_
    · with_reducible refine xop_un ?_ ?_
      · rfl
      · intro vs x F hF hd
        have e1 : F.tmps.getD 5 undef = .int .u64 14 := (hF.a 5 (by kernel_rfl) (by rw [hsz]; rfl)).trans hA5
        exact m_v e1
    with_reducible refine xOps_cons ?_ ?_
    · with_reducible refine xop_un ?_ ?_
      · rfl
      · intro vs x F hF hd
        have e1 : F.tmps.getD 9 undef = bw (t) := (hF.v 9 0 (by kernel_rfl) (by rw [hsz]; rfl)).trans (dep_at hd 0 0 (is (bw (t))) (by kernel_rfl) (by kernel_rfl))
        have e2 : F.tmps.getD 10 undef = .int .u64 14 := (hF.v 10 1 (by kernel_rfl) (by rw [hsz]; rfl)).trans (dep_at hd 1 1 (is (.int .u64 14)) (by kernel_rfl) (by kernel_rfl))
        exact w_shl_u64 (n := 14) e1 e2 (by omega)
    with_reducible refine xOps_cons ?_ ?_
    · with_reducible refine xop_un ?_ ?_
      · rfl
      · intro vs x F hF hd
        have e1 : F.tmps.getD 0 undef = bw (t) := (hF.a 0 (by kernel_rfl) (by rw [hsz]; rfl)).trans hA0
        exact m_v e1
    with_reducible refine xOps_cons ?_ ?_
    · with_reducible refine xop_un ?_ ?_
      · rfl
      · intro vs x F hF hd
        have e1 : F.tmps.getD 5 undef = .int .u64 14 := (hF.a 5 (by kernel_rfl) (by rw [hsz]; rfl)).trans hA5
        exact m_v e1
    with_reducible refine xOps_cons ?_ ?_
    · with_reducible refine xop_un ?_ ?_
      · rfl
      · intro vs x F hF hd
        have e2 : F.tmps.getD 13 undef = .int .u64 14 := (hF.v 13 4 (by kernel_rfl) (by rw [hsz]; rfl)).trans (dep_at hd 0 4 (is (.int .u64 14)) (by kernel_rfl) (by kernel_rfl))
        exact u_sub (a := 32) (b := 14) rfl e2 (by omega) (by omega)
    with_reducible refine xOps_cons ?_ ?_
    · with_reducible refine xop_un ?_ ?_
      · rfl
      · intro vs x F hF hd
        have e1 : F.tmps.getD 12 undef = bw (t) := (hF.v 12 3 (by kernel_rfl) (by rw [hsz]; rfl)).trans (dep_at hd 0 3 (is (bw (t))) (by kernel_rfl) (by kernel_rfl))
        have e2 : F.tmps.getD 14 undef = .int .u64 18 := (hF.v 14 5 (by kernel_rfl) (by rw [hsz]; rfl)).trans (dep_at hd 1 5 (is (.int .u64 18)) (by kernel_rfl) (by kernel_rfl))
        exact w_shr_u64 (n := 18) e1 e2 (by omega)
    with_reducible refine xOps_cons ?_ ?_
    · with_reducible refine xop_un ?_ ?_
      · rfl
      · intro vs x F hF hd
        have e1 : F.tmps.getD 11 undef = bw ((t) <<< 14) := (hF.v 11 2 (by kernel_rfl) (by rw [hsz]; rfl)).trans (dep_at hd 0 2 (is (bw ((t) <<< 14))) (by kernel_rfl) (by kernel_rfl))
        have e2 : F.tmps.getD 15 undef = bw ((t) >>> 18) := (hF.v 15 6 (by kernel_rfl) (by rw [hsz]; rfl)).trans (dep_at hd 1 6 (is (bw ((t) >>> 18))) (by kernel_rfl) (by kernel_rfl))
        exact w_or e1 e2
    exact xOps_nil
  case hst => exact ⟨is.st _, is.st _, is.st _, is.st _, is.st _, is.st _, is.st _, is.st _, trivial⟩
  case hfin =>
    intro vs x hf
    have f7 : vs 7 = bw (((t) <<< 14) ||| ((t) >>> 18)) := hf.2.2.2.2.2.2.2.1
    clear hf
    have hAq := HAq.out
    subst hAq
    clear hsz hA0 hA5
    simp only [List.take_succ_cons, List.take_zero, List.drop_succ_cons, List.drop_zero, putAll, Act.put, List.setIfInBounds_toArray, List.set_cons_succ, List.set_cons_zero, Nat.zero_add, Nat.reduceAdd]
    clear HAq
    rw [f7]
    clear f7
    go_wp2
    go_ret
    exact ⟨by rw [← q]; rfl, (by repeat (first | exact Ext.refl _ | assumption | apply Ext.plus_ | apply Ext.alloc | apply Ext.drew))⟩
theorem right18 (t : W32) (w : World) : Calls Tryd.prog 25 #[bw t, .int .i64 18] w fun e w' => e = .returned (bw (rr 18 t)) ∧ Ext w w' := by
  go_enter Tryd.func25, Tryd.ntmps25
  go_upto_region 1 with fail
  refine act_at fun A0 hAq => ?_
  have hsz : A0.tmps.size = 13 := by
    rw [hAq]
    rfl
  have hA0 : A0.tmps.getD 0 undef = bw (t) := by
    rw [hAq]
    first | rfl | kernel_rfl
  have hA1 : A0.tmps.getD 1 undef = nw (18) := by
    rw [hAq]
    first | rfl | kernel_rfl
  have HAq := Lib.hid hAq
  clear hAq
  apply wp_region_ext 8 [is (bw (t)), is (nw (18)), is (bw ((t) >>> 18)), is (bw (t)), is (nw (18)), is (nw (14)), is (bw ((t) <<< 14)), is (bw (((t) >>> 18) ||| ((t) <<< 14)))] (by kernel_rfl) (by kernel_rfl) rfl
  case hops =>
    simp only [List.take_succ_cons, List.take_zero]
    with_reducible refine xOps_cons ?_ ?_
    · with_reducible refine xop_un ?_ ?_
      · rfl
      · intro vs x F hF hd
        have e1 : F.tmps.getD 0 undef = bw (t) := (hF.a 0 (by kernel_rfl) (by rw [hsz]; rfl)).trans hA0
        exact m_v e1
    with_reducible refine xOps_cons ?_ ?_
    · with_reducible refine xop_un ?_ ?_
      · rfl
      · intro vs x F hF hd
        have e1 : F.tmps.getD 1 undef = nw (18) := (hF.a 1 (by kernel_rfl) (by rw [hsz]; rfl)).trans hA1
        exact m_v e1
    with_reducible refine xOps_cons ?_ ?_
    · with_reducible refine xop_un ?_ ?_
      · rfl
      · intro vs x F hF hd
        have e1 : F.tmps.getD 5 undef = bw (t) := (hF.v 5 0 (by kernel_rfl) (by rw [hsz]; rfl)).trans (dep_at hd 0 0 (is (bw (t))) (by kernel_rfl) (by kernel_rfl))
        have e2 : F.tmps.getD 6 undef = nw (18) := (hF.v 6 1 (by kernel_rfl) (by rw [hsz]; rfl)).trans (dep_at hd 1 1 (is (nw (18))) (by kernel_rfl) (by kernel_rfl))
        exact w_shr_i64 (n := 18) e1 e2 (by omega)
    with_reducible refine xOps_cons ?_ ?_
    · with_reducible refine xop_un ?_ ?_
      · rfl
      · intro vs x F hF hd
        have e1 : F.tmps.getD 0 undef = bw (t) := (hF.a 0 (by kernel_rfl) (by rw [hsz]; rfl)).trans hA0
        exact m_v e1
    with_reducible refine xOps_cons ?_ ?_
    · with_reducible refine xop_un ?_ ?_
      · rfl
      · intro vs x F hF hd
        have e1 : F.tmps.getD 1 undef = nw (18) := (hF.a 1 (by kernel_rfl) (by rw [hsz]; rfl)).trans hA1
        exact m_v e1
    with_reducible refine xOps_cons ?_ ?_
    · with_reducible refine xop_un ?_ ?_
      · rfl
      · intro vs x F hF hd
        have e2 : F.tmps.getD 9 undef = nw (18) := (hF.v 9 4 (by kernel_rfl) (by rw [hsz]; rfl)).trans (dep_at hd 0 4 (is (nw (18))) (by kernel_rfl) (by kernel_rfl))
        exact n_sub (a := 32) (b := 18) rfl e2 (by omega) (by omega)
    with_reducible refine xOps_cons ?_ ?_
    · with_reducible refine xop_un ?_ ?_
      · rfl
      · intro vs x F hF hd
        have e1 : F.tmps.getD 8 undef = bw (t) := (hF.v 8 3 (by kernel_rfl) (by rw [hsz]; rfl)).trans (dep_at hd 0 3 (is (bw (t))) (by kernel_rfl) (by kernel_rfl))
        have e2 : F.tmps.getD 10 undef = nw (14) := (hF.v 10 5 (by kernel_rfl) (by rw [hsz]; rfl)).trans (dep_at hd 1 5 (is (nw (14))) (by kernel_rfl) (by kernel_rfl))
        exact w_shl_i64 (n := 14) e1 e2 (by omega)
    with_reducible refine xOps_cons ?_ ?_
    · with_reducible refine xop_un ?_ ?_
      · rfl
      · intro vs x F hF hd
        have e1 : F.tmps.getD 7 undef = bw ((t) >>> 18) := (hF.v 7 2 (by kernel_rfl) (by rw [hsz]; rfl)).trans (dep_at hd 0 2 (is (bw ((t) >>> 18))) (by kernel_rfl) (by kernel_rfl))
        have e2 : F.tmps.getD 11 undef = bw ((t) <<< 14) := (hF.v 11 6 (by kernel_rfl) (by rw [hsz]; rfl)).trans (dep_at hd 1 6 (is (bw ((t) <<< 14))) (by kernel_rfl) (by kernel_rfl))
        exact w_or e1 e2
    exact xOps_nil
  case hst => exact ⟨is.st _, is.st _, is.st _, is.st _, is.st _, is.st _, is.st _, is.st _, trivial⟩
  case hfin =>
    intro vs x hf
    have f7 : vs 7 = bw (((t) >>> 18) ||| ((t) <<< 14)) := hf.2.2.2.2.2.2.2.1
    clear hf
    have hAq := HAq.out
    subst hAq
    clear hsz hA0 hA1
    simp only [List.take_succ_cons, List.take_zero, List.drop_succ_cons, List.drop_zero, putAll, Act.put, List.setIfInBounds_toArray, List.set_cons_succ, List.set_cons_zero, Nat.zero_add, Nat.reduceAdd]
    clear HAq
    rw [f7]
    clear f7
    go_wp2
    go_ret
    exact ⟨rfl, (by repeat (first | exact Ext.refl _ | assumption | apply Ext.plus_ | apply Ext.alloc | apply Ext.drew))⟩
theorem rot19 (t : W32) (w : World) : Calls Tryd.prog 29 #[bw t, .int .i64 (-19)] w fun e w' => e = .returned (bw (rr 19 t)) ∧ Ext w w' := by
  have q : (t <<< 13) ||| (t >>> 19) = rr 19 t := BitVec.or_comm _ _
  go_enter Tryd.func29, Tryd.ntmps29
  go_upto_region 2 with fail
  refine act_at fun A0 hAq => ?_
  have hsz : A0.tmps.size = 17 := by
    rw [hAq]
    rfl
  have hA0 : A0.tmps.getD 0 undef = bw (t) := by
    rw [hAq]
    first | rfl | kernel_rfl
  have hA5 : A0.tmps.getD 5 undef = .int .u64 13 := by
    rw [hAq]
    first | rfl | kernel_rfl
  have HAq := Lib.hid hAq
  clear hAq
  apply wp_region_seq 8 [is (bw (t)), is (.int .u64 13), is (bw ((t) <<< 13)), is (bw (t)), is (.int .u64 13), is (.int .u64 19), is (bw ((t) >>> 19)), is (bw (((t) <<< 13) ||| ((t) >>> 19)))] (by kernel_rfl) (by kernel_rfl) rfl
  case hops =>
    simp only [List.take_succ_cons, List.take_zero]
    with_reducible refine xOps_cons ?_ ?_
    · with_reducible refine xop_un ?_ ?_
      · rfl
      · intro vs x F hF hd
        have e1 : F.tmps.getD 0 undef = bw (t) := (hF.a 0 (by kernel_rfl) (by rw [hsz]; rfl)).trans hA0
        exact m_v e1
    with_reducible refine xOps_cons ?_ ?_
    · with_reducible refine xop_un ?_ ?_
      · rfl
      · intro vs x F hF hd
        have e1 : F.tmps.getD 5 undef = .int .u64 13 := (hF.a 5 (by kernel_rfl) (by rw [hsz]; rfl)).trans hA5
        exact m_v e1
    with_reducible refine xOps_cons ?_ ?_
    · with_reducible refine xop_un ?_ ?_
      · rfl
      · intro vs x F hF hd
        have e1 : F.tmps.getD 9 undef = bw (t) := (hF.v 9 0 (by kernel_rfl) (by rw [hsz]; rfl)).trans (dep_at hd 0 0 (is (bw (t))) (by kernel_rfl) (by kernel_rfl))
        have e2 : F.tmps.getD 10 undef = .int .u64 13 := (hF.v 10 1 (by kernel_rfl) (by rw [hsz]; rfl)).trans (dep_at hd 1 1 (is (.int .u64 13)) (by kernel_rfl) (by kernel_rfl))
        exact w_shl_u64 (n := 13) e1 e2 (by omega)
    with_reducible refine xOps_cons ?_ ?_
    · with_reducible refine xop_un ?_ ?_
      · rfl
      · intro vs x F hF hd
        have e1 : F.tmps.getD 0 undef = bw (t) := (hF.a 0 (by kernel_rfl) (by rw [hsz]; rfl)).trans hA0
        exact m_v e1
    with_reducible refine xOps_cons ?_ ?_
    · with_reducible refine xop_un ?_ ?_
      · rfl
      · intro vs x F hF hd
        have e1 : F.tmps.getD 5 undef = .int .u64 13 := (hF.a 5 (by kernel_rfl) (by rw [hsz]; rfl)).trans hA5
        exact m_v e1
    with_reducible refine xOps_cons ?_ ?_
    · with_reducible refine xop_un ?_ ?_
      · rfl
      · intro vs x F hF hd
        have e2 : F.tmps.getD 13 undef = .int .u64 13 := (hF.v 13 4 (by kernel_rfl) (by rw [hsz]; rfl)).trans (dep_at hd 0 4 (is (.int .u64 13)) (by kernel_rfl) (by kernel_rfl))
        exact u_sub (a := 32) (b := 13) rfl e2 (by omega) (by omega)
    with_reducible refine xOps_cons ?_ ?_
    · with_reducible refine xop_un ?_ ?_
      · rfl
      · intro vs x F hF hd
        have e1 : F.tmps.getD 12 undef = bw (t) := (hF.v 12 3 (by kernel_rfl) (by rw [hsz]; rfl)).trans (dep_at hd 0 3 (is (bw (t))) (by kernel_rfl) (by kernel_rfl))
        have e2 : F.tmps.getD 14 undef = .int .u64 19 := (hF.v 14 5 (by kernel_rfl) (by rw [hsz]; rfl)).trans (dep_at hd 1 5 (is (.int .u64 19)) (by kernel_rfl) (by kernel_rfl))
        exact w_shr_u64 (n := 19) e1 e2 (by omega)
    with_reducible refine xOps_cons ?_ ?_
    · with_reducible refine xop_un ?_ ?_
      · rfl
      · intro vs x F hF hd
        have e1 : F.tmps.getD 11 undef = bw ((t) <<< 13) := (hF.v 11 2 (by kernel_rfl) (by rw [hsz]; rfl)).trans (dep_at hd 0 2 (is (bw ((t) <<< 13))) (by kernel_rfl) (by kernel_rfl))
        have e2 : F.tmps.getD 15 undef = bw ((t) >>> 19) := (hF.v 15 6 (by kernel_rfl) (by rw [hsz]; rfl)).trans (dep_at hd 1 6 (is (bw ((t) >>> 19))) (by kernel_rfl) (by kernel_rfl))
        exact w_or e1 e2
    exact xOps_nil
  case hst => exact ⟨is.st _, is.st _, is.st _, is.st _, is.st _, is.st _, is.st _, is.st _, trivial⟩
  case hfin =>
    intro vs x hf
    have f7 : vs 7 = bw (((t) <<< 13) ||| ((t) >>> 19)) := hf.2.2.2.2.2.2.2.1
    clear hf
    have hAq := HAq.out
    subst hAq
    clear hsz hA0 hA5
    simp only [List.take_succ_cons, List.take_zero, List.drop_succ_cons, List.drop_zero, putAll, Act.put, List.setIfInBounds_toArray, List.set_cons_succ, List.set_cons_zero, Nat.zero_add, Nat.reduceAdd]
    clear HAq
    rw [f7]
    clear f7
    go_wp2
    go_ret
    exact ⟨by rw [← q]; rfl, (by repeat (first | exact Ext.refl _ | assumption | apply Ext.plus_ | apply Ext.alloc | apply Ext.drew))⟩
theorem right19 (t : W32) (w : World) : Calls Tryd.prog 25 #[bw t, .int .i64 19] w fun e w' => e = .returned (bw (rr 19 t)) ∧ Ext w w' := by
  go_enter Tryd.func25, Tryd.ntmps25
  go_upto_region 1 with fail
  refine act_at fun A0 hAq => ?_
  have hsz : A0.tmps.size = 13 := by
    rw [hAq]
    rfl
  have hA0 : A0.tmps.getD 0 undef = bw (t) := by
    rw [hAq]
    first | rfl | kernel_rfl
  have hA1 : A0.tmps.getD 1 undef = nw (19) := by
    rw [hAq]
    first | rfl | kernel_rfl
  have HAq := Lib.hid hAq
  clear hAq
  apply wp_region_ext 8 [is (bw (t)), is (nw (19)), is (bw ((t) >>> 19)), is (bw (t)), is (nw (19)), is (nw (13)), is (bw ((t) <<< 13)), is (bw (((t) >>> 19) ||| ((t) <<< 13)))] (by kernel_rfl) (by kernel_rfl) rfl
  case hops =>
    simp only [List.take_succ_cons, List.take_zero]
    with_reducible refine xOps_cons ?_ ?_
    · with_reducible refine xop_un ?_ ?_
      · rfl
      · intro vs x F hF hd
        have e1 : F.tmps.getD 0 undef = bw (t) := (hF.a 0 (by kernel_rfl) (by rw [hsz]; rfl)).trans hA0
        exact m_v e1
    with_reducible refine xOps_cons ?_ ?_
    · with_reducible refine xop_un ?_ ?_
      · rfl
      · intro vs x F hF hd
        have e1 : F.tmps.getD 1 undef = nw (19) := (hF.a 1 (by kernel_rfl) (by rw [hsz]; rfl)).trans hA1
        exact m_v e1
    with_reducible refine xOps_cons ?_ ?_
    · with_reducible refine xop_un ?_ ?_
      · rfl
      · intro vs x F hF hd
        have e1 : F.tmps.getD 5 undef = bw (t) := (hF.v 5 0 (by kernel_rfl) (by rw [hsz]; rfl)).trans (dep_at hd 0 0 (is (bw (t))) (by kernel_rfl) (by kernel_rfl))
        have e2 : F.tmps.getD 6 undef = nw (19) := (hF.v 6 1 (by kernel_rfl) (by rw [hsz]; rfl)).trans (dep_at hd 1 1 (is (nw (19))) (by kernel_rfl) (by kernel_rfl))
        exact w_shr_i64 (n := 19) e1 e2 (by omega)
    with_reducible refine xOps_cons ?_ ?_
    · with_reducible refine xop_un ?_ ?_
      · rfl
      · intro vs x F hF hd
        have e1 : F.tmps.getD 0 undef = bw (t) := (hF.a 0 (by kernel_rfl) (by rw [hsz]; rfl)).trans hA0
        exact m_v e1
    with_reducible refine xOps_cons ?_ ?_
    · with_reducible refine xop_un ?_ ?_
      · rfl
      · intro vs x F hF hd
        have e1 : F.tmps.getD 1 undef = nw (19) := (hF.a 1 (by kernel_rfl) (by rw [hsz]; rfl)).trans hA1
        exact m_v e1
    with_reducible refine xOps_cons ?_ ?_
    · with_reducible refine xop_un ?_ ?_
      · rfl
      · intro vs x F hF hd
        have e2 : F.tmps.getD 9 undef = nw (19) := (hF.v 9 4 (by kernel_rfl) (by rw [hsz]; rfl)).trans (dep_at hd 0 4 (is (nw (19))) (by kernel_rfl) (by kernel_rfl))
        exact n_sub (a := 32) (b := 19) rfl e2 (by omega) (by omega)
    with_reducible refine xOps_cons ?_ ?_
    · with_reducible refine xop_un ?_ ?_
      · rfl
      · intro vs x F hF hd
        have e1 : F.tmps.getD 8 undef = bw (t) := (hF.v 8 3 (by kernel_rfl) (by rw [hsz]; rfl)).trans (dep_at hd 0 3 (is (bw (t))) (by kernel_rfl) (by kernel_rfl))
        have e2 : F.tmps.getD 10 undef = nw (13) := (hF.v 10 5 (by kernel_rfl) (by rw [hsz]; rfl)).trans (dep_at hd 1 5 (is (nw (13))) (by kernel_rfl) (by kernel_rfl))
        exact w_shl_i64 (n := 13) e1 e2 (by omega)
    with_reducible refine xOps_cons ?_ ?_
    · with_reducible refine xop_un ?_ ?_
      · rfl
      · intro vs x F hF hd
        have e1 : F.tmps.getD 7 undef = bw ((t) >>> 19) := (hF.v 7 2 (by kernel_rfl) (by rw [hsz]; rfl)).trans (dep_at hd 0 2 (is (bw ((t) >>> 19))) (by kernel_rfl) (by kernel_rfl))
        have e2 : F.tmps.getD 11 undef = bw ((t) <<< 13) := (hF.v 11 6 (by kernel_rfl) (by rw [hsz]; rfl)).trans (dep_at hd 1 6 (is (bw ((t) <<< 13))) (by kernel_rfl) (by kernel_rfl))
        exact w_or e1 e2
    exact xOps_nil
  case hst => exact ⟨is.st _, is.st _, is.st _, is.st _, is.st _, is.st _, is.st _, is.st _, trivial⟩
  case hfin =>
    intro vs x hf
    have f7 : vs 7 = bw (((t) >>> 19) ||| ((t) <<< 13)) := hf.2.2.2.2.2.2.2.1
    clear hf
    have hAq := HAq.out
    subst hAq
    clear hsz hA0 hA1
    simp only [List.take_succ_cons, List.take_zero, List.drop_succ_cons, List.drop_zero, putAll, Act.put, List.setIfInBounds_toArray, List.set_cons_succ, List.set_cons_zero, Nat.zero_add, Nat.reduceAdd]
    clear HAq
    rw [f7]
    clear f7
    go_wp2
    go_ret
    exact ⟨rfl, (by repeat (first | exact Ext.refl _ | assumption | apply Ext.plus_ | apply Ext.alloc | apply Ext.drew))⟩
theorem rot22 (t : W32) (w : World) : Calls Tryd.prog 29 #[bw t, .int .i64 (-22)] w fun e w' => e = .returned (bw (rr 22 t)) ∧ Ext w w' := by
  have q : (t <<< 10) ||| (t >>> 22) = rr 22 t := BitVec.or_comm _ _
  go_enter Tryd.func29, Tryd.ntmps29
  go_upto_region 2 with fail
  refine act_at fun A0 hAq => ?_
  have hsz : A0.tmps.size = 17 := by
    rw [hAq]
    rfl
  have hA0 : A0.tmps.getD 0 undef = bw (t) := by
    rw [hAq]
    first | rfl | kernel_rfl
  have hA5 : A0.tmps.getD 5 undef = .int .u64 10 := by
    rw [hAq]
    first | rfl | kernel_rfl
  have HAq := Lib.hid hAq
  clear hAq
  apply wp_region_seq 8 [is (bw (t)), is (.int .u64 10), is (bw ((t) <<< 10)), is (bw (t)), is (.int .u64 10), is (.int .u64 22), is (bw ((t) >>> 22)), is (bw (((t) <<< 10) ||| ((t) >>> 22)))] (by kernel_rfl) (by kernel_rfl) rfl
  case hops =>
    simp only [List.take_succ_cons, List.take_zero]
    with_reducible refine xOps_cons ?_ ?_
    · with_reducible refine xop_un ?_ ?_
      · rfl
      · intro vs x F hF hd
        have e1 : F.tmps.getD 0 undef = bw (t) := (hF.a 0 (by kernel_rfl) (by rw [hsz]; rfl)).trans hA0
        exact m_v e1
    with_reducible refine xOps_cons ?_ ?_
    · with_reducible refine xop_un ?_ ?_
      · rfl
      · intro vs x F hF hd
        have e1 : F.tmps.getD 5 undef = .int .u64 10 := (hF.a 5 (by kernel_rfl) (by rw [hsz]; rfl)).trans hA5
        exact m_v e1
    with_reducible refine xOps_cons ?_ ?_
    · with_reducible refine xop_un ?_ ?_
      · rfl
      · intro vs x F hF hd
        have e1 : F.tmps.getD 9 undef = bw (t) := (hF.v 9 0 (by kernel_rfl) (by rw [hsz]; rfl)).trans (dep_at hd 0 0 (is (bw (t))) (by kernel_rfl) (by kernel_rfl))
        have e2 : F.tmps.getD 10 undef = .int .u64 10 := (hF.v 10 1 (by kernel_rfl) (by rw [hsz]; rfl)).trans (dep_at hd 1 1 (is (.int .u64 10)) (by kernel_rfl) (by kernel_rfl))
        exact w_shl_u64 (n := 10) e1 e2 (by omega)
    with_reducible refine xOps_cons ?_ ?_
    · with_reducible refine xop_un ?_ ?_
      · rfl
      · intro vs x F hF hd
        have e1 : F.tmps.getD 0 undef = bw (t) := (hF.a 0 (by kernel_rfl) (by rw [hsz]; rfl)).trans hA0
        exact m_v e1
    with_reducible refine xOps_cons ?_ ?_
    · with_reducible refine xop_un ?_ ?_
      · rfl
      · intro vs x F hF hd
        have e1 : F.tmps.getD 5 undef = .int .u64 10 := (hF.a 5 (by kernel_rfl) (by rw [hsz]; rfl)).trans hA5
        exact m_v e1
    with_reducible refine xOps_cons ?_ ?_
    · with_reducible refine xop_un ?_ ?_
      · rfl
      · intro vs x F hF hd
        have e2 : F.tmps.getD 13 undef = .int .u64 10 := (hF.v 13 4 (by kernel_rfl) (by rw [hsz]; rfl)).trans (dep_at hd 0 4 (is (.int .u64 10)) (by kernel_rfl) (by kernel_rfl))
        exact u_sub (a := 32) (b := 10) rfl e2 (by omega) (by omega)
    with_reducible refine xOps_cons ?_ ?_
    · with_reducible refine xop_un ?_ ?_
      · rfl
      · intro vs x F hF hd
        have e1 : F.tmps.getD 12 undef = bw (t) := (hF.v 12 3 (by kernel_rfl) (by rw [hsz]; rfl)).trans (dep_at hd 0 3 (is (bw (t))) (by kernel_rfl) (by kernel_rfl))
        have e2 : F.tmps.getD 14 undef = .int .u64 22 := (hF.v 14 5 (by kernel_rfl) (by rw [hsz]; rfl)).trans (dep_at hd 1 5 (is (.int .u64 22)) (by kernel_rfl) (by kernel_rfl))
        exact w_shr_u64 (n := 22) e1 e2 (by omega)
    with_reducible refine xOps_cons ?_ ?_
    · with_reducible refine xop_un ?_ ?_
      · rfl
      · intro vs x F hF hd
        have e1 : F.tmps.getD 11 undef = bw ((t) <<< 10) := (hF.v 11 2 (by kernel_rfl) (by rw [hsz]; rfl)).trans (dep_at hd 0 2 (is (bw ((t) <<< 10))) (by kernel_rfl) (by kernel_rfl))
        have e2 : F.tmps.getD 15 undef = bw ((t) >>> 22) := (hF.v 15 6 (by kernel_rfl) (by rw [hsz]; rfl)).trans (dep_at hd 1 6 (is (bw ((t) >>> 22))) (by kernel_rfl) (by kernel_rfl))
        exact w_or e1 e2
    exact xOps_nil
  case hst => exact ⟨is.st _, is.st _, is.st _, is.st _, is.st _, is.st _, is.st _, is.st _, trivial⟩
  case hfin =>
    intro vs x hf
    have f7 : vs 7 = bw (((t) <<< 10) ||| ((t) >>> 22)) := hf.2.2.2.2.2.2.2.1
    clear hf
    have hAq := HAq.out
    subst hAq
    clear hsz hA0 hA5
    simp only [List.take_succ_cons, List.take_zero, List.drop_succ_cons, List.drop_zero, putAll, Act.put, List.setIfInBounds_toArray, List.set_cons_succ, List.set_cons_zero, Nat.zero_add, Nat.reduceAdd]
    clear HAq
    rw [f7]
    clear f7
    go_wp2
    go_ret
    exact ⟨by rw [← q]; rfl, (by repeat (first | exact Ext.refl _ | assumption | apply Ext.plus_ | apply Ext.alloc | apply Ext.drew))⟩
theorem right22 (t : W32) (w : World) : Calls Tryd.prog 25 #[bw t, .int .i64 22] w fun e w' => e = .returned (bw (rr 22 t)) ∧ Ext w w' := by
  go_enter Tryd.func25, Tryd.ntmps25
  go_upto_region 1 with fail
  refine act_at fun A0 hAq => ?_
  have hsz : A0.tmps.size = 13 := by
    rw [hAq]
    rfl
  have hA0 : A0.tmps.getD 0 undef = bw (t) := by
    rw [hAq]
    first | rfl | kernel_rfl
  have hA1 : A0.tmps.getD 1 undef = nw (22) := by
    rw [hAq]
    first | rfl | kernel_rfl
  have HAq := Lib.hid hAq
  clear hAq
  apply wp_region_ext 8 [is (bw (t)), is (nw (22)), is (bw ((t) >>> 22)), is (bw (t)), is (nw (22)), is (nw (10)), is (bw ((t) <<< 10)), is (bw (((t) >>> 22) ||| ((t) <<< 10)))] (by kernel_rfl) (by kernel_rfl) rfl
  case hops =>
    simp only [List.take_succ_cons, List.take_zero]
    with_reducible refine xOps_cons ?_ ?_
    · with_reducible refine xop_un ?_ ?_
      · rfl
      · intro vs x F hF hd
        have e1 : F.tmps.getD 0 undef = bw (t) := (hF.a 0 (by kernel_rfl) (by rw [hsz]; rfl)).trans hA0
        exact m_v e1
    with_reducible refine xOps_cons ?_ ?_
    · with_reducible refine xop_un ?_ ?_
      · rfl
      · intro vs x F hF hd
        have e1 : F.tmps.getD 1 undef = nw (22) := (hF.a 1 (by kernel_rfl) (by rw [hsz]; rfl)).trans hA1
        exact m_v e1
    with_reducible refine xOps_cons ?_ ?_
    · with_reducible refine xop_un ?_ ?_
      · rfl
      · intro vs x F hF hd
        have e1 : F.tmps.getD 5 undef = bw (t) := (hF.v 5 0 (by kernel_rfl) (by rw [hsz]; rfl)).trans (dep_at hd 0 0 (is (bw (t))) (by kernel_rfl) (by kernel_rfl))
        have e2 : F.tmps.getD 6 undef = nw (22) := (hF.v 6 1 (by kernel_rfl) (by rw [hsz]; rfl)).trans (dep_at hd 1 1 (is (nw (22))) (by kernel_rfl) (by kernel_rfl))
        exact w_shr_i64 (n := 22) e1 e2 (by omega)
    with_reducible refine xOps_cons ?_ ?_
    · with_reducible refine xop_un ?_ ?_
      · rfl
      · intro vs x F hF hd
        have e1 : F.tmps.getD 0 undef = bw (t) := (hF.a 0 (by kernel_rfl) (by rw [hsz]; rfl)).trans hA0
        exact m_v e1
    with_reducible refine xOps_cons ?_ ?_
    · with_reducible refine xop_un ?_ ?_
      · rfl
      · intro vs x F hF hd
        have e1 : F.tmps.getD 1 undef = nw (22) := (hF.a 1 (by kernel_rfl) (by rw [hsz]; rfl)).trans hA1
        exact m_v e1
    with_reducible refine xOps_cons ?_ ?_
    · with_reducible refine xop_un ?_ ?_
      · rfl
      · intro vs x F hF hd
        have e2 : F.tmps.getD 9 undef = nw (22) := (hF.v 9 4 (by kernel_rfl) (by rw [hsz]; rfl)).trans (dep_at hd 0 4 (is (nw (22))) (by kernel_rfl) (by kernel_rfl))
        exact n_sub (a := 32) (b := 22) rfl e2 (by omega) (by omega)
    with_reducible refine xOps_cons ?_ ?_
    · with_reducible refine xop_un ?_ ?_
      · rfl
      · intro vs x F hF hd
        have e1 : F.tmps.getD 8 undef = bw (t) := (hF.v 8 3 (by kernel_rfl) (by rw [hsz]; rfl)).trans (dep_at hd 0 3 (is (bw (t))) (by kernel_rfl) (by kernel_rfl))
        have e2 : F.tmps.getD 10 undef = nw (10) := (hF.v 10 5 (by kernel_rfl) (by rw [hsz]; rfl)).trans (dep_at hd 1 5 (is (nw (10))) (by kernel_rfl) (by kernel_rfl))
        exact w_shl_i64 (n := 10) e1 e2 (by omega)
    with_reducible refine xOps_cons ?_ ?_
    · with_reducible refine xop_un ?_ ?_
      · rfl
      · intro vs x F hF hd
        have e1 : F.tmps.getD 7 undef = bw ((t) >>> 22) := (hF.v 7 2 (by kernel_rfl) (by rw [hsz]; rfl)).trans (dep_at hd 0 2 (is (bw ((t) >>> 22))) (by kernel_rfl) (by kernel_rfl))
        have e2 : F.tmps.getD 11 undef = bw ((t) <<< 10) := (hF.v 11 6 (by kernel_rfl) (by rw [hsz]; rfl)).trans (dep_at hd 1 6 (is (bw ((t) <<< 10))) (by kernel_rfl) (by kernel_rfl))
        exact w_or e1 e2
    exact xOps_nil
  case hst => exact ⟨is.st _, is.st _, is.st _, is.st _, is.st _, is.st _, is.st _, is.st _, trivial⟩
  case hfin =>
    intro vs x hf
    have f7 : vs 7 = bw (((t) >>> 22) ||| ((t) <<< 10)) := hf.2.2.2.2.2.2.2.1
    clear hf
    have hAq := HAq.out
    subst hAq
    clear hsz hA0 hA1
    simp only [List.take_succ_cons, List.take_zero, List.drop_succ_cons, List.drop_zero, putAll, Act.put, List.setIfInBounds_toArray, List.set_cons_succ, List.set_cons_zero, Nat.zero_add, Nat.reduceAdd]
    clear HAq
    rw [f7]
    clear f7
    go_wp2
    go_ret
    exact ⟨rfl, (by repeat (first | exact Ext.refl _ | assumption | apply Ext.plus_ | apply Ext.alloc | apply Ext.drew))⟩
theorem rot25 (t : W32) (w : World) : Calls Tryd.prog 29 #[bw t, .int .i64 (-25)] w fun e w' => e = .returned (bw (rr 25 t)) ∧ Ext w w' := by
  have q : (t <<< 7) ||| (t >>> 25) = rr 25 t := BitVec.or_comm _ _
  go_enter Tryd.func29, Tryd.ntmps29
  go_upto_region 2 with fail
  refine act_at fun A0 hAq => ?_
  have hsz : A0.tmps.size = 17 := by
    rw [hAq]
    rfl
  have hA0 : A0.tmps.getD 0 undef = bw (t) := by
    rw [hAq]
    first | rfl | kernel_rfl
  have hA5 : A0.tmps.getD 5 undef = .int .u64 7 := by
    rw [hAq]
    first | rfl | kernel_rfl
  have HAq := Lib.hid hAq
  clear hAq
  apply wp_region_seq 8 [is (bw (t)), is (.int .u64 7), is (bw ((t) <<< 7)), is (bw (t)), is (.int .u64 7), is (.int .u64 25), is (bw ((t) >>> 25)), is (bw (((t) <<< 7) ||| ((t) >>> 25)))] (by kernel_rfl) (by kernel_rfl) rfl
  case hops =>
    simp only [List.take_succ_cons, List.take_zero]
    with_reducible refine xOps_cons ?_ ?_
    · with_reducible refine xop_un ?_ ?_
      · rfl
      · intro vs x F hF hd
        have e1 : F.tmps.getD 0 undef = bw (t) := (hF.a 0 (by kernel_rfl) (by rw [hsz]; rfl)).trans hA0
        exact m_v e1
    with_reducible refine xOps_cons ?_ ?_
    · with_reducible refine xop_un ?_ ?_
      · rfl
      · intro vs x F hF hd
        have e1 : F.tmps.getD 5 undef = .int .u64 7 := (hF.a 5 (by kernel_rfl) (by rw [hsz]; rfl)).trans hA5
        exact m_v e1
    with_reducible refine xOps_cons ?_ ?_
    · with_reducible refine xop_un ?_ ?_
      · rfl
      · intro vs x F hF hd
        have e1 : F.tmps.getD 9 undef = bw (t) := (hF.v 9 0 (by kernel_rfl) (by rw [hsz]; rfl)).trans (dep_at hd 0 0 (is (bw (t))) (by kernel_rfl) (by kernel_rfl))
        have e2 : F.tmps.getD 10 undef = .int .u64 7 := (hF.v 10 1 (by kernel_rfl) (by rw [hsz]; rfl)).trans (dep_at hd 1 1 (is (.int .u64 7)) (by kernel_rfl) (by kernel_rfl))
        exact w_shl_u64 (n := 7) e1 e2 (by omega)
    with_reducible refine xOps_cons ?_ ?_
    · with_reducible refine xop_un ?_ ?_
      · rfl
      · intro vs x F hF hd
        have e1 : F.tmps.getD 0 undef = bw (t) := (hF.a 0 (by kernel_rfl) (by rw [hsz]; rfl)).trans hA0
        exact m_v e1
    with_reducible refine xOps_cons ?_ ?_
    · with_reducible refine xop_un ?_ ?_
      · rfl
      · intro vs x F hF hd
        have e1 : F.tmps.getD 5 undef = .int .u64 7 := (hF.a 5 (by kernel_rfl) (by rw [hsz]; rfl)).trans hA5
        exact m_v e1
    with_reducible refine xOps_cons ?_ ?_
    · with_reducible refine xop_un ?_ ?_
      · rfl
      · intro vs x F hF hd
        have e2 : F.tmps.getD 13 undef = .int .u64 7 := (hF.v 13 4 (by kernel_rfl) (by rw [hsz]; rfl)).trans (dep_at hd 0 4 (is (.int .u64 7)) (by kernel_rfl) (by kernel_rfl))
        exact u_sub (a := 32) (b := 7) rfl e2 (by omega) (by omega)
    with_reducible refine xOps_cons ?_ ?_
    · with_reducible refine xop_un ?_ ?_
      · rfl
      · intro vs x F hF hd
        have e1 : F.tmps.getD 12 undef = bw (t) := (hF.v 12 3 (by kernel_rfl) (by rw [hsz]; rfl)).trans (dep_at hd 0 3 (is (bw (t))) (by kernel_rfl) (by kernel_rfl))
        have e2 : F.tmps.getD 14 undef = .int .u64 25 := (hF.v 14 5 (by kernel_rfl) (by rw [hsz]; rfl)).trans (dep_at hd 1 5 (is (.int .u64 25)) (by kernel_rfl) (by kernel_rfl))
        exact w_shr_u64 (n := 25) e1 e2 (by omega)
    with_reducible refine xOps_cons ?_ ?_
    · with_reducible refine xop_un ?_ ?_
      · rfl
      · intro vs x F hF hd
        have e1 : F.tmps.getD 11 undef = bw ((t) <<< 7) := (hF.v 11 2 (by kernel_rfl) (by rw [hsz]; rfl)).trans (dep_at hd 0 2 (is (bw ((t) <<< 7))) (by kernel_rfl) (by kernel_rfl))
        have e2 : F.tmps.getD 15 undef = bw ((t) >>> 25) := (hF.v 15 6 (by kernel_rfl) (by rw [hsz]; rfl)).trans (dep_at hd 1 6 (is (bw ((t) >>> 25))) (by kernel_rfl) (by kernel_rfl))
        exact w_or e1 e2
    exact xOps_nil
  case hst => exact ⟨is.st _, is.st _, is.st _, is.st _, is.st _, is.st _, is.st _, is.st _, trivial⟩
  case hfin =>
    intro vs x hf
    have f7 : vs 7 = bw (((t) <<< 7) ||| ((t) >>> 25)) := hf.2.2.2.2.2.2.2.1
    clear hf
    have hAq := HAq.out
    subst hAq
    clear hsz hA0 hA5
    simp only [List.take_succ_cons, List.take_zero, List.drop_succ_cons, List.drop_zero, putAll, Act.put, List.setIfInBounds_toArray, List.set_cons_succ, List.set_cons_zero, Nat.zero_add, Nat.reduceAdd]
    clear HAq
    rw [f7]
    clear f7
    go_wp2
    go_ret
    exact ⟨by rw [← q]; rfl, (by repeat (first | exact Ext.refl _ | assumption | apply Ext.plus_ | apply Ext.alloc | apply Ext.drew))⟩
theorem right25 (t : W32) (w : World) : Calls Tryd.prog 25 #[bw t, .int .i64 25] w fun e w' => e = .returned (bw (rr 25 t)) ∧ Ext w w' := by
  go_enter Tryd.func25, Tryd.ntmps25
  go_upto_region 1 with fail
  refine act_at fun A0 hAq => ?_
  have hsz : A0.tmps.size = 13 := by
    rw [hAq]
    rfl
  have hA0 : A0.tmps.getD 0 undef = bw (t) := by
    rw [hAq]
    first | rfl | kernel_rfl
  have hA1 : A0.tmps.getD 1 undef = nw (25) := by
    rw [hAq]
    first | rfl | kernel_rfl
  have HAq := Lib.hid hAq
  clear hAq
  apply wp_region_ext 8 [is (bw (t)), is (nw (25)), is (bw ((t) >>> 25)), is (bw (t)), is (nw (25)), is (nw (7)), is (bw ((t) <<< 7)), is (bw (((t) >>> 25) ||| ((t) <<< 7)))] (by kernel_rfl) (by kernel_rfl) rfl
  case hops =>
    simp only [List.take_succ_cons, List.take_zero]
    with_reducible refine xOps_cons ?_ ?_
    · with_reducible refine xop_un ?_ ?_
      · rfl
      · intro vs x F hF hd
        have e1 : F.tmps.getD 0 undef = bw (t) := (hF.a 0 (by kernel_rfl) (by rw [hsz]; rfl)).trans hA0
        exact m_v e1
    with_reducible refine xOps_cons ?_ ?_
    · with_reducible refine xop_un ?_ ?_
      · rfl
      · intro vs x F hF hd
        have e1 : F.tmps.getD 1 undef = nw (25) := (hF.a 1 (by kernel_rfl) (by rw [hsz]; rfl)).trans hA1
        exact m_v e1
    with_reducible refine xOps_cons ?_ ?_
    · with_reducible refine xop_un ?_ ?_
      · rfl
      · intro vs x F hF hd
        have e1 : F.tmps.getD 5 undef = bw (t) := (hF.v 5 0 (by kernel_rfl) (by rw [hsz]; rfl)).trans (dep_at hd 0 0 (is (bw (t))) (by kernel_rfl) (by kernel_rfl))
        have e2 : F.tmps.getD 6 undef = nw (25) := (hF.v 6 1 (by kernel_rfl) (by rw [hsz]; rfl)).trans (dep_at hd 1 1 (is (nw (25))) (by kernel_rfl) (by kernel_rfl))
        exact w_shr_i64 (n := 25) e1 e2 (by omega)
    with_reducible refine xOps_cons ?_ ?_
    · with_reducible refine xop_un ?_ ?_
      · rfl
      · intro vs x F hF hd
        have e1 : F.tmps.getD 0 undef = bw (t) := (hF.a 0 (by kernel_rfl) (by rw [hsz]; rfl)).trans hA0
        exact m_v e1
    with_reducible refine xOps_cons ?_ ?_
    · with_reducible refine xop_un ?_ ?_
      · rfl
      · intro vs x F hF hd
        have e1 : F.tmps.getD 1 undef = nw (25) := (hF.a 1 (by kernel_rfl) (by rw [hsz]; rfl)).trans hA1
        exact m_v e1
    with_reducible refine xOps_cons ?_ ?_
    · with_reducible refine xop_un ?_ ?_
      · rfl
      · intro vs x F hF hd
        have e2 : F.tmps.getD 9 undef = nw (25) := (hF.v 9 4 (by kernel_rfl) (by rw [hsz]; rfl)).trans (dep_at hd 0 4 (is (nw (25))) (by kernel_rfl) (by kernel_rfl))
        exact n_sub (a := 32) (b := 25) rfl e2 (by omega) (by omega)
    with_reducible refine xOps_cons ?_ ?_
    · with_reducible refine xop_un ?_ ?_
      · rfl
      · intro vs x F hF hd
        have e1 : F.tmps.getD 8 undef = bw (t) := (hF.v 8 3 (by kernel_rfl) (by rw [hsz]; rfl)).trans (dep_at hd 0 3 (is (bw (t))) (by kernel_rfl) (by kernel_rfl))
        have e2 : F.tmps.getD 10 undef = nw (7) := (hF.v 10 5 (by kernel_rfl) (by rw [hsz]; rfl)).trans (dep_at hd 1 5 (is (nw (7))) (by kernel_rfl) (by kernel_rfl))
        exact w_shl_i64 (n := 7) e1 e2 (by omega)
    with_reducible refine xOps_cons ?_ ?_
    · with_reducible refine xop_un ?_ ?_
      · rfl
      · intro vs x F hF hd
        have e1 : F.tmps.getD 7 undef = bw ((t) >>> 25) := (hF.v 7 2 (by kernel_rfl) (by rw [hsz]; rfl)).trans (dep_at hd 0 2 (is (bw ((t) >>> 25))) (by kernel_rfl) (by kernel_rfl))
        have e2 : F.tmps.getD 11 undef = bw ((t) <<< 7) := (hF.v 11 6 (by kernel_rfl) (by rw [hsz]; rfl)).trans (dep_at hd 1 6 (is (bw ((t) <<< 7))) (by kernel_rfl) (by kernel_rfl))
        exact w_or e1 e2
    exact xOps_nil
  case hst => exact ⟨is.st _, is.st _, is.st _, is.st _, is.st _, is.st _, is.st _, is.st _, trivial⟩
  case hfin =>
    intro vs x hf
    have f7 : vs 7 = bw (((t) >>> 25) ||| ((t) <<< 7)) := hf.2.2.2.2.2.2.2.1
    clear hf
    have hAq := HAq.out
    subst hAq
    clear hsz hA0 hA1
    simp only [List.take_succ_cons, List.take_zero, List.drop_succ_cons, List.drop_zero, putAll, Act.put, List.setIfInBounds_toArray, List.set_cons_succ, List.set_cons_zero, Nat.zero_add, Nat.reduceAdd]
    clear HAq
    rw [f7]
    clear f7
    go_wp2
    go_ret
    exact ⟨rfl, (by repeat (first | exact Ext.refl _ | assumption | apply Ext.plus_ | apply Ext.alloc | apply Ext.drew))⟩
end Go.Proofs.YtbdahlfakinagaaDoor
