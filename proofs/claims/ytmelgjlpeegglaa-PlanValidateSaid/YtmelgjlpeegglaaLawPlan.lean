/- The laws of plans: what they share. -/
import Derived.Test.YtmelgjlpeegglaaPlanUse
import Derived.Test.YtmelgjlpeegglaaVerdict
namespace Go.Proofs.Ytmelgjlpeegglaa
open Go.RowKit Go.Rg

def pv (l : List Int) (mi nu de ho wi : Int) : Int := if PlanOK l mi nu de ho wi then 0 else 8
theorem validate_any (A : Option Addr) (n c : Nat) (l : List Int) (mi nu de ho wi : Int) (w : World) (hr : Row w w.heap.size 1 A n (ints l)) (hc : n ≤ c) (hn : n ≤ 9223372036854775807) :
    Calls Try.prog 8 #[pl A n c mi nu de ho wi] w fun e w' => e = .returned (.int .i64 (pv l mi nu de ho wi)) ∧ Ext w w' := by
  unfold pv
  split
  · exact validate_ok A n c l mi nu de ho wi w hr ‹_› hc
  · exact validate_bad A n c l mi nu de ho wi w hr ‹_› hn hc
theorem refPlan_any (A : Option Addr) (n c : Nat) (l : List Int) (mi nu de ho wi : Int) (w : World) (hr : Row w w.heap.size 1 A n (ints l)) (hc : n ≤ c) (hn : n ≤ 9223372036854775807) :
    Calls Try.prog 10 #[pl A n c mi nu de ho wi] w fun e w' => e = .returned (.int .i64 (pv l mi nu de ho wi)) ∧ Ext w w' := by
  unfold pv
  split
  · exact refPlan_ok A n c l mi nu de ho wi w hr ‹_› hc
  · exact refPlan_bad A n c l mi nu de ho wi w hr ‹_› hn hc
theorem pv_ok {l : List Int} {mi nu de ho wi : Int} (h : PlanOK l mi nu de ho wi) : pv l mi nu de ho wi = 0 := by unfold pv; rw [if_pos h]

theorem row_new (w : World) (zs : List Int) (cs : Array Value) (t : TypeId) (h : cs.toList = ints zs) : Row (w.alloc (.cells cs t)) (w.alloc (.cells cs t)).heap.size 1 (some ⟨w.heap.size, 0, none⟩) zs.length (ints zs) := by
  refine ⟨by simp, fun _ => ⟨w.heap.size, 0, rfl, by simp, fun j u hu => ?_⟩⟩
  rw [World.cell?_alloc_at _ _ _ _ rfl, ← h] at *
  simpa using hu

theorem ok10 : PlanOK [10] 10 1 100 1 5 := by decide

set_option maxHeartbeats 1000000 in
theorem awake_any (w : World) : Calls Try.prog 11 #[] w fun ee w' => ee = .returned (.bool true) ∧ Ext w w' := by
  have R := row_new w [10] #[.int .i64 10] 3 rfl
  go_enter Try.func11, Try.ntmps11
  go_wp2_with fail
  refine (validate_ok _ 1 1 [10] 10 1 100 1 5 _ (R.lift (by repeat (first | exact Ext.refl _ | assumption | apply Ext.plus_ | apply Ext.alloc | apply Ext.drew))) ok10 (by decide)).mono ?_
  rintro e w' ⟨rfl, hE⟩
  obtain ⟨x, rfl⟩ := hE.plus
  clear hE
  go_wp2_with fail
  refine (weight_in _ 1 1 [10] 10 1 100 1 5 0 _ (R.lift (by repeat (first | exact Ext.refl _ | assumption | apply Ext.plus_ | apply Ext.alloc | apply Ext.drew))) ok10 (by decide) (by decide) (by decide) (by decide)).mono ?_
  rintro e w' ⟨rfl, hE⟩
  obtain ⟨x, rfl⟩ := hE.plus
  clear hE
  go_wp2_with fail
  refine (verdict_good _ 1 1 [10] 10 1 100 1 5 100 1 0 _ (R.lift (by repeat (first | exact Ext.refl _ | assumption | apply Ext.plus_ | apply Ext.alloc | apply Ext.drew))) ok10 (by decide) (by decide) (by decide) (by decide)).mono ?_
  rintro e w' ⟨rfl, hE⟩
  obtain ⟨x, rfl⟩ := hE.plus
  clear hE
  go_wp2_with fail
  refine (verdict_fail _ 1 1 [10] 10 1 100 1 5 100 2 0 _ (R.lift (by repeat (first | exact Ext.refl _ | assumption | apply Ext.plus_ | apply Ext.alloc | apply Ext.drew))) ok10 (by decide) (by decide) (by decide) (by decide)).mono ?_
  rintro e w' ⟨rfl, hE⟩
  obtain ⟨x, rfl⟩ := hE.plus
  clear hE
  go_wp2_with fail
  refine (verdict_thin _ 1 1 [10] 10 1 100 1 5 9 0 0 _ (R.lift (by repeat (first | exact Ext.refl _ | assumption | apply Ext.plus_ | apply Ext.alloc | apply Ext.drew))) ok10 (by decide) (by decide) (by decide)).mono ?_
  rintro e w' ⟨rfl, hE⟩
  obtain ⟨x, rfl⟩ := hE.plus
  clear hE
  go_wp2_with fail
  go_ret
  refine ⟨rfl, ?_⟩
  repeat (first | exact Ext.refl _ | apply Ext.drew | apply Ext.drewN | apply Ext.plus_ | apply Ext.alloc | assumption)
end Go.Proofs.Ytmelgjlpeegglaa
