/- The reference's constants. -/
import Derived.Test.YtbdahlfakinagaaDoorD5
import Derived.Deep.CutRange
set_option linter.unusedVariables false
namespace Go.Proofs.YtbdahlfakinagaaDoor
open Go.RowKit Go.Rg
set_option maxRecDepth 100000 in
set_option maxHeartbeats 4000000 in
theorem initial_any (w : World) : Calls Tryd.prog 20 #[] w fun e w' => e = .returned (wv IL) ∧ Ext w w' := by
  go_enter Tryd.func20, Tryd.ntmps20
  go_wp2_with (with_reducible show wpList _ _ _ (⟨none, _, _, _, _, _⟩ :: _) _ _; refine Lock.out ?_)
  refine ⟨?_, trivial⟩
  refine wl_at fun Z hZ => ?_
  obtain ⟨R, hR⟩ : ∃ V, V = w.heap.size := ⟨_, rfl⟩
  have hB0 : Box 0 (zero8.map bw) R Z := by
    rw [hZ, hR]
    repeat' (first | with_reducible assumption | ((with_reducible refine Box.fresh ?fb ?fn ?fr); (case fb => first | omega | (simp <;> omega)); (case fn => first | omega | (simp <;> omega)); (case fr => rfl)) | with_reducible apply Box.up | with_reducible apply Box.drew_ | with_reducible apply Box.drewN_ | with_reducible apply Box.plus_ | with_reducible apply Box.put | with_reducible refine Box.off ?_ (by omega))
    all_goals first | rfl | (simp; done)
  have hE1 : Ext w Z := by
    rw [hZ]
    repeat' (first | with_reducible assumption | with_reducible exact Ext.refl _ | with_reducible apply Ext.alloc | with_reducible apply Ext.drew | with_reducible apply Ext.drewN | with_reducible apply Ext.plus_ | with_reducible refine Ext.put ?_ (by omega))
  have hRl : w.heap.size ≤ R := by omega
  rw [← hR]
  clear hZ hR
  refine wl_store rfl 32 (.tmp 0) (.tmp 1) rfl hB0 (IL.map bw) rfl rfl rfl (by kernel_rfl) (one_cells _) fun W hW hx => ?_
  have HX := Lib.hid (hx.ext _ hE1 hRl)
  have HR := Lib.hid hW
  clear hW hx hB0 hE1 hRl
  go_wp2
  refine bodyPost_ret (results_cell Tryd.results20 HR.out rfl Tryd.underlying32 rfl (by kernel_rfl)) rfl ?_
  exact ⟨rfl, HX.out⟩
set_option maxRecDepth 100000 in
set_option maxHeartbeats 4000000 in
theorem constants_any (w : World) : Calls Tryd.prog 26 #[] w fun e w' => e = .returned (wv KL) ∧ Ext w w' := by
  go_enter Tryd.func26, Tryd.ntmps26
  go_wp2_with (with_reducible show wpList _ _ _ (⟨none, _, _, _, _, _⟩ :: _) _ _; refine Lock.out ?_)
  refine ⟨?_, trivial⟩
  refine wl_at fun Z hZ => ?_
  obtain ⟨R, hR⟩ : ∃ V, V = w.heap.size := ⟨_, rfl⟩
  have hB0 : Box 0 (zero64.map bw) R Z := by
    rw [hZ, hR]
    repeat' (first | with_reducible assumption | ((with_reducible refine Box.fresh ?fb ?fn ?fr); (case fb => first | omega | (simp <;> omega)); (case fn => first | omega | (simp <;> omega)); (case fr => rfl)) | with_reducible apply Box.up | with_reducible apply Box.drew_ | with_reducible apply Box.drewN_ | with_reducible apply Box.plus_ | with_reducible apply Box.put | with_reducible refine Box.off ?_ (by omega))
    all_goals first | rfl | (simp; done)
  have hE1 : Ext w Z := by
    rw [hZ]
    repeat' (first | with_reducible assumption | with_reducible exact Ext.refl _ | with_reducible apply Ext.alloc | with_reducible apply Ext.drew | with_reducible apply Ext.drewN | with_reducible apply Ext.plus_ | with_reducible refine Ext.put ?_ (by omega))
  have hRl : w.heap.size ≤ R := by omega
  rw [← hR]
  clear hZ hR
  refine wl_store rfl 47 (.tmp 0) (.tmp 1) rfl hB0 (KL.map bw) rfl rfl rfl (by kernel_rfl) (one_cells _) fun W hW hx => ?_
  have HX := Lib.hid (hx.ext _ hE1 hRl)
  have HR := Lib.hid hW
  clear hW hx hB0 hE1 hRl
  go_wp2
  refine bodyPost_ret (results_cell Tryd.results26 HR.out rfl Tryd.underlying47 rfl (by kernel_rfl)) rfl ?_
  exact ⟨rfl, HX.out⟩
end Go.Proofs.YtbdahlfakinagaaDoor
