/- config.Validate and its reference. -/
import Derived.Test.YtlcopiepcpangaaCfg2
import Derived.Test.YtlcopiepcpangaaPlanRef
import Derived.Test.YtlcopiepcpangaaCfgS
import Derived.Deep.CutRange
set_option linter.unusedVariables false
namespace Go.Proofs.Ytlcopiepcpangaa
open Go.RowKit Go.Rg

abbrev zcells : List Value := [.int .i64 0, .int .i64 0, .int .i64 0, .int .i64 0, .int .i64 0, .int .i64 0, .int .i64 0, .int .i64 0, .int .i64 0, .int .i64 0, .int .i64 0, .int .i64 0, .int .i64 0, .int .i64 0, .int .i64 0, .slice none 0 0, .int .i64 0, .int .i64 0, .int .i64 0, .int .i64 0, .int .i64 0, .string ⟨#[]⟩, .string ⟨#[]⟩, .bool false, .slice none 0 0]
/-- A configuration is valid: pb says that its plan is. -/
def cfB (c : Cf) (pb : Bool) (ig : List ByteArray) : Bool := szB c && (cnB c && (nmB c ig && pb))
theorem planB_any (A : Option Addr) (n c : Nat) (l : List Int) (mi nu de ho wi : Int) (pb : Bool) (hpb : pb = true ↔ PlanOK l mi nu de ho wi) (w : World) (hr : Row w w.heap.size 1 A n (ints l)) (hc : n ≤ c) (hcm : c ≤ 9223372036854775807) :
    Calls Try.prog 23 #[pl A n c mi nu de ho wi] w fun e w' => e = .returned (.int .i64 (if pb then 0 else 8)) ∧ Ext w w' := by
  cases pb
  · exact validate_bad A n c l mi nu de ho wi w hr (fun h => by have := hpb.2 h; cases this) (by omega) hc
  · exact validate_ok A n c l mi nu de ho wi w hr (hpb.1 rfl) hc
theorem refPlanB_any (A : Option Addr) (n c : Nat) (l : List Int) (mi nu de ho wi : Int) (pb : Bool) (hpb : pb = true ↔ PlanOK l mi nu de ho wi) (w : World) (hr : Row w w.heap.size 1 A n (ints l)) (hc : n ≤ c) (hcm : c ≤ 9223372036854775807) :
    Calls Try.prog 25 #[pl A n c mi nu de ho wi] w fun e w' => e = .returned (.int .i64 (if pb then 0 else 8)) ∧ Ext w w' := by
  cases pb
  · exact refPlan_bad A n c l mi nu de ho wi w hr (fun h => by have := hpb.2 h; cases this) (by omega) hc
  · exact refPlan_ok A n c l mi nu de ho wi w hr (hpb.1 rfl) hc
set_option maxHeartbeats 4000000 in
theorem cvalidate_any (c : Cf) (wl : List Int) (ig : List ByteArray) (pb : Bool) (hpb : pb = true ↔ PlanOK wl c.mi c.nu c.de c.ho c.wi) (w : World) (h : CfOK c w wl ig) :
    Calls Try.prog 7 #[cv c] w fun e w' => e = .returned (.int .i64 (if cfB c pb ig then 0 else 8)) ∧ Ext w w' := by
  have C1 := Lib.hid (fun W => sizes_any c W)
  have C2 := Lib.hid (fun W => counts_any c W)
  have C3 := Lib.hid (fun W (e : Ext w W) => names_any c ig W (h.ir.lift e) (by have := h.im; have := h.ikm; omega) h.si h.ss h.cs)
  have C4 := Lib.hid (fun W (e : Ext w W) => planB_any c.pA c.pn c.pc wl c.mi c.nu c.de c.ho c.wi pb hpb W (h.pr.lift e) h.pn h.pm)
  obtain ⟨b1, hb1⟩ : ∃ b, b = szB c := ⟨_, rfl⟩
  obtain ⟨b2, hb2⟩ : ∃ b, b = cnB c := ⟨_, rfl⟩
  obtain ⟨b3, hb3⟩ : ∃ b, b = nmB c ig := ⟨_, rfl⟩
  rw [← hb1] at C1
  rw [← hb2] at C2
  rw [← hb3] at C3
  rw [cfB, ← hb1, ← hb2, ← hb3]
  clear hb1 hb2 hb3 hpb h
  go_enter Try.func7, Try.ntmps7
  go_wp2_with (with_reducible show wpList _ _ _ (⟨some 4, _, _, _, _, _⟩ :: _) _ _; refine Lock.out ?_)
  refine ⟨?_, trivial⟩
  refine wl_at fun U hU => ?_
  have hA : Box 0 c.cells w.heap.size U := by
    rw [hU]
    repeat' (first | with_reducible assumption | ((with_reducible refine Box.fresh ?fb ?fn ?fr); (case fb => first | omega | (simp <;> omega)); (case fn => first | omega | (simp <;> omega)); (case fr => rfl)) | with_reducible apply Box.up | with_reducible apply Box.drew_ | with_reducible apply Box.drewN_ | with_reducible apply Box.plus_ | with_reducible apply Box.put | with_reducible refine Box.off ?_ (by omega))
    all_goals first | rfl | (simp; done)
  have hE : Ext w U := by
    rw [hU]
    repeat' (first | with_reducible assumption | with_reducible exact Ext.refl _ | with_reducible apply Ext.alloc | with_reducible apply Ext.drew | with_reducible apply Ext.drewN | with_reducible apply Ext.plus_ | with_reducible refine Ext.put ?_ (by omega))
  obtain ⟨N, hN⟩ : ∃ N, N = w.heap.size := ⟨_, rfl⟩
  have hUN : N + 1 = U.heap.size := by
    rw [hU, hN]
    simp
  have hwN : w.heap.size ≤ N + 1 := by omega
  rw [← hN] at hA ⊢
  clear hU hN
  refine wl_load rfl 27 (.tmp 1) rfl hA rfl Try.underlying27 rfl (by kernel_rfl) ?_
  have HU := Lib.hid (And.intro hUN (And.intro hA hE))
  clear hUN hA hE
  go_wp2_with (with_reducible show wpList _ _ _ (⟨none, _, _, _, _, _⟩ :: _) _ _; refine Lock.out ?_)
  refine ⟨?_, trivial⟩
  refine wl_at fun V hV => ?_
  obtain ⟨hUN, hA, hE⟩ := HU.out
  have hB0 : Box 0 (.int .i64 0 :: zcells) (N + 1) V := by
    rw [hV]
    repeat' (first | with_reducible assumption | ((with_reducible refine Box.fresh ?fb ?fn ?fr); (case fb => first | omega | (simp <;> omega)); (case fn => first | omega | (simp <;> omega)); (case fr => rfl)) | with_reducible apply Box.up | with_reducible apply Box.drew_ | with_reducible apply Box.drewN_ | with_reducible apply Box.plus_ | with_reducible apply Box.put | with_reducible refine Box.off ?_ (by omega))
    all_goals first | rfl | (simp; done)
  replace hA : Box 0 c.cells N V := by
    rw [hV]
    repeat' (first | with_reducible assumption | ((with_reducible refine Box.fresh ?fb ?fn ?fr); (case fb => first | omega | (simp <;> omega)); (case fn => first | omega | (simp <;> omega)); (case fr => rfl)) | with_reducible apply Box.up | with_reducible apply Box.drew_ | with_reducible apply Box.drewN_ | with_reducible apply Box.plus_ | with_reducible apply Box.put | with_reducible refine Box.off ?_ (by omega))
    all_goals first | rfl | (simp; done)
  replace hE : Ext w V := by
    rw [hV]
    repeat' (first | with_reducible assumption | with_reducible exact Ext.refl _ | with_reducible apply Ext.alloc | with_reducible apply Ext.drew | with_reducible apply Ext.drewN | with_reducible apply Ext.plus_ | with_reducible refine Ext.put ?_ (by omega))
  rw [← hUN]
  clear hV hUN HU
  refine wl_store rfl 48 (.tmp 3) (.tmp 5) rfl hB0 c.cells rfl rfl rfl (by kernel_rfl) rfl fun W hB hx => ?_
  replace hA := hx.box hA (by omega)
  replace hE := hx.ext _ hE hwN
  clear hB0 hx
  go_wp2_with (with_reducible show wpList _ _ _ (⟨some 6, _, _, _, _, _⟩ :: _) _ _; refine Lock.out ?_)
  refine ⟨?_, trivial⟩
  refine wl_load rfl 48 (.tmp 3) rfl hB rfl Try.underlying48 rfl (by kernel_rfl) ?_
  have a16 := hA.cell 16 (by simp)
  have a17 := hA.cell 17 (by simp)
  have a18 := hA.cell 18 (by simp)
  have a19 := hA.cell 19 (by simp)
  have a20 := hA.cell 20 (by simp)
  have a21 := hA.cell 21 (by simp)
  simp only [List.getElem?_cons_zero, List.getElem?_cons_succ] at a16 a17 a18 a19 a20 a21
  have HE := Lib.hid hE
  have HB := Lib.hid hB
  clear hA hB hE
  go_wp2_with fail
  refine (C1.out _).mono ?_
  rintro e w1 ⟨rfl, hE⟩
  obtain ⟨x, rfl⟩ := hE.plus
  clear hE
  cases b1
  · go_wp2
    go_ret
    exact ⟨rfl, HE.out.trans (by repeat (first | exact Ext.refl _ | assumption | apply Ext.plus_ | apply Ext.alloc | apply Ext.drew))⟩
  clear C1
  go_wp2_with (with_reducible show wpList _ _ _ (⟨some 10, _, _, _, _, _⟩ :: _) _ _; refine Lock.out ?_)
  refine ⟨?_, trivial⟩
  refine wl_loadG (by simp [Region.wanted, yielded]) 48 (.tmp 3) rfl (HB.out.ext (by repeat (first | exact Ext.refl _ | assumption | apply Ext.plus_ | apply Ext.alloc | apply Ext.drew))) rfl Try.underlying48 rfl (by kernel_rfl) ?_
  go_wp2_with fail
  refine (C2.out _).mono ?_
  rintro e w1 ⟨rfl, hE⟩
  obtain ⟨x, rfl⟩ := hE.plus
  clear hE
  cases b2
  · go_wp2
    go_ret
    exact ⟨rfl, HE.out.trans (by repeat (first | exact Ext.refl _ | assumption | apply Ext.plus_ | apply Ext.alloc | apply Ext.drew))⟩
  clear C2
  go_wp2_with (with_reducible show wpList _ _ _ (⟨some 15, _, _, _, _, _⟩ :: _) _ _; refine Lock.out ?_)
  refine ⟨?_, trivial⟩
  refine wl_loadG (by simp [Region.wanted, yielded]) 48 (.tmp 3) rfl (HB.out.ext (by repeat (first | exact Ext.refl _ | assumption | apply Ext.plus_ | apply Ext.alloc | apply Ext.drew))) rfl Try.underlying48 rfl (by kernel_rfl) ?_
  go_wp2_with fail
  refine (C3.out _ (HE.out.trans (by repeat (first | exact Ext.refl _ | assumption | apply Ext.plus_ | apply Ext.alloc | apply Ext.drew)))).mono ?_
  rintro e w1 ⟨rfl, hE⟩
  obtain ⟨x, rfl⟩ := hE.plus
  clear hE
  cases b3
  · go_wp2
    go_ret
    exact ⟨rfl, HE.out.trans (by repeat (first | exact Ext.refl _ | assumption | apply Ext.plus_ | apply Ext.alloc | apply Ext.drew))⟩
  clear C3
  go_wp2_with fail
  refine (C4.out _ (HE.out.trans (by repeat (first | exact Ext.refl _ | assumption | apply Ext.plus_ | apply Ext.alloc | apply Ext.drew)))).mono ?_
  cases pb
  · rintro e w1 ⟨rfl, hE⟩
    obtain ⟨x, rfl⟩ := hE.plus
    clear hE
    go_wp2
    go_ret
    exact ⟨rfl, HE.out.trans (by repeat (first | exact Ext.refl _ | assumption | apply Ext.plus_ | apply Ext.alloc | apply Ext.drew))⟩
  · rintro e w1 ⟨rfl, hE⟩
    obtain ⟨x, rfl⟩ := hE.plus
    clear hE
    go_wp2
    go_ret
    exact ⟨rfl, HE.out.trans (by repeat (first | exact Ext.refl _ | assumption | apply Ext.plus_ | apply Ext.alloc | apply Ext.drew))⟩
end Go.Proofs.Ytlcopiepcpangaa
