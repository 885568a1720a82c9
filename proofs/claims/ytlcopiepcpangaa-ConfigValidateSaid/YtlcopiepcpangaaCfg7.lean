/- The reference of config.Validate answers as it does; what a valid configuration's numbers are; Hard and Upstream. -/
import Derived.Test.YtlcopiepcpangaaCfg4
import Derived.Test.YtlcopiepcpangaaCfg3
import Derived.Test.YtlcopiepcpangaaCfgS
set_option linter.unusedVariables false
namespace Go.Proofs.Ytlcopiepcpangaa
open Go.RowKit Go.Rg

set_option maxHeartbeats 4000000 in
theorem refConfig_any (c : Cf) (wl : List Int) (ig : List ByteArray) (pb : Bool) (hpb : pb = true ↔ PlanOK wl c.mi c.nu c.de c.ho c.wi) (w : World) (h : CfOK c w wl ig) :
    Calls Try.prog 9 #[cv c] w fun e w' => e = .returned (.int .i64 (if cfB c pb ig then 0 else 8)) ∧ Ext w w' := by
  refine Calls.mono (refConfig_core c.mh c.mb c.mr c.ci c.co c.cl c.ad c.li c.st c.ca c.sh c.te c.di c.dr c.ds c.rp c.pA c.pn c.pc c.mi c.nu c.de c.ho c.wi c.salt c.cook c.mir c.iA c.im c.ik ig
    (inn 64 16384 c.mh) (inn 0 100000 c.mb) (inn 0 100000 c.mr) (inn c.mh 100000 c.ci) (inn 1 100000 c.co) (inn 1 100 c.cl) (inn 1 100 c.ad) (inn 1 100 c.li) (inn 0 100 c.st) (inn 0 100 c.ca) (inn 0 100 c.sh) (inn 0 500000 c.te) (inn 1 1000000 c.di) (inn 1 1000000 c.dr) (inn 1 1000000 c.ds) (inn 0 10000 c.rp) pb (tokB c.cook) w
    (Lib.hid fun W => in_any _ _ _ W) (Lib.hid fun W => in_any _ _ _ W) (Lib.hid fun W => in_any _ _ _ W) (Lib.hid fun W => in_any _ _ _ W) (Lib.hid fun W => in_any _ _ _ W) (Lib.hid fun W => in_any _ _ _ W) (Lib.hid fun W => in_any _ _ _ W) (Lib.hid fun W => in_any _ _ _ W)
    (Lib.hid fun W => in_any _ _ _ W) (Lib.hid fun W => in_any _ _ _ W) (Lib.hid fun W => in_any _ _ _ W) (Lib.hid fun W => in_any _ _ _ W) (Lib.hid fun W => in_any _ _ _ W) (Lib.hid fun W => in_any _ _ _ W) (Lib.hid fun W => in_any _ _ _ W) (Lib.hid fun W => in_any _ _ _ W)
    (Lib.hid fun W e => refPlanB_any c.pA c.pn c.pc wl c.mi c.nu c.de c.ho c.wi pb hpb W (h.pr.lift e) h.pn h.pm) (Lib.hid fun W => refToken_any c.cook h.cs W) h.ir h.im h.ikm (Lib.hid h.si) h.ss h.cs) ?_
  rintro e w' ⟨rfl, hE⟩
  refine ⟨?_, hE⟩
  have q : ∀ x y : Bool, x = y → Ending.returned (.int .i64 (if x then 0 else 8)) = Ending.returned (.int .i64 (if y then 0 else 8)) := fun x y e => by rw [e]
  apply q
  rw [cfB, szB, cnB, nmB]
  ac_rfl
/-- The numbers of a valid configuration. -/
structure CfN (c : Cf) : Prop where
  mh : 64 ≤ c.mh ∧ c.mh ≤ 16384
  mb : 0 ≤ c.mb ∧ c.mb ≤ 100000
  mr : 0 ≤ c.mr ∧ c.mr ≤ 100000
  ci : c.mh ≤ c.ci ∧ c.ci ≤ 100000
  co : 1 ≤ c.co ∧ c.co ≤ 100000
  cl : 1 ≤ c.cl ∧ c.cl ≤ 100
  ad : 1 ≤ c.ad ∧ c.ad ≤ 100
  li : 1 ≤ c.li ∧ c.li ≤ 100
  st : 0 ≤ c.st ∧ c.st ≤ 100
  ca : 0 ≤ c.ca ∧ c.ca ≤ 100
  sh : 0 ≤ c.sh ∧ c.sh ≤ 100
  te : 0 ≤ c.te ∧ c.te ≤ 500000
  rp : 0 ≤ c.rp ∧ c.rp ≤ 10000
theorem CfN.of {c : Cf} {pb : Bool} {ig : List ByteArray} (h : cfB c pb ig = true) : CfN c := by
  simp only [cfB, szB, cnB, nmB, inn, Bool.and_eq_true, decide_eq_true_eq] at h
  obtain ⟨⟨h1, ⟨h2, h3⟩, h4, h5, h6, h7⟩, ⟨⟨h8, h9, h10⟩, ⟨h11, h12, h13⟩, _⟩, _⟩ := h
  exact ⟨h1, h2, h3, h4, h5, h8, h9, h10, h11, h12, h13, h6, h7⟩
def hardV (c : Cf) (b : Bool) : Int := if b then c.co + 2 * c.mh + c.mr + 2000 else 0
def upV (c : Cf) (b : Bool) : Int := if b then 2 * c.mh + c.mb + 2000 else 0
/-- A contract of a function over a configuration, wherever its rows are. -/
abbrev Over (f : FuncId) (c : Cf) (w : World) (v : Value) : Prop := Hid (∀ W, Ext w W → Calls Try.prog f #[cv c] W fun e w' => e = .returned v ∧ Ext W w')
theorem Over.at {f : FuncId} {c : Cf} {w w' : World} {v : Value} (h : Over f c w v) (e : Ext w w') : Over f c w' v := Lib.hid fun W E => h.out W (e.trans E)
set_option maxHeartbeats 4000000 in
theorem hard_any (c : Cf) (b : Bool) (hb : b = true → CfN c) (w : World) (CV : Over 7 c w (.int .i64 (if b then 0 else 8))) :
    Calls Try.prog 11 #[cv c] w fun e w' => e = .returned (.int .i64 (hardV c b)) ∧ Ext w w' := by
  go_enter Try.func11, Try.ntmps11
  go_wp2_with (with_reducible show wpList _ _ _ (⟨some 3, _, _, _, _, _⟩ :: _) _ _; refine Lock.out ?_)
  refine ⟨?_, trivial⟩
  refine wl_at fun U hU => ?_
  have hA : Box 0 c.cells w.heap.size U := by
    rw [hU]
    repeat' (first | with_reducible assumption | ((with_reducible refine Box.fresh ?fb ?fn ?fr); (case fb => first | omega | (simp <;> omega)); (case fn => first | omega | (simp <;> omega)); (case fr => rfl)) | with_reducible apply Box.up | with_reducible apply Box.drew_ | with_reducible apply Box.drewN_ | with_reducible apply Box.plus_ | with_reducible apply Box.put | with_reducible refine Box.off ?_ (by omega))
    all_goals first | rfl | (simp; done)
  have hE : Ext w U := by
    rw [hU]
    repeat' (first | with_reducible assumption | with_reducible exact Ext.refl _ | with_reducible apply Ext.alloc | with_reducible apply Ext.drew | with_reducible apply Ext.drewN | with_reducible apply Ext.plus_ | with_reducible refine Ext.put ?_ (by omega))
  obtain ⟨N, hN⟩ : ∃ N, N = w.heap.size := ⟨_, rfl⟩
  rw [← hN] at hA ⊢
  clear hU hN
  refine wl_load rfl 27 (.tmp 1) rfl hA rfl Try.underlying27 rfl (by kernel_rfl) ?_
  have HA := Lib.hid hA
  have HE := Lib.hid hE
  clear hA hE
  have HB := Lib.hid hb
  clear hb
  go_wp2_with fail
  refine (CV.out _ HE.out).mono ?_
  rintro e X ⟨rfl, hX⟩
  cases b
  · clear HA HB
    have HX := Lib.hid (HE.out.trans hX)
    clear hX HE CV
    go_wp2
    go_ret
    exact ⟨rfl, HX.out⟩
  · have p0 := (HA.out.ext hX).cell 0 (by simp)
    have p1 := (HA.out.ext hX).cell 1 (by simp)
    have p2 := (HA.out.ext hX).cell 2 (by simp)
    have p4 := (HA.out.ext hX).cell 4 (by simp)
    simp only [List.getElem?_cons_zero, List.getElem?_cons_succ] at p0 p1 p2 p4
    have HX := Lib.hid (HE.out.trans hX)
    obtain ⟨b0, b1, b2, -, b4, -⟩ := HB.out rfl
    clear hX HE HA CV HB
    go_wp2
    go_ret
    exact ⟨rfl, HX.out⟩
set_option maxHeartbeats 4000000 in
theorem refHard_any (c : Cf) (b : Bool) (hb : b = true → CfN c) (w : World) (CV : Over 9 c w (.int .i64 (if b then 0 else 8))) :
    Calls Try.prog 12 #[cv c] w fun e w' => e = .returned (.int .i64 (hardV c b)) ∧ Ext w w' := by
  go_enter Try.func12, Try.ntmps12
  go_wp2_with (with_reducible show wpList _ _ _ (⟨some 3, _, _, _, _, _⟩ :: _) _ _; refine Lock.out ?_)
  refine ⟨?_, trivial⟩
  refine wl_at fun U hU => ?_
  have hA : Box 0 c.cells w.heap.size U := by
    rw [hU]
    repeat' (first | with_reducible assumption | ((with_reducible refine Box.fresh ?fb ?fn ?fr); (case fb => first | omega | (simp <;> omega)); (case fn => first | omega | (simp <;> omega)); (case fr => rfl)) | with_reducible apply Box.up | with_reducible apply Box.drew_ | with_reducible apply Box.drewN_ | with_reducible apply Box.plus_ | with_reducible apply Box.put | with_reducible refine Box.off ?_ (by omega))
    all_goals first | rfl | (simp; done)
  have hE : Ext w U := by
    rw [hU]
    repeat' (first | with_reducible assumption | with_reducible exact Ext.refl _ | with_reducible apply Ext.alloc | with_reducible apply Ext.drew | with_reducible apply Ext.drewN | with_reducible apply Ext.plus_ | with_reducible refine Ext.put ?_ (by omega))
  obtain ⟨N, hN⟩ : ∃ N, N = w.heap.size := ⟨_, rfl⟩
  rw [← hN] at hA ⊢
  clear hU hN
  refine wl_load rfl 27 (.tmp 1) rfl hA rfl Try.underlying27 rfl (by kernel_rfl) ?_
  have HA := Lib.hid hA
  have HE := Lib.hid hE
  clear hA hE
  have HB := Lib.hid hb
  clear hb
  go_wp2_with fail
  refine (CV.out _ HE.out).mono ?_
  rintro e X ⟨rfl, hX⟩
  cases b
  · clear HA HB
    have HX := Lib.hid (HE.out.trans hX)
    clear hX HE CV
    go_wp2
    go_ret
    exact ⟨rfl, HX.out⟩
  · have p0 := (HA.out.ext hX).cell 0 (by simp)
    have p1 := (HA.out.ext hX).cell 1 (by simp)
    have p2 := (HA.out.ext hX).cell 2 (by simp)
    have p4 := (HA.out.ext hX).cell 4 (by simp)
    simp only [List.getElem?_cons_zero, List.getElem?_cons_succ] at p0 p1 p2 p4
    have HX := Lib.hid (HE.out.trans hX)
    obtain ⟨b0, b1, b2, -, b4, -⟩ := HB.out rfl
    clear hX HE HA CV HB
    go_wp2
    go_ret
    exact ⟨rfl, HX.out⟩
set_option maxHeartbeats 4000000 in
theorem up_any (c : Cf) (b : Bool) (hb : b = true → CfN c) (w : World) (CV : Over 7 c w (.int .i64 (if b then 0 else 8))) :
    Calls Try.prog 13 #[cv c] w fun e w' => e = .returned (.int .i64 (upV c b)) ∧ Ext w w' := by
  go_enter Try.func13, Try.ntmps13
  go_wp2_with (with_reducible show wpList _ _ _ (⟨some 3, _, _, _, _, _⟩ :: _) _ _; refine Lock.out ?_)
  refine ⟨?_, trivial⟩
  refine wl_at fun U hU => ?_
  have hA : Box 0 c.cells w.heap.size U := by
    rw [hU]
    repeat' (first | with_reducible assumption | ((with_reducible refine Box.fresh ?fb ?fn ?fr); (case fb => first | omega | (simp <;> omega)); (case fn => first | omega | (simp <;> omega)); (case fr => rfl)) | with_reducible apply Box.up | with_reducible apply Box.drew_ | with_reducible apply Box.drewN_ | with_reducible apply Box.plus_ | with_reducible apply Box.put | with_reducible refine Box.off ?_ (by omega))
    all_goals first | rfl | (simp; done)
  have hE : Ext w U := by
    rw [hU]
    repeat' (first | with_reducible assumption | with_reducible exact Ext.refl _ | with_reducible apply Ext.alloc | with_reducible apply Ext.drew | with_reducible apply Ext.drewN | with_reducible apply Ext.plus_ | with_reducible refine Ext.put ?_ (by omega))
  obtain ⟨N, hN⟩ : ∃ N, N = w.heap.size := ⟨_, rfl⟩
  rw [← hN] at hA ⊢
  clear hU hN
  refine wl_load rfl 27 (.tmp 1) rfl hA rfl Try.underlying27 rfl (by kernel_rfl) ?_
  have HA := Lib.hid hA
  have HE := Lib.hid hE
  clear hA hE
  have HB := Lib.hid hb
  clear hb
  go_wp2_with fail
  refine (CV.out _ HE.out).mono ?_
  rintro e X ⟨rfl, hX⟩
  cases b
  · clear HA HB
    have HX := Lib.hid (HE.out.trans hX)
    clear hX HE CV
    go_wp2
    go_ret
    exact ⟨rfl, HX.out⟩
  · have p0 := (HA.out.ext hX).cell 0 (by simp)
    have p1 := (HA.out.ext hX).cell 1 (by simp)
    have p2 := (HA.out.ext hX).cell 2 (by simp)
    have p4 := (HA.out.ext hX).cell 4 (by simp)
    simp only [List.getElem?_cons_zero, List.getElem?_cons_succ] at p0 p1 p2 p4
    have HX := Lib.hid (HE.out.trans hX)
    obtain ⟨b0, b1, b2, -, b4, -⟩ := HB.out rfl
    clear hX HE HA CV HB
    go_wp2
    go_ret
    exact ⟨rfl, HX.out⟩
set_option maxHeartbeats 4000000 in
theorem refUp_any (c : Cf) (b : Bool) (hb : b = true → CfN c) (w : World) (CV : Over 9 c w (.int .i64 (if b then 0 else 8))) :
    Calls Try.prog 14 #[cv c] w fun e w' => e = .returned (.int .i64 (upV c b)) ∧ Ext w w' := by
  go_enter Try.func14, Try.ntmps14
  go_wp2_with (with_reducible show wpList _ _ _ (⟨some 3, _, _, _, _, _⟩ :: _) _ _; refine Lock.out ?_)
  refine ⟨?_, trivial⟩
  refine wl_at fun U hU => ?_
  have hA : Box 0 c.cells w.heap.size U := by
    rw [hU]
    repeat' (first | with_reducible assumption | ((with_reducible refine Box.fresh ?fb ?fn ?fr); (case fb => first | omega | (simp <;> omega)); (case fn => first | omega | (simp <;> omega)); (case fr => rfl)) | with_reducible apply Box.up | with_reducible apply Box.drew_ | with_reducible apply Box.drewN_ | with_reducible apply Box.plus_ | with_reducible apply Box.put | with_reducible refine Box.off ?_ (by omega))
    all_goals first | rfl | (simp; done)
  have hE : Ext w U := by
    rw [hU]
    repeat' (first | with_reducible assumption | with_reducible exact Ext.refl _ | with_reducible apply Ext.alloc | with_reducible apply Ext.drew | with_reducible apply Ext.drewN | with_reducible apply Ext.plus_ | with_reducible refine Ext.put ?_ (by omega))
  obtain ⟨N, hN⟩ : ∃ N, N = w.heap.size := ⟨_, rfl⟩
  rw [← hN] at hA ⊢
  clear hU hN
  refine wl_load rfl 27 (.tmp 1) rfl hA rfl Try.underlying27 rfl (by kernel_rfl) ?_
  have HA := Lib.hid hA
  have HE := Lib.hid hE
  clear hA hE
  have HB := Lib.hid hb
  clear hb
  go_wp2_with fail
  refine (CV.out _ HE.out).mono ?_
  rintro e X ⟨rfl, hX⟩
  cases b
  · clear HA HB
    have HX := Lib.hid (HE.out.trans hX)
    clear hX HE CV
    go_wp2
    go_ret
    exact ⟨rfl, HX.out⟩
  · have p0 := (HA.out.ext hX).cell 0 (by simp)
    have p1 := (HA.out.ext hX).cell 1 (by simp)
    have p2 := (HA.out.ext hX).cell 2 (by simp)
    have p4 := (HA.out.ext hX).cell 4 (by simp)
    simp only [List.getElem?_cons_zero, List.getElem?_cons_succ] at p0 p1 p2 p4
    have HX := Lib.hid (HE.out.trans hX)
    obtain ⟨b0, b1, b2, -, b4, -⟩ := HB.out rfl
    clear hX HE HA CV HB
    go_wp2
    go_ret
    exact ⟨rfl, HX.out⟩
end Go.Proofs.Ytlcopiepcpangaa
