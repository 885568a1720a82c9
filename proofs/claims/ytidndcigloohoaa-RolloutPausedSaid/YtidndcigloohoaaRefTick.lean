/- Rollouts: the reference's Tick. -/
import Derived.Test.YtidndcigloohoaaRoll2
set_option linter.unusedVariables false
namespace Go.Proofs.Ytidndcigloohoaa
open Go.RowKit Go.Rg

set_option maxHeartbeats 1000000 in
theorem refTickOff (A : Option Addr) (n c : Nat) (mi nu de ho wi : Int) (r : Ro) (w : World) (hs : r.s ≠ 1) :
    Calls Try.prog 13 #[rv r, pl A n c mi nu de ho wi] w fun e w' => e = .returned (rv r) ∧ Ext w w' := by
  obtain ⟨s, g, h, t, e, a⟩ := r
  simp only at hs
  go_enter Try.func13, Try.ntmps13
  go_wp2
  refine bodyPost_ret (v := (rv ⟨s, g, h, t, e, a⟩)) (by simp [results, Try.results13, go_sem]) rfl ?_
  refine ⟨rfl, ?_⟩
  repeat (first | exact Ext.refl _ | apply Ext.drew | apply Ext.drewN | apply Ext.plus_ | apply Ext.alloc | assumption)
set_option maxHeartbeats 2000000 in
theorem refTick_on_goes (A : Option Addr) (n c : Nat) (l : List Int) (mi nu de ho wi : Int) (r : Ro) (w : World) (hr : Row w w.heap.size 1 A n (ints l)) (hc : n ≤ c) (hP : PlanOK l mi nu de ho wi) (hI : InvR n ho r) (hs : r.s = 1) (hlt : max r.a 0 + 1 < wi) :
    Calls Try.prog 13 #[rv r, pl A n c mi nu de ho wi] w fun e w' => e = .returned (rv (tickR l mi nu de ho wi r)) ∧ Ext w w' := by
  obtain ⟨s, g, h, t, e, a⟩ := r
  simp only at hs hlt
  subst hs
  have hl := ints_len hr
  have hwi : wi ≤ 1000000 := hP.wi2
  have hn8 : n ≤ 8 := by have := hP.n2; omega
  have hho : ho ≤ 100 := hP.ho2
  have HI := Lib.hid (And.intro hr (And.intro hI (And.intro hl hP)))
  clear hr hI hl hP
  go_enter Try.func13, Try.ntmps13
  go_wp2_with fail
  refine calls_at fun W hW => ?_
  obtain ⟨N, hN⟩ : ∃ N, N = w.heap.size := ⟨_, rfl⟩
  have hB0 : Box N [.int .i64 1, .int .i64 g, .int .i64 h, .int .i64 t, .int .i64 e, .int .i64 a] N W := by
    rw [hW]
    repeat' (first | with_reducible assumption | ((with_reducible refine Box.fresh ?fb ?fn ?fr); (case fb => first | omega | (simp <;> omega)); (case fn => first | omega | (simp <;> omega)); (case fr => rfl)) | with_reducible apply Box.up | with_reducible apply Box.drew_ | with_reducible apply Box.drewN_ | with_reducible apply Box.plus_ | with_reducible apply Box.put | with_reducible refine Box.off ?_ (by omega))
    all_goals first | rfl | (simp; done)
  have hB1 : Box N [.slice A n c, .int .i64 mi, .int .i64 nu, .int .i64 de, .int .i64 ho, .int .i64 wi] (N + 1) W := by
    rw [hW]
    repeat' (first | with_reducible assumption | ((with_reducible refine Box.fresh ?fb ?fn ?fr); (case fb => first | omega | (simp <;> omega)); (case fn => first | omega | (simp <;> omega)); (case fr => rfl)) | with_reducible apply Box.up | with_reducible apply Box.drew_ | with_reducible apply Box.drewN_ | with_reducible apply Box.plus_ | with_reducible apply Box.put | with_reducible refine Box.off ?_ (by omega))
    all_goals first | rfl | (simp; done)
  have hB2 : Box N [.int .i64 0, .int .i64 0, .int .i64 0, .int .i64 0, .int .i64 0, .int .i64 0] (N + 1 + 1) W := by
    rw [hW]
    repeat' (first | with_reducible assumption | ((with_reducible refine Box.fresh ?fb ?fn ?fr); (case fb => first | omega | (simp <;> omega)); (case fn => first | omega | (simp <;> omega)); (case fr => rfl)) | with_reducible apply Box.up | with_reducible apply Box.drew_ | with_reducible apply Box.drewN_ | with_reducible apply Box.plus_ | with_reducible apply Box.put | with_reducible refine Box.off ?_ (by omega))
    all_goals first | rfl | (simp; done)
  have hE0 : Ext w W := by
    rw [hW]
    repeat' (first | with_reducible assumption | with_reducible exact Ext.refl _ | with_reducible apply Ext.alloc | with_reducible apply Ext.drew | with_reducible apply Ext.drewN | with_reducible apply Ext.plus_ | with_reducible refine Ext.put ?_ (by omega))
  rw [← hN]
  clear hW
  have HN := Lib.hid hN
  clear hN
  refine (refTick_goes t e a wi _ (by omega) hlt).mono ?_
  rintro ee X ⟨rfl, hE⟩
  replace hB0 := hB0.ext hE
  replace hB1 := hB1.ext hE
  replace hB2 := hB2.ext hE
  have hE1 := hE0.trans hE
  clear hE hE0
  have k0 := hB0.cell 0 (by simp)
  have k1 := hB0.cell 1 (by simp)
  have k2 := hB0.cell 2 (by simp)
  have k3 := hB0.cell 3 (by simp)
  have k4 := hB0.cell 4 (by simp)
  have k5 := hB0.cell 5 (by simp)
  simp only [List.getElem?_cons_zero, List.getElem?_cons_succ] at k0 k1 k2 k3 k4 k5
  have kF := hB0.free
  have kL := hB0.lt
  have kB := hB0.base
  have p0 := hB1.cell 0 (by simp)
  have p1 := hB1.cell 1 (by simp)
  have p2 := hB1.cell 2 (by simp)
  have p3 := hB1.cell 3 (by simp)
  have p4 := hB1.cell 4 (by simp)
  have p5 := hB1.cell 5 (by simp)
  simp only [List.getElem?_cons_zero, List.getElem?_cons_succ] at p0 p1 p2 p3 p4 p5
  have pF := hB1.free
  have pL := hB1.lt
  have pB := hB1.base
  have m0 := hB2.cell 0 (by simp)
  have m1 := hB2.cell 1 (by simp)
  have m2 := hB2.cell 2 (by simp)
  have m3 := hB2.cell 3 (by simp)
  have m4 := hB2.cell 4 (by simp)
  have m5 := hB2.cell 5 (by simp)
  simp only [List.getElem?_cons_zero, List.getElem?_cons_succ] at m0 m1 m2 m3 m4 m5
  have mF := hB2.free
  have mL := hB2.lt
  have mB := hB2.base
  have HR := Lib.hid (show tickR l mi nu de ho wi ⟨1, g, h, t, e, a⟩ = ⟨1, g, h, t, e, max a 0 + 1⟩ by unfold tickR; rw [if_pos rfl, if_neg (by show ¬ wi ≤ max a 0 + 1; omega)])
  obtain ⟨ma, hma⟩ : ∃ ma, ma = max a 0 + 1 := ⟨_, rfl⟩
  rw [← hma] at HR ⊢
  have HE := Lib.hid (And.intro hE1 (And.intro hB0 hB2))
  clear hlt hma hB0 hB1 hB2 hE1
  clear p0 p1 p2 p3 p4 pF pL pB
  go_wp2_with (with_reducible show wpList _ _ _ (⟨some 25, _, _, _, _, _⟩ :: _) _ _; refine Lock.out ?_)
  refine ⟨?_, trivial⟩
  refine wl_at fun Y hY => ?_
  obtain ⟨hE1, hB0, hB2⟩ := HE.out
  have hN := HN.out
  replace hB0 : Box N [.int .i64 1, .int .i64 g, .int .i64 h, .int .i64 t, .int .i64 e, .int .i64 ma] N Y := by
    rw [hY]
    repeat' (first | with_reducible assumption | ((with_reducible refine Box.fresh ?fb ?fn ?fr); (case fb => first | omega | (simp <;> omega)); (case fn => first | omega | (simp <;> omega)); (case fr => rfl)) | with_reducible apply Box.up | with_reducible apply Box.drew_ | with_reducible apply Box.drewN_ | with_reducible apply Box.plus_ | with_reducible apply Box.put | with_reducible refine Box.off ?_ (by omega))
    all_goals first | rfl | (simp; done)
  replace hB2 : Box N [.int .i64 0, .int .i64 0, .int .i64 0, .int .i64 0, .int .i64 0, .int .i64 0] (N + 1 + 1) Y := by
    rw [hY]
    repeat' (first | with_reducible assumption | ((with_reducible refine Box.fresh ?fb ?fn ?fr); (case fb => first | omega | (simp <;> omega)); (case fn => first | omega | (simp <;> omega)); (case fr => rfl)) | with_reducible apply Box.up | with_reducible apply Box.drew_ | with_reducible apply Box.drewN_ | with_reducible apply Box.plus_ | with_reducible apply Box.put | with_reducible refine Box.off ?_ (by omega))
    all_goals first | rfl | (simp; done)
  have hEY : Ext w Y := by
    rw [hY]
    repeat' (first | with_reducible assumption | with_reducible exact Ext.refl _ | with_reducible apply Ext.alloc | with_reducible apply Ext.drew | with_reducible apply Ext.drewN | with_reducible apply Ext.plus_ | with_reducible refine Ext.put ?_ (by omega))
  clear HE hE1 hY hN k0 k1 k2 k3 k4 k5 kF kL kB m0 m1 m2 m3 m4 m5 mF mL mB
  have k0 := hB0.cell 0 (by simp)
  have k1 := hB0.cell 1 (by simp)
  have k2 := hB0.cell 2 (by simp)
  have k3 := hB0.cell 3 (by simp)
  have k4 := hB0.cell 4 (by simp)
  have k5 := hB0.cell 5 (by simp)
  simp only [List.getElem?_cons_zero, List.getElem?_cons_succ] at k0 k1 k2 k3 k4 k5
  have kF := hB0.free
  have kL := hB0.lt
  have kB := hB0.base
  have m0 := hB2.cell 0 (by simp)
  have m1 := hB2.cell 1 (by simp)
  have m2 := hB2.cell 2 (by simp)
  have m3 := hB2.cell 3 (by simp)
  have m4 := hB2.cell 4 (by simp)
  have m5 := hB2.cell 5 (by simp)
  simp only [List.getElem?_cons_zero, List.getElem?_cons_succ] at m0 m1 m2 m3 m4 m5
  have mF := hB2.free
  have mL := hB2.lt
  have mB := hB2.base
  have HE := Lib.hid hEY
  clear hB0 hB2 hEY
  go_wp2
  refine bodyPost_ret (v := (rv ⟨1, g, h, t, e, ma⟩)) (by simp [results, Try.results13, go_sem, m0, m1, m2, m3, m4, m5, mL]) rfl ?_
  rw [HR.out]
  refine ⟨rfl, ?_⟩
  have hE1 := HE.out
  have hN := HN.out
  repeat' (first | with_reducible assumption | with_reducible exact Ext.refl _ | with_reducible apply Ext.alloc | with_reducible apply Ext.drew | with_reducible apply Ext.drewN | with_reducible apply Ext.plus_ | with_reducible refine Ext.put ?_ (by omega))
set_option maxHeartbeats 2000000 in
theorem refTick_on_closes (A : Option Addr) (n c : Nat) (l : List Int) (mi nu de ho wi : Int) (r : Ro) (w : World) (hr : Row w w.heap.size 1 A n (ints l)) (hc : n ≤ c) (hP : PlanOK l mi nu de ho wi) (hI : InvR n ho r) (hs : r.s = 1) (hlt : wi ≤ max r.a 0 + 1) :
    Calls Try.prog 13 #[rv r, pl A n c mi nu de ho wi] w fun e w' => e = .returned (rv (tickR l mi nu de ho wi r)) ∧ Ext w w' := by
  obtain ⟨s, g, h, t, e, a⟩ := r
  simp only at hs hlt
  subst hs
  have hl := ints_len hr
  have hwi : wi ≤ 1000000 := hP.wi2
  have hn8 : n ≤ 8 := by have := hP.n2; omega
  have hho : ho ≤ 100 := hP.ho2
  have HI := Lib.hid (And.intro hr (And.intro hI (And.intro hl hP)))
  clear hr hI hl hP
  go_enter Try.func13, Try.ntmps13
  go_wp2_with fail
  refine calls_at fun W hW => ?_
  obtain ⟨N, hN⟩ : ∃ N, N = w.heap.size := ⟨_, rfl⟩
  have hB0 : Box N [.int .i64 1, .int .i64 g, .int .i64 h, .int .i64 t, .int .i64 e, .int .i64 a] N W := by
    rw [hW]
    repeat' (first | with_reducible assumption | ((with_reducible refine Box.fresh ?fb ?fn ?fr); (case fb => first | omega | (simp <;> omega)); (case fn => first | omega | (simp <;> omega)); (case fr => rfl)) | with_reducible apply Box.up | with_reducible apply Box.drew_ | with_reducible apply Box.drewN_ | with_reducible apply Box.plus_ | with_reducible apply Box.put | with_reducible refine Box.off ?_ (by omega))
    all_goals first | rfl | (simp; done)
  have hB1 : Box N [.slice A n c, .int .i64 mi, .int .i64 nu, .int .i64 de, .int .i64 ho, .int .i64 wi] (N + 1) W := by
    rw [hW]
    repeat' (first | with_reducible assumption | ((with_reducible refine Box.fresh ?fb ?fn ?fr); (case fb => first | omega | (simp <;> omega)); (case fn => first | omega | (simp <;> omega)); (case fr => rfl)) | with_reducible apply Box.up | with_reducible apply Box.drew_ | with_reducible apply Box.drewN_ | with_reducible apply Box.plus_ | with_reducible apply Box.put | with_reducible refine Box.off ?_ (by omega))
    all_goals first | rfl | (simp; done)
  have hB2 : Box N [.int .i64 0, .int .i64 0, .int .i64 0, .int .i64 0, .int .i64 0, .int .i64 0] (N + 1 + 1) W := by
    rw [hW]
    repeat' (first | with_reducible assumption | ((with_reducible refine Box.fresh ?fb ?fn ?fr); (case fb => first | omega | (simp <;> omega)); (case fn => first | omega | (simp <;> omega)); (case fr => rfl)) | with_reducible apply Box.up | with_reducible apply Box.drew_ | with_reducible apply Box.drewN_ | with_reducible apply Box.plus_ | with_reducible apply Box.put | with_reducible refine Box.off ?_ (by omega))
    all_goals first | rfl | (simp; done)
  have hE0 : Ext w W := by
    rw [hW]
    repeat' (first | with_reducible assumption | with_reducible exact Ext.refl _ | with_reducible apply Ext.alloc | with_reducible apply Ext.drew | with_reducible apply Ext.drewN | with_reducible apply Ext.plus_ | with_reducible refine Ext.put ?_ (by omega))
  rw [← hN]
  clear hW
  have HN := Lib.hid hN
  clear hN
  refine (refTick_closes t e a wi _ (by omega) hlt).mono ?_
  rintro ee X ⟨rfl, hE⟩
  replace hB0 := hB0.ext hE
  replace hB1 := hB1.ext hE
  replace hB2 := hB2.ext hE
  have hE1 := hE0.trans hE
  clear hE hE0
  have k0 := hB0.cell 0 (by simp)
  have k1 := hB0.cell 1 (by simp)
  have k2 := hB0.cell 2 (by simp)
  have k3 := hB0.cell 3 (by simp)
  have k4 := hB0.cell 4 (by simp)
  have k5 := hB0.cell 5 (by simp)
  simp only [List.getElem?_cons_zero, List.getElem?_cons_succ] at k0 k1 k2 k3 k4 k5
  have kF := hB0.free
  have kL := hB0.lt
  have kB := hB0.base
  have p0 := hB1.cell 0 (by simp)
  have p1 := hB1.cell 1 (by simp)
  have p2 := hB1.cell 2 (by simp)
  have p3 := hB1.cell 3 (by simp)
  have p4 := hB1.cell 4 (by simp)
  have p5 := hB1.cell 5 (by simp)
  simp only [List.getElem?_cons_zero, List.getElem?_cons_succ] at p0 p1 p2 p3 p4 p5
  have pF := hB1.free
  have pL := hB1.lt
  have pB := hB1.base
  have m0 := hB2.cell 0 (by simp)
  have m1 := hB2.cell 1 (by simp)
  have m2 := hB2.cell 2 (by simp)
  have m3 := hB2.cell 3 (by simp)
  have m4 := hB2.cell 4 (by simp)
  have m5 := hB2.cell 5 (by simp)
  simp only [List.getElem?_cons_zero, List.getElem?_cons_succ] at m0 m1 m2 m3 m4 m5
  have mF := hB2.free
  have mL := hB2.lt
  have mB := hB2.base
  have H0 := Lib.hid (And.intro hB0 (And.intro hB1 (And.intro hB2 hE1)))
  clear hB0 hB1 hB2 hE1
  have HR0 := Lib.hid (show tickR l mi nu de ho wi ⟨1, g, h, t, e, a⟩ = (if vd l mi nu de ho wi t e = 3 then at_ 3
      else if vd l mi nu de ho wi t e = 1 then ⟨1, g, 0, 0, 0, 0⟩
      else if vd l mi nu de ho wi t e = 2 then healR l.length ho ⟨1, g, h, 0, 0, 0⟩
      else ⟨1, g, h, 0, 0, 0⟩) by unfold tickR; rw [if_pos rfl, if_pos hlt])
  clear hlt
  go_wp2_with fail
  obtain ⟨hB0, hB1, hB2, hE1⟩ := H0.out
  have hN := HN.out
  refine calls_at fun Y hY => ?_
  replace hB0 : Box N [.int .i64 1, .int .i64 g, .int .i64 h, .int .i64 0, .int .i64 0, .int .i64 0] N Y := by
    rw [hY]
    repeat' (first | with_reducible assumption | ((with_reducible refine Box.fresh ?fb ?fn ?fr); (case fb => first | omega | (simp <;> omega)); (case fn => first | omega | (simp <;> omega)); (case fr => rfl)) | with_reducible apply Box.up | with_reducible apply Box.drew_ | with_reducible apply Box.drewN_ | with_reducible apply Box.plus_ | with_reducible apply Box.put | with_reducible refine Box.off ?_ (by omega))
    all_goals first | rfl | (simp; done)
  replace hB1 : Box N [.slice A n c, .int .i64 mi, .int .i64 nu, .int .i64 de, .int .i64 ho, .int .i64 wi] (N + 1) Y := by
    rw [hY]
    repeat' (first | with_reducible assumption | ((with_reducible refine Box.fresh ?fb ?fn ?fr); (case fb => first | omega | (simp <;> omega)); (case fn => first | omega | (simp <;> omega)); (case fr => rfl)) | with_reducible apply Box.up | with_reducible apply Box.drew_ | with_reducible apply Box.drewN_ | with_reducible apply Box.plus_ | with_reducible apply Box.put | with_reducible refine Box.off ?_ (by omega))
    all_goals first | rfl | (simp; done)
  replace hB2 : Box N [.int .i64 0, .int .i64 0, .int .i64 0, .int .i64 0, .int .i64 0, .int .i64 0] (N + 1 + 1) Y := by
    rw [hY]
    repeat' (first | with_reducible assumption | ((with_reducible refine Box.fresh ?fb ?fn ?fr); (case fb => first | omega | (simp <;> omega)); (case fn => first | omega | (simp <;> omega)); (case fr => rfl)) | with_reducible apply Box.up | with_reducible apply Box.drew_ | with_reducible apply Box.drewN_ | with_reducible apply Box.plus_ | with_reducible apply Box.put | with_reducible refine Box.off ?_ (by omega))
    all_goals first | rfl | (simp; done)
  have hEY : Ext w Y := by
    rw [hY]
    repeat' (first | with_reducible assumption | with_reducible exact Ext.refl _ | with_reducible apply Ext.alloc | with_reducible apply Ext.drew | with_reducible apply Ext.drewN | with_reducible apply Ext.plus_ | with_reducible refine Ext.put ?_ (by omega))
  clear hY hE1 k0 k1 k2 k3 k4 k5 kF kL kB p0 p1 p2 p3 p4 p5 pF pL pB m0 m1 m2 m3 m4 m5 mF mL mB H0 hN
  refine (refVerdict_any A n c l mi nu de ho wi t e a _ (HI.out.1.lift hEY) hc (by omega)).mono ?_
  rintro ee Z ⟨rfl, hE⟩
  replace hB0 := hB0.ext hE
  replace hB1 := hB1.ext hE
  replace hB2 := hB2.ext hE
  have hHY := hEY.trans hE
  clear hE hEY
  obtain ⟨v, hv⟩ : ∃ v, v = vd l mi nu de ho wi t e := ⟨_, rfl⟩
  rw [← hv] at HR0 ⊢
  clear hv
  by_cases v3 : v = 3
  · subst v3
    have HR := Lib.hid (HR0.out.trans (if_pos rfl))
    clear HR0
    have hHX := hHY
    clear hHY
    have k0 := hB0.cell 0 (by simp)
    have k1 := hB0.cell 1 (by simp)
    have k2 := hB0.cell 2 (by simp)
    have k3 := hB0.cell 3 (by simp)
    have k4 := hB0.cell 4 (by simp)
    have k5 := hB0.cell 5 (by simp)
    simp only [List.getElem?_cons_zero, List.getElem?_cons_succ] at k0 k1 k2 k3 k4 k5
    have kF := hB0.free
    have kL := hB0.lt
    have kB := hB0.base
    have p0 := hB1.cell 0 (by simp)
    have p1 := hB1.cell 1 (by simp)
    have p2 := hB1.cell 2 (by simp)
    have p3 := hB1.cell 3 (by simp)
    have p4 := hB1.cell 4 (by simp)
    have p5 := hB1.cell 5 (by simp)
    simp only [List.getElem?_cons_zero, List.getElem?_cons_succ] at p0 p1 p2 p3 p4 p5
    have pF := hB1.free
    have pL := hB1.lt
    have pB := hB1.base
    have m0 := hB2.cell 0 (by simp)
    have m1 := hB2.cell 1 (by simp)
    have m2 := hB2.cell 2 (by simp)
    have m3 := hB2.cell 3 (by simp)
    have m4 := hB2.cell 4 (by simp)
    have m5 := hB2.cell 5 (by simp)
    simp only [List.getElem?_cons_zero, List.getElem?_cons_succ] at m0 m1 m2 m3 m4 m5
    have mF := hB2.free
    have mL := hB2.lt
    have mB := hB2.base
    have HE := Lib.hid hHX
    clear hB0 hB1 hB2 hHX
    go_wp2
    refine bodyPost_ret (v := (.agg #[.int .i64 3, .int .i64 0, .int .i64 0, .int .i64 0, .int .i64 0, .int .i64 0])) (by simp [results, Try.results13, go_sem, m0, m1, m2, m3, m4, m5, mL]) rfl ?_
    rw [HR.out]
    refine ⟨rfl, ?_⟩
    have hE1 := HE.out
    have hN := HN.out
    repeat' (first | with_reducible assumption | with_reducible exact Ext.refl _ | with_reducible apply Ext.alloc | with_reducible apply Ext.drew | with_reducible apply Ext.drewN | with_reducible apply Ext.plus_ | with_reducible refine Ext.put ?_ (by omega))
  by_cases v1 : v = 1
  · subst v1
    have HR := Lib.hid (HR0.out.trans ((if_neg v3).trans (if_pos rfl)))
    clear HR0
    have hHX := hHY
    clear hHY
    have k0 := hB0.cell 0 (by simp)
    have k1 := hB0.cell 1 (by simp)
    have k2 := hB0.cell 2 (by simp)
    have k3 := hB0.cell 3 (by simp)
    have k4 := hB0.cell 4 (by simp)
    have k5 := hB0.cell 5 (by simp)
    simp only [List.getElem?_cons_zero, List.getElem?_cons_succ] at k0 k1 k2 k3 k4 k5
    have kF := hB0.free
    have kL := hB0.lt
    have kB := hB0.base
    have p0 := hB1.cell 0 (by simp)
    have p1 := hB1.cell 1 (by simp)
    have p2 := hB1.cell 2 (by simp)
    have p3 := hB1.cell 3 (by simp)
    have p4 := hB1.cell 4 (by simp)
    have p5 := hB1.cell 5 (by simp)
    simp only [List.getElem?_cons_zero, List.getElem?_cons_succ] at p0 p1 p2 p3 p4 p5
    have pF := hB1.free
    have pL := hB1.lt
    have pB := hB1.base
    have m0 := hB2.cell 0 (by simp)
    have m1 := hB2.cell 1 (by simp)
    have m2 := hB2.cell 2 (by simp)
    have m3 := hB2.cell 3 (by simp)
    have m4 := hB2.cell 4 (by simp)
    have m5 := hB2.cell 5 (by simp)
    simp only [List.getElem?_cons_zero, List.getElem?_cons_succ] at m0 m1 m2 m3 m4 m5
    have mF := hB2.free
    have mL := hB2.lt
    have mB := hB2.base
    have HE := Lib.hid hHX
    clear hB0 hB1 hB2 hHX
    go_wp2
    refine bodyPost_ret (v := (rv ⟨1, g, 0, 0, 0, 0⟩)) (by simp [results, Try.results13, go_sem, m0, m1, m2, m3, m4, m5, mL]) rfl ?_
    rw [HR.out]
    refine ⟨rfl, ?_⟩
    have hE1 := HE.out
    have hN := HN.out
    repeat' (first | with_reducible assumption | with_reducible exact Ext.refl _ | with_reducible apply Ext.alloc | with_reducible apply Ext.drew | with_reducible apply Ext.drewN | with_reducible apply Ext.plus_ | with_reducible refine Ext.put ?_ (by omega))
  by_cases v2 : v = 2
  · subst v2
    have HR := Lib.hid (HR0.out.trans ((if_neg v3).trans ((if_neg v1).trans (if_pos rfl))))
    clear HR0
    obtain ⟨i1, i2, i3, i4⟩ := HI.out.2.1
    rw [HI.out.2.2.1] at HR
    simp only at i1 i2 i3 i4
    by_cases e1 : h + 1 = ho
    · subst e1
      by_cases e2 : g + 1 = n
      · have HR := Lib.hid (HR.out.trans (show healR n (h + 1) ⟨1, g, h, 0, 0, 0⟩ = at_ 2 by unfold healR; rw [if_pos rfl, if_neg (by show ¬ (g + 1 < (n : Int)); omega)]))
        have hHX := hHY
        clear hHY
        have k0 := hB0.cell 0 (by simp)
        have k1 := hB0.cell 1 (by simp)
        have k2 := hB0.cell 2 (by simp)
        have k3 := hB0.cell 3 (by simp)
        have k4 := hB0.cell 4 (by simp)
        have k5 := hB0.cell 5 (by simp)
        simp only [List.getElem?_cons_zero, List.getElem?_cons_succ] at k0 k1 k2 k3 k4 k5
        have kF := hB0.free
        have kL := hB0.lt
        have kB := hB0.base
        have p0 := hB1.cell 0 (by simp)
        have p1 := hB1.cell 1 (by simp)
        have p2 := hB1.cell 2 (by simp)
        have p3 := hB1.cell 3 (by simp)
        have p4 := hB1.cell 4 (by simp)
        have p5 := hB1.cell 5 (by simp)
        simp only [List.getElem?_cons_zero, List.getElem?_cons_succ] at p0 p1 p2 p3 p4 p5
        have pF := hB1.free
        have pL := hB1.lt
        have pB := hB1.base
        have m0 := hB2.cell 0 (by simp)
        have m1 := hB2.cell 1 (by simp)
        have m2 := hB2.cell 2 (by simp)
        have m3 := hB2.cell 3 (by simp)
        have m4 := hB2.cell 4 (by simp)
        have m5 := hB2.cell 5 (by simp)
        simp only [List.getElem?_cons_zero, List.getElem?_cons_succ] at m0 m1 m2 m3 m4 m5
        have mF := hB2.free
        have mL := hB2.lt
        have mB := hB2.base
        have HE := Lib.hid hHX
        clear hB0 hB1 hB2 hHX
        go_wp2
        refine bodyPost_ret (v := (.agg #[.int .i64 2, .int .i64 0, .int .i64 0, .int .i64 0, .int .i64 0, .int .i64 0])) (by simp [results, Try.results13, go_sem, m0, m1, m2, m3, m4, m5, mL]) rfl ?_
        rw [HR.out]
        refine ⟨rfl, ?_⟩
        have hE1 := HE.out
        have hN := HN.out
        repeat' (first | with_reducible assumption | with_reducible exact Ext.refl _ | with_reducible apply Ext.alloc | with_reducible apply Ext.drew | with_reducible apply Ext.drewN | with_reducible apply Ext.plus_ | with_reducible refine Ext.put ?_ (by omega))
      · have HR := Lib.hid (HR.out.trans (show healR n (h + 1) ⟨1, g, h, 0, 0, 0⟩ = ⟨1, g + 1, 0, 0, 0, 0⟩ by unfold healR; rw [if_pos rfl, if_pos (by show g + 1 < (n : Int); omega)]))
        have e3 : (g + 1 == (n : Int)) = false := by simp [e2]
        have hHX := hHY
        clear hHY
        have k0 := hB0.cell 0 (by simp)
        have k1 := hB0.cell 1 (by simp)
        have k2 := hB0.cell 2 (by simp)
        have k3 := hB0.cell 3 (by simp)
        have k4 := hB0.cell 4 (by simp)
        have k5 := hB0.cell 5 (by simp)
        simp only [List.getElem?_cons_zero, List.getElem?_cons_succ] at k0 k1 k2 k3 k4 k5
        have kF := hB0.free
        have kL := hB0.lt
        have kB := hB0.base
        have p0 := hB1.cell 0 (by simp)
        have p1 := hB1.cell 1 (by simp)
        have p2 := hB1.cell 2 (by simp)
        have p3 := hB1.cell 3 (by simp)
        have p4 := hB1.cell 4 (by simp)
        have p5 := hB1.cell 5 (by simp)
        simp only [List.getElem?_cons_zero, List.getElem?_cons_succ] at p0 p1 p2 p3 p4 p5
        have pF := hB1.free
        have pL := hB1.lt
        have pB := hB1.base
        have m0 := hB2.cell 0 (by simp)
        have m1 := hB2.cell 1 (by simp)
        have m2 := hB2.cell 2 (by simp)
        have m3 := hB2.cell 3 (by simp)
        have m4 := hB2.cell 4 (by simp)
        have m5 := hB2.cell 5 (by simp)
        simp only [List.getElem?_cons_zero, List.getElem?_cons_succ] at m0 m1 m2 m3 m4 m5
        have mF := hB2.free
        have mL := hB2.lt
        have mB := hB2.base
        have HE := Lib.hid hHX
        clear hB0 hB1 hB2 hHX
        go_wp2
        refine bodyPost_ret (v := (rv ⟨1, g + 1, 0, 0, 0, 0⟩)) (by simp [results, Try.results13, go_sem, m0, m1, m2, m3, m4, m5, mL]) rfl ?_
        rw [HR.out]
        refine ⟨rfl, ?_⟩
        have hE1 := HE.out
        have hN := HN.out
        repeat' (first | with_reducible assumption | with_reducible exact Ext.refl _ | with_reducible apply Ext.alloc | with_reducible apply Ext.drew | with_reducible apply Ext.drewN | with_reducible apply Ext.plus_ | with_reducible refine Ext.put ?_ (by omega))
    · have HR := Lib.hid (HR.out.trans (show healR n ho ⟨1, g, h, 0, 0, 0⟩ = ⟨1, g, h + 1, 0, 0, 0⟩ by unfold healR; rw [if_neg e1]))
      have e3 : (h + 1 == ho) = false := by simp [e1]
      have hHX := hHY
      clear hHY
      have k0 := hB0.cell 0 (by simp)
      have k1 := hB0.cell 1 (by simp)
      have k2 := hB0.cell 2 (by simp)
      have k3 := hB0.cell 3 (by simp)
      have k4 := hB0.cell 4 (by simp)
      have k5 := hB0.cell 5 (by simp)
      simp only [List.getElem?_cons_zero, List.getElem?_cons_succ] at k0 k1 k2 k3 k4 k5
      have kF := hB0.free
      have kL := hB0.lt
      have kB := hB0.base
      have p0 := hB1.cell 0 (by simp)
      have p1 := hB1.cell 1 (by simp)
      have p2 := hB1.cell 2 (by simp)
      have p3 := hB1.cell 3 (by simp)
      have p4 := hB1.cell 4 (by simp)
      have p5 := hB1.cell 5 (by simp)
      simp only [List.getElem?_cons_zero, List.getElem?_cons_succ] at p0 p1 p2 p3 p4 p5
      have pF := hB1.free
      have pL := hB1.lt
      have pB := hB1.base
      have m0 := hB2.cell 0 (by simp)
      have m1 := hB2.cell 1 (by simp)
      have m2 := hB2.cell 2 (by simp)
      have m3 := hB2.cell 3 (by simp)
      have m4 := hB2.cell 4 (by simp)
      have m5 := hB2.cell 5 (by simp)
      simp only [List.getElem?_cons_zero, List.getElem?_cons_succ] at m0 m1 m2 m3 m4 m5
      have mF := hB2.free
      have mL := hB2.lt
      have mB := hB2.base
      have HE := Lib.hid hHX
      clear hB0 hB1 hB2 hHX
      go_wp2
      refine bodyPost_ret (v := (rv ⟨1, g, h + 1, 0, 0, 0⟩)) (by simp [results, Try.results13, go_sem, m0, m1, m2, m3, m4, m5, mL]) rfl ?_
      rw [HR.out]
      refine ⟨rfl, ?_⟩
      have hE1 := HE.out
      have hN := HN.out
      repeat' (first | with_reducible assumption | with_reducible exact Ext.refl _ | with_reducible apply Ext.alloc | with_reducible apply Ext.drew | with_reducible apply Ext.drewN | with_reducible apply Ext.plus_ | with_reducible refine Ext.put ?_ (by omega))
  · have HR := Lib.hid (HR0.out.trans ((if_neg v3).trans ((if_neg v1).trans (if_neg v2))))
    clear HR0
    have hHX := hHY
    clear hHY
    have k0 := hB0.cell 0 (by simp)
    have k1 := hB0.cell 1 (by simp)
    have k2 := hB0.cell 2 (by simp)
    have k3 := hB0.cell 3 (by simp)
    have k4 := hB0.cell 4 (by simp)
    have k5 := hB0.cell 5 (by simp)
    simp only [List.getElem?_cons_zero, List.getElem?_cons_succ] at k0 k1 k2 k3 k4 k5
    have kF := hB0.free
    have kL := hB0.lt
    have kB := hB0.base
    have p0 := hB1.cell 0 (by simp)
    have p1 := hB1.cell 1 (by simp)
    have p2 := hB1.cell 2 (by simp)
    have p3 := hB1.cell 3 (by simp)
    have p4 := hB1.cell 4 (by simp)
    have p5 := hB1.cell 5 (by simp)
    simp only [List.getElem?_cons_zero, List.getElem?_cons_succ] at p0 p1 p2 p3 p4 p5
    have pF := hB1.free
    have pL := hB1.lt
    have pB := hB1.base
    have m0 := hB2.cell 0 (by simp)
    have m1 := hB2.cell 1 (by simp)
    have m2 := hB2.cell 2 (by simp)
    have m3 := hB2.cell 3 (by simp)
    have m4 := hB2.cell 4 (by simp)
    have m5 := hB2.cell 5 (by simp)
    simp only [List.getElem?_cons_zero, List.getElem?_cons_succ] at m0 m1 m2 m3 m4 m5
    have mF := hB2.free
    have mL := hB2.lt
    have mB := hB2.base
    have HE := Lib.hid hHX
    clear hB0 hB1 hB2 hHX
    go_wp2
    refine bodyPost_ret (v := (rv ⟨1, g, h, 0, 0, 0⟩)) (by simp [results, Try.results13, go_sem, m0, m1, m2, m3, m4, m5, mL]) rfl ?_
    rw [HR.out]
    refine ⟨rfl, ?_⟩
    have hE1 := HE.out
    have hN := HN.out
    repeat' (first | with_reducible assumption | with_reducible exact Ext.refl _ | with_reducible apply Ext.alloc | with_reducible apply Ext.drew | with_reducible apply Ext.drewN | with_reducible apply Ext.plus_ | with_reducible refine Ext.put ?_ (by omega))

theorem refTick_any (A : Option Addr) (n c : Nat) (l : List Int) (mi nu de ho wi : Int) (r : Ro) (w : World) (hr : Row w w.heap.size 1 A n (ints l)) (hc : n ≤ c) (hP : PlanOK l mi nu de ho wi) (hI : InvR n ho r) :
    Calls Try.prog 13 #[rv r, pl A n c mi nu de ho wi] w fun e w' => e = .returned (rv (tickR l mi nu de ho wi r)) ∧ Ext w w' := by
  by_cases hs : r.s = 1
  · rcases Int.lt_or_le (max r.a 0 + 1) wi with h | h
    · exact refTick_on_goes A n c l mi nu de ho wi r w hr hc hP hI hs h
    · exact refTick_on_closes A n c l mi nu de ho wi r w hr hc hP hI hs h
  · rw [show tickR l mi nu de ho wi r = r from if_neg hs]
    exact refTickOff A n c mi nu de ho wi r w hs
end Go.Proofs.Ytidndcigloohoaa
