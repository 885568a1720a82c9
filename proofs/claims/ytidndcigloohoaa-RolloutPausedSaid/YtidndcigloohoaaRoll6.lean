/- Rollouts: Run and its reference. -/
import Derived.Test.YtidndcigloohoaaRoll4
import Derived.Test.YtidndcigloohoaaRoll5
set_option linter.unusedVariables false
namespace Go.Proofs.Ytidndcigloohoaa
open Go.RowKit Go.Rg

theorem inv_at (n : Nat) (ho s : Int) (hn : 1 ≤ n) (hh : 1 ≤ ho) : InvR n ho (at_ s) := ⟨by show (0 : Int) ≤ 0; omega, by show (0 : Int) < n; omega, by show (0 : Int) ≤ 0; omega, by show (0 : Int) < ho; omega⟩
theorem inv_heal (n : Nat) (ho : Int) (r : Ro) (hn : 1 ≤ n) (h : InvR n ho r) : InvR n ho (healR n ho r) := by
  obtain ⟨h1, h2, h3, h4⟩ := h
  unfold healR
  split
  · split
    · exact ⟨by show 0 ≤ r.g + 1; omega, by assumption, by show (0 : Int) ≤ 0; omega, by show (0 : Int) < ho; omega⟩
    · exact inv_at n ho 2 hn (by omega)
  · exact ⟨h1, h2, by show 0 ≤ r.h + 1; omega, by show r.h + 1 < ho; omega⟩
theorem inv_tick {l : List Int} {mi nu de ho wi : Int} {r : Ro} (hP : PlanOK l mi nu de ho wi) (h : InvR l.length ho r) : InvR l.length ho (tickR l mi nu de ho wi r) := by
  have hn := hP.n1
  have hh := hP.ho1
  obtain ⟨h1, h2, h3, h4⟩ := h
  unfold tickR
  split
  · split
    · split
      · exact inv_at _ _ _ hn hh
      · split
        · exact ⟨h1, h2, by show (0 : Int) ≤ 0; omega, by show (0 : Int) < ho; omega⟩
        · split
          · exact inv_heal _ _ _ hn ⟨h1, h2, h3, h4⟩
          · exact ⟨h1, h2, h3, h4⟩
    · exact ⟨h1, h2, h3, h4⟩
  · exact ⟨h1, h2, h3, h4⟩
theorem inv_obs {n : Nat} {ho : Int} {r : Ro} (b : Bool) (h : InvR n ho r) : InvR n ho (obsR r b) := by
  unfold obsR
  split <;> exact h
theorem inv_cmd {n : Nat} {ho : Int} {r : Ro} (x : Int) (hn : 1 ≤ n) (hh : 1 ≤ ho) (h : InvR n ho r) : InvR n ho (cmdR r x).1 := by
  have hA := fun s => inv_at n ho s hn hh
  unfold cmdR
  repeat' split
  all_goals first | exact hA _ | exact h
theorem inv_step {l : List Int} {mi nu de ho wi : Int} {r : Ro} (hP : PlanOK l mi nu de ho wi) (k x : Int) (h : InvR l.length ho r) : InvR l.length ho (stepR l mi nu de ho wi r k x) := by
  unfold stepR
  split
  · exact inv_tick hP h
  split
  · exact inv_obs _ h
  split
  · exact inv_obs _ h
  split
  · split
    · exact inv_cmd x hP.n1 hP.ho1 h
    · exact h
  · exact h
/-- The state behind the first k inputs. -/
def runR (l : List Int) (mi nu de ho wi : Int) (il : List I2) (k : Nat) : Ro := (il.take k).foldl (fun r x => stepR l mi nu de ho wi r x.1 x.2) (at_ 0)
theorem runR_succ {l : List Int} {mi nu de ho wi : Int} {il : List I2} {k : Nat} {x y : Int} (h : il[k]? = some (x, y)) : runR l mi nu de ho wi il (k + 1) = stepR l mi nu de ho wi (runR l mi nu de ho wi il k) x y := by
  unfold runR; rw [List.take_add_one, h, Option.toList, List.foldl_append]; rfl
theorem inv_run {l : List Int} {mi nu de ho wi : Int} (hP : PlanOK l mi nu de ho wi) (il : List I2) : ∀ k, InvR l.length ho (runR l mi nu de ho wi il k)
  | 0 => inv_at _ _ _ hP.n1 hP.ho1
  | k + 1 => by
    rcases h : il[k]? with _ | ⟨x, y⟩
    · have : runR l mi nu de ho wi il (k + 1) = runR l mi nu de ho wi il k := by unfold runR; rw [List.take_add_one, h]; simp
      rw [this]; exact inv_run hP il k
    · rw [runR_succ h]; exact inv_step hP x y (inv_run hP il k)

abbrev rcells (r : Ro) : List Value := [.int .i64 r.s, .int .i64 r.g, .int .i64 r.h, .int .i64 r.t, .int .i64 r.e, .int .i64 r.a]
abbrev pcells (A : Option Addr) (n c : Nat) (mi nu de ho wi : Int) : List Value := [.slice A n c, .int .i64 mi, .int .i64 nu, .int .i64 de, .int .i64 ho, .int .i64 wi]
def RunRel (w : World) (A : Option Addr) (n c : Nat) (l : List Int) (mi nu de ho wi : Int) (il : List I2) (m : Nat) (i : Value) (wr : World) : Prop :=
  ∃ (k : Nat) (s g h t e a : Int), k ≤ m ∧ i = .int .i64 k ∧ Hid (⟨s, g, h, t, e, a⟩ = runR l mi nu de ho wi il k) ∧ Hid (Ext w wr ∧ Box w.heap.size (pcells A n c mi nu de ho wi) w.heap.size wr ∧
    Box w.heap.size (rcells ⟨0, 0, 0, 0, 0, 0⟩) (w.heap.size + 1) wr ∧ Box w.heap.size (rcells ⟨s, g, h, t, e, a⟩) (w.heap.size + 1 + 1) wr)

set_option maxHeartbeats 2000000 in
theorem run_any (A : Option Addr) (n c : Nat) (l : List Int) (mi nu de ho wi : Int) (I : Option Addr) (m d : Nat) (il : List I2) (w : World) (hr : Row w w.heap.size 1 A n (ints l)) (hc : n ≤ c) (hP : PlanOK l mi nu de ho wi)
    (hi : Row w w.heap.size 2 I m (icells il)) (hm : m ≤ 9223372036854775807) :
    Calls Try.prog 19 #[pl A n c mi nu de ho wi, .slice I m d] w fun e w' => e = .returned (rv (runR l mi nu de ho wi il m)) ∧ Ext w w' := by
  have hl := ints_len hr
  go_enter Try.func19, Try.ntmps19
  go_wp2
  go_loopw [10] (fun i wr => RunRel w A n c l mi nu de ho wi il m i wr) (fun i _ => m - (intOf i).toNat)
  case atStart =>
    refine ⟨0, 0, 0, 0, 0, 0, 0, Nat.zero_le _, rfl, Lib.hid rfl, Lib.hid ⟨?_, ?_, ?_, ?_⟩⟩
    · repeat' (first | with_reducible assumption | with_reducible exact Ext.refl _ | with_reducible apply Ext.alloc | with_reducible apply Ext.drew | with_reducible apply Ext.drewN | with_reducible apply Ext.plus_ | with_reducible refine Ext.put ?_ (by omega))
    · repeat' (first | with_reducible assumption | ((with_reducible refine Box.fresh ?fb ?fn ?fr); (case fb => first | omega | (simp <;> omega)); (case fn => first | omega | (simp <;> omega)); (case fr => rfl)) | with_reducible apply Box.up | with_reducible apply Box.drew_ | with_reducible apply Box.drewN_ | with_reducible apply Box.plus_ | with_reducible apply Box.put | with_reducible refine Box.off ?_ (by omega))
      all_goals first | rfl | (simp; done)
    · repeat' (first | with_reducible assumption | ((with_reducible refine Box.fresh ?fb ?fn ?fr); (case fb => first | omega | (simp <;> omega)); (case fn => first | omega | (simp <;> omega)); (case fr => rfl)) | with_reducible apply Box.up | with_reducible apply Box.drew_ | with_reducible apply Box.drewN_ | with_reducible apply Box.plus_ | with_reducible apply Box.put | with_reducible refine Box.off ?_ (by omega))
      all_goals first | rfl | (simp; done)
    · repeat' (first | with_reducible assumption | ((with_reducible refine Box.fresh ?fb ?fn ?fr); (case fb => first | omega | (simp <;> omega)); (case fn => first | omega | (simp <;> omega)); (case fr => rfl)) | with_reducible apply Box.up | with_reducible apply Box.drew_ | with_reducible apply Box.drewN_ | with_reducible apply Box.plus_ | with_reducible apply Box.put | with_reducible refine Box.off ?_ (by omega))
      all_goals first | rfl | (simp; done)
  case round =>
    obtain ⟨k, s, g, h, t, e, a, hk, rfl, hid, hB⟩ := hrel
    obtain ⟨hE, hB0, hB1, hB2⟩ := hB.out
    have p0 := hB0.cell 0 (by simp)
    have p1 := hB0.cell 1 (by simp)
    have p2 := hB0.cell 2 (by simp)
    have p3 := hB0.cell 3 (by simp)
    have p4 := hB0.cell 4 (by simp)
    have p5 := hB0.cell 5 (by simp)
    simp only [List.getElem?_cons_zero, List.getElem?_cons_succ] at p0 p1 p2 p3 p4 p5
    have pF := hB0.free
    have pL := hB0.lt
    have pB := hB0.base
    have q0 := hB1.cell 0 (by simp)
    have q1 := hB1.cell 1 (by simp)
    have q2 := hB1.cell 2 (by simp)
    have q3 := hB1.cell 3 (by simp)
    have q4 := hB1.cell 4 (by simp)
    have q5 := hB1.cell 5 (by simp)
    simp only [List.getElem?_cons_zero, List.getElem?_cons_succ] at q0 q1 q2 q3 q4 q5
    have qF := hB1.free
    have qL := hB1.lt
    have qB := hB1.base
    have r0 := hB2.cell 0 (by simp)
    have r1 := hB2.cell 1 (by simp)
    have r2 := hB2.cell 2 (by simp)
    have r3 := hB2.cell 3 (by simp)
    have r4 := hB2.cell 4 (by simp)
    have r5 := hB2.cell 5 (by simp)
    simp only [List.getElem?_cons_zero, List.getElem?_cons_succ] at r0 r1 r2 r3 r4 r5
    have rF := hB2.free
    have rL := hB2.lt
    have rB := hB2.base
    by_cases hlt : k < m
    · obtain ⟨b, o, x, y, rfl, hb, hz, c0, c1⟩ := Row.inp_at (hi.lift hE) hlt
      have hI := inv_run hP il k
      have hS := runR_succ (l := l) (mi := mi) (nu := nu) (de := de) (ho := ho) (wi := wi) hz
      rw [← hid.out] at hI hS
      have HS := Lib.hid (And.intro hI hS)
      have H := Lib.hid (And.intro hP (And.intro hr hi))
      have HE := Lib.hid (And.intro hE (And.intro hB0 (And.intro hB1 hB2)))
      clear hI hS hP hr hi hB hE hB0 hB1 hB2 hz
      go_wp2_with fail
      refine calls_at fun Y hY => ?_
      obtain ⟨hE, hB0, hB1, hB2⟩ := HE.out
      replace hB0 : Box w.heap.size (pcells A n c mi nu de ho wi) w.heap.size Y := by
        rw [hY]
        repeat' (first | with_reducible assumption | ((with_reducible refine Box.fresh ?fb ?fn ?fr); (case fb => first | omega | (simp <;> omega)); (case fn => first | omega | (simp <;> omega)); (case fr => rfl)) | with_reducible apply Box.up | with_reducible apply Box.drew_ | with_reducible apply Box.drewN_ | with_reducible apply Box.plus_ | with_reducible apply Box.put | with_reducible refine Box.off ?_ (by omega))
        all_goals first | rfl | (simp; done)
      replace hB1 : Box w.heap.size (rcells ⟨0, 0, 0, 0, 0, 0⟩) (w.heap.size + 1) Y := by
        rw [hY]
        repeat' (first | with_reducible assumption | ((with_reducible refine Box.fresh ?fb ?fn ?fr); (case fb => first | omega | (simp <;> omega)); (case fn => first | omega | (simp <;> omega)); (case fr => rfl)) | with_reducible apply Box.up | with_reducible apply Box.drew_ | with_reducible apply Box.drewN_ | with_reducible apply Box.plus_ | with_reducible apply Box.put | with_reducible refine Box.off ?_ (by omega))
        all_goals first | rfl | (simp; done)
      replace hB2 : Box w.heap.size (rcells ⟨s, g, h, t, e, a⟩) (w.heap.size + 1 + 1) Y := by
        rw [hY]
        repeat' (first | with_reducible assumption | ((with_reducible refine Box.fresh ?fb ?fn ?fr); (case fb => first | omega | (simp <;> omega)); (case fn => first | omega | (simp <;> omega)); (case fr => rfl)) | with_reducible apply Box.up | with_reducible apply Box.drew_ | with_reducible apply Box.drewN_ | with_reducible apply Box.plus_ | with_reducible apply Box.put | with_reducible refine Box.off ?_ (by omega))
        all_goals first | rfl | (simp; done)
      replace hE : Ext w Y := by
        rw [hY]
        repeat' (first | with_reducible assumption | with_reducible exact Ext.refl _ | with_reducible apply Ext.alloc | with_reducible apply Ext.drew | with_reducible apply Ext.drewN | with_reducible apply Ext.plus_ | with_reducible refine Ext.put ?_ (by omega))
      clear hY HE
      clear p0 p1 p2 p3 p4 p5 pF pL pB
      clear q0 q1 q2 q3 q4 q5 qF qL qB
      clear r0 r1 r2 r3 r4 r5 rF rL rB
      refine (step_any A n c l mi nu de ho wi ⟨s, g, h, t, e, a⟩ x y Y (H.out.2.1.lift hE) hc H.out.1 (by rw [← hl]; exact HS.out.1)).mono ?_
      have hS := HS.out.2
      obtain ⟨⟨s', g', h', t', e', a'⟩, hrr⟩ : ∃ rr, rr = stepR l mi nu de ho wi ⟨s, g, h, t, e, a⟩ x y := ⟨_, rfl⟩
      rw [← hrr] at hS ⊢
      rintro ee Z ⟨rfl, hE2⟩
      replace hB0 := hB0.ext hE2
      replace hB1 := hB1.ext hE2
      replace hB2 := hB2.ext hE2
      replace hE := hE.trans hE2
      clear hE2 hrr HS
      have HS := Lib.hid hS
      clear hS
      have r0 := hB2.cell 0 (by simp)
      have r1 := hB2.cell 1 (by simp)
      have r2 := hB2.cell 2 (by simp)
      have r3 := hB2.cell 3 (by simp)
      have r4 := hB2.cell 4 (by simp)
      have r5 := hB2.cell 5 (by simp)
      simp only [List.getElem?_cons_zero, List.getElem?_cons_succ] at r0 r1 r2 r3 r4 r5
      have rF := hB2.free
      have rL := hB2.lt
      have rB := hB2.base
      have HE := Lib.hid (And.intro hE (And.intro hB0 (And.intro hB1 hB2)))
      clear hE hB0 hB1 hB2
      go_wp2
      go_roundw
      case rel =>
        obtain ⟨hE, hB0, hB1, hB2⟩ := HE.out
        refine ⟨k + 1, s', g', h', t', e', a', by omega, by go_num, Lib.hid HS.out.symm, Lib.hid ⟨?_, ?_, ?_, ?_⟩⟩
        · repeat' (first | with_reducible assumption | with_reducible exact Ext.refl _ | with_reducible apply Ext.alloc | with_reducible apply Ext.drew | with_reducible apply Ext.drewN | with_reducible apply Ext.plus_ | with_reducible refine Ext.put ?_ (by omega))
        · repeat' (first | with_reducible assumption | ((with_reducible refine Box.fresh ?fb ?fn ?fr); (case fb => first | omega | (simp <;> omega)); (case fn => first | omega | (simp <;> omega)); (case fr => rfl)) | with_reducible apply Box.up | with_reducible apply Box.drew_ | with_reducible apply Box.drewN_ | with_reducible apply Box.plus_ | with_reducible apply Box.put | with_reducible refine Box.off ?_ (by omega))
          all_goals first | rfl | (simp; done)
        · repeat' (first | with_reducible assumption | ((with_reducible refine Box.fresh ?fb ?fn ?fr); (case fb => first | omega | (simp <;> omega)); (case fn => first | omega | (simp <;> omega)); (case fr => rfl)) | with_reducible apply Box.up | with_reducible apply Box.drew_ | with_reducible apply Box.drewN_ | with_reducible apply Box.plus_ | with_reducible apply Box.put | with_reducible refine Box.off ?_ (by omega))
          all_goals first | rfl | (simp; done)
        · repeat' (first | with_reducible assumption | ((with_reducible refine Box.fresh ?fb ?fn ?fr); (case fb => first | omega | (simp <;> omega)); (case fn => first | omega | (simp <;> omega)); (case fr => rfl)) | with_reducible apply Box.up | with_reducible apply Box.drew_ | with_reducible apply Box.drewN_ | with_reducible apply Box.plus_ | with_reducible apply Box.put | with_reducible refine Box.off ?_ (by omega))
          all_goals first | rfl | (simp; done)
      case measure => simp [intOf]; omega
    · have hkn : k = m := by omega
      subst hkn
      have HE := Lib.hid hE
      clear hB hB0 hB1 hB2 hE
      go_wp2
      refine bodyPost_ret (v := (rv ⟨s, g, h, t, e, a⟩)) (by simp [results, Try.results19, go_sem, q0, q1, q2, q3, q4, q5]) rfl ?_
      rw [hid.out]
      refine ⟨rfl, ?_⟩
      have hE := HE.out
      repeat' (first | with_reducible assumption | with_reducible exact Ext.refl _ | with_reducible apply Ext.alloc | with_reducible apply Ext.drew | with_reducible apply Ext.drewN | with_reducible apply Ext.plus_ | with_reducible refine Ext.put ?_ (by omega))
end Go.Proofs.Ytidndcigloohoaa
