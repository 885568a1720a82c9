/- Rollouts: the reference's Run. -/
import Derived.Test.YtidndcigloohoaaRoll6
set_option linter.unusedVariables false
namespace Go.Proofs.Ytidndcigloohoaa
open Go.RowKit Go.Rg

set_option maxHeartbeats 2000000 in
theorem refRun_any (A : Option Addr) (n c : Nat) (l : List Int) (mi nu de ho wi : Int) (I : Option Addr) (m d : Nat) (il : List I2) (w : World) (hr : Row w w.heap.size 1 A n (ints l)) (hc : n ≤ c) (hP : PlanOK l mi nu de ho wi)
    (hi : Row w w.heap.size 2 I m (icells il)) (hm : m ≤ 9223372036854775807) :
    Calls Try.prog 10 #[pl A n c mi nu de ho wi, .slice I m d] w fun e w' => e = .returned (rv (runR l mi nu de ho wi il m)) ∧ Ext w w' := by
  have hl := ints_len hr
  go_enter Try.func10, Try.ntmps10
  go_wp2
  go_loopw [6] (fun i wr => RunRel w A n c l mi nu de ho wi il m i wr) (fun i _ => m - (intOf i).toNat)
  case atStart =>
    refine ⟨0, 0, 0, 0, 0, 0, 0, Nat.zero_le _, rfl, Lib.hid rfl, Lib.hid ⟨?_, ?_, ?_, ?_⟩⟩
    · repeat' (first | with_reducible assumption | with_reducible exact Ext.refl _ | with_reducible apply Ext.alloc | with_reducible apply Ext.drew | with_reducible apply Ext.drewN | with_reducible apply Ext.plus_ | with_reducible refine Ext.put ?_ (by omega))
    · repeat' (first | with_reducible assumption | ((with_reducible refine Box.fresh ?fb ?fn ?fr); (case fb => first | omega | (simp <;> omega)); (case fn => first | omega | (simp <;> omega)); (case fr => rfl)) | with_reducible apply Box.up | with_reducible apply Box.drew_ | with_reducible apply Box.drewN_ | with_reducible apply Box.plus_ | with_reducible apply Box.put | with_reducible refine Box.off ?_ (by omega))
      all_goals first | rfl | (simp; done)
    · repeat' (first | with_reducible assumption | ((with_reducible refine Box.fresh ?fb ?fn ?fr); (case fb => first | omega | (simp <;> omega)); (case fn => first | omega | (simp <;> omega)); (case fr => rfl)) | with_reducible apply Box.up | with_reducible apply Box.drew_ | with_reducible apply Box.drewN_ | with_reducible apply Box.plus_ | with_reducible apply Box.put | with_reducible refine Box.off ?_ (by omega))
      all_goals first | rfl | (simp; done)
    · repeat' (first | with_reducible assumption | ((with_reducible refine Box.fresh ?fb ?fn ?fr); (case fb => first | omega | (simp <;> omega)); (case fn => first | omega | (simp <;> omega)); (case fr => rfl)) | with_reducible apply Box.up | with_reducible apply Box.drew_ | with_reducible apply Box.drewN_ | with_reducible apply Box.plus_ | with_reducible apply Box.put | with_reducible refine Box.off ?_ (by omega))
      all_goals first | rfl | (simp; done)
  case round =>
    obtain ⟨k, s, g, h, t, e, a, hk, rfl, hid, hB⟩ := hrel
    obtain ⟨hE, hB0, hB1, hB2⟩ := hB.out
    have p0 := hB0.cell 0 (by simp)
    have p1 := hB0.cell 1 (by simp)
    have p2 := hB0.cell 2 (by simp)
    have p3 := hB0.cell 3 (by simp)
    have p4 := hB0.cell 4 (by simp)
    have p5 := hB0.cell 5 (by simp)
    simp only [List.getElem?_cons_zero, List.getElem?_cons_succ] at p0 p1 p2 p3 p4 p5
    have pF := hB0.free
    have pL := hB0.lt
    have pB := hB0.base
    have q0 := hB1.cell 0 (by simp)
    have q1 := hB1.cell 1 (by simp)
    have q2 := hB1.cell 2 (by simp)
    have q3 := hB1.cell 3 (by simp)
    have q4 := hB1.cell 4 (by simp)
    have q5 := hB1.cell 5 (by simp)
    simp only [List.getElem?_cons_zero, List.getElem?_cons_succ] at q0 q1 q2 q3 q4 q5
    have qF := hB1.free
    have qL := hB1.lt
    have qB := hB1.base
    have r0 := hB2.cell 0 (by simp)
    have r1 := hB2.cell 1 (by simp)
    have r2 := hB2.cell 2 (by simp)
    have r3 := hB2.cell 3 (by simp)
    have r4 := hB2.cell 4 (by simp)
    have r5 := hB2.cell 5 (by simp)
    simp only [List.getElem?_cons_zero, List.getElem?_cons_succ] at r0 r1 r2 r3 r4 r5
    have rF := hB2.free
    have rL := hB2.lt
    have rB := hB2.base
    by_cases hlt : k < m
    · obtain ⟨b, o, x, y, rfl, hb, hz, c0, c1⟩ := Row.inp_at (hi.lift hE) hlt
      have hI := inv_run hP il k
      have hS := runR_succ (l := l) (mi := mi) (nu := nu) (de := de) (ho := ho) (wi := wi) hz
      rw [← hid.out] at hI hS
      have C := Lib.hid (fun W hW => refStep_any A n c l mi nu de ho wi ⟨s, g, h, t, e, a⟩ x y W hW hc hP (by rw [← hl]; exact hI))
      have HR := Lib.hid (hr.lift hE)
      obtain ⟨⟨s', g', h', t', e', a'⟩, hrr⟩ : ∃ rr, rr = stepR l mi nu de ho wi ⟨s, g, h, t, e, a⟩ x y := ⟨_, rfl⟩
      rw [← hrr] at C hS
      have HS := Lib.hid hS
      have HE := Lib.hid (And.intro hE (And.intro hB0 (And.intro hB1 hB2)))
      clear hI hS hP hr hi hB hE hB0 hB1 hB2 hz hrr
      go_wp2
      apply wp_region_ext 7 [is _, is _, is _, is _, is _, is _, is (rv ⟨s', g', h', t', e', a'⟩)] (by kernel_rfl) (by kernel_rfl) rfl
      case hops =>
        simp only [List.take_succ_cons, List.take_zero]
        refine ⟨?_, ?_, ?_, ?_, ?_, ?_, ?_, trivial⟩
        all_goals
          intro vs x hd
          simp only [putAll, Act.put, List.setIfInBounds_toArray, List.set_cons_succ, List.set_cons_zero, Nat.zero_add, Nat.reduceAdd]
          simp [depFacts, is, isRow, isRowN, isBox, dataE] at hd
          try simp only [World.plus_plus] at hd
          simp only [Region.wanted, if_true, comes]
          try simp [yielded, hd, comes]
          go_simp
          try go_bits
          first
            | exact ⟨Ext.refl _, rfl⟩
            | exact rfl
            | exact ⟨(Ext.refl _).alloc _, _, rfl, Cells.new _ _ _ _ rfl⟩
            | exact ⟨(Ext.refl _).alloc _, _, rfl, Box.new _ _ _ _ (by simp [World.le_plus]) rfl⟩
            | (refine (C.out _ (HR.out.lift (by repeat (first | exact Ext.refl _ | assumption | apply Ext.plus_ | apply Ext.alloc | apply Ext.drew)))).mono ?_; rintro e w' ⟨rfl, hE⟩; exact ⟨_, rfl, hE, rfl⟩)
      case hst => exact ⟨(by apply is.st), (by apply is.st), (by apply is.st), (by apply is.st), (by apply is.st), (by apply is.st), (by apply is.st), trivial⟩
      case hfin =>
        intro vs x hf
        try simp only [World.plus_plus] at hf ⊢
        simp only [List.take_succ_cons, List.take_zero, List.drop_succ_cons, List.drop_zero, putAll, Act.put, List.setIfInBounds_toArray, List.set_cons_succ, List.set_cons_zero]
        simp only [facts, is, Nat.zero_add, Nat.reduceAdd] at hf
        simp only [Nat.zero_add, Nat.reduceAdd, hf]
        clear hf
        refine wl_at fun Y hY => ?_
        obtain ⟨hE, hB0, hB1, hB2⟩ := HE.out
        replace hB0 : Box w.heap.size (pcells A n c mi nu de ho wi) w.heap.size Y := by
          rw [hY]
          repeat' (first | with_reducible assumption | ((with_reducible refine Box.fresh ?fb ?fn ?fr); (case fb => first | omega | (simp <;> omega)); (case fn => first | omega | (simp <;> omega)); (case fr => rfl)) | with_reducible apply Box.up | with_reducible apply Box.drew_ | with_reducible apply Box.drewN_ | with_reducible apply Box.plus_ | with_reducible apply Box.put | with_reducible refine Box.off ?_ (by omega))
          all_goals first | rfl | (simp; done)
        replace hB1 : Box w.heap.size (rcells ⟨0, 0, 0, 0, 0, 0⟩) (w.heap.size + 1) Y := by
          rw [hY]
          repeat' (first | with_reducible assumption | ((with_reducible refine Box.fresh ?fb ?fn ?fr); (case fb => first | omega | (simp <;> omega)); (case fn => first | omega | (simp <;> omega)); (case fr => rfl)) | with_reducible apply Box.up | with_reducible apply Box.drew_ | with_reducible apply Box.drewN_ | with_reducible apply Box.plus_ | with_reducible apply Box.put | with_reducible refine Box.off ?_ (by omega))
          all_goals first | rfl | (simp; done)
        replace hB2 : Box w.heap.size (rcells ⟨s, g, h, t, e, a⟩) (w.heap.size + 1 + 1) Y := by
          rw [hY]
          repeat' (first | with_reducible assumption | ((with_reducible refine Box.fresh ?fb ?fn ?fr); (case fb => first | omega | (simp <;> omega)); (case fn => first | omega | (simp <;> omega)); (case fr => rfl)) | with_reducible apply Box.up | with_reducible apply Box.drew_ | with_reducible apply Box.drewN_ | with_reducible apply Box.plus_ | with_reducible apply Box.put | with_reducible refine Box.off ?_ (by omega))
          all_goals first | rfl | (simp; done)
        replace hE : Ext w Y := by
          rw [hY]
          repeat' (first | with_reducible assumption | with_reducible exact Ext.refl _ | with_reducible apply Ext.alloc | with_reducible apply Ext.drew | with_reducible apply Ext.drewN | with_reducible apply Ext.plus_ | with_reducible refine Ext.put ?_ (by omega))
        clear hY HE
        clear p0 p1 p2 p3 p4 p5 pF pL pB
        clear q0 q1 q2 q3 q4 q5 qF qL qB
        clear r0 r1 r2 r3 r4 r5 rF rL rB
        have r0 := hB2.cell 0 (by simp)
        have r1 := hB2.cell 1 (by simp)
        have r2 := hB2.cell 2 (by simp)
        have r3 := hB2.cell 3 (by simp)
        have r4 := hB2.cell 4 (by simp)
        have r5 := hB2.cell 5 (by simp)
        simp only [List.getElem?_cons_zero, List.getElem?_cons_succ] at r0 r1 r2 r3 r4 r5
        have rF := hB2.free
        have rL := hB2.lt
        have rB := hB2.base
        have HE := Lib.hid (And.intro hE (And.intro hB0 (And.intro hB1 hB2)))
        clear hE hB0 hB1 hB2
        go_wp2
        go_roundw
        case rel =>
          obtain ⟨hE, hB0, hB1, hB2⟩ := HE.out
          refine ⟨k + 1, s', g', h', t', e', a', by omega, by go_num, Lib.hid HS.out.symm, Lib.hid ⟨?_, ?_, ?_, ?_⟩⟩
          · repeat' (first | with_reducible assumption | with_reducible exact Ext.refl _ | with_reducible apply Ext.alloc | with_reducible apply Ext.drew | with_reducible apply Ext.drewN | with_reducible apply Ext.plus_ | with_reducible refine Ext.put ?_ (by omega))
          · repeat' (first | with_reducible assumption | ((with_reducible refine Box.fresh ?fb ?fn ?fr); (case fb => first | omega | (simp <;> omega)); (case fn => first | omega | (simp <;> omega)); (case fr => rfl)) | with_reducible apply Box.up | with_reducible apply Box.drew_ | with_reducible apply Box.drewN_ | with_reducible apply Box.plus_ | with_reducible apply Box.put | with_reducible refine Box.off ?_ (by omega))
            all_goals first | rfl | (simp; done)
          · repeat' (first | with_reducible assumption | ((with_reducible refine Box.fresh ?fb ?fn ?fr); (case fb => first | omega | (simp <;> omega)); (case fn => first | omega | (simp <;> omega)); (case fr => rfl)) | with_reducible apply Box.up | with_reducible apply Box.drew_ | with_reducible apply Box.drewN_ | with_reducible apply Box.plus_ | with_reducible apply Box.put | with_reducible refine Box.off ?_ (by omega))
            all_goals first | rfl | (simp; done)
          · repeat' (first | with_reducible assumption | ((with_reducible refine Box.fresh ?fb ?fn ?fr); (case fb => first | omega | (simp <;> omega)); (case fn => first | omega | (simp <;> omega)); (case fr => rfl)) | with_reducible apply Box.up | with_reducible apply Box.drew_ | with_reducible apply Box.drewN_ | with_reducible apply Box.plus_ | with_reducible apply Box.put | with_reducible refine Box.off ?_ (by omega))
            all_goals first | rfl | (simp; done)
        case measure => simp [intOf]; omega
    · have hkn : k = m := by omega
      subst hkn
      have HE := Lib.hid hE
      clear hB hB0 hB1 hB2 hE
      go_wp2
      refine bodyPost_ret (v := (rv ⟨s, g, h, t, e, a⟩)) (by simp [results, Try.results10, go_sem, q0, q1, q2, q3, q4, q5]) rfl ?_
      rw [hid.out]
      refine ⟨rfl, ?_⟩
      have hE := HE.out
      repeat' (first | with_reducible assumption | with_reducible exact Ext.refl _ | with_reducible apply Ext.alloc | with_reducible apply Ext.drew | with_reducible apply Ext.drewN | with_reducible apply Ext.plus_ | with_reducible refine Ext.put ?_ (by omega))
end Go.Proofs.Ytidndcigloohoaa
