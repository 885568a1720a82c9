/- RolloutTick: the walk. -/
import Derived.Test.YtidndcigloohoaaRoll9
import Derived.Test.YtidndcigloohoaaOpenRoll
set_option linter.unusedVariables false
namespace Go.Proofs.Ytidndcigloohoaa
open Go.RowKit Go.Rg

set_option maxHeartbeats 4000000 in
theorem rtick_tame (B : Option Addr) (k d : Nat) (ll : List Int) (M : Option Addr) (mk md : Nat) (ml : List Int) (xk xx : Int) (rr : Ro) (w : World) (hB : Row w w.heap.size 1 B k (ints ll)) (hk : k ≤ 9223372036854775807)
    (hM : Row w w.heap.size 1 M mk (ints ml)) (hmk : mk ≤ 9223372036854775807) (hmd : mk ≤ md) :
    Calls Try.prog 3 #[.slice B k d, .slice M mk md, .agg #[.int .i64 xk, .int .i64 xx], rv rr, .bool false] w fun ee w' => ee = .returned (.bool true) ∧ Ext w w' := by
  obtain ⟨s0, g0, h0, t0, e0, a0⟩ := rr
  go_enter Try.func3, Try.ntmps3
  go_wp2_with fail
  refine calls_at fun W hW => ?_
  obtain ⟨N, hN⟩ : ∃ N, N = w.heap.size := ⟨_, rfl⟩
  have hB0 : Box N [.int .i64 xk, .int .i64 xx] N W := by
    rw [hW]
    repeat' (first | with_reducible assumption | ((with_reducible refine Box.fresh ?fb ?fn ?fr); (case fb => first | omega | (simp <;> omega)); (case fn => first | omega | (simp <;> omega)); (case fr => rfl)) | with_reducible apply Box.up | with_reducible apply Box.drew_ | with_reducible apply Box.drewN_ | with_reducible apply Box.plus_ | with_reducible apply Box.put | with_reducible refine Box.off ?_ (by omega))
    all_goals first | rfl | (simp; done)
  have hE : Ext w W := by
    rw [hW]
    repeat' (first | with_reducible assumption | with_reducible exact Ext.refl _ | with_reducible apply Ext.alloc | with_reducible apply Ext.drew | with_reducible apply Ext.drewN | with_reducible apply Ext.plus_ | with_reducible refine Ext.put ?_ (by omega))
  rw [← hN]
  clear hW
  have HN := Lib.hid hN
  clear hN
  refine (made_any B k d ll M mk md ml W (hB.lift hE) hk (hM.lift hE) hmk hmd).mono ?_
  rintro ee X ⟨A, c, wl, mi, nu, de, ho, wi, I, id', il, rfl, hsm, hc, hR, hIR, hil, hEX⟩
  replace hB0 := hB0.ext hEX
  replace hE := hE.trans hEX
  clear hEX hB hM
  have H := Lib.hid (And.intro hB0 (And.intro hE (And.intro hR (And.intro hIR hsm))))
  clear hB0 hE hR hIR hsm
  go_wp2_with fail
  refine calls_at fun Y hY => ?_
  obtain ⟨hB0, hE, hR, hIR, hsm⟩ := H.out
  obtain ⟨P, hP⟩ : ∃ P, P = X.heap.size := ⟨_, rfl⟩
  have hNP : N < P := by rw [hP]; exact hB0.lt
  have hN := HN.out
  have hEY : Ext X Y := by
    rw [hY]
    repeat' (first | with_reducible assumption | with_reducible exact Ext.refl _ | with_reducible apply Ext.alloc | with_reducible apply Ext.drew | with_reducible apply Ext.drewN | with_reducible apply Ext.plus_ | with_reducible refine Ext.put ?_ (by omega))
  have hB1 : Box N (pcells A wl.length c mi nu de ho wi) P Y := by
    rw [hY]
    repeat' (first | with_reducible assumption | ((with_reducible refine Box.fresh ?fb ?fn ?fr); (case fb => first | omega | (simp <;> omega)); (case fn => first | omega | (simp <;> omega)); (case fr => rfl)) | with_reducible apply Box.up | with_reducible apply Box.drew_ | with_reducible apply Box.drewN_ | with_reducible apply Box.plus_ | with_reducible apply Box.put | with_reducible refine Box.off ?_ (by omega))
    all_goals first | rfl | (simp; done)
  replace hB0 := hB0.ext hEY
  replace hE := hE.trans hEY
  replace hR := hR.lift hEY
  replace hIR := hIR.lift hEY
  rw [← hP]
  clear hEY hY hP hN H
  refine (refRun_any A wl.length c wl mi nu de ho wi I il.length id' il Y hR hc hsm.ok hIR (by omega)).mono ?_
  have hI := inv_run hsm.ok il il.length
  obtain ⟨⟨s, g, h', t, e, a⟩, hrr⟩ : ∃ rr, rr = runR wl mi nu de ho wi il il.length := ⟨_, rfl⟩
  rw [← hrr] at hI ⊢
  rintro ee Z ⟨rfl, hEZ⟩
  replace hB0 := hB0.ext hEZ
  replace hB1 := hB1.ext hEZ
  replace hE := hE.trans hEZ
  replace hR := hR.lift hEZ
  clear hEZ hIR hrr
  have H := Lib.hid (And.intro hB0 (And.intro hB1 (And.intro hE (And.intro hR (And.intro hsm hI)))))
  clear hB0 hB1 hE hR hsm hI
  go_wp2_with fail
  refine wp_at fun V hV => ?_
  obtain ⟨hB0, hB1, hE, hR, hsm, hI⟩ := H.out
  obtain ⟨Q, hQ⟩ : ∃ P, P = Z.heap.size := ⟨_, rfl⟩
  have hPQ : P < Q := by rw [hQ]; exact hB1.lt
  have hN := HN.out
  have hEV : Ext Z V := by
    rw [hV]
    repeat' (first | with_reducible assumption | with_reducible exact Ext.refl _ | with_reducible apply Ext.alloc | with_reducible apply Ext.drew | with_reducible apply Ext.drewN | with_reducible apply Ext.plus_ | with_reducible refine Ext.put ?_ (by omega))
  have hB2 : Box N [.int .i64 s, .int .i64 g, .int .i64 h', .int .i64 t, .int .i64 e, .int .i64 a] Q V := by
    rw [hV]
    repeat' (first | with_reducible assumption | ((with_reducible refine Box.fresh ?fb ?fn ?fr); (case fb => first | omega | (simp <;> omega)); (case fn => first | omega | (simp <;> omega)); (case fr => rfl)) | with_reducible apply Box.up | with_reducible apply Box.drew_ | with_reducible apply Box.drewN_ | with_reducible apply Box.plus_ | with_reducible apply Box.put | with_reducible refine Box.off ?_ (by omega))
    all_goals first | rfl | (simp; done)
  replace hB0 := hB0.ext hEV
  replace hB1 := hB1.ext hEV
  have HR := Lib.hid (hR.lift hEV)
  have HE := Lib.hid (hE.trans hEV)
  rw [← hQ]
  clear hEV hV hQ hN H hR hE
  have o0 := hB0.cell 0 (by simp)
  have o1 := hB0.cell 1 (by simp)
  simp only [List.getElem?_cons_zero, List.getElem?_cons_succ] at o0 o1
  have oF := hB0.free
  have oL := hB0.lt
  have oB := hB0.base
  have p0 := hB1.cell 0 (by simp)
  have p1 := hB1.cell 1 (by simp)
  have p2 := hB1.cell 2 (by simp)
  have p3 := hB1.cell 3 (by simp)
  have p4 := hB1.cell 4 (by simp)
  have p5 := hB1.cell 5 (by simp)
  simp only [List.getElem?_cons_zero, List.getElem?_cons_succ] at p0 p1 p2 p3 p4 p5
  have pF := hB1.free
  have pL := hB1.lt
  have pB := hB1.base
  have q0 := hB2.cell 0 (by simp)
  have q1 := hB2.cell 1 (by simp)
  have q2 := hB2.cell 2 (by simp)
  have q3 := hB2.cell 3 (by simp)
  have q4 := hB2.cell 4 (by simp)
  have q5 := hB2.cell 5 (by simp)
  simp only [List.getElem?_cons_zero, List.getElem?_cons_succ] at q0 q1 q2 q3 q4 q5
  have qF := hB2.free
  have qL := hB2.lt
  have qB := hB2.base
  clear hB0 hB1 hB2
  have C1 := Lib.hid (fun W h => tick_any A wl.length c wl mi nu de ho wi ⟨s, g, h', t, e, a⟩ W h hc hsm.ok hI)
  have C2 := Lib.hid (fun W h => refTick_any A wl.length c wl mi nu de ho wi ⟨s, g, h', t, e, a⟩ W h hc hsm.ok hI)
  have C3 := Lib.hid (fun W h => rweight_any A wl.length c wl mi nu de ho wi ⟨s, g, h', t, e, a⟩ W h hc (by have := hsm.n3; omega))
  have C4 := Lib.hid (fun W h => refWeight_any A wl.length c wl mi nu de ho wi ⟨s, g, h', t, e, a⟩ W h hc (by have := hsm.n3; omega))
  have C5 := Lib.hid (fun W h => step_any A wl.length c wl mi nu de ho wi ⟨s, g, h', t, e, a⟩ xk xx W h hc hsm.ok hI)
  have C6 := Lib.hid (fun W h => refStep_any A wl.length c wl mi nu de ho wi ⟨s, g, h', t, e, a⟩ xk xx W h hc hsm.ok hI)
  obtain ⟨tr, htr⟩ : ∃ tr, tr = tickR wl mi nu de ho wi ⟨s, g, h', t, e, a⟩ := ⟨_, rfl⟩
  obtain ⟨wr, hwr⟩ : ∃ tr, tr = weightR wl mi nu de ho wi ⟨s, g, h', t, e, a⟩ := ⟨_, rfl⟩
  obtain ⟨sr, hsr⟩ : ∃ tr, tr = stepR wl mi nu de ho wi ⟨s, g, h', t, e, a⟩ xk xx := ⟨_, rfl⟩
  rw [← htr] at C1 C2
  rw [← hwr] at C3 C4
  rw [← hsr] at C5 C6
  clear htr hwr hsr hsm hI
  apply wp_region_ext 30 [is _, is _, is (rv tr), is _, is _, is (rv tr), is (.bool true), is _, is _, is _, is (.int .i64 wr), is _, is _, is (.int .i64 wr), is (.bool true), is _, is _, is _, is _, is _, is (rv sr), is _, is _, is _, is (rv sr), is (.bool true), is _, is _, is (.bool true), is _] (by kernel_rfl) (by kernel_rfl) rfl
  case hops =>
    simp only [List.take_succ_cons, List.take_zero]
    refine ⟨?_, ?_, ?_, ?_, ?_, ?_, ?_, ?_, ?_, ?_, ?_, ?_, ?_, ?_, ?_, ?_, ?_, ?_, ?_, ?_, ?_, ?_, ?_, ?_, ?_, ?_, ?_, ?_, ?_, ?_, trivial⟩
    all_goals
      intro vs x hd
      simp only [putAll, Act.put, List.setIfInBounds_toArray, List.set_cons_succ, List.set_cons_zero, Nat.zero_add, Nat.reduceAdd]
      simp [depFacts, is, isRow, isRowN, isBox, dataE] at hd
      try simp only [World.plus_plus] at hd
      simp only [Region.wanted, if_true, comes]
      try simp [yielded, hd, comes]
      go_simp
      try go_bits
      first
        | exact ⟨Ext.refl _, rfl⟩
        | exact rfl
        | exact ⟨(Ext.refl _).alloc _, _, rfl, Cells.new _ _ _ _ rfl⟩
        | exact ⟨(Ext.refl _).alloc _, _, rfl, Box.new _ _ _ _ (by simp [World.le_plus]) rfl⟩
        | ((go_at_call 12); refine (C1.out _ (HR.out.lift (by repeat (first | exact Ext.refl _ | assumption | apply Ext.plus_ | apply Ext.alloc | apply Ext.drew)))).mono ?_; rintro e w' ⟨rfl, hE⟩; exact ⟨_, rfl, hE, rfl⟩)
        | ((go_at_call 13); refine (C2.out _ (HR.out.lift (by repeat (first | exact Ext.refl _ | assumption | apply Ext.plus_ | apply Ext.alloc | apply Ext.drew)))).mono ?_; rintro e w' ⟨rfl, hE⟩; exact ⟨_, rfl, hE, rfl⟩)
        | ((go_at_call 14); refine (C3.out _ (HR.out.lift (by repeat (first | exact Ext.refl _ | assumption | apply Ext.plus_ | apply Ext.alloc | apply Ext.drew)))).mono ?_; rintro e w' ⟨rfl, hE⟩; exact ⟨_, rfl, hE, rfl⟩)
        | ((go_at_call 15); refine (C4.out _ (HR.out.lift (by repeat (first | exact Ext.refl _ | assumption | apply Ext.plus_ | apply Ext.alloc | apply Ext.drew)))).mono ?_; rintro e w' ⟨rfl, hE⟩; exact ⟨_, rfl, hE, rfl⟩)
        | ((go_at_call 16); refine (C5.out _ (HR.out.lift (by repeat (first | exact Ext.refl _ | assumption | apply Ext.plus_ | apply Ext.alloc | apply Ext.drew)))).mono ?_; rintro e w' ⟨rfl, hE⟩; exact ⟨_, rfl, hE, rfl⟩)
        | ((go_at_call 17); refine (C6.out _ (HR.out.lift (by repeat (first | exact Ext.refl _ | assumption | apply Ext.plus_ | apply Ext.alloc | apply Ext.drew)))).mono ?_; rintro e w' ⟨rfl, hE⟩; exact ⟨_, rfl, hE, rfl⟩)
        | ((go_at_call 18); refine (awake_any _).mono ?_; rintro e w' ⟨rfl, hE⟩; exact ⟨_, rfl, hE, rfl⟩)
  case hst => exact ⟨(by apply is.st), (by apply is.st), (by apply is.st), (by apply is.st), (by apply is.st), (by apply is.st), (by apply is.st), (by apply is.st), (by apply is.st), (by apply is.st), (by apply is.st), (by apply is.st), (by apply is.st), (by apply is.st), (by apply is.st), (by apply is.st), (by apply is.st), (by apply is.st), (by apply is.st), (by apply is.st), (by apply is.st), (by apply is.st), (by apply is.st), (by apply is.st), (by apply is.st), (by apply is.st), (by apply is.st), (by apply is.st), (by apply is.st), (by apply is.st), trivial⟩
  case hfin =>
    intro vs x hf
    try simp only [World.plus_plus] at hf ⊢
    simp only [List.take_succ_cons, List.take_zero, List.drop_succ_cons, List.drop_zero, putAll, Act.put, List.setIfInBounds_toArray, List.set_cons_succ, List.set_cons_zero]
    simp only [facts, is, Nat.zero_add, Nat.reduceAdd] at hf
    simp only [Nat.zero_add, Nat.reduceAdd, hf]
    clear hf
    go_wp2
    go_ret
    refine ⟨rfl, ?_⟩
    have hE := HE.out
    repeat' (first | with_reducible assumption | with_reducible exact Ext.refl _ | with_reducible apply Ext.alloc | with_reducible apply Ext.drew | with_reducible apply Ext.drewN | with_reducible apply Ext.plus_ | with_reducible refine Ext.put ?_ (by omega))
end Go.Proofs.Ytidndcigloohoaa
