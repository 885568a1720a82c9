/- RolloutTick: the walk at a state that was given. -/
import Derived.Test.YtidndcigloohoaaLawRollTick
set_option linter.unusedVariables false
namespace Go.Proofs.Ytidndcigloohoaa
open Go.RowKit Go.Rg

set_option maxHeartbeats 4000000 in
theorem rtick_wild (B : Option Addr) (k d : Nat) (ll : List Int) (M : Option Addr) (mk md : Nat) (ml : List Int) (xk xx : Int) (rr : Ro) (w : World) (hB : Row w w.heap.size 1 B k (ints ll)) (hk : k ≤ 9223372036854775807)
    (hM : Row w w.heap.size 1 M mk (ints ml)) (hmk : mk ≤ 9223372036854775807) (hmd : mk ≤ md) :
    Calls Try.prog 3 #[.slice B k d, .slice M mk md, .agg #[.int .i64 xk, .int .i64 xx], rv rr, .bool true] w fun ee w' => ee = .returned (.bool true) ∧ Ext w w' := by
  obtain ⟨s0, g0, h0, t0, e0, a0⟩ := rr
  go_enter Try.func3, Try.ntmps3
  go_wp2_with fail
  refine calls_at fun W hW => ?_
  obtain ⟨N, hN⟩ : ∃ N, N = w.heap.size := ⟨_, rfl⟩
  have hB0 : Box N [.int .i64 xk, .int .i64 xx] N W := by
    rw [hW]
    repeat' (first | with_reducible assumption | ((with_reducible refine Box.fresh ?fb ?fn ?fr); (case fb => first | omega | (simp <;> omega)); (case fn => first | omega | (simp <;> omega)); (case fr => rfl)) | with_reducible apply Box.up | with_reducible apply Box.drew_ | with_reducible apply Box.drewN_ | with_reducible apply Box.plus_ | with_reducible apply Box.put | with_reducible refine Box.off ?_ (by omega))
    all_goals first | rfl | (simp; done)
  have hBr : Box N [.int .i64 s0, .int .i64 g0, .int .i64 h0, .int .i64 t0, .int .i64 e0, .int .i64 a0] (N + 1) W := by
    rw [hW]
    repeat' (first | with_reducible assumption | ((with_reducible refine Box.fresh ?fb ?fn ?fr); (case fb => first | omega | (simp <;> omega)); (case fn => first | omega | (simp <;> omega)); (case fr => rfl)) | with_reducible apply Box.up | with_reducible apply Box.drew_ | with_reducible apply Box.drewN_ | with_reducible apply Box.plus_ | with_reducible apply Box.put | with_reducible refine Box.off ?_ (by omega))
    all_goals first | rfl | (simp; done)
  have hE : Ext w W := by
    rw [hW]
    repeat' (first | with_reducible assumption | with_reducible exact Ext.refl _ | with_reducible apply Ext.alloc | with_reducible apply Ext.drew | with_reducible apply Ext.drewN | with_reducible apply Ext.plus_ | with_reducible refine Ext.put ?_ (by omega))
  rw [← hN]
  clear hW
  have HN := Lib.hid hN
  clear hN
  refine (made_any B k d ll M mk md ml W (hB.lift hE) hk (hM.lift hE) hmk hmd).mono ?_
  rintro ee X ⟨A, c, wl, mi, nu, de, ho, wi, I, id', il, rfl, hsm, hc, hR, hIR, hil, hEX⟩
  replace hB0 := hB0.ext hEX
  replace hBr := hBr.ext hEX
  replace hE := hE.trans hEX
  clear hEX hB hM
  have H := Lib.hid (And.intro hB0 (And.intro hBr (And.intro hE (And.intro hR (And.intro hIR hsm)))))
  clear hB0 hBr hE hR hIR hsm
  go_wp2_with fail
  refine calls_at fun Y hY => ?_
  obtain ⟨hB0, hBr, hE, hR, hIR, hsm⟩ := H.out
  obtain ⟨P, hP⟩ : ∃ P, P = X.heap.size := ⟨_, rfl⟩
  have hNP : N + 1 < P := by rw [hP]; exact hBr.lt
  have hN := HN.out
  have hEY : Ext X Y := by
    rw [hY]
    repeat' (first | with_reducible assumption | with_reducible exact Ext.refl _ | with_reducible apply Ext.alloc | with_reducible apply Ext.drew | with_reducible apply Ext.drewN | with_reducible apply Ext.plus_ | with_reducible refine Ext.put ?_ (by omega))
  have hB1 : Box N (pcells A wl.length c mi nu de ho wi) P Y := by
    rw [hY]
    repeat' (first | with_reducible assumption | ((with_reducible refine Box.fresh ?fb ?fn ?fr); (case fb => first | omega | (simp <;> omega)); (case fn => first | omega | (simp <;> omega)); (case fr => rfl)) | with_reducible apply Box.up | with_reducible apply Box.drew_ | with_reducible apply Box.drewN_ | with_reducible apply Box.plus_ | with_reducible apply Box.put | with_reducible refine Box.off ?_ (by omega))
    all_goals first | rfl | (simp; done)
  replace hB0 := hB0.ext hEY
  replace hBr := hBr.ext hEY
  replace hE := hE.trans hEY
  replace hR := hR.lift hEY
  replace hIR := hIR.lift hEY
  rw [← hP]
  clear hEY hY hP hN H
  refine (refRun_any A wl.length c wl mi nu de ho wi I il.length id' il Y hR hc hsm.ok hIR (by omega)).mono ?_
  obtain ⟨⟨s, g, h', t, e, a⟩, hrr⟩ : ∃ rr, rr = runR wl mi nu de ho wi il il.length := ⟨_, rfl⟩
  rw [← hrr]
  rintro ee Z ⟨rfl, hEZ⟩
  replace hB0 := hB0.ext hEZ
  replace hBr := hBr.ext hEZ
  replace hB1 := hB1.ext hEZ
  replace hE := hE.trans hEZ
  replace hR := hR.lift hEZ
  clear hEZ hIR hrr
  have r0 := hBr.cell 0 (by simp)
  have r1 := hBr.cell 1 (by simp)
  have r2 := hBr.cell 2 (by simp)
  have r3 := hBr.cell 3 (by simp)
  have r4 := hBr.cell 4 (by simp)
  have r5 := hBr.cell 5 (by simp)
  simp only [List.getElem?_cons_zero, List.getElem?_cons_succ] at r0 r1 r2 r3 r4 r5
  have rF := hBr.free
  have rL := hBr.lt
  have rB := hBr.base
  have H := Lib.hid (And.intro hB0 (And.intro hB1 (And.intro hE (And.intro hR hsm))))
  clear hB0 hBr hB1 hE hR hsm
  go_wp2_with fail
  refine wp_at fun V hV => ?_
  obtain ⟨hB0, hB1, hE, hR, hsm⟩ := H.out
  obtain ⟨Q, hQ⟩ : ∃ P, P = Z.heap.size := ⟨_, rfl⟩
  have hPQ : P < Q := by rw [hQ]; exact hB1.lt
  have hN := HN.out
  have hEV : Ext Z V := by
    rw [hV]
    repeat' (first | with_reducible assumption | with_reducible exact Ext.refl _ | with_reducible apply Ext.alloc | with_reducible apply Ext.drew | with_reducible apply Ext.drewN | with_reducible apply Ext.plus_ | with_reducible refine Ext.put ?_ (by omega))
  have hB2 : Box N [.int .i64 s0, .int .i64 g0, .int .i64 h0, .int .i64 t0, .int .i64 e0, .int .i64 a0] Q V := by
    rw [hV]
    repeat' (first | with_reducible assumption | ((with_reducible refine Box.fresh ?fb ?fn ?fr); (case fb => first | omega | (simp <;> omega)); (case fn => first | omega | (simp <;> omega)); (case fr => rfl)) | with_reducible apply Box.up | with_reducible apply Box.drew_ | with_reducible apply Box.drewN_ | with_reducible apply Box.plus_ | with_reducible apply Box.put | with_reducible refine Box.off ?_ (by omega))
    all_goals first | rfl | (simp; done)
  replace hB0 := hB0.ext hEV
  replace hB1 := hB1.ext hEV
  replace hR : Row V Q 1 A wl.length (ints wl) := by
    rw [hQ]
    exact hR.below hEV
  replace hE := hE.trans hEV
  rw [← hQ]
  clear hEV hV hQ hN H
  clear r0 r1 r2 r3 r4 r5 rF rL rB
  have p0 := hB1.cell 0 (by simp)
  have p1 := hB1.cell 1 (by simp)
  have p2 := hB1.cell 2 (by simp)
  have p3 := hB1.cell 3 (by simp)
  have p4 := hB1.cell 4 (by simp)
  have p5 := hB1.cell 5 (by simp)
  simp only [List.getElem?_cons_zero, List.getElem?_cons_succ] at p0 p1 p2 p3 p4 p5
  have pF := hB1.free
  have pL := hB1.lt
  have pB := hB1.base
  have q0 := hB2.cell 0 (by simp)
  have q1 := hB2.cell 1 (by simp)
  have q2 := hB2.cell 2 (by simp)
  have q3 := hB2.cell 3 (by simp)
  have q4 := hB2.cell 4 (by simp)
  have q5 := hB2.cell 5 (by simp)
  simp only [List.getElem?_cons_zero, List.getElem?_cons_succ] at q0 q1 q2 q3 q4 q5
  have qF := hB2.free
  have qL := hB2.lt
  have qB := hB2.base
  have H := Lib.hid (And.intro hB0 (And.intro hB1 (And.intro hB2 (And.intro hE (And.intro hR hsm)))))
  have hn1 := hsm.ok.n1
  have hn3 := hsm.n3
  have ho1 := hsm.ok.ho1
  have ho3 := hsm.ho3
  clear hB0 hB1 hB2 hE hR hsm
  apply wp_region_ext 12 [is _, is _, is _, is _, is _, is (.int .i64 (g0 % (wl.length : Int))), is _, is _, is _, is _, is (.int .i64 (h0 % ho)), is _] (by kernel_rfl) (by kernel_rfl) rfl
  case hops =>
    simp only [List.take_succ_cons, List.take_zero]
    refine ⟨?_, ?_, ?_, ?_, ?_, ?_, ?_, ?_, ?_, ?_, ?_, ?_, trivial⟩
    all_goals
      intro vs x hd
      simp only [putAll, Act.put, List.setIfInBounds_toArray, List.set_cons_succ, List.set_cons_zero, Nat.zero_add, Nat.reduceAdd]
      simp [depFacts, is, isRow, isRowN, isBox, dataE] at hd
      try simp only [World.plus_plus] at hd
      simp only [Region.wanted, if_true, comes]
      try simp [yielded, hd, comes]
      go_simp
      try go_bits
      first
        | exact ⟨Ext.refl _, rfl⟩
        | exact rfl
        | exact ⟨(Ext.refl _).alloc _, _, rfl, Cells.new _ _ _ _ rfl⟩
        | exact ⟨(Ext.refl _).alloc _, _, rfl, Box.new _ _ _ _ (by simp [World.le_plus]) rfl⟩
        | (refine (within_any _ _ _ (by omega) (by omega)).mono ?_; rintro e w' ⟨rfl, rfl⟩; exact ⟨_, rfl, Ext.refl _, rfl⟩)
  case hst => exact ⟨(by apply is.st), (by apply is.st), (by apply is.st), (by apply is.st), (by apply is.st), (by apply is.st), (by apply is.st), (by apply is.st), (by apply is.st), (by apply is.st), (by apply is.st), (by apply is.st), trivial⟩
  case hfin =>
    intro vs x hf
    try simp only [World.plus_plus] at hf ⊢
    simp only [List.take_succ_cons, List.take_zero, List.drop_succ_cons, List.drop_zero, putAll, Act.put, List.setIfInBounds_toArray, List.set_cons_succ, List.set_cons_zero]
    simp only [facts, is, Nat.zero_add, Nat.reduceAdd] at hf
    simp only [Nat.zero_add, Nat.reduceAdd, hf]
    clear hf
    refine wl_at fun U hU => ?_
    obtain ⟨hB0, hB1, hB2, hE, hR, hsm⟩ := H.out
    have hN := HN.out
    replace hB0 : Box N [.int .i64 xk, .int .i64 xx] N U := by
      rw [hU]
      repeat' (first | with_reducible assumption | ((with_reducible refine Box.fresh ?fb ?fn ?fr); (case fb => first | omega | (simp <;> omega)); (case fn => first | omega | (simp <;> omega)); (case fr => rfl)) | with_reducible apply Box.up | with_reducible apply Box.drew_ | with_reducible apply Box.drewN_ | with_reducible apply Box.plus_ | with_reducible apply Box.put | with_reducible refine Box.off ?_ (by omega))
      all_goals first | rfl | (simp; done)
    replace hB1 : Box N (pcells A wl.length c mi nu de ho wi) P U := by
      rw [hU]
      repeat' (first | with_reducible assumption | ((with_reducible refine Box.fresh ?fb ?fn ?fr); (case fb => first | omega | (simp <;> omega)); (case fn => first | omega | (simp <;> omega)); (case fr => rfl)) | with_reducible apply Box.up | with_reducible apply Box.drew_ | with_reducible apply Box.drewN_ | with_reducible apply Box.plus_ | with_reducible apply Box.put | with_reducible refine Box.off ?_ (by omega))
      all_goals first | rfl | (simp; done)
    replace hB2 : Box N [.int .i64 s0, .int .i64 g0, .int .i64 h0, .int .i64 t0, .int .i64 e0, .int .i64 a0] Q U := by
      rw [hU]
      repeat' (first | with_reducible assumption | ((with_reducible refine Box.fresh ?fb ?fn ?fr); (case fb => first | omega | (simp <;> omega)); (case fn => first | omega | (simp <;> omega)); (case fr => rfl)) | with_reducible apply Box.up | with_reducible apply Box.drew_ | with_reducible apply Box.drewN_ | with_reducible apply Box.plus_ | with_reducible apply Box.put | with_reducible refine Box.off ?_ (by omega))
      all_goals first | rfl | (simp; done)
    replace hE : Ext w U := by
      rw [hU]
      repeat' (first | with_reducible assumption | with_reducible exact Ext.refl _ | with_reducible apply Ext.alloc | with_reducible apply Ext.drew | with_reducible apply Ext.drewN | with_reducible apply Ext.plus_ | with_reducible refine Ext.put ?_ (by omega))
    replace hR : Row U Q 1 A wl.length (ints wl) := by
      rw [hU]
      repeat' (first | with_reducible assumption | with_reducible refine Row.put ?_ (by omega) | with_reducible refine Row.up_ ?_ (by first | omega | (simp <;> omega)) _ | with_reducible refine Row.plus_ ?_ (by first | omega | (simp <;> omega)) _ | with_reducible apply Row.drew)
    clear hU hN H
    clear p0 p1 p2 p3 p4 p5 pF pL pB
    clear q0 q1 q2 q3 q4 q5 qF qL qB
    have p0 := hB1.cell 0 (by simp)
    have p1 := hB1.cell 1 (by simp)
    have p2 := hB1.cell 2 (by simp)
    have p3 := hB1.cell 3 (by simp)
    have p4 := hB1.cell 4 (by simp)
    have p5 := hB1.cell 5 (by simp)
    simp only [List.getElem?_cons_zero, List.getElem?_cons_succ] at p0 p1 p2 p3 p4 p5
    have pF := hB1.free
    have pL := hB1.lt
    have pB := hB1.base
    have q0 := hB2.cell 0 (by simp)
    have q1 := hB2.cell 1 (by simp)
    have q2 := hB2.cell 2 (by simp)
    have q3 := hB2.cell 3 (by simp)
    have q4 := hB2.cell 4 (by simp)
    have q5 := hB2.cell 5 (by simp)
    simp only [List.getElem?_cons_zero, List.getElem?_cons_succ] at q0 q1 q2 q3 q4 q5
    have qF := hB2.free
    have qL := hB2.lt
    have qB := hB2.base
    have H := Lib.hid (And.intro hB0 (And.intro hB1 (And.intro hB2 (And.intro hE (And.intro hR hsm)))))
    clear hB0 hB1 hB2 hE hR hsm
    have hg1 := Int.emod_nonneg g0 (show (wl.length : Int) ≠ 0 by omega)
    have hg2 := Int.emod_lt_of_pos g0 (show (0 : Int) < wl.length by omega)
    have hh1 := Int.emod_nonneg h0 (show ho ≠ 0 by omega)
    have hh2 := Int.emod_lt_of_pos h0 (show 0 < ho by omega)
    obtain ⟨g1, hg⟩ : ∃ z, z = g0 % (wl.length : Int) := ⟨_, rfl⟩
    obtain ⟨h1, hh⟩ : ∃ z, z = h0 % ho := ⟨_, rfl⟩
    rw [← hg] at hg1 hg2
    rw [← hh] at hh1 hh2
    rw [← hg, ← hh]
    clear hg hh
    go_wp2_with fail
    refine calls_at fun U2 hU => ?_
    obtain ⟨hB0, hB1, hB2, hE, hR, hsm⟩ := H.out
    have hN := HN.out
    replace hB0 : Box N [.int .i64 xk, .int .i64 xx] N U2 := by
      rw [hU]
      repeat' (first | with_reducible assumption | ((with_reducible refine Box.fresh ?fb ?fn ?fr); (case fb => first | omega | (simp <;> omega)); (case fn => first | omega | (simp <;> omega)); (case fr => rfl)) | with_reducible apply Box.up | with_reducible apply Box.drew_ | with_reducible apply Box.drewN_ | with_reducible apply Box.plus_ | with_reducible apply Box.put | with_reducible refine Box.off ?_ (by omega))
      all_goals first | rfl | (simp; done)
    replace hB1 : Box N (pcells A wl.length c mi nu de ho wi) P U2 := by
      rw [hU]
      repeat' (first | with_reducible assumption | ((with_reducible refine Box.fresh ?fb ?fn ?fr); (case fb => first | omega | (simp <;> omega)); (case fn => first | omega | (simp <;> omega)); (case fr => rfl)) | with_reducible apply Box.up | with_reducible apply Box.drew_ | with_reducible apply Box.drewN_ | with_reducible apply Box.plus_ | with_reducible apply Box.put | with_reducible refine Box.off ?_ (by omega))
      all_goals first | rfl | (simp; done)
    replace hB2 : Box N [.int .i64 s0, .int .i64 g1, .int .i64 h1, .int .i64 t0, .int .i64 e0, .int .i64 a0] Q U2 := by
      rw [hU]
      repeat' (first | with_reducible assumption | ((with_reducible refine Box.fresh ?fb ?fn ?fr); (case fb => first | omega | (simp <;> omega)); (case fn => first | omega | (simp <;> omega)); (case fr => rfl)) | with_reducible apply Box.up | with_reducible apply Box.drew_ | with_reducible apply Box.drewN_ | with_reducible apply Box.plus_ | with_reducible apply Box.put | with_reducible refine Box.off ?_ (by omega))
      all_goals first | rfl | (simp; done)
    replace hE : Ext w U2 := by
      rw [hU]
      repeat' (first | with_reducible assumption | with_reducible exact Ext.refl _ | with_reducible apply Ext.alloc | with_reducible apply Ext.drew | with_reducible apply Ext.drewN | with_reducible apply Ext.plus_ | with_reducible refine Ext.put ?_ (by omega))
    replace hR : Row U2 Q 1 A wl.length (ints wl) := by
      rw [hU]
      repeat' (first | with_reducible assumption | with_reducible refine Row.put ?_ (by omega) | with_reducible refine Row.up_ ?_ (by first | omega | (simp <;> omega)) _ | with_reducible refine Row.plus_ ?_ (by first | omega | (simp <;> omega)) _ | with_reducible apply Row.drew)
    clear hU hN H
    clear p0 p1 p2 p3 p4 p5 pF pL pB
    clear q0 q1 q2 q3 q4 q5 qF qL qB
    have p0 := hB1.cell 0 (by simp)
    have p1 := hB1.cell 1 (by simp)
    have p2 := hB1.cell 2 (by simp)
    have p3 := hB1.cell 3 (by simp)
    have p4 := hB1.cell 4 (by simp)
    have p5 := hB1.cell 5 (by simp)
    simp only [List.getElem?_cons_zero, List.getElem?_cons_succ] at p0 p1 p2 p3 p4 p5
    have pF := hB1.free
    have pL := hB1.lt
    have pB := hB1.base
    have q0 := hB2.cell 0 (by simp)
    have q1 := hB2.cell 1 (by simp)
    have q2 := hB2.cell 2 (by simp)
    have q3 := hB2.cell 3 (by simp)
    have q4 := hB2.cell 4 (by simp)
    have q5 := hB2.cell 5 (by simp)
    simp only [List.getElem?_cons_zero, List.getElem?_cons_succ] at q0 q1 q2 q3 q4 q5
    have qF := hB2.free
    have qL := hB2.lt
    have qB := hB2.base
    have H := Lib.hid (And.intro hB0 (And.intro hB1 (And.intro hB2 (And.intro hE (And.intro hR hsm)))))
    clear hB0 hB1 hB2 hE hR hsm
    refine (within_any t0 20 U2 (by decide) (by decide)).mono ?_
    have ht1 := Int.emod_nonneg t0 (show (20 : Int) ≠ 0 by omega)
    have ht2 := Int.emod_lt_of_pos t0 (show (0 : Int) < 20 by omega)
    obtain ⟨t1, ht⟩ : ∃ z, z = t0 % 20 := ⟨_, rfl⟩
    rw [← ht] at ht1 ht2 ⊢
    clear ht
    rintro ee U3 ⟨rfl, rfl⟩
    go_wp2_with fail
    refine calls_at fun U4 hU => ?_
    obtain ⟨hB0, hB1, hB2, hE, hR, hsm⟩ := H.out
    have hN := HN.out
    replace hB0 : Box N [.int .i64 xk, .int .i64 xx] N U4 := by
      rw [hU]
      repeat' (first | with_reducible assumption | ((with_reducible refine Box.fresh ?fb ?fn ?fr); (case fb => first | omega | (simp <;> omega)); (case fn => first | omega | (simp <;> omega)); (case fr => rfl)) | with_reducible apply Box.up | with_reducible apply Box.drew_ | with_reducible apply Box.drewN_ | with_reducible apply Box.plus_ | with_reducible apply Box.put | with_reducible refine Box.off ?_ (by omega))
      all_goals first | rfl | (simp; done)
    replace hB1 : Box N (pcells A wl.length c mi nu de ho wi) P U4 := by
      rw [hU]
      repeat' (first | with_reducible assumption | ((with_reducible refine Box.fresh ?fb ?fn ?fr); (case fb => first | omega | (simp <;> omega)); (case fn => first | omega | (simp <;> omega)); (case fr => rfl)) | with_reducible apply Box.up | with_reducible apply Box.drew_ | with_reducible apply Box.drewN_ | with_reducible apply Box.plus_ | with_reducible apply Box.put | with_reducible refine Box.off ?_ (by omega))
      all_goals first | rfl | (simp; done)
    replace hB2 : Box N [.int .i64 s0, .int .i64 g1, .int .i64 h1, .int .i64 t1, .int .i64 e0, .int .i64 a0] Q U4 := by
      rw [hU]
      repeat' (first | with_reducible assumption | ((with_reducible refine Box.fresh ?fb ?fn ?fr); (case fb => first | omega | (simp <;> omega)); (case fn => first | omega | (simp <;> omega)); (case fr => rfl)) | with_reducible apply Box.up | with_reducible apply Box.drew_ | with_reducible apply Box.drewN_ | with_reducible apply Box.plus_ | with_reducible apply Box.put | with_reducible refine Box.off ?_ (by omega))
      all_goals first | rfl | (simp; done)
    replace hE : Ext w U4 := by
      rw [hU]
      repeat' (first | with_reducible assumption | with_reducible exact Ext.refl _ | with_reducible apply Ext.alloc | with_reducible apply Ext.drew | with_reducible apply Ext.drewN | with_reducible apply Ext.plus_ | with_reducible refine Ext.put ?_ (by omega))
    replace hR : Row U4 Q 1 A wl.length (ints wl) := by
      rw [hU]
      repeat' (first | with_reducible assumption | with_reducible refine Row.put ?_ (by omega) | with_reducible refine Row.up_ ?_ (by first | omega | (simp <;> omega)) _ | with_reducible refine Row.plus_ ?_ (by first | omega | (simp <;> omega)) _ | with_reducible apply Row.drew)
    clear hU hN H
    clear p0 p1 p2 p3 p4 p5 pF pL pB
    clear q0 q1 q2 q3 q4 q5 qF qL qB
    have p0 := hB1.cell 0 (by simp)
    have p1 := hB1.cell 1 (by simp)
    have p2 := hB1.cell 2 (by simp)
    have p3 := hB1.cell 3 (by simp)
    have p4 := hB1.cell 4 (by simp)
    have p5 := hB1.cell 5 (by simp)
    simp only [List.getElem?_cons_zero, List.getElem?_cons_succ] at p0 p1 p2 p3 p4 p5
    have pF := hB1.free
    have pL := hB1.lt
    have pB := hB1.base
    have q0 := hB2.cell 0 (by simp)
    have q1 := hB2.cell 1 (by simp)
    have q2 := hB2.cell 2 (by simp)
    have q3 := hB2.cell 3 (by simp)
    have q4 := hB2.cell 4 (by simp)
    have q5 := hB2.cell 5 (by simp)
    simp only [List.getElem?_cons_zero, List.getElem?_cons_succ] at q0 q1 q2 q3 q4 q5
    have qF := hB2.free
    have qL := hB2.lt
    have qB := hB2.base
    have H := Lib.hid (And.intro hB0 (And.intro hB1 (And.intro hB2 (And.intro hE (And.intro hR hsm)))))
    clear hB0 hB1 hB2 hE hR hsm
    refine (within_any e0 (t1 + 1) U4 (by omega) (by omega)).mono ?_
    obtain ⟨e1, he⟩ : ∃ z, z = e0 % (t1 + 1) := ⟨_, rfl⟩
    rw [← he]
    clear he
    rintro ee U5 ⟨rfl, rfl⟩
    go_wp2_with fail
    refine wp_at fun U6 hU => ?_
    obtain ⟨hB0, hB1, hB2, hE, hR, hsm⟩ := H.out
    have hN := HN.out
    replace hB0 : Box N [.int .i64 xk, .int .i64 xx] N U6 := by
      rw [hU]
      repeat' (first | with_reducible assumption | ((with_reducible refine Box.fresh ?fb ?fn ?fr); (case fb => first | omega | (simp <;> omega)); (case fn => first | omega | (simp <;> omega)); (case fr => rfl)) | with_reducible apply Box.up | with_reducible apply Box.drew_ | with_reducible apply Box.drewN_ | with_reducible apply Box.plus_ | with_reducible apply Box.put | with_reducible refine Box.off ?_ (by omega))
      all_goals first | rfl | (simp; done)
    replace hB1 : Box N (pcells A wl.length c mi nu de ho wi) P U6 := by
      rw [hU]
      repeat' (first | with_reducible assumption | ((with_reducible refine Box.fresh ?fb ?fn ?fr); (case fb => first | omega | (simp <;> omega)); (case fn => first | omega | (simp <;> omega)); (case fr => rfl)) | with_reducible apply Box.up | with_reducible apply Box.drew_ | with_reducible apply Box.drewN_ | with_reducible apply Box.plus_ | with_reducible apply Box.put | with_reducible refine Box.off ?_ (by omega))
      all_goals first | rfl | (simp; done)
    replace hB2 : Box N [.int .i64 s0, .int .i64 g1, .int .i64 h1, .int .i64 t1, .int .i64 e1, .int .i64 a0] Q U6 := by
      rw [hU]
      repeat' (first | with_reducible assumption | ((with_reducible refine Box.fresh ?fb ?fn ?fr); (case fb => first | omega | (simp <;> omega)); (case fn => first | omega | (simp <;> omega)); (case fr => rfl)) | with_reducible apply Box.up | with_reducible apply Box.drew_ | with_reducible apply Box.drewN_ | with_reducible apply Box.plus_ | with_reducible apply Box.put | with_reducible refine Box.off ?_ (by omega))
      all_goals first | rfl | (simp; done)
    replace hE : Ext w U6 := by
      rw [hU]
      repeat' (first | with_reducible assumption | with_reducible exact Ext.refl _ | with_reducible apply Ext.alloc | with_reducible apply Ext.drew | with_reducible apply Ext.drewN | with_reducible apply Ext.plus_ | with_reducible refine Ext.put ?_ (by omega))
    replace hR : Row U6 Q 1 A wl.length (ints wl) := by
      rw [hU]
      repeat' (first | with_reducible assumption | with_reducible refine Row.put ?_ (by omega) | with_reducible refine Row.up_ ?_ (by first | omega | (simp <;> omega)) _ | with_reducible refine Row.plus_ ?_ (by first | omega | (simp <;> omega)) _ | with_reducible apply Row.drew)
    clear hU hN H
    clear p0 p1 p2 p3 p4 p5 pF pL pB
    clear q0 q1 q2 q3 q4 q5 qF qL qB
    have p0 := hB1.cell 0 (by simp)
    have p1 := hB1.cell 1 (by simp)
    have p2 := hB1.cell 2 (by simp)
    have p3 := hB1.cell 3 (by simp)
    have p4 := hB1.cell 4 (by simp)
    have p5 := hB1.cell 5 (by simp)
    simp only [List.getElem?_cons_zero, List.getElem?_cons_succ] at p0 p1 p2 p3 p4 p5
    have pF := hB1.free
    have pL := hB1.lt
    have pB := hB1.base
    have q0 := hB2.cell 0 (by simp)
    have q1 := hB2.cell 1 (by simp)
    have q2 := hB2.cell 2 (by simp)
    have q3 := hB2.cell 3 (by simp)
    have q4 := hB2.cell 4 (by simp)
    have q5 := hB2.cell 5 (by simp)
    simp only [List.getElem?_cons_zero, List.getElem?_cons_succ] at q0 q1 q2 q3 q4 q5
    have qF := hB2.free
    have qL := hB2.lt
    have qB := hB2.base
    have H := Lib.hid (And.intro hB0 (And.intro hB1 (And.intro hB2 (And.intro hE (And.intro hR hsm)))))
    clear hB0 hB1 hB2 hE hR hsm
    obtain ⟨hB0, hB1, hB2, hE, hR, hsm⟩ := H.out
    have hI : InvR wl.length ho ⟨s0, g1, h1, t1, e1, a0⟩ := ⟨hg1, hg2, hh1, hh2⟩
    have HR := Lib.hid (hR.more (show Q ≤ U6.heap.size by omega))
    have HE := Lib.hid hE
    have o0 := hB0.cell 0 (by simp)
    have o1 := hB0.cell 1 (by simp)
    simp only [List.getElem?_cons_zero, List.getElem?_cons_succ] at o0 o1
    have oF := hB0.free
    have oL := hB0.lt
    have oB := hB0.base
    clear hB0 hB1 hB2 hE hR H
    have C1 := Lib.hid (fun W h => tick_any A wl.length c wl mi nu de ho wi ⟨s0, g1, h1, t1, e1, a0⟩ W h hc hsm.ok hI)
    have C2 := Lib.hid (fun W h => refTick_any A wl.length c wl mi nu de ho wi ⟨s0, g1, h1, t1, e1, a0⟩ W h hc hsm.ok hI)
    have C3 := Lib.hid (fun W h => rweight_any A wl.length c wl mi nu de ho wi ⟨s0, g1, h1, t1, e1, a0⟩ W h hc (by have := hsm.n3; omega))
    have C4 := Lib.hid (fun W h => refWeight_any A wl.length c wl mi nu de ho wi ⟨s0, g1, h1, t1, e1, a0⟩ W h hc (by have := hsm.n3; omega))
    have C5 := Lib.hid (fun W h => step_any A wl.length c wl mi nu de ho wi ⟨s0, g1, h1, t1, e1, a0⟩ xk xx W h hc hsm.ok hI)
    have C6 := Lib.hid (fun W h => refStep_any A wl.length c wl mi nu de ho wi ⟨s0, g1, h1, t1, e1, a0⟩ xk xx W h hc hsm.ok hI)
    obtain ⟨tr, htr⟩ : ∃ tr, tr = tickR wl mi nu de ho wi ⟨s0, g1, h1, t1, e1, a0⟩ := ⟨_, rfl⟩
    obtain ⟨wr, hwr⟩ : ∃ tr, tr = weightR wl mi nu de ho wi ⟨s0, g1, h1, t1, e1, a0⟩ := ⟨_, rfl⟩
    obtain ⟨sr, hsr⟩ : ∃ tr, tr = stepR wl mi nu de ho wi ⟨s0, g1, h1, t1, e1, a0⟩ xk xx := ⟨_, rfl⟩
    rw [← htr] at C1 C2
    rw [← hwr] at C3 C4
    rw [← hsr] at C5 C6
    clear htr hwr hsr hsm hI
    apply wp_region_ext 30 [is _, is _, is (rv tr), is _, is _, is (rv tr), is (.bool true), is _, is _, is _, is (.int .i64 wr), is _, is _, is (.int .i64 wr), is (.bool true), is _, is _, is _, is _, is _, is (rv sr), is _, is _, is _, is (rv sr), is (.bool true), is _, is _, is (.bool true), is _] (by kernel_rfl) (by kernel_rfl) rfl
    case hops =>
      simp only [List.take_succ_cons, List.take_zero]
      refine ⟨?_, ?_, ?_, ?_, ?_, ?_, ?_, ?_, ?_, ?_, ?_, ?_, ?_, ?_, ?_, ?_, ?_, ?_, ?_, ?_, ?_, ?_, ?_, ?_, ?_, ?_, ?_, ?_, ?_, ?_, trivial⟩
      all_goals
        intro vs x hd
        simp only [putAll, Act.put, List.setIfInBounds_toArray, List.set_cons_succ, List.set_cons_zero, Nat.zero_add, Nat.reduceAdd]
        simp [depFacts, is, isRow, isRowN, isBox, dataE] at hd
        try simp only [World.plus_plus] at hd
        simp only [Region.wanted, if_true, comes]
        try simp [yielded, hd, comes]
        go_simp
        try go_bits
        first
          | exact ⟨Ext.refl _, rfl⟩
          | exact rfl
          | exact ⟨(Ext.refl _).alloc _, _, rfl, Cells.new _ _ _ _ rfl⟩
          | exact ⟨(Ext.refl _).alloc _, _, rfl, Box.new _ _ _ _ (by simp [World.le_plus]) rfl⟩
          | ((go_at_call 12); refine (C1.out _ (HR.out.lift (by repeat (first | exact Ext.refl _ | assumption | apply Ext.plus_ | apply Ext.alloc | apply Ext.drew)))).mono ?_; rintro e w' ⟨rfl, hE⟩; exact ⟨_, rfl, hE, rfl⟩)
          | ((go_at_call 13); refine (C2.out _ (HR.out.lift (by repeat (first | exact Ext.refl _ | assumption | apply Ext.plus_ | apply Ext.alloc | apply Ext.drew)))).mono ?_; rintro e w' ⟨rfl, hE⟩; exact ⟨_, rfl, hE, rfl⟩)
          | ((go_at_call 14); refine (C3.out _ (HR.out.lift (by repeat (first | exact Ext.refl _ | assumption | apply Ext.plus_ | apply Ext.alloc | apply Ext.drew)))).mono ?_; rintro e w' ⟨rfl, hE⟩; exact ⟨_, rfl, hE, rfl⟩)
          | ((go_at_call 15); refine (C4.out _ (HR.out.lift (by repeat (first | exact Ext.refl _ | assumption | apply Ext.plus_ | apply Ext.alloc | apply Ext.drew)))).mono ?_; rintro e w' ⟨rfl, hE⟩; exact ⟨_, rfl, hE, rfl⟩)
          | ((go_at_call 16); refine (C5.out _ (HR.out.lift (by repeat (first | exact Ext.refl _ | assumption | apply Ext.plus_ | apply Ext.alloc | apply Ext.drew)))).mono ?_; rintro e w' ⟨rfl, hE⟩; exact ⟨_, rfl, hE, rfl⟩)
          | ((go_at_call 17); refine (C6.out _ (HR.out.lift (by repeat (first | exact Ext.refl _ | assumption | apply Ext.plus_ | apply Ext.alloc | apply Ext.drew)))).mono ?_; rintro e w' ⟨rfl, hE⟩; exact ⟨_, rfl, hE, rfl⟩)
          | ((go_at_call 18); refine (awake_any _).mono ?_; rintro e w' ⟨rfl, hE⟩; exact ⟨_, rfl, hE, rfl⟩)
    case hst => exact ⟨(by apply is.st), (by apply is.st), (by apply is.st), (by apply is.st), (by apply is.st), (by apply is.st), (by apply is.st), (by apply is.st), (by apply is.st), (by apply is.st), (by apply is.st), (by apply is.st), (by apply is.st), (by apply is.st), (by apply is.st), (by apply is.st), (by apply is.st), (by apply is.st), (by apply is.st), (by apply is.st), (by apply is.st), (by apply is.st), (by apply is.st), (by apply is.st), (by apply is.st), (by apply is.st), (by apply is.st), (by apply is.st), (by apply is.st), (by apply is.st), trivial⟩
    case hfin =>
      intro vs x hf
      try simp only [World.plus_plus] at hf ⊢
      simp only [List.take_succ_cons, List.take_zero, List.drop_succ_cons, List.drop_zero, putAll, Act.put, List.setIfInBounds_toArray, List.set_cons_succ, List.set_cons_zero]
      simp only [facts, is, Nat.zero_add, Nat.reduceAdd] at hf
      simp only [Nat.zero_add, Nat.reduceAdd, hf]
      clear hf
      go_wp2
      go_ret
      refine ⟨rfl, ?_⟩
      have hE := HE.out
      repeat' (first | with_reducible assumption | with_reducible exact Ext.refl _ | with_reducible apply Ext.alloc | with_reducible apply Ext.drew | with_reducible apply Ext.drewN | with_reducible apply Ext.plus_ | with_reducible refine Ext.put ?_ (by omega))

theorem law_rtick (v0 v1 v2 v3 v4 : Value) (w : World) (p0 : ∃ A n c, ∃ l : List Int, v0 = .slice A n c ∧ ArgRow w A n c (l.map (Value.int .i64)) ∧ ∀ x ∈ l, I64 x)
    (p1 : ∃ A n c, ∃ l : List Int, v1 = .slice A n c ∧ ArgRow w A n c (l.map (Value.int .i64)) ∧ ∀ x ∈ l, I64 x)
    (p2 : ∃ k x, v2 = .agg #[.int .i64 k, .int .i64 x] ∧ I64 k ∧ I64 x)
    (p3 : ∃ s g h t e a, v3 = .agg #[.int .i64 s, .int .i64 g, .int .i64 h, .int .i64 t, .int .i64 e, .int .i64 a] ∧ I64 s ∧ I64 g ∧ I64 h ∧ I64 t ∧ I64 e ∧ I64 a) (p4 : ∃ b, v4 = .bool b) :
    Calls Try.prog 3 #[v0, v1, v2, v3, v4] w fun ee w' => ee = .returned (.bool true) ∧ Ext w w' := by
  obtain ⟨B, k, d, ll, rfl, ⟨hB, hkd, hdm, _⟩, _⟩ := p0
  obtain ⟨M, mk, md, ml, rfl, ⟨hM, hmd, hmm, _⟩, _⟩ := p1
  obtain ⟨xk, xx, rfl, _⟩ := p2
  obtain ⟨s, g, h, t, e, a, rfl, _⟩ := p3
  obtain ⟨b, rfl⟩ := p4
  cases b
  · exact rtick_tame B k d ll M mk md ml xk xx ⟨s, g, h, t, e, a⟩ w hB (by omega) hM (by omega) hmd
  · exact rtick_wild B k d ll M mk md ml xk xx ⟨s, g, h, t, e, a⟩ w hB (by omega) hM (by omega) hmd
end Go.Proofs.Ytidndcigloohoaa
