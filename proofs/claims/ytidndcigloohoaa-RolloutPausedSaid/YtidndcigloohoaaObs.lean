/- Rollouts: the reference's Sample, Observe. -/
import Derived.Test.YtidndcigloohoaaRoll2
import Derived.Test.YtidndcigloohoaaCount
set_option linter.unusedVariables false
namespace Go.Proofs.Ytidndcigloohoaa
open Go.RowKit Go.Rg

/-! ### Observe -/
theorem cap2_one (e : Int) : addTo 1000000000 [e] 1 = cap2 e 0 := by
  unfold cap2
  have h1 := addTo_succ 1000000000 [e, 0] 0 e rfl
  have h2 := addTo_succ 1000000000 [e, 0] 1 0 rfl
  have h3 := addTo_succ 1000000000 [e] 0 e rfl
  have h4 := addTo_bd 1000000000 [e, 0] 1
  have h5 : addTo 1000000000 [e] 0 = addTo 1000000000 [e, 0] 0 := rfl
  simp only [Nat.zero_add, Nat.reduceAdd] at h1 h2 h3 h4
  rw [h2, h3, h1, h5]
  omega
theorem refAdd2 (most x y : Int) (b : Nat) (w : World) (hb : Cells w b [.int .i64 x, .int .i64 y]) (hm : most ≤ 9223372036854775807) :
    Calls Try.prog 50 #[.int .i64 most, .slice (some ⟨b, 0, none⟩) 2 2] w fun e w' => e = .returned (.int .i64 (addTo most [x, y] 2)) ∧ w = w' :=
  refAdd_any most _ 2 2 [x, y] w ⟨rfl, fun _ => ⟨b, 0, rfl, hb.1, fun j u hu => by simpa using hb.2 j u hu⟩⟩ hm (by decide)
theorem refAdd1 (most x : Int) (b : Nat) (w : World) (hb : Cells w b [.int .i64 x]) (hm : most ≤ 9223372036854775807) :
    Calls Try.prog 50 #[.int .i64 most, .slice (some ⟨b, 0, none⟩) 1 1] w fun e w' => e = .returned (.int .i64 (addTo most [x] 1)) ∧ w = w' :=
  refAdd_any most _ 1 1 [x] w ⟨rfl, fun _ => ⟨b, 0, rfl, hb.1, fun j u hu => by simpa using hb.2 j u hu⟩⟩ hm (by decide)
theorem refCount_any (x : Int) (w : World) : Calls Try.prog 49 #[.int .i64 x] w fun e w' => e = .returned (.int .i64 (cap2 x 1)) ∧ Ext w w' := by
  go_enter Try.func49, Try.ntmps49
  go_wp2_with fail
  refine calls_at fun W hW => ?_
  have hC : Cells W w.heap.size [.int .i64 x, .int .i64 1] := by rw [hW]; exact Cells.new _ _ _ _ rfl
  have hE : Ext w W := by
    rw [hW]
    repeat' (first | with_reducible assumption | with_reducible exact Ext.refl _ | with_reducible apply Ext.alloc | with_reducible apply Ext.drew | with_reducible apply Ext.drewN | with_reducible apply Ext.plus_ | with_reducible refine Ext.put ?_ (by omega))
  clear hW
  refine (refAdd2 _ _ _ _ W hC (by decide)).mono ?_
  rintro e w' ⟨rfl, rfl⟩
  go_wp2
  go_ret
  exact ⟨rfl, hE⟩
set_option maxHeartbeats 1000000 in
theorem sample_any (t e a : Int) (bad : Bool) (w : World) :
    Calls Try.prog 43 #[win t e a, .bool bad] w fun ee w' => ee = .returned (win (cap2 t 1) (cap2 e (bit bad)) a) ∧ Ext w w' := by
  go_enter Try.func43, Try.ntmps43
  go_wp2_with fail
  refine calls_at fun W hW => ?_
  obtain ⟨N, hN⟩ : ∃ N, N = w.heap.size := ⟨_, rfl⟩
  have hB0 : Box N [.int .i64 t, .int .i64 e, .int .i64 a] N W := by
    rw [hW]
    repeat' (first | with_reducible assumption | ((with_reducible refine Box.fresh ?fb ?fn ?fr); (case fb => first | omega | (simp <;> omega)); (case fn => first | omega | (simp <;> omega)); (case fr => rfl)) | with_reducible apply Box.up | with_reducible apply Box.drew_ | with_reducible apply Box.drewN_ | with_reducible apply Box.plus_ | with_reducible apply Box.put | with_reducible refine Box.off ?_ (by omega))
    all_goals first | rfl | (simp; done)
  have hB1 : Box N [.int .i64 0, .int .i64 0, .int .i64 0] (N + 1) W := by
    rw [hW]
    repeat' (first | with_reducible assumption | ((with_reducible refine Box.fresh ?fb ?fn ?fr); (case fb => first | omega | (simp <;> omega)); (case fn => first | omega | (simp <;> omega)); (case fr => rfl)) | with_reducible apply Box.up | with_reducible apply Box.drew_ | with_reducible apply Box.drewN_ | with_reducible apply Box.plus_ | with_reducible apply Box.put | with_reducible refine Box.off ?_ (by omega))
    all_goals first | rfl | (simp; done)
  have hE0 : Ext w W := by
    rw [hW]
    repeat' (first | with_reducible assumption | with_reducible exact Ext.refl _ | with_reducible apply Ext.alloc | with_reducible apply Ext.drew | with_reducible apply Ext.drewN | with_reducible apply Ext.plus_ | with_reducible refine Ext.put ?_ (by omega))
  rw [← hN]
  clear hW
  have HN := Lib.hid hN
  clear hN
  refine (refCount_any t W).mono ?_
  rintro ee X ⟨rfl, hE⟩
  replace hB0 := hB0.ext hE
  replace hB1 := hB1.ext hE
  have hE1 := hE0.trans hE
  clear hE hE0
  have k0 := hB0.cell 0 (by simp)
  have k1 := hB0.cell 1 (by simp)
  have k2 := hB0.cell 2 (by simp)
  simp only [List.getElem?_cons_zero, List.getElem?_cons_succ] at k0 k1 k2
  have kF := hB0.free
  have kL := hB0.lt
  have kB := hB0.base
  have p0 := hB1.cell 0 (by simp)
  have p1 := hB1.cell 1 (by simp)
  have p2 := hB1.cell 2 (by simp)
  simp only [List.getElem?_cons_zero, List.getElem?_cons_succ] at p0 p1 p2
  have pF := hB1.free
  have pL := hB1.lt
  have pB := hB1.base
  have HE := Lib.hid hE1
  clear hE1
  have HB0 := Lib.hid hB0
  have HB1 := Lib.hid hB1
  clear hB0 hB1
  cases bad
  · go_wp2_with fail
    refine calls_at fun Y hY => ?_
    have hB0 := HB0.out
    have hB1 := HB1.out
    have hN := HN.out
    have hE1 := HE.out
    have hC : Cells Y X.heap.size [.int .i64 e] := by
      rw [hY]
      exact Cells.fresh (by simp) rfl
    replace hB0 : Box N [.int .i64 (cap2 t 1), .int .i64 e, .int .i64 a] N Y := by
      rw [hY]
      repeat' (first | with_reducible assumption | ((with_reducible refine Box.fresh ?fb ?fn ?fr); (case fb => first | omega | (simp <;> omega)); (case fn => first | omega | (simp <;> omega)); (case fr => rfl)) | with_reducible apply Box.up | with_reducible apply Box.drew_ | with_reducible apply Box.drewN_ | with_reducible apply Box.plus_ | with_reducible apply Box.put | with_reducible refine Box.off ?_ (by omega))
      all_goals first | rfl | (simp; done)
    replace hB1 : Box N [.int .i64 0, .int .i64 0, .int .i64 0] (N + 1) Y := by
      rw [hY]
      repeat' (first | with_reducible assumption | ((with_reducible refine Box.fresh ?fb ?fn ?fr); (case fb => first | omega | (simp <;> omega)); (case fn => first | omega | (simp <;> omega)); (case fr => rfl)) | with_reducible apply Box.up | with_reducible apply Box.drew_ | with_reducible apply Box.drewN_ | with_reducible apply Box.plus_ | with_reducible apply Box.put | with_reducible refine Box.off ?_ (by omega))
      all_goals first | rfl | (simp; done)
    have hEY : Ext w Y := by
      rw [hY]
      repeat' (first | with_reducible assumption | with_reducible exact Ext.refl _ | with_reducible apply Ext.alloc | with_reducible apply Ext.drew | with_reducible apply Ext.drewN | with_reducible apply Ext.plus_ | with_reducible refine Ext.put ?_ (by omega))
    clear k0 k1 k2 kF kL kB
    clear p0 p1 p2 pF pL pB
    clear hY hE1 HB0 HB1 HE hN
    refine (refAdd1 _ _ _ Y hC (by decide)).mono ?_
    rintro ee Z ⟨rfl, rfl⟩
    rw [cap2_one]
    have k0 := hB0.cell 0 (by simp)
    have k1 := hB0.cell 1 (by simp)
    have k2 := hB0.cell 2 (by simp)
    simp only [List.getElem?_cons_zero, List.getElem?_cons_succ] at k0 k1 k2
    have kF := hB0.free
    have kL := hB0.lt
    have kB := hB0.base
    have p0 := hB1.cell 0 (by simp)
    have p1 := hB1.cell 1 (by simp)
    have p2 := hB1.cell 2 (by simp)
    simp only [List.getElem?_cons_zero, List.getElem?_cons_succ] at p0 p1 p2
    have pF := hB1.free
    have pL := hB1.lt
    have pB := hB1.base
    have HE := Lib.hid hEY
    clear hB0 hB1 hEY
    go_wp2
    refine bodyPost_ret (v := (win (cap2 t 1) (cap2 e 0) a)) (by simp [results, Try.results43, go_sem, p0, p1, p2, pL]) rfl ?_
    refine ⟨rfl, ?_⟩
    have hE1 := HE.out
    have hN := HN.out
    repeat' (first | with_reducible assumption | with_reducible exact Ext.refl _ | with_reducible apply Ext.alloc | with_reducible apply Ext.drew | with_reducible apply Ext.drewN | with_reducible apply Ext.plus_ | with_reducible refine Ext.put ?_ (by omega))
  · go_wp2_with fail
    refine calls_at fun Y hY => ?_
    have hB0 := HB0.out
    have hB1 := HB1.out
    have hN := HN.out
    have hE1 := HE.out
    replace hB0 : Box N [.int .i64 (cap2 t 1), .int .i64 e, .int .i64 a] N Y := by
      rw [hY]
      repeat' (first | with_reducible assumption | ((with_reducible refine Box.fresh ?fb ?fn ?fr); (case fb => first | omega | (simp <;> omega)); (case fn => first | omega | (simp <;> omega)); (case fr => rfl)) | with_reducible apply Box.up | with_reducible apply Box.drew_ | with_reducible apply Box.drewN_ | with_reducible apply Box.plus_ | with_reducible apply Box.put | with_reducible refine Box.off ?_ (by omega))
      all_goals first | rfl | (simp; done)
    replace hB1 : Box N [.int .i64 0, .int .i64 0, .int .i64 0] (N + 1) Y := by
      rw [hY]
      repeat' (first | with_reducible assumption | ((with_reducible refine Box.fresh ?fb ?fn ?fr); (case fb => first | omega | (simp <;> omega)); (case fn => first | omega | (simp <;> omega)); (case fr => rfl)) | with_reducible apply Box.up | with_reducible apply Box.drew_ | with_reducible apply Box.drewN_ | with_reducible apply Box.plus_ | with_reducible apply Box.put | with_reducible refine Box.off ?_ (by omega))
      all_goals first | rfl | (simp; done)
    have hEY : Ext w Y := by
      rw [hY]
      repeat' (first | with_reducible assumption | with_reducible exact Ext.refl _ | with_reducible apply Ext.alloc | with_reducible apply Ext.drew | with_reducible apply Ext.drewN | with_reducible apply Ext.plus_ | with_reducible refine Ext.put ?_ (by omega))
    clear k0 k1 k2 kF kL kB
    clear p0 p1 p2 pF pL pB
    clear hY hE1 HB0 HB1 HE hN
    refine (refCount_any e Y).mono ?_
    rintro ee Z ⟨rfl, hE⟩
    replace hB0 := hB0.ext hE
    replace hB1 := hB1.ext hE
    replace hEY := hEY.trans hE
    clear hE
    have k0 := hB0.cell 0 (by simp)
    have k1 := hB0.cell 1 (by simp)
    have k2 := hB0.cell 2 (by simp)
    simp only [List.getElem?_cons_zero, List.getElem?_cons_succ] at k0 k1 k2
    have kF := hB0.free
    have kL := hB0.lt
    have kB := hB0.base
    have p0 := hB1.cell 0 (by simp)
    have p1 := hB1.cell 1 (by simp)
    have p2 := hB1.cell 2 (by simp)
    simp only [List.getElem?_cons_zero, List.getElem?_cons_succ] at p0 p1 p2
    have pF := hB1.free
    have pL := hB1.lt
    have pB := hB1.base
    have HE := Lib.hid hEY
    clear hB0 hB1 hEY
    go_wp2
    refine bodyPost_ret (v := (win (cap2 t 1) (cap2 e 1) a)) (by simp [results, Try.results43, go_sem, p0, p1, p2, pL]) rfl ?_
    refine ⟨rfl, ?_⟩
    have hE1 := HE.out
    have hN := HN.out
    repeat' (first | with_reducible assumption | with_reducible exact Ext.refl _ | with_reducible apply Ext.alloc | with_reducible apply Ext.drew | with_reducible apply Ext.drewN | with_reducible apply Ext.plus_ | with_reducible refine Ext.put ?_ (by omega))
def obsR (r : Ro) (bad : Bool) : Ro := if r.s = 1 then ⟨r.s, r.g, r.h, cap2 r.t 1, cap2 r.e (bit bad), r.a⟩ else r
set_option maxHeartbeats 2000000 in
theorem observe_any (r : Ro) (bad : Bool) (w : World) : Calls Try.prog 30 #[rv r, .bool bad] w fun ee w' => ee = .returned (rv (obsR r bad)) ∧ Ext w w' := by
  obtain ⟨s, g, h, t, e, a⟩ := r
  by_cases hs : s = 1
  · subst hs
    have C := Lib.hid (fun w => count_any t e a bad w)
    rw [show obsR ⟨1, g, h, t, e, a⟩ bad = ⟨1, g, h, cap2 t 1, cap2 e (bit bad), a⟩ from if_pos rfl]
    obtain ⟨t', ht⟩ : ∃ t', t' = cap2 t 1 := ⟨_, rfl⟩
    obtain ⟨e', he⟩ : ∃ e', e' = cap2 e (bit bad) := ⟨_, rfl⟩
    rw [← ht, ← he] at C ⊢
    clear ht he
    go_enter Try.func30, Try.ntmps30
    go_wp2_with fail
    refine (C.out _).mono ?_
    rintro e w' ⟨rfl, hE⟩
    obtain ⟨x, rfl⟩ := hE.plus
    clear hE
    go_wp2_with fail
    go_wp2
    refine bodyPost_ret (v := (rv ⟨1, g, h, t', e', a⟩)) (by simp [results, Try.results30, go_sem]) rfl ?_
    refine ⟨rfl, ?_⟩
    repeat (first | exact Ext.refl _ | apply Ext.drew | apply Ext.drewN | apply Ext.plus_ | apply Ext.alloc | assumption)
  · rw [show obsR ⟨s, g, h, t, e, a⟩ bad = ⟨s, g, h, t, e, a⟩ from if_neg hs]
    have hs' : (s == 1) = false := by simp [hs]
    go_enter Try.func30, Try.ntmps30
    go_wp2
    refine bodyPost_ret (v := (rv ⟨s, g, h, t, e, a⟩)) (by simp [results, Try.results30, go_sem]) rfl ?_
    refine ⟨rfl, ?_⟩
    repeat (first | exact Ext.refl _ | apply Ext.drew | apply Ext.drewN | apply Ext.plus_ | apply Ext.alloc | assumption)
set_option maxHeartbeats 2000000 in
theorem refObserve_any (r : Ro) (bad : Bool) (w : World) : Calls Try.prog 31 #[rv r, .bool bad] w fun ee w' => ee = .returned (rv (obsR r bad)) ∧ Ext w w' := by
  obtain ⟨s, g, h, t, e, a⟩ := r
  by_cases hs : s = 1
  · subst hs
    have C := Lib.hid (fun w => sample_any t e a bad w)
    rw [show obsR ⟨1, g, h, t, e, a⟩ bad = ⟨1, g, h, cap2 t 1, cap2 e (bit bad), a⟩ from if_pos rfl]
    obtain ⟨t', ht⟩ : ∃ t', t' = cap2 t 1 := ⟨_, rfl⟩
    obtain ⟨e', he⟩ : ∃ e', e' = cap2 e (bit bad) := ⟨_, rfl⟩
    rw [← ht, ← he] at C ⊢
    clear ht he
    go_enter Try.func31, Try.ntmps31
    go_wp2_with fail
    refine (C.out _).mono ?_
    rintro e w' ⟨rfl, hE⟩
    obtain ⟨x, rfl⟩ := hE.plus
    clear hE
    go_wp2_with fail
    go_wp2
    refine bodyPost_ret (v := (rv ⟨1, g, h, t', e', a⟩)) (by simp [results, Try.results31, go_sem]) rfl ?_
    refine ⟨rfl, ?_⟩
    repeat (first | exact Ext.refl _ | apply Ext.drew | apply Ext.drewN | apply Ext.plus_ | apply Ext.alloc | assumption)
  · rw [show obsR ⟨s, g, h, t, e, a⟩ bad = ⟨s, g, h, t, e, a⟩ from if_neg hs]
    have hs' : (s == 1) = false := by simp [hs]
    go_enter Try.func31, Try.ntmps31
    go_wp2
    refine bodyPost_ret (v := (rv ⟨s, g, h, t, e, a⟩)) (by simp [results, Try.results31, go_sem]) rfl ?_
    refine ⟨rfl, ?_⟩
    repeat (first | exact Ext.refl _ | apply Ext.drew | apply Ext.drewN | apply Ext.plus_ | apply Ext.alloc | assumption)
end Go.Proofs.Ytidndcigloohoaa
