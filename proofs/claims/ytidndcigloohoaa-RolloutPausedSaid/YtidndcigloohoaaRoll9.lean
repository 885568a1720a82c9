/- Rollouts: what the laws begin with. -/
import Derived.Test.YtidndcigloohoaaRoll7
import Derived.Test.YtidndcigloohoaaRoll8
set_option linter.unusedVariables false
namespace Go.Proofs.Ytidndcigloohoaa
open Go.RowKit Go.Rg

theorem own_put {w : World} {base n size b k : Nat} {e : TypeId} {v u : Value} {xs : List Value} (h : w.ownsRow base e size v n xs) (hb : b < base) : (w.setCell ⟨b, k, none⟩ u).ownsRow base e size v n xs := own_setCell h (p := ⟨b, k, none⟩) hb u
def MadePost (w : World) (e : Ending) (w' : World) : Prop :=
  ∃ (A : Option Addr) (c : Nat) (wl : List Int) (mi nu de ho wi : Int) (I : Option Addr) (d : Nat) (il : List I2), e = .returned (.tuple #[pl A wl.length c mi nu de ho wi, .slice I il.length d]) ∧ Small wl mi nu de ho wi ∧ wl.length ≤ c ∧
    Row w' w'.heap.size 1 A wl.length (ints wl) ∧ Row w' w'.heap.size 2 I il.length (icells il) ∧ il.length ≤ 160 ∧ Ext w w'
set_option maxHeartbeats 2000000 in
theorem made_any (B : Option Addr) (k d : Nat) (ll : List Int) (M : Option Addr) (mk md : Nat) (ml : List Int) (w : World) (hB : Row w w.heap.size 1 B k (ints ll)) (hk : k ≤ 9223372036854775807) (hM : Row w w.heap.size 1 M mk (ints ml)) (hmk : mk ≤ 9223372036854775807) (hmd : mk ≤ md) :
    Calls Try.prog 9 #[.slice B k d, .slice M mk md] w (MadePost w) := by
  have H := Lib.hid (And.intro hB hM)
  clear hB hM
  go_enter Try.func9, Try.ntmps9
  go_wp2_with fail
  refine calls_at fun W hW => ?_
  obtain ⟨N, hN⟩ : ∃ N, N = w.heap.size := ⟨_, rfl⟩
  have hB0 : Box N [.slice none 0 0, .int .i64 0, .int .i64 0, .int .i64 0, .int .i64 0, .int .i64 0] N W := by
    rw [hW]
    repeat' (first | with_reducible assumption | ((with_reducible refine Box.fresh ?fb ?fn ?fr); (case fb => first | omega | (simp <;> omega)); (case fn => first | omega | (simp <;> omega)); (case fr => rfl)) | with_reducible apply Box.up | with_reducible apply Box.drew_ | with_reducible apply Box.drewN_ | with_reducible apply Box.plus_ | with_reducible apply Box.put | with_reducible refine Box.off ?_ (by omega))
    all_goals first | rfl | (simp; done)
  have hs : SrcAt W (N + 1) B k d ll 0 := by
    rw [hW]
    exact src_at H.out.1 ((Ext.refl w).alloc _) (by simp; omega) hk
  have hE : Ext w W := by
    rw [hW]
    repeat' (first | with_reducible assumption | with_reducible exact Ext.refl _ | with_reducible apply Ext.alloc | with_reducible apply Ext.drew | with_reducible apply Ext.drewN | with_reducible apply Ext.plus_ | with_reducible refine Ext.put ?_ (by omega))
  rw [← hN]
  clear hW
  refine (srcPlan_any (N + 1) B k d ll 0 W hs).mono ?_
  rintro e X ⟨A, c, wl, mi, nu, de, ho, wi, rfl, hsm, hown, hc1, hc2, hse⟩
  have hNs : N + 1 < W.heap.size := Ext.lt hs.c0
  replace hB0 := SE.box hB0 hse (by omega)
  replace hown := own_lower hown (show N + 1 ≤ W.heap.size by omega)
  replace hE := hE.se hse (by omega)
  have HN := Lib.hid hN
  clear hse hs hNs hN
  go_wp2_with fail
  refine (inputs_any M mk md ml X (H.out.2.lift hE) hmk hmd).mono ?_
  rintro e Y ⟨I, id', il, rfl, hiown, hi1, hi2, hEY⟩
  have hNX : N + 1 ≤ X.heap.size := hB0.lt
  replace hiown := own_lower hiown hNX
  replace hB0 := hB0.ext hEY
  replace hown := own_ext hown hEY
  replace hE := hE.trans hEY
  clear hEY hNX
  have m0 := hB0.cell 0 (by simp)
  have m1 := hB0.cell 1 (by simp)
  have m2 := hB0.cell 2 (by simp)
  have m3 := hB0.cell 3 (by simp)
  have m4 := hB0.cell 4 (by simp)
  have m5 := hB0.cell 5 (by simp)
  simp only [List.getElem?_cons_zero, List.getElem?_cons_succ] at m0 m1 m2 m3 m4 m5
  have mF := hB0.free
  have mL := hB0.lt
  have mB := hB0.base
  have HE := Lib.hid (And.intro hE (And.intro hown (And.intro hiown hsm)))
  clear hB0 hE hown hiown hsm
  go_wp2
  refine bodyPost_ret (v := (.tuple #[pl A wl.length c mi nu de ho wi, .slice I il.length id'])) (by simp [results, Try.results9, go_sem, m0, m1, m2, m3, m4, m5]) rfl ?_
  obtain ⟨hE, hown, hiown, hsm⟩ := HE.out
  have hN := HN.out
  refine ⟨A, c, wl, mi, nu, de, ho, wi, I, id', il, rfl, hsm, hc1, own_row (base := N + 1) (c := c) (e := 3) ?_, own_rows (base := N + 1) (c := id') (e := 24) (by omega) ?_, hi2, ?_⟩
  · iterate 6 (refine own_put ?_ (by omega))
    exact hown
  · iterate 6 (refine own_put ?_ (by omega))
    exact hiown
  · repeat' (first | with_reducible assumption | with_reducible exact Ext.refl _ | with_reducible apply Ext.alloc | with_reducible apply Ext.drew | with_reducible apply Ext.drewN | with_reducible apply Ext.plus_ | with_reducible refine Ext.put ?_ (by omega))
theorem ok10 : PlanOK [10] 1 0 1 1 1 := by decide
theorem Row.put {w : World} {B size n c k : Nat} {A : Option Addr} {xs : List Value} {v : Value} (h : Row w B size A n xs) (hc : B ≤ c) : Row (w.setCell ⟨c, k, none⟩ v) B size A n xs := h.setCell (p := ⟨c, k, none⟩) hc v
theorem Row.up_ {w : World} {B size n : Nat} {A : Option Addr} {xs : List Value} (h : Row w B size A n xs) (hB : B ≤ w.heap.size) (o : Obj) : Row (w.alloc o) B size A n xs := h.alloc hB o
theorem Row.plus_ {w : World} {B size n : Nat} {A : Option Addr} {xs : List Value} (h : Row w B size A n xs) (hB : B ≤ w.heap.size) (x : Array Obj × Nat) : Row (w.plus x) B size A n xs := h.below (((Ext.refl w).plus_ x).mono hB)
theorem row_new (w : World) (zs : List Int) (b : Nat) (h : Cells w b (ints zs)) : Row w w.heap.size 1 (some ⟨b, 0, none⟩) zs.length (ints zs) := ⟨by simp, fun _ => ⟨b, 0, rfl, h.1, fun j u hu => by simpa using h.2 j u hu⟩⟩
theorem irow_new (w : World) (il : List I2) (b : Nat) (h : Cells w b (icells il)) : Row w w.heap.size 2 (some ⟨b, 0, none⟩) il.length (icells il) := ⟨icells_len il, fun _ => ⟨b, 0, rfl, h.1, fun j u hu => by simpa using h.2 j u hu⟩⟩
theorem good_run : runR [10] 1 0 1 1 1 [(4, 1), (2, 0), (1, 0)] 3 = at_ 2 := by kernel_rfl
theorem bad_run : runR [10] 1 0 1 1 1 [(4, 1), (3, 0), (1, 0)] 3 = at_ 3 := by kernel_rfl
set_option maxHeartbeats 2000000 in
theorem awake_any (w : World) : Calls Try.prog 18 #[] w fun ee w' => ee = .returned (.bool true) ∧ Ext w w' := by
  go_enter Try.func18, Try.ntmps18
  go_wp2_with fail
  refine calls_at fun W hW => ?_
  obtain ⟨N, hN⟩ : ∃ N, N = w.heap.size := ⟨_, rfl⟩
  have hC : Cells W N (ints [10]) := by
    rw [hW]
    repeat' (first | with_reducible assumption | ((with_reducible refine Cells.fresh ?fb ?fr); (case fb => first | omega | (simp <;> omega)); (case fr => rfl)) | with_reducible apply Cells.up | with_reducible apply Cells.drew_ | with_reducible apply Cells.plus_ | with_reducible refine Cells.off ?_ (by omega))
  have hI : Cells W (N + 1 + 1 + 1) (icells [(4, 1), (2, 0), (1, 0)]) := by
    rw [hW]
    repeat' (first | with_reducible assumption | ((with_reducible refine Cells.fresh ?fb ?fr); (case fb => first | omega | (simp <;> omega)); (case fr => rfl)) | with_reducible apply Cells.up | with_reducible apply Cells.drew_ | with_reducible apply Cells.plus_ | with_reducible refine Cells.off ?_ (by omega))
  have hB1 : Box N [.slice (some ⟨N, 0, none⟩) 1 1, .int .i64 1, .int .i64 0, .int .i64 1, .int .i64 1, .int .i64 1] (N + 1) W := by
    rw [hW, ← hN]
    repeat' (first | with_reducible assumption | ((with_reducible refine Box.fresh ?fb ?fn ?fr); (case fb => first | omega | (simp <;> omega)); (case fn => first | omega | (simp <;> omega)); (case fr => rfl)) | with_reducible apply Box.up | with_reducible apply Box.drew_ | with_reducible apply Box.drewN_ | with_reducible apply Box.plus_ | with_reducible apply Box.put | with_reducible refine Box.off ?_ (by omega))
    all_goals first | rfl | (simp; done)
  have hB2 : Box N [.int .i64 4, .int .i64 1] (N + 1 + 1) W := by
    rw [hW]
    repeat' (first | with_reducible assumption | ((with_reducible refine Box.fresh ?fb ?fn ?fr); (case fb => first | omega | (simp <;> omega)); (case fn => first | omega | (simp <;> omega)); (case fr => rfl)) | with_reducible apply Box.up | with_reducible apply Box.drew_ | with_reducible apply Box.drewN_ | with_reducible apply Box.plus_ | with_reducible apply Box.put | with_reducible refine Box.off ?_ (by omega))
    all_goals first | rfl | (simp; done)
  have hE : Ext w W := by
    rw [hW]
    repeat' (first | with_reducible assumption | with_reducible exact Ext.refl _ | with_reducible apply Ext.alloc | with_reducible apply Ext.drew | with_reducible apply Ext.drewN | with_reducible apply Ext.plus_ | with_reducible refine Ext.put ?_ (by omega))
  rw [← hN]
  have HN := Lib.hid hN
  clear hW hN
  refine (run_any (some ⟨N, 0, none⟩) 1 1 [10] 1 0 1 1 1 (some ⟨N + 1 + 1 + 1, 0, none⟩) 3 3 [(4, 1), (2, 0), (1, 0)] W (row_new _ _ _ hC) (by omega) ok10 (irow_new _ _ _ hI) (by omega)).mono ?_
  rw [good_run]
  rintro e X ⟨rfl, hEX⟩
  replace hC := hC.ext hEX
  replace hB1 := hB1.ext hEX
  replace hB2 := hB2.ext hEX
  replace hE := hE.trans hEX
  clear hEX hI
  have p0 := hB1.cell 0 (by simp)
  have p1 := hB1.cell 1 (by simp)
  have p2 := hB1.cell 2 (by simp)
  have p3 := hB1.cell 3 (by simp)
  have p4 := hB1.cell 4 (by simp)
  have p5 := hB1.cell 5 (by simp)
  simp only [List.getElem?_cons_zero, List.getElem?_cons_succ] at p0 p1 p2 p3 p4 p5
  have pF := hB1.free
  have pL := hB1.lt
  have pB := hB1.base
  have q0 := hB2.cell 0 (by simp)
  have q1 := hB2.cell 1 (by simp)
  simp only [List.getElem?_cons_zero, List.getElem?_cons_succ] at q0 q1
  have qF := hB2.free
  have qL := hB2.lt
  have qB := hB2.base
  have H := Lib.hid (And.intro hC (And.intro hB1 hE))
  clear hC hB1 hB2 hE
  go_wp2_with fail
  refine calls_at fun Y hY => ?_
  obtain ⟨hC, hB1, hE⟩ := H.out
  obtain ⟨M, hM⟩ : ∃ M, M = X.heap.size := ⟨_, rfl⟩
  have hNM : N + 1 + 1 < M := by omega
  have hI : Cells Y (M + 1) (icells [(4, 1), (3, 0), (1, 0)]) := by
    rw [hY]
    repeat' (first | with_reducible assumption | ((with_reducible refine Cells.fresh ?fb ?fr); (case fb => first | omega | (simp <;> omega)); (case fr => rfl)) | with_reducible apply Cells.up | with_reducible apply Cells.drew_ | with_reducible apply Cells.plus_ | with_reducible refine Cells.off ?_ (by omega))
  replace hC : Cells Y N (ints [10]) := by
    rw [hY]
    repeat' (first | with_reducible assumption | ((with_reducible refine Cells.fresh ?fb ?fr); (case fb => first | omega | (simp <;> omega)); (case fr => rfl)) | with_reducible apply Cells.up | with_reducible apply Cells.drew_ | with_reducible apply Cells.plus_ | with_reducible refine Cells.off ?_ (by omega))
  have hB3 : Box N [.int .i64 2, .int .i64 0, .int .i64 0, .int .i64 0, .int .i64 0, .int .i64 0] M Y := by
    rw [hY]
    repeat' (first | with_reducible assumption | ((with_reducible refine Box.fresh ?fb ?fn ?fr); (case fb => first | omega | (simp <;> omega)); (case fn => first | omega | (simp <;> omega)); (case fr => rfl)) | with_reducible apply Box.up | with_reducible apply Box.drew_ | with_reducible apply Box.drewN_ | with_reducible apply Box.plus_ | with_reducible apply Box.put | with_reducible refine Box.off ?_ (by omega))
    all_goals first | rfl | (simp; done)
  replace hB1 : Box N [.slice (some ⟨N, 0, none⟩) 1 1, .int .i64 1, .int .i64 0, .int .i64 1, .int .i64 1, .int .i64 1] (N + 1) Y := by
    rw [hY]
    repeat' (first | with_reducible assumption | ((with_reducible refine Box.fresh ?fb ?fn ?fr); (case fb => first | omega | (simp <;> omega)); (case fn => first | omega | (simp <;> omega)); (case fr => rfl)) | with_reducible apply Box.up | with_reducible apply Box.drew_ | with_reducible apply Box.drewN_ | with_reducible apply Box.plus_ | with_reducible apply Box.put | with_reducible refine Box.off ?_ (by omega))
    all_goals first | rfl | (simp; done)
  have hN := HN.out
  replace hE : Ext w Y := by
    rw [hY]
    repeat' (first | with_reducible assumption | with_reducible exact Ext.refl _ | with_reducible apply Ext.alloc | with_reducible apply Ext.drew | with_reducible apply Ext.drewN | with_reducible apply Ext.plus_ | with_reducible refine Ext.put ?_ (by omega))
  rw [← hM]
  clear hY hN H hM
  clear p0 p1 p2 p3 p4 p5 pF pL pB
  clear q0 q1 qF qL qB
  refine (run_any (some ⟨N, 0, none⟩) 1 1 [10] 1 0 1 1 1 (some ⟨M + 1, 0, none⟩) 3 3 [(4, 1), (3, 0), (1, 0)] Y (row_new _ _ _ hC) (by omega) ok10 (irow_new _ _ _ hI) (by omega)).mono ?_
  rw [bad_run]
  rintro e Z ⟨rfl, hEZ⟩
  replace hC := hC.ext hEZ
  replace hB1 := hB1.ext hEZ
  replace hB3 := hB3.ext hEZ
  replace hE := hE.trans hEZ
  clear hEZ hI
  have p0 := hB1.cell 0 (by simp)
  have p1 := hB1.cell 1 (by simp)
  have p2 := hB1.cell 2 (by simp)
  have p3 := hB1.cell 3 (by simp)
  have p4 := hB1.cell 4 (by simp)
  have p5 := hB1.cell 5 (by simp)
  simp only [List.getElem?_cons_zero, List.getElem?_cons_succ] at p0 p1 p2 p3 p4 p5
  have pF := hB1.free
  have pL := hB1.lt
  have pB := hB1.base
  have r0 := hB3.cell 0 (by simp)
  have r1 := hB3.cell 1 (by simp)
  have r2 := hB3.cell 2 (by simp)
  have r3 := hB3.cell 3 (by simp)
  have r4 := hB3.cell 4 (by simp)
  have r5 := hB3.cell 5 (by simp)
  simp only [List.getElem?_cons_zero, List.getElem?_cons_succ] at r0 r1 r2 r3 r4 r5
  have rF := hB3.free
  have rL := hB3.lt
  have rB := hB3.base
  have CW1 := Lib.hid (fun W h => rweight_any (some ⟨N, 0, none⟩) 1 1 [10] 1 0 1 1 1 (at_ 2) W h (by omega) (by omega))
  have CW2 := Lib.hid (fun W h => rweight_any (some ⟨N, 0, none⟩) 1 1 [10] 1 0 1 1 1 (at_ 3) W h (by omega) (by omega))
  rw [show weightR [10] 1 0 1 1 1 (at_ 2) = 10000 by kernel_rfl] at CW1
  rw [show weightR [10] 1 0 1 1 1 (at_ 3) = 0 by kernel_rfl] at CW2
  have hR := Lib.hid (row_new _ _ _ hC)
  have HE := Lib.hid hE
  clear hC hB1 hB3 hE
  go_wp2_with fail
  refine (CW1.out _ (hR.out.lift (by repeat (first | exact Ext.refl _ | assumption | apply Ext.plus_ | apply Ext.alloc | apply Ext.drew)))).mono ?_
  rintro e w' ⟨rfl, hE⟩
  obtain ⟨x, rfl⟩ := hE.plus
  clear hE
  go_wp2_with fail
  refine (CW2.out _ (hR.out.lift (by repeat (first | exact Ext.refl _ | assumption | apply Ext.plus_ | apply Ext.alloc | apply Ext.drew)))).mono ?_
  rintro e w' ⟨rfl, hE⟩
  obtain ⟨x, rfl⟩ := hE.plus
  clear hE
  go_wp2_with fail
  go_wp2
  go_ret
  refine ⟨rfl, ?_⟩
  have hE := HE.out
  repeat' (first | with_reducible assumption | with_reducible exact Ext.refl _ | with_reducible apply Ext.alloc | with_reducible apply Ext.drew | with_reducible apply Ext.drewN | with_reducible apply Ext.plus_ | with_reducible refine Ext.put ?_ (by omega))
end Go.Proofs.Ytidndcigloohoaa
