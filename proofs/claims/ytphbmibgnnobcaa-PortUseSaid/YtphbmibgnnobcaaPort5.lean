/- Ports: Put. -/
import Derived.Test.YtphbmibgnnobcaaPort4
set_option linter.unusedVariables false
namespace Go.Proofs.Ytphbmibgnnobcaa
open Go.RowKit Go.Rg

abbrev pz : List Value := [.int .i64 0, .int .i64 0, .int .i64 0, .slice none 0 0, .int .i64 0, .slice none 0 0, .int .i64 0, .bool false, .bool false]
/-- What Put leaves where there is room. -/
def PpPost (w : World) (id cl ic : Int) (l : List Int) (oc : Int) (k : List Int) (bu : Int) (en cg : Bool) (e : Ending) (w' : World) : Prop :=
  ∃ v1 v2, e = .returned (.tuple #[v1, v2, .int .i64 0]) ∧ PS w.heap.size w' v1 id cl ic l oc (k.drop (min bu k.length).toNat) (bu - min bu k.length) en cg ∧ BF w.heap.size w' v2 (k.take (min bu k.length).toNat) ∧ Ext w w'
set_option maxHeartbeats 2000000 in
theorem pput_no (id cl ic : Int) (A : Option Addr) (n c : Nat) (oc : Int) (B : Option Addr) (m d : Nat) (bu : Int) (en cg : Bool) (V : Option Addr) (vn vc : Nat) (w : World) (hm : m ≤ 140737488355328) (hb2 : 0 ≤ bu) (hb3 : bu ≤ 1000000)
    (hr : prm oc m bu < vn) (hvn : vn ≤ 140737488355328) :
    Calls Try.prog 18 #[pv id cl ic A n c oc B m d bu en cg, .slice V vn vc] w fun e w' => e = .returned (.tuple #[pv 0 0 0 none 0 0 0 none 0 0 0 false false, .slice none 0 0, .int .i64 9]) ∧ Ext w w' := by
  go_enter Try.func18, Try.ntmps18
  go_wp2_with fail
  refine calls_at fun W hW => ?_
  obtain ⟨N, hN⟩ : ∃ N, N = w.heap.size := ⟨_, rfl⟩
  have hB1 : Box N pz (N + 1) W := by
    rw [hW]
    repeat' (first | with_reducible assumption | ((with_reducible refine Box.fresh ?fb ?fn ?fr); (case fb => first | omega | (simp <;> omega)); (case fn => first | omega | (simp <;> omega)); (case fr => rfl)) | with_reducible apply Box.up | with_reducible apply Box.drew_ | with_reducible apply Box.drewN_ | with_reducible apply Box.plus_ | with_reducible apply Box.put | with_reducible refine Box.off ?_ (by omega))
    all_goals first | rfl | (simp; done)
  have hB0 : Box N [.int .i64 id, .int .i64 cl, .int .i64 ic, .slice A n c, .int .i64 oc, .slice B m d, .int .i64 bu, .bool en, .bool cg] N W := by
    rw [hW]
    repeat' (first | with_reducible assumption | ((with_reducible refine Box.fresh ?fb ?fn ?fr); (case fb => first | omega | (simp <;> omega)); (case fn => first | omega | (simp <;> omega)); (case fr => rfl)) | with_reducible apply Box.up | with_reducible apply Box.drew_ | with_reducible apply Box.drewN_ | with_reducible apply Box.plus_ | with_reducible apply Box.put | with_reducible refine Box.off ?_ (by omega))
    all_goals first | rfl | (simp; done)
  have hE : Ext w W := by
    rw [hW]
    repeat' (first | with_reducible assumption | with_reducible exact Ext.refl _ | with_reducible apply Ext.alloc | with_reducible apply Ext.drew | with_reducible apply Ext.drewN | with_reducible apply Ext.plus_ | with_reducible refine Ext.put ?_ (by omega))
  rw [← hN]
  have HN := Lib.hid hN
  clear hW hN
  refine (proom_any id cl ic A n c oc B m d bu en cg W (by omega) hb2 hb3).mono ?_
  obtain ⟨rm, hrm⟩ : ∃ rm, rm = prm oc m bu := ⟨_, rfl⟩
  rw [← hrm] at hr ⊢
  rintro e X ⟨rfl, hEX⟩
  replace hB0 := hB0.ext hEX
  replace hB1 := hB1.ext hEX
  replace hE := hE.trans hEX
  clear hEX hrm
  have p0 := hB0.cell 0 (by simp)
  have p1 := hB0.cell 1 (by simp)
  have p2 := hB0.cell 2 (by simp)
  have p3 := hB0.cell 3 (by simp)
  have p4 := hB0.cell 4 (by simp)
  have p5 := hB0.cell 5 (by simp)
  have p6 := hB0.cell 6 (by simp)
  have p7 := hB0.cell 7 (by simp)
  have p8 := hB0.cell 8 (by simp)
  simp only [List.getElem?_cons_zero, List.getElem?_cons_succ] at p0 p1 p2 p3 p4 p5 p6 p7 p8
  have pF := hB0.free
  have pL := hB0.lt
  have pB := hB0.base
  have r0 := hB1.cell 0 (by simp)
  have r1 := hB1.cell 1 (by simp)
  have r2 := hB1.cell 2 (by simp)
  have r3 := hB1.cell 3 (by simp)
  have r4 := hB1.cell 4 (by simp)
  have r5 := hB1.cell 5 (by simp)
  have r6 := hB1.cell 6 (by simp)
  have r7 := hB1.cell 7 (by simp)
  have r8 := hB1.cell 8 (by simp)
  simp only [List.getElem?_cons_zero, List.getElem?_cons_succ] at r0 r1 r2 r3 r4 r5 r6 r7 r8
  have rF := hB1.free
  have rL := hB1.lt
  have rB := hB1.base
  have HE := Lib.hid hE
  clear hB0 hB1 hE
  go_wp2
  refine bodyPost_ret (v := (.tuple #[pv 0 0 0 none 0 0 0 none 0 0 0 false false, .slice none 0 0, .int .i64 9])) (by simp [results, Try.results18, go_sem, r0, r1, r2, r3, r4, r5, r6, r7, r8]) rfl ?_
  refine ⟨rfl, ?_⟩
  have hE := HE.out
  have hN := HN.out
  repeat' (first | with_reducible assumption | with_reducible exact Ext.refl _ | with_reducible apply Ext.alloc | with_reducible apply Ext.drew | with_reducible apply Ext.drewN | with_reducible apply Ext.plus_ | with_reducible refine Ext.put ?_ (by omega))
set_option maxHeartbeats 4000000 in
theorem pput_yes (id cl ic : Int) (A : Option Addr) (n c : Nat) (l : List Int) (oc : Int) (B : Option Addr) (m d : Nat) (k : List Int) (bu : Int) (en cg : Bool) (V : Option Addr) (vn vc : Nat) (vl : List Int) (w : World)
    (hA : RB w A n c l) (hn : n ≤ 140737488355328) (hB : RB w B m d k) (hm2 : m + vn ≤ 140737488355328) (hV : RB w V vn vc vl) (hb2 : 0 ≤ bu) (hb3 : bu ≤ 1000000) (hr : (vn : Int) ≤ prm oc m bu) :
    Calls Try.prog 18 #[pv id cl ic A n c oc B m d bu en cg, .slice V vn vc] w (PpPost w id cl ic l oc (k ++ vl) bu en cg) := by
  have C := Lib.hid (fun W h1 h2 h3 => pflush_added id cl ic A n c l oc B m d k bu en cg V vn vc vl W h1 hn h2 hm2 h3 hb2 hb3)
  have HR := Lib.hid (And.intro hA (And.intro hB hV))
  clear hA hB hV
  go_enter Try.func18, Try.ntmps18
  go_wp2_with fail
  refine calls_at fun W hW => ?_
  obtain ⟨N, hN⟩ : ∃ N, N = w.heap.size := ⟨_, rfl⟩
  have hB1 : Box N pz (N + 1) W := by
    rw [hW]
    repeat' (first | with_reducible assumption | ((with_reducible refine Box.fresh ?fb ?fn ?fr); (case fb => first | omega | (simp <;> omega)); (case fn => first | omega | (simp <;> omega)); (case fr => rfl)) | with_reducible apply Box.up | with_reducible apply Box.drew_ | with_reducible apply Box.drewN_ | with_reducible apply Box.plus_ | with_reducible apply Box.put | with_reducible refine Box.off ?_ (by omega))
    all_goals first | rfl | (simp; done)
  have hB0 : Box N [.int .i64 id, .int .i64 cl, .int .i64 ic, .slice A n c, .int .i64 oc, .slice B m d, .int .i64 bu, .bool en, .bool cg] N W := by
    rw [hW]
    repeat' (first | with_reducible assumption | ((with_reducible refine Box.fresh ?fb ?fn ?fr); (case fb => first | omega | (simp <;> omega)); (case fn => first | omega | (simp <;> omega)); (case fr => rfl)) | with_reducible apply Box.up | with_reducible apply Box.drew_ | with_reducible apply Box.drewN_ | with_reducible apply Box.plus_ | with_reducible apply Box.put | with_reducible refine Box.off ?_ (by omega))
    all_goals first | rfl | (simp; done)
  have hE : Ext w W := by
    rw [hW]
    repeat' (first | with_reducible assumption | with_reducible exact Ext.refl _ | with_reducible apply Ext.alloc | with_reducible apply Ext.drew | with_reducible apply Ext.drewN | with_reducible apply Ext.plus_ | with_reducible refine Ext.put ?_ (by omega))
  rw [← hN]
  have HN := Lib.hid hN
  clear hW hN
  refine (proom_any id cl ic A n c oc B m d bu en cg W (by omega) hb2 hb3).mono ?_
  obtain ⟨rm, hrm⟩ : ∃ rm, rm = prm oc m bu := ⟨_, rfl⟩
  rw [← hrm] at hr ⊢
  rintro e X ⟨rfl, hEX⟩
  replace hB0 := hB0.ext hEX
  replace hB1 := hB1.ext hEX
  replace hE := hE.trans hEX
  clear hEX hrm
  have p0 := hB0.cell 0 (by simp)
  have p1 := hB0.cell 1 (by simp)
  have p2 := hB0.cell 2 (by simp)
  have p3 := hB0.cell 3 (by simp)
  have p4 := hB0.cell 4 (by simp)
  have p5 := hB0.cell 5 (by simp)
  have p6 := hB0.cell 6 (by simp)
  have p7 := hB0.cell 7 (by simp)
  have p8 := hB0.cell 8 (by simp)
  simp only [List.getElem?_cons_zero, List.getElem?_cons_succ] at p0 p1 p2 p3 p4 p5 p6 p7 p8
  have pF := hB0.free
  have pL := hB0.lt
  have pB := hB0.base
  have r0 := hB1.cell 0 (by simp)
  have r1 := hB1.cell 1 (by simp)
  have r2 := hB1.cell 2 (by simp)
  have r3 := hB1.cell 3 (by simp)
  have r4 := hB1.cell 4 (by simp)
  have r5 := hB1.cell 5 (by simp)
  have r6 := hB1.cell 6 (by simp)
  have r7 := hB1.cell 7 (by simp)
  have r8 := hB1.cell 8 (by simp)
  simp only [List.getElem?_cons_zero, List.getElem?_cons_succ] at r0 r1 r2 r3 r4 r5 r6 r7 r8
  have rF := hB1.free
  have rL := hB1.lt
  have rB := hB1.base
  have H := Lib.hid (And.intro hB0 (And.intro hB1 hE))
  clear hB0 hB1 hE
  go_wp2_with fail
  obtain ⟨k9, hk9⟩ : ∃ k9, k9 = k ++ vl := ⟨_, rfl⟩
  rw [← hk9] at C
  have HK := Lib.hid hk9
  clear hk9
  obtain ⟨hB0, hB1, hE⟩ := H.out
  refine (C.out X (HR.out.1.lift hE) (HR.out.2.1.lift hE) (HR.out.2.2.lift hE)).mono ?_
  rintro e Y ⟨v1, v2, rfl, ⟨A1, n1, c1, B1, m1, d1, rfl, h1, h2, h3, h4⟩, ⟨A2, n2, c2, rfl, h5, h6⟩, hEY⟩
  have hNX : N + 1 < X.heap.size := hB1.lt
  obtain ⟨bq, hbq⟩ : ∃ bq, bq = bu - min bu (k9.length : Int) := ⟨_, rfl⟩
  rw [← hbq]
  replace hB0 := hB0.ext hEY
  replace hB1 := hB1.ext hEY
  replace hE := hE.trans hEY
  clear p0 p1 p2 p3 p4 p5 p6 p7 p8 pF pL pB
  clear r0 r1 r2 r3 r4 r5 r6 r7 r8 rF rL rB
  have p0 := hB0.cell 0 (by simp)
  have p1 := hB0.cell 1 (by simp)
  have p2 := hB0.cell 2 (by simp)
  have p3 := hB0.cell 3 (by simp)
  have p4 := hB0.cell 4 (by simp)
  have p5 := hB0.cell 5 (by simp)
  have p6 := hB0.cell 6 (by simp)
  have p7 := hB0.cell 7 (by simp)
  have p8 := hB0.cell 8 (by simp)
  simp only [List.getElem?_cons_zero, List.getElem?_cons_succ] at p0 p1 p2 p3 p4 p5 p6 p7 p8
  have pF := hB0.free
  have pL := hB0.lt
  have pB := hB0.base
  have r0 := hB1.cell 0 (by simp)
  have r1 := hB1.cell 1 (by simp)
  have r2 := hB1.cell 2 (by simp)
  have r3 := hB1.cell 3 (by simp)
  have r4 := hB1.cell 4 (by simp)
  have r5 := hB1.cell 5 (by simp)
  have r6 := hB1.cell 6 (by simp)
  have r7 := hB1.cell 7 (by simp)
  have r8 := hB1.cell 8 (by simp)
  simp only [List.getElem?_cons_zero, List.getElem?_cons_succ] at r0 r1 r2 r3 r4 r5 r6 r7 r8
  have rF := hB1.free
  have rL := hB1.lt
  have rB := hB1.base
  have HB := Lib.hid hbq
  have H2 := Lib.hid (And.intro hB0 (And.intro hB1 (And.intro hE (And.intro h1 (And.intro h2 (And.intro h3 (And.intro h4 (And.intro h5 (And.intro h6 hNX)))))))))
  clear hB0 hB1 hE hEY h1 h2 h3 h4 h5 h6 hbq hNX H
  go_wp2_with (with_reducible show wpList _ _ _ (⟨some 21, _, _, _, _, _⟩ :: _) _ _; refine Lock.out ?_)
  refine ⟨?_, trivial⟩
  refine wl_at fun U hU => ?_
  obtain ⟨hB0, hB1, hE, h1, h2, h3, h4, h5, h6, hNX⟩ := H2.out
  have hN := HN.out
  replace hB0 : Box N [.int .i64 id, .int .i64 cl, .int .i64 ic, .slice A1 n1 c1, .int .i64 oc, .slice B1 m1 d1, .int .i64 bq, .bool en, .bool cg] N U := by
    rw [hU]
    repeat' (first | with_reducible assumption | ((with_reducible refine Box.fresh ?fb ?fn ?fr); (case fb => first | omega | (simp <;> omega)); (case fn => first | omega | (simp <;> omega)); (case fr => rfl)) | with_reducible apply Box.up | with_reducible apply Box.drew_ | with_reducible apply Box.drewN_ | with_reducible apply Box.plus_ | with_reducible apply Box.put | with_reducible refine Box.off ?_ (by omega))
    all_goals first | rfl | (simp; done)
  replace hB1 : Box N pz (N + 1) U := by
    rw [hU]
    repeat' (first | with_reducible assumption | ((with_reducible refine Box.fresh ?fb ?fn ?fr); (case fb => first | omega | (simp <;> omega)); (case fn => first | omega | (simp <;> omega)); (case fr => rfl)) | with_reducible apply Box.up | with_reducible apply Box.drew_ | with_reducible apply Box.drewN_ | with_reducible apply Box.plus_ | with_reducible apply Box.put | with_reducible refine Box.off ?_ (by omega))
    all_goals first | rfl | (simp; done)
  replace hE : Ext w U := by
    rw [hU]
    repeat' (first | with_reducible assumption | with_reducible exact Ext.refl _ | with_reducible apply Ext.alloc | with_reducible apply Ext.drew | with_reducible apply Ext.drewN | with_reducible apply Ext.plus_ | with_reducible refine Ext.put ?_ (by omega))
  have hNX0 : N < X.heap.size := by omega
  replace h1 : RB U A1 n1 c1 l := by
    rw [hU]
    iterate 9 (refine RB.put ?_ h3 hNX0)
    exact h1
  replace h2 : RB U B1 m1 d1 (k9.drop (min bu (k9.length : Int)).toNat) := by
    rw [hU]
    iterate 9 (refine RB.put ?_ h4 hNX0)
    exact h2
  replace h5 : RB U A2 n2 c2 (k9.take (min bu (k9.length : Int)).toNat) := by
    rw [hU]
    iterate 9 (refine RB.put ?_ h6 hNX0)
    exact h5
  clear p0 p1 p2 p3 p4 p5 p6 p7 p8 pF pL pB
  clear r0 r1 r2 r3 r4 r5 r6 r7 r8 rF rL rB
  have p0 := hB0.cell 0 (by simp)
  have p1 := hB0.cell 1 (by simp)
  have p2 := hB0.cell 2 (by simp)
  have p3 := hB0.cell 3 (by simp)
  have p4 := hB0.cell 4 (by simp)
  have p5 := hB0.cell 5 (by simp)
  have p6 := hB0.cell 6 (by simp)
  have p7 := hB0.cell 7 (by simp)
  have p8 := hB0.cell 8 (by simp)
  simp only [List.getElem?_cons_zero, List.getElem?_cons_succ] at p0 p1 p2 p3 p4 p5 p6 p7 p8
  have pF := hB0.free
  have pL := hB0.lt
  have pB := hB0.base
  have r0 := hB1.cell 0 (by simp)
  have r1 := hB1.cell 1 (by simp)
  have r2 := hB1.cell 2 (by simp)
  have r3 := hB1.cell 3 (by simp)
  have r4 := hB1.cell 4 (by simp)
  have r5 := hB1.cell 5 (by simp)
  have r6 := hB1.cell 6 (by simp)
  have r7 := hB1.cell 7 (by simp)
  have r8 := hB1.cell 8 (by simp)
  simp only [List.getElem?_cons_zero, List.getElem?_cons_succ] at r0 r1 r2 r3 r4 r5 r6 r7 r8
  have rF := hB1.free
  have rL := hB1.lt
  have rB := hB1.base
  have HX := Lib.hid (And.intro hE (And.intro h1 (And.intro h2 (And.intro h3 (And.intro h4 (And.intro h5 (And.intro h6 hNX)))))))
  clear hB0 hB1 hE h1 h2 h3 h4 h5 h6 hNX hU H2 hN hNX0
  go_wp2
  refine bodyPost_ret (v := (.tuple #[pv id cl ic A1 n1 c1 oc B1 m1 d1 bq en cg, .slice A2 n2 c2, .int .i64 0])) (by simp [results, Try.results18, go_sem, r0, r1, r2, r3, r4, r5, r6, r7, r8]) rfl ?_
  obtain ⟨hE, h1, h2, h3, h4, h5, h6, hNX⟩ := HX.out
  have hN := HN.out
  unfold PpPost
  rw [← HK.out]
  refine ⟨_, _, rfl, ⟨A1, n1, c1, B1, m1, d1, by rw [← HB.out], ?_, ?_, fun a ha => by have := h3 a ha; omega, fun a ha => by have := h4 a ha; omega⟩, ⟨A2, n2, c2, rfl, ?_, fun a ha => by have := h6 a ha; omega⟩, ?_⟩
  · iterate 9 (refine RB.put ?_ h3 hNX)
    exact h1
  · iterate 9 (refine RB.put ?_ h4 hNX)
    exact h2
  · iterate 9 (refine RB.put ?_ h6 hNX)
    exact h5
  · repeat' (first | with_reducible assumption | with_reducible exact Ext.refl _ | with_reducible apply Ext.alloc | with_reducible apply Ext.drew | with_reducible apply Ext.drewN | with_reducible apply Ext.plus_ | with_reducible refine Ext.put ?_ (by omega))
end Go.Proofs.Ytphbmibgnnobcaa
