/- Ports: equality; the sanity check. -/
import Derived.Test.YtphbmibgnnobcaaPort5
import Derived.Lib.SlBytesConst
import Derived.Lib.SmallJoins
set_option linter.unusedVariables false
namespace Go.Proofs.Ytphbmibgnnobcaa
open Go.RowKit Go.Rg

set_option maxHeartbeats 2000000 in
theorem samePort_any (id cl ic : Int) (A : Option Addr) (n c : Nat) (l : List Int) (oc : Int) (B : Option Addr) (m d : Nat) (k : List Int) (bu : Int) (en cg : Bool) (A' : Option Addr) (n' c' : Nat) (B' : Option Addr) (m' d' : Nat) (w : World)
    (h1 : Row w w.heap.size 1 A n (bytes l)) (h2 : Row w w.heap.size 1 B m (bytes k)) (h3 : Row w w.heap.size 1 A' n' (bytes l)) (h4 : Row w w.heap.size 1 B' m' (bytes k)) :
    Calls Try.prog 9 #[pv id cl ic A n c oc B m d bu en cg, pv id cl ic A' n' c' oc B' m' d' bu en cg] w fun e w' => e = .returned (.bool true) ∧ Ext w w' := by
  have C1 := Lib.hid (fun W a b => same_any ic A n c A' n' c' l W a b)
  have C2 := Lib.hid (fun W a b => same_any oc B m d B' m' d' k W a b)
  have HR := Lib.hid (And.intro h1 (And.intro h2 (And.intro h3 h4)))
  clear h1 h2 h3 h4
  go_enter Try.func9, Try.ntmps9
  go_wp2_with fail
  refine calls_at fun W hW => ?_
  have hB0 : Box w.heap.size [.int .i64 id, .int .i64 cl, .int .i64 ic, .slice A n c, .int .i64 oc, .slice B m d, .int .i64 bu, .bool en, .bool cg] w.heap.size W := by
    rw [hW]
    repeat' (first | with_reducible assumption | ((with_reducible refine Box.fresh ?fb ?fn ?fr); (case fb => first | omega | (simp <;> omega)); (case fn => first | omega | (simp <;> omega)); (case fr => rfl)) | with_reducible apply Box.up | with_reducible apply Box.drew_ | with_reducible apply Box.drewN_ | with_reducible apply Box.plus_ | with_reducible apply Box.put | with_reducible refine Box.off ?_ (by omega))
    all_goals first | rfl | (simp; done)
  have hB1 : Box w.heap.size [.int .i64 id, .int .i64 cl, .int .i64 ic, .slice A' n' c', .int .i64 oc, .slice B' m' d', .int .i64 bu, .bool en, .bool cg] (w.heap.size + 1) W := by
    rw [hW]
    repeat' (first | with_reducible assumption | ((with_reducible refine Box.fresh ?fb ?fn ?fr); (case fb => first | omega | (simp <;> omega)); (case fn => first | omega | (simp <;> omega)); (case fr => rfl)) | with_reducible apply Box.up | with_reducible apply Box.drew_ | with_reducible apply Box.drewN_ | with_reducible apply Box.plus_ | with_reducible apply Box.put | with_reducible refine Box.off ?_ (by omega))
    all_goals first | rfl | (simp; done)
  have hE : Ext w W := by
    rw [hW]
    repeat' (first | with_reducible assumption | with_reducible exact Ext.refl _ | with_reducible apply Ext.alloc | with_reducible apply Ext.drew | with_reducible apply Ext.drewN | with_reducible apply Ext.plus_ | with_reducible refine Ext.put ?_ (by omega))
  clear hW
  refine (C1.out W (HR.out.1.lift hE) (HR.out.2.2.1.lift hE)).mono ?_
  rintro e X ⟨rfl, hEX⟩
  replace hB0 := hB0.ext hEX
  replace hB1 := hB1.ext hEX
  replace hE := hE.trans hEX
  have p0 := hB0.cell 0 (by simp)
  have p1 := hB0.cell 1 (by simp)
  have p2 := hB0.cell 2 (by simp)
  have p3 := hB0.cell 3 (by simp)
  have p4 := hB0.cell 4 (by simp)
  have p5 := hB0.cell 5 (by simp)
  have p6 := hB0.cell 6 (by simp)
  have p7 := hB0.cell 7 (by simp)
  have p8 := hB0.cell 8 (by simp)
  simp only [List.getElem?_cons_zero, List.getElem?_cons_succ] at p0 p1 p2 p3 p4 p5 p6 p7 p8
  have pF := hB0.free
  have pL := hB0.lt
  have pB := hB0.base
  have r0 := hB1.cell 0 (by simp)
  have r1 := hB1.cell 1 (by simp)
  have r2 := hB1.cell 2 (by simp)
  have r3 := hB1.cell 3 (by simp)
  have r4 := hB1.cell 4 (by simp)
  have r5 := hB1.cell 5 (by simp)
  have r6 := hB1.cell 6 (by simp)
  have r7 := hB1.cell 7 (by simp)
  have r8 := hB1.cell 8 (by simp)
  simp only [List.getElem?_cons_zero, List.getElem?_cons_succ] at r0 r1 r2 r3 r4 r5 r6 r7 r8
  have rF := hB1.free
  have rL := hB1.lt
  have rB := hB1.base
  have HE := Lib.hid hE
  clear hEX hB0 hB1 hE
  go_wp2_with fail
  refine (C2.out X (HR.out.2.1.lift HE.out) (HR.out.2.2.2.lift HE.out)).mono ?_
  rintro e Y ⟨rfl, hEY⟩
  go_wp2
  go_ret
  exact ⟨rfl, HE.out.trans hEY⟩

theorem RB.zero (w : World) : RB w none 0 0 [] := ⟨Row.nil, Nat.le_refl _, by omega, fun _ => ⟨rfl, rfl⟩⟩
theorem RB.len {w : World} {A : Option Addr} {n c : Nat} {l : List Int} (h : RB w A n c l) : n = l.length := by
  have := h.row.len
  simpa using this.symm
/-- What the sanity check's calls leave. -/
def AwG (w : World) (m : Nat) (k : List Int) (bu : Int) (m2 : Nat) (k2 : List Int) (v1 v2 : Value) (w' : World) : Prop :=
  ∃ A1 c1 B1 d1 A2 c2, v1 = pv 5 1 3 A1 0 c1 3 B1 m d1 bu false false ∧ v2 = .slice A2 m2 c2 ∧ RB w' A1 0 c1 [] ∧ RB w' B1 m d1 k ∧ RB w' A2 m2 c2 k2 ∧
    (∀ a, A1 = some a → w.heap.size ≤ a.block) ∧ (∀ a, B1 = some a → w.heap.size ≤ a.block) ∧ (∀ a, A2 = some a → w.heap.size ≤ a.block) ∧ Ext w w'
theorem AwG.of {w w' : World} {v1 v2 : Value} {k9 : List Int} {b9 : Int} {m : Nat} {k : List Int} {bu : Int} {m2 : Nat} {k2 : List Int} (h1 : PS w.heap.size w' v1 5 1 3 [] 3 k9 b9 false false) (h2 : BF w.heap.size w' v2 k2) (hE : Ext w w')
    (hk : k9 = k) (hm : k.length = m) (hb : b9 = bu) (hm2 : k2.length = m2) : AwG w m k bu m2 k2 v1 v2 w' := by
  obtain ⟨A1, n1, c1, B1, m1, d1, rfl, q1, q2, q3, q4⟩ := h1
  obtain ⟨A2, n2, c2, rfl, q5, q6⟩ := h2
  subst hk hb
  have e1 := q1.len
  have e2 := q2.len
  have e3 := q5.len
  simp only [List.length_nil] at e1
  subst e1
  rw [hm] at e2
  rw [hm2] at e3
  subst e2 e3
  exact ⟨A1, c1, B1, d1, A2, c2, rfl, rfl, q1, q2, q5, q3, q4, q6, hE⟩
theorem aw_grant1 (w : World) : Calls Try.prog 16 #[pv 5 1 3 none 0 0 3 none 0 0 0 false false, .int .i64 2] w fun e w' => ∃ v1 v2, e = .returned (.tuple #[v1, v2]) ∧ AwG w 0 [] 2 0 [] v1 v2 w' := by
  refine (grant_any 5 1 3 none 0 0 [] 3 none 0 0 [] 0 false false 2 w (RB.zero w) (by omega) (RB.zero w) (by omega)).mono ?_
  rintro e X ⟨v1, v2, he, hp, hb, hE⟩
  exact ⟨v1, v2, he, AwG.of hp hb hE rfl rfl rfl rfl⟩
theorem aw_put (A : Option Addr) (c : Nat) (B : Option Addr) (d : Nat) (b vc : Nat) (w : World) (h1 : RB w A 0 c []) (h2 : RB w B 0 d []) (h3 : RB w (some ⟨b, 0, none⟩) 3 vc [97, 98, 99]) :
    Calls Try.prog 18 #[pv 5 1 3 A 0 c 3 B 0 d 2 false false, .slice (some ⟨b, 0, none⟩) 3 vc] w fun e w' => ∃ v1 v2, e = .returned (.tuple #[v1, v2, .int .i64 0]) ∧ AwG w 1 [99] 0 2 [97, 98] v1 v2 w' := by
  refine (pput_yes 5 1 3 A 0 c [] 3 B 0 d [] 2 false false (some ⟨b, 0, none⟩) 3 vc [97, 98, 99] w h1 (by omega) h2 (by omega) h3 (by omega) (by omega) (by decide)).mono ?_
  rintro e X ⟨v1, v2, he, hp, hb, hE⟩
  exact ⟨v1, v2, he, AwG.of hp hb hE rfl rfl rfl rfl⟩
theorem aw_grant2 (A : Option Addr) (c : Nat) (B : Option Addr) (d : Nat) (w : World) (h1 : RB w A 0 c []) (h2 : RB w B 1 d [99]) :
    Calls Try.prog 16 #[pv 5 1 3 A 0 c 3 B 1 d 0 false false, .int .i64 5] w fun e w' => ∃ v1 v2, e = .returned (.tuple #[v1, v2]) ∧ AwG w 0 [] 4 1 [99] v1 v2 w' := by
  refine (grant_any 5 1 3 A 0 c [] 3 B 1 d [99] 0 false false 5 w h1 (by omega) h2 (by omega)).mono ?_
  rintro e X ⟨v1, v2, he, hp, hb, hE⟩
  exact ⟨v1, v2, he, AwG.of hp hb hE rfl rfl rfl rfl⟩
theorem Cells.newF (w : World) (cs : Array Value) (t : TypeId) (fr : Nat × Nat) (l : List Value) (h : cs.toList = l) : Cells (w.alloc (.cells cs t fr)) w.heap.size l := by
  subst h
  exact ⟨by simp, fun j u hu => by
    have e : (w.alloc (.cells cs t fr)).heap[w.heap.size]? = some (.cells cs t fr) := by
      show (w.heap.push (.cells cs t fr))[w.heap.size]? = _
      simp
    unfold World.cell?
    simp only [e]
    simpa using hu⟩
set_option maxHeartbeats 4000000 in
theorem awake_any (w : World) : Calls Try.prog 12 #[] w fun e w' => e = .returned (.bool true) ∧ Ext w w' := by
  go_enter Try.func12, Try.ntmps12
  go_wp2_with fail
  refine (pnew_any 5 3 3 _).mono ?_
  rw [show clsF 5 = 1 by decide, show qcap 3 = 3 by decide]
  rintro e W ⟨rfl, hE⟩
  have HE := Lib.hid hE
  clear hE
  go_wp2_with fail
  refine (aw_grant1 W).mono ?_
  rintro e X ⟨v1, v2, rfl, A1, c1, B1, d1, A2, c2, rfl, rfl, h1, h2, _, _, _, _, hEX⟩
  have HX := Lib.hid (And.intro (HE.out.trans hEX) (And.intro h1 h2))
  clear hEX h1 h2 HE
  have kc := Joins.run_convert_bytes_const_at (P := Try.prog) (X.alloc (.cells #[.int .i64 5, .int .i64 1, .int .i64 3, .slice A1 0 c1, .int .i64 3, .slice B1 0 d1, .int .i64 2, .bool false, .bool false] 30)) 26 5 #[.int .u8 97, .int .u8 98, .int .u8 99] 3 3 (X.heap.size + 1) (by simp) Try.underlying26 Try.underlying5
  go_wp2_with fail
  clear kc
  refine calls_at fun Y hY => ?_
  obtain ⟨hE, h1, h2⟩ := HX.out
  obtain ⟨P, hP⟩ : ∃ P, P = X.heap.size := ⟨_, rfl⟩
  have hwP : w.heap.size ≤ P := by rw [hP]; exact hE.size
  have hEY : Ext X Y := by
    rw [hY]
    repeat' (first | with_reducible assumption | with_reducible exact Ext.refl _ | with_reducible apply Ext.alloc | with_reducible apply Ext.drew | with_reducible apply Ext.drewN | with_reducible apply Ext.plus_ | with_reducible refine Ext.put ?_ (by omega))
  have hB0 : Box P [.int .i64 5, .int .i64 1, .int .i64 3, .slice A1 0 c1, .int .i64 3, .slice B1 0 d1, .int .i64 2, .bool false, .bool false] P Y := by
    rw [hY]
    repeat' (first | with_reducible assumption | ((with_reducible refine Box.fresh ?fb ?fn ?fr); (case fb => first | omega | (simp <;> omega)); (case fn => first | omega | (simp <;> omega)); (case fr => rfl)) | with_reducible apply Box.up | with_reducible apply Box.drew_ | with_reducible apply Box.drewN_ | with_reducible apply Box.plus_ | with_reducible apply Box.put | with_reducible refine Box.off ?_ (by omega))
    all_goals first | rfl | (simp; done)
  have hC : Cells Y (P + 1) (bytes [97, 98, 99]) := by
    rw [hY, show P + 1 = (X.alloc (.cells #[.int .i64 5, .int .i64 1, .int .i64 3, .slice A1 0 c1, .int .i64 3, .slice B1 0 d1, .int .i64 2, .bool false, .bool false] 30)).heap.size by simp; omega]
    exact Cells.newF _ _ _ _ _ rfl
  have h3 : RB Y (some ⟨P + 1, 0, none⟩) 3 3 [97, 98, 99] := ⟨⟨rfl, fun _ => ⟨P + 1, 0, rfl, hC.1, fun j u hu => by simpa using hC.2 j u hu⟩⟩, Nat.le_refl _, by omega, fun h => by cases h⟩
  replace h1 := h1.lift hEY
  replace h2 := h2.lift hEY
  replace hE := hE.trans hEY
  rw [← hP]
  clear hY hEY hP HX hC
  have hPY : P < Y.heap.size := hB0.lt
  refine (aw_put A1 c1 B1 d1 (P + 1) 3 Y h1 h2 h3).mono ?_
  clear h1 h2 h3
  rintro e Z ⟨v1, v2, rfl, A3, c3, B3, d3, A4, c4, rfl, rfl, h1, h2, h3, h4, h5, h6, hEZ⟩
  replace hB0 := hB0.ext hEZ
  replace hE := hE.trans hEZ
  have p0 := hB0.cell 0 (by simp)
  have p1 := hB0.cell 1 (by simp)
  have p2 := hB0.cell 2 (by simp)
  have p3 := hB0.cell 3 (by simp)
  have p4 := hB0.cell 4 (by simp)
  have p5 := hB0.cell 5 (by simp)
  have p6 := hB0.cell 6 (by simp)
  have p7 := hB0.cell 7 (by simp)
  have p8 := hB0.cell 8 (by simp)
  simp only [List.getElem?_cons_zero, List.getElem?_cons_succ] at p0 p1 p2 p3 p4 p5 p6 p7 p8
  have pF := hB0.free
  have pL := hB0.lt
  have pB := hB0.base
  have HX := Lib.hid (And.intro hB0 (And.intro hE (And.intro h1 (And.intro h2 (And.intro h3 (And.intro h4 (And.intro h5 (And.intro h6 hPY))))))))
  clear hB0 hE h1 h2 h3 h4 h5 h6 hPY hEZ
  go_wp2_with (with_reducible show wpList _ _ _ (⟨some 20, _, _, _, _, _⟩ :: _) _ _; refine Lock.out ?_)
  refine ⟨?_, trivial⟩
  refine wl_at fun U hU => ?_
  obtain ⟨hB0, hE, h1, h2, h3, h4, h5, h6, hPY⟩ := HX.out
  replace hB0 : Box P [.int .i64 5, .int .i64 1, .int .i64 3, .slice A3 0 c3, .int .i64 3, .slice B3 1 d3, .int .i64 0, .bool false, .bool false] P U := by
    rw [hU]
    repeat' (first | with_reducible assumption | ((with_reducible refine Box.fresh ?fb ?fn ?fr); (case fb => first | omega | (simp <;> omega)); (case fn => first | omega | (simp <;> omega)); (case fr => rfl)) | with_reducible apply Box.up | with_reducible apply Box.drew_ | with_reducible apply Box.drewN_ | with_reducible apply Box.plus_ | with_reducible apply Box.put | with_reducible refine Box.off ?_ (by omega))
    all_goals first | rfl | (simp; done)
  replace hE : Ext w U := by
    rw [hU]
    repeat' (first | with_reducible assumption | with_reducible exact Ext.refl _ | with_reducible apply Ext.alloc | with_reducible apply Ext.drew | with_reducible apply Ext.drewN | with_reducible apply Ext.plus_ | with_reducible refine Ext.put ?_ (by omega))
  replace h1 : RB U A3 0 c3 [] := by
    rw [hU]
    iterate 9 (refine RB.put ?_ h4 hPY)
    exact h1
  replace h2 : RB U B3 1 d3 [99] := by
    rw [hU]
    iterate 9 (refine RB.put ?_ h5 hPY)
    exact h2
  replace h3 : RB U A4 2 c4 [97, 98] := by
    rw [hU]
    iterate 9 (refine RB.put ?_ h6 hPY)
    exact h3
  clear hU HX h4 h5 h6 hPY
  clear p0 p1 p2 p3 p4 p5 p6 p7 p8 pF pL pB
  have p0 := hB0.cell 0 (by simp)
  have p1 := hB0.cell 1 (by simp)
  have p2 := hB0.cell 2 (by simp)
  have p3 := hB0.cell 3 (by simp)
  have p4 := hB0.cell 4 (by simp)
  have p5 := hB0.cell 5 (by simp)
  have p6 := hB0.cell 6 (by simp)
  have p7 := hB0.cell 7 (by simp)
  have p8 := hB0.cell 8 (by simp)
  simp only [List.getElem?_cons_zero, List.getElem?_cons_succ] at p0 p1 p2 p3 p4 p5 p6 p7 p8
  have pF := hB0.free
  have pL := hB0.lt
  have pB := hB0.base
  have s2 := bs_str (c := d3) h2.row
  have s3 := bs_str (c := c4) h3.row
  rw [show strOfNums [99] = ⟨#[99]⟩ by rfl] at s2
  rw [show strOfNums [97, 98] = ⟨#[97, 98]⟩ by rfl] at s3
  have HX := Lib.hid (And.intro hB0 (And.intro hE (And.intro h1 h2)))
  clear hB0 hE h1 h2 h3
  go_wp2_with fail
  obtain ⟨hB0, hE, h1, h2⟩ := HX.out
  have hPU : P < U.heap.size := hB0.lt
  refine (aw_grant2 A3 c3 B3 d3 U h1 h2).mono ?_
  clear h1 h2 s2 s3
  rintro e T ⟨v1, v2, rfl, A5, c5, B5, d5, A6, c6, rfl, rfl, h1, h2, h3, h4, h5, h6, hET⟩
  replace hB0 := hB0.ext hET
  replace hE := hE.trans hET
  clear p0 p1 p2 p3 p4 p5 p6 p7 p8 pF pL pB
  have p0 := hB0.cell 0 (by simp)
  have p1 := hB0.cell 1 (by simp)
  have p2 := hB0.cell 2 (by simp)
  have p3 := hB0.cell 3 (by simp)
  have p4 := hB0.cell 4 (by simp)
  have p5 := hB0.cell 5 (by simp)
  have p6 := hB0.cell 6 (by simp)
  have p7 := hB0.cell 7 (by simp)
  have p8 := hB0.cell 8 (by simp)
  simp only [List.getElem?_cons_zero, List.getElem?_cons_succ] at p0 p1 p2 p3 p4 p5 p6 p7 p8
  have pF := hB0.free
  have pL := hB0.lt
  have pB := hB0.base
  clear HX
  have HX := Lib.hid (And.intro hB0 (And.intro hE (And.intro h3 (And.intro h6 hPU))))
  clear hB0 hE h1 h2 h3 h4 h5 h6 hPU hET
  go_wp2_with (with_reducible show wpList _ _ _ (⟨some 44, _, _, _, _, _⟩ :: _) _ _; refine Lock.out ?_)
  refine ⟨?_, trivial⟩
  refine wl_at fun S hS => ?_
  obtain ⟨hB0, hE, h3, h6, hPU⟩ := HX.out
  replace hB0 : Box P [.int .i64 5, .int .i64 1, .int .i64 3, .slice A5 0 c5, .int .i64 3, .slice B5 0 d5, .int .i64 4, .bool false, .bool false] P S := by
    rw [hS]
    repeat' (first | with_reducible assumption | ((with_reducible refine Box.fresh ?fb ?fn ?fr); (case fb => first | omega | (simp <;> omega)); (case fn => first | omega | (simp <;> omega)); (case fr => rfl)) | with_reducible apply Box.up | with_reducible apply Box.drew_ | with_reducible apply Box.drewN_ | with_reducible apply Box.plus_ | with_reducible apply Box.put | with_reducible refine Box.off ?_ (by omega))
    all_goals first | rfl | (simp; done)
  replace hE : Ext w S := by
    rw [hS]
    repeat' (first | with_reducible assumption | with_reducible exact Ext.refl _ | with_reducible apply Ext.alloc | with_reducible apply Ext.drew | with_reducible apply Ext.drewN | with_reducible apply Ext.plus_ | with_reducible refine Ext.put ?_ (by omega))
  replace h3 : RB S A6 1 c6 [99] := by
    rw [hS]
    iterate 9 (refine RB.put ?_ h6 hPU)
    exact h3
  clear hS HX h6 hPU
  clear p0 p1 p2 p3 p4 p5 p6 p7 p8 pF pL pB
  have p0 := hB0.cell 0 (by simp)
  have p1 := hB0.cell 1 (by simp)
  have p2 := hB0.cell 2 (by simp)
  have p3 := hB0.cell 3 (by simp)
  have p4 := hB0.cell 4 (by simp)
  have p5 := hB0.cell 5 (by simp)
  have p6 := hB0.cell 6 (by simp)
  have p7 := hB0.cell 7 (by simp)
  have p8 := hB0.cell 8 (by simp)
  simp only [List.getElem?_cons_zero, List.getElem?_cons_succ] at p0 p1 p2 p3 p4 p5 p6 p7 p8
  have pF := hB0.free
  have pL := hB0.lt
  have pB := hB0.base
  have s2 := bs_str (c := c6) h3.row
  rw [show strOfNums [99] = ⟨#[99]⟩ by rfl] at s2
  have HX := Lib.hid hE
  clear hB0 hE h3
  go_wp2_with fail
  refine (drained_any 5 1 3 A5 0 c5 3 B5 0 d5 4 false false S).mono ?_
  rintro e R ⟨rfl, hER⟩
  have q1 := hER.cell p1
  clear p0 p1 p2 p3 p4 p5 p6 p7 p8 pF pL pB s2
  go_wp2
  go_ret
  exact ⟨rfl, HX.out.trans hER⟩
end Go.Proofs.Ytphbmibgnnobcaa
