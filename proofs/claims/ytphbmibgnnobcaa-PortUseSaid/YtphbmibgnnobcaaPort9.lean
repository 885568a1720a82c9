/- Ports: Eat. -/
import Derived.Test.YtphbmibgnnobcaaPort8
set_option linter.unusedVariables false
namespace Go.Proofs.Ytphbmibgnnobcaa
open Go.RowKit Go.Rg
set_option maxHeartbeats 4000000 in
theorem peat_any (id cl ic : Int) (A : Option Addr) (n c : Nat) (l : List Int) (oc : Int) (B : Option Addr) (m d : Nat) (k : List Int) (bu : Int) (en cg : Bool) (g : Int) (w : World)
    (hA : RB w A n c l) (hn : n ≤ 140737488355328) (hB : RB w B m d k) (hm : m ≤ 140737488355328) :
    Calls Try.prog 27 #[pv id cl ic A n c oc B m d bu en cg, .int .i64 g] w (EatPost w id cl ic l oc k bu en cg (qfirst ic n g).toNat) := by
  go_enter Try.func27, Try.ntmps27
  go_wp2_with fail
  refine calls_at fun W hW => ?_
  obtain ⟨N, hN⟩ : ∃ N, N = w.heap.size := ⟨_, rfl⟩
  have hB1 : Box N [.int .i64 0, .int .i64 0, .int .i64 0, .slice none 0 0, .int .i64 0, .slice none 0 0, .int .i64 0, .bool false, .bool false] (N + 1) W := by
    rw [hW]
    repeat' (first | with_reducible assumption | ((with_reducible refine Box.fresh ?fb ?fn ?fr); (case fb => first | omega | (simp <;> omega)); (case fn => first | omega | (simp <;> omega)); (case fr => rfl)) | with_reducible apply Box.up | with_reducible apply Box.drew_ | with_reducible apply Box.drewN_ | with_reducible apply Box.plus_ | with_reducible apply Box.put | with_reducible refine Box.off ?_ (by omega))
    all_goals first | rfl | (simp; done)
  have hB0 : Box N [.int .i64 id, .int .i64 cl, .int .i64 ic, .slice A n c, .int .i64 oc, .slice B m d, .int .i64 bu, .bool en, .bool cg] N W := by
    rw [hW]
    repeat' (first | with_reducible assumption | ((with_reducible refine Box.fresh ?fb ?fn ?fr); (case fb => first | omega | (simp <;> omega)); (case fn => first | omega | (simp <;> omega)); (case fr => rfl)) | with_reducible apply Box.up | with_reducible apply Box.drew_ | with_reducible apply Box.drewN_ | with_reducible apply Box.plus_ | with_reducible apply Box.put | with_reducible refine Box.off ?_ (by omega))
    all_goals first | rfl | (simp; done)
  have hE : Ext w W := by
    rw [hW]
    repeat' (first | with_reducible assumption | with_reducible exact Ext.refl _ | with_reducible apply Ext.alloc | with_reducible apply Ext.drew | with_reducible apply Ext.drewN | with_reducible apply Ext.plus_ | with_reducible refine Ext.put ?_ (by omega))
  rw [← hN]
  have HN := Lib.hid hN
  clear hW hN
  refine (pcopied_any id cl ic A n c l oc B m d k bu en cg W (hA.lift hE).row hA.nil (by omega) (hB.lift hE).row hB.nil hm).mono ?_
  rintro e X ⟨A1, c1, B1, d1, rfl, ho1, ho2, -, hEX⟩
  have h1 := RB.of_own ho1
  have h2 := RB.of_own ho2
  replace hB0 := hB0.ext hEX
  replace hB1 := hB1.ext hEX
  replace hE := hE.trans hEX
  clear hEX hA hB ho1 ho2
  have p0 := hB0.cell 0 (by simp)
  have p1 := hB0.cell 1 (by simp)
  have p2 := hB0.cell 2 (by simp)
  have p3 := hB0.cell 3 (by simp)
  have p4 := hB0.cell 4 (by simp)
  have p5 := hB0.cell 5 (by simp)
  have p6 := hB0.cell 6 (by simp)
  have p7 := hB0.cell 7 (by simp)
  have p8 := hB0.cell 8 (by simp)
  simp only [List.getElem?_cons_zero, List.getElem?_cons_succ] at p0 p1 p2 p3 p4 p5 p6 p7 p8
  have pF := hB0.free
  have pL := hB0.lt
  have pB := hB0.base
  have r0 := hB1.cell 0 (by simp)
  have r1 := hB1.cell 1 (by simp)
  have r2 := hB1.cell 2 (by simp)
  have r3 := hB1.cell 3 (by simp)
  have r4 := hB1.cell 4 (by simp)
  have r5 := hB1.cell 5 (by simp)
  have r6 := hB1.cell 6 (by simp)
  have r7 := hB1.cell 7 (by simp)
  have r8 := hB1.cell 8 (by simp)
  simp only [List.getElem?_cons_zero, List.getElem?_cons_succ] at r0 r1 r2 r3 r4 r5 r6 r7 r8
  have rF := hB1.free
  have rL := hB1.lt
  have rB := hB1.base
  have HX := Lib.hid (And.intro hE (And.intro h1 (And.intro h2 (And.intro hB0 hB1))))
  clear hE h1 h2 hB0 hB1
  go_wp2_with fail
  refine calls_at fun Y hY => ?_
  obtain ⟨hE, h1, h2, hB0, hB1⟩ := HX.out
  have hU : U8 X Y := by
    rw [hY]
    repeat' (first | with_reducible exact U8.refl _ | with_reducible assumption | with_reducible apply U8.up | with_reducible apply U8.drew | ((with_reducible refine U8.putE ?_ ?_); rotate_left; (refine ⟨_, by assumption, ?_⟩); intro _ h; cases h) | ((with_reducible refine U8.new ?_ ?_); rotate_left; first | omega | (simp <;> omega)))
  have hN := HN.out
  have hEY : Ext w Y := by
    rw [hY]
    repeat' (first | with_reducible assumption | with_reducible exact Ext.refl _ | with_reducible apply Ext.alloc | with_reducible apply Ext.drew | with_reducible apply Ext.drewN | with_reducible apply Ext.plus_ | with_reducible refine Ext.put ?_ (by omega))
  replace hB0 : Box N [.int .i64 id, .int .i64 cl, .int .i64 ic, .slice A1 n c1, .int .i64 oc, .slice B1 m d1, .int .i64 bu, .bool en, .bool cg] N Y := by
    rw [hY]
    repeat' (first | with_reducible assumption | ((with_reducible refine Box.fresh ?fb ?fn ?fr); (case fb => first | omega | (simp <;> omega)); (case fn => first | omega | (simp <;> omega)); (case fr => rfl)) | with_reducible apply Box.up | with_reducible apply Box.drew_ | with_reducible apply Box.drewN_ | with_reducible apply Box.plus_ | with_reducible apply Box.put | with_reducible refine Box.off ?_ (by omega))
    all_goals first | rfl | (simp; done)
  replace hB1 : Box N [.int .i64 0, .int .i64 0, .int .i64 0, .slice none 0 0, .int .i64 0, .slice none 0 0, .int .i64 0, .bool false, .bool false] (N + 1) Y := by
    rw [hY]
    repeat' (first | with_reducible assumption | ((with_reducible refine Box.fresh ?fb ?fn ?fr); (case fb => first | omega | (simp <;> omega)); (case fn => first | omega | (simp <;> omega)); (case fr => rfl)) | with_reducible apply Box.up | with_reducible apply Box.drew_ | with_reducible apply Box.drewN_ | with_reducible apply Box.plus_ | with_reducible apply Box.put | with_reducible refine Box.off ?_ (by omega))
    all_goals first | rfl | (simp; done)
  clear hY hE hN HX
  refine (take_any ic A1 n c1 l g Y (h1.u8 hU).row h1.nil hn).mono ?_
  rintro e Z ⟨v1, v2, rfl, -, hq, hEZ⟩
  obtain ⟨L, hL⟩ : ∃ L, L = l.drop (qfirst ic n g).toNat := ⟨_, rfl⟩
  rw [← hL] at hq
  obtain ⟨A3, c3, rfl, h3⟩ := hq.rb
  replace hB0 := hB0.ext hEZ
  replace hB1 := hB1.ext hEZ
  clear p0 p1 p2 p3 p4 p5 p6 p7 p8 pF pL pB
  clear r0 r1 r2 r3 r4 r5 r6 r7 r8 rF rL rB
  have p0 := hB0.cell 0 (by simp)
  have p1 := hB0.cell 1 (by simp)
  have p2 := hB0.cell 2 (by simp)
  have p3 := hB0.cell 3 (by simp)
  have p4 := hB0.cell 4 (by simp)
  have p5 := hB0.cell 5 (by simp)
  have p6 := hB0.cell 6 (by simp)
  have p7 := hB0.cell 7 (by simp)
  have p8 := hB0.cell 8 (by simp)
  simp only [List.getElem?_cons_zero, List.getElem?_cons_succ] at p0 p1 p2 p3 p4 p5 p6 p7 p8
  have pF := hB0.free
  have pL := hB0.lt
  have pB := hB0.base
  have r0 := hB1.cell 0 (by simp)
  have r1 := hB1.cell 1 (by simp)
  have r2 := hB1.cell 2 (by simp)
  have r3 := hB1.cell 3 (by simp)
  have r4 := hB1.cell 4 (by simp)
  have r5 := hB1.cell 5 (by simp)
  have r6 := hB1.cell 6 (by simp)
  have r7 := hB1.cell 7 (by simp)
  have r8 := hB1.cell 8 (by simp)
  simp only [List.getElem?_cons_zero, List.getElem?_cons_succ] at r0 r1 r2 r3 r4 r5 r6 r7 r8
  have rF := hB1.free
  have rL := hB1.lt
  have rB := hB1.base
  have HZ := Lib.hid (And.intro (hEY.trans hEZ) (And.intro h3 (And.intro ((h2.u8 hU).lift hEZ) hL)))
  clear hEY hEZ h3 h1 h2 hU hL hq hB0 hB1
  go_wp2_with fail
  refine bodyPost_ret (v := (pv id cl ic A3 L.length c3 oc B1 m d1 bu en cg)) (by simp [results, Try.results27, go_sem, r0, r1, r2, r3, r4, r5, r6, r7, r8]) rfl ?_
  obtain ⟨hE, h3, h2, hL⟩ := HZ.out
  have hN := HN.out
  refine ⟨_, rfl, ⟨A3, _, c3, B1, m, d1, rfl, hL ▸ h3.u8 ?_, h2.u8 ?_⟩, ?_⟩
  · repeat' (first | with_reducible exact U8.refl _ | with_reducible assumption | with_reducible apply U8.up | with_reducible apply U8.drew | ((with_reducible refine U8.putE ?_ ?_); rotate_left; (refine ⟨_, by assumption, ?_⟩); intro _ h; cases h) | ((with_reducible refine U8.new ?_ ?_); rotate_left; first | omega | (simp <;> omega)))
  · repeat' (first | with_reducible exact U8.refl _ | with_reducible assumption | with_reducible apply U8.up | with_reducible apply U8.drew | ((with_reducible refine U8.putE ?_ ?_); rotate_left; (refine ⟨_, by assumption, ?_⟩); intro _ h; cases h) | ((with_reducible refine U8.new ?_ ?_); rotate_left; first | omega | (simp <;> omega)))
  · repeat' (first | with_reducible assumption | with_reducible exact Ext.refl _ | with_reducible apply Ext.alloc | with_reducible apply Ext.drew | with_reducible apply Ext.drewN | with_reducible apply Ext.plus_ | with_reducible refine Ext.put ?_ (by omega))
end Go.Proofs.Ytphbmibgnnobcaa
