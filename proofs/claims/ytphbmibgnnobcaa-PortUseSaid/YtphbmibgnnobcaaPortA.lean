/- Ports: the reference's Offer and Eat. -/
import Derived.Test.YtphbmibgnnobcaaPort9
set_option linter.unusedVariables false
namespace Go.Proofs.Ytphbmibgnnobcaa
open Go.RowKit Go.Rg
set_option maxHeartbeats 4000000 in
theorem refEat_any (id cl ic : Int) (A : Option Addr) (n c : Nat) (l : List Int) (oc : Int) (B : Option Addr) (m d : Nat) (k : List Int) (bu : Int) (en cg : Bool) (g : Int) (w : World)
    (hA : RB w A n c l) (hn : n ≤ 140737488355328) (hB : RB w B m d k) (hm : m ≤ 140737488355328) :
    Calls Try.prog 28 #[pv id cl ic A n c oc B m d bu en cg, .int .i64 g] w (EatPost w id cl ic l oc k bu en cg (qfirst ic n g).toNat) := by
  go_enter Try.func28, Try.ntmps28
  go_wp2_with fail
  refine calls_at fun W hW => ?_
  obtain ⟨N, hN⟩ : ∃ N, N = w.heap.size := ⟨_, rfl⟩
  have hB1 : Box N [.int .i64 0, .int .i64 0, .int .i64 0, .slice none 0 0, .int .i64 0, .slice none 0 0, .int .i64 0, .bool false, .bool false] (N + 1) W := by
    rw [hW]
    repeat' (first | with_reducible assumption | ((with_reducible refine Box.fresh ?fb ?fn ?fr); (case fb => first | omega | (simp <;> omega)); (case fn => first | omega | (simp <;> omega)); (case fr => rfl)) | with_reducible apply Box.up | with_reducible apply Box.drew_ | with_reducible apply Box.drewN_ | with_reducible apply Box.plus_ | with_reducible apply Box.put | with_reducible refine Box.off ?_ (by omega))
    all_goals first | rfl | (simp; done)
  have hB0 : Box N [.int .i64 id, .int .i64 cl, .int .i64 ic, .slice A n c, .int .i64 oc, .slice B m d, .int .i64 bu, .bool en, .bool cg] N W := by
    rw [hW]
    repeat' (first | with_reducible assumption | ((with_reducible refine Box.fresh ?fb ?fn ?fr); (case fb => first | omega | (simp <;> omega)); (case fn => first | omega | (simp <;> omega)); (case fr => rfl)) | with_reducible apply Box.up | with_reducible apply Box.drew_ | with_reducible apply Box.drewN_ | with_reducible apply Box.plus_ | with_reducible apply Box.put | with_reducible refine Box.off ?_ (by omega))
    all_goals first | rfl | (simp; done)
  have hE : Ext w W := by
    rw [hW]
    repeat' (first | with_reducible assumption | with_reducible exact Ext.refl _ | with_reducible apply Ext.alloc | with_reducible apply Ext.drew | with_reducible apply Ext.drewN | with_reducible apply Ext.plus_ | with_reducible refine Ext.put ?_ (by omega))
  rw [← hN]
  have HN := Lib.hid hN
  clear hW hN
  refine (refTake_any ic A n c l g W (hA.lift hE).row hA.nil hA.le hA.most hn).mono ?_
  rintro e Z ⟨v1, v2, rfl, -, hq, hEZ⟩
  obtain ⟨L, hL⟩ : ∃ L, L = l.drop (qfirst ic n g).toNat := ⟨_, rfl⟩
  rw [← hL] at hq
  obtain ⟨A3, c3, rfl, h3⟩ := hq.rb
  replace hB0 := hB0.ext hEZ
  replace hB1 := hB1.ext hEZ
  have p0 := hB0.cell 0 (by simp)
  have p1 := hB0.cell 1 (by simp)
  have p2 := hB0.cell 2 (by simp)
  have p3 := hB0.cell 3 (by simp)
  have p4 := hB0.cell 4 (by simp)
  have p5 := hB0.cell 5 (by simp)
  have p6 := hB0.cell 6 (by simp)
  have p7 := hB0.cell 7 (by simp)
  have p8 := hB0.cell 8 (by simp)
  simp only [List.getElem?_cons_zero, List.getElem?_cons_succ] at p0 p1 p2 p3 p4 p5 p6 p7 p8
  have pF := hB0.free
  have pL := hB0.lt
  have pB := hB0.base
  have r0 := hB1.cell 0 (by simp)
  have r1 := hB1.cell 1 (by simp)
  have r2 := hB1.cell 2 (by simp)
  have r3 := hB1.cell 3 (by simp)
  have r4 := hB1.cell 4 (by simp)
  have r5 := hB1.cell 5 (by simp)
  have r6 := hB1.cell 6 (by simp)
  have r7 := hB1.cell 7 (by simp)
  have r8 := hB1.cell 8 (by simp)
  simp only [List.getElem?_cons_zero, List.getElem?_cons_succ] at r0 r1 r2 r3 r4 r5 r6 r7 r8
  have rF := hB1.free
  have rL := hB1.lt
  have rB := hB1.base
  have HZ := Lib.hid (And.intro (hE.trans hEZ) (And.intro h3 (And.intro ((hB.lift hE).lift hEZ) hL)))
  clear hE hEZ h3 hA hB hL hq hB0 hB1
  go_wp2_with fail
  refine bodyPost_ret (v := (pv id cl ic A3 L.length c3 oc B m d bu en cg)) (by simp [results, Try.results28, go_sem, r0, r1, r2, r3, r4, r5, r6, r7, r8]) rfl ?_
  obtain ⟨hE, h3, h2, hL⟩ := HZ.out
  have hN := HN.out
  refine ⟨_, rfl, ⟨A3, _, c3, B, m, d, rfl, hL ▸ h3.u8 ?_, h2.u8 ?_⟩, ?_⟩
  · repeat' (first | with_reducible exact U8.refl _ | with_reducible assumption | with_reducible apply U8.up | with_reducible apply U8.drew | ((with_reducible refine U8.putE ?_ ?_); rotate_left; (refine ⟨_, by assumption, ?_⟩); intro _ h; cases h) | ((with_reducible refine U8.new ?_ ?_); rotate_left; first | omega | (simp <;> omega)))
  · repeat' (first | with_reducible exact U8.refl _ | with_reducible assumption | with_reducible apply U8.up | with_reducible apply U8.drew | ((with_reducible refine U8.putE ?_ ?_); rotate_left; (refine ⟨_, by assumption, ?_⟩); intro _ h; cases h) | ((with_reducible refine U8.new ?_ ?_); rotate_left; first | omega | (simp <;> omega)))
  · repeat' (first | with_reducible assumption | with_reducible exact Ext.refl _ | with_reducible apply Ext.alloc | with_reducible apply Ext.drew | with_reducible apply Ext.drewN | with_reducible apply Ext.plus_ | with_reducible refine Ext.put ?_ (by omega))
set_option maxHeartbeats 4000000 in
theorem refOffer_any (id cl ic : Int) (A : Option Addr) (n c : Nat) (l : List Int) (oc : Int) (B : Option Addr) (m d : Nat) (k : List Int) (bu : Int) (en cg : Bool) (V : Option Addr) (vn vc : Nat) (b : List Int) (w : World)
    (hA : RB w A n c l) (hn : n + 1000000 ≤ 140737488355328) (hB : RB w B m d k) (hm : m ≤ 140737488355328) (hV : RB w V vn vc b) (hv : vn ≤ 140737488355328) :
    Calls Try.prog 24 #[pv id cl ic A n c oc B m d bu en cg, .slice V vn vc] w (OffPost w id cl ic l oc k bu en cg b) := by
  have HV := Lib.hid hV
  have h1 := hA
  have h2 := hB
  clear hV
  cases en
  · cases cg
    · clear h1 h2
      go_enter Try.func24, Try.ntmps24
      go_wp2_with fail
      refine calls_at fun W hW => ?_
      obtain ⟨N, hN⟩ : ∃ N, N = w.heap.size := ⟨_, rfl⟩
      have hB1 : Box N [.int .i64 0, .int .i64 0, .int .i64 0, .slice none 0 0, .int .i64 0, .slice none 0 0, .int .i64 0, .bool false, .bool false] (N + 1) W := by
        rw [hW]
        repeat' (first | with_reducible assumption | ((with_reducible refine Box.fresh ?fb ?fn ?fr); (case fb => first | omega | (simp <;> omega)); (case fn => first | omega | (simp <;> omega)); (case fr => rfl)) | with_reducible apply Box.up | with_reducible apply Box.drew_ | with_reducible apply Box.drewN_ | with_reducible apply Box.plus_ | with_reducible apply Box.put | with_reducible refine Box.off ?_ (by omega))
        all_goals first | rfl | (simp; done)
      have hB0 : Box N [.int .i64 id, .int .i64 cl, .int .i64 ic, .slice A n c, .int .i64 oc, .slice B m d, .int .i64 bu, .bool false, .bool false] N W := by
        rw [hW]
        repeat' (first | with_reducible assumption | ((with_reducible refine Box.fresh ?fb ?fn ?fr); (case fb => first | omega | (simp <;> omega)); (case fn => first | omega | (simp <;> omega)); (case fr => rfl)) | with_reducible apply Box.up | with_reducible apply Box.drew_ | with_reducible apply Box.drewN_ | with_reducible apply Box.plus_ | with_reducible apply Box.put | with_reducible refine Box.off ?_ (by omega))
        all_goals first | rfl | (simp; done)
      have hE : Ext w W := by
        rw [hW]
        repeat' (first | with_reducible assumption | with_reducible exact Ext.refl _ | with_reducible apply Ext.alloc | with_reducible apply Ext.drew | with_reducible apply Ext.drewN | with_reducible apply Ext.plus_ | with_reducible refine Ext.put ?_ (by omega))
      rw [← hN]
      have HN := Lib.hid hN
      clear hW hN
      refine (refPut_any ic A n c l V vn vc b W (hA.lift hE).row hA.nil hA.le hA.most hn (HV.out.lift hE).row (by omega) HV.out.le HV.out.most).mono ?_
      rintro e Z ⟨v, rfl, hq, hEZ⟩
      obtain ⟨L, hL⟩ : ∃ L, L = l ++ b.take (qput ic l.length b.length) := ⟨_, rfl⟩
      obtain ⟨q, hq9⟩ : ∃ q, q = qput ic l.length b.length := ⟨_, rfl⟩
      rw [← hL] at hq
      rw [← hq9]
      obtain ⟨A3, c3, rfl, h3⟩ := hq.rb
      replace hB0 := hB0.ext hEZ
      replace hB1 := hB1.ext hEZ
      have p0 := hB0.cell 0 (by simp)
      have p1 := hB0.cell 1 (by simp)
      have p2 := hB0.cell 2 (by simp)
      have p3 := hB0.cell 3 (by simp)
      have p4 := hB0.cell 4 (by simp)
      have p5 := hB0.cell 5 (by simp)
      have p6 := hB0.cell 6 (by simp)
      have p7 := hB0.cell 7 (by simp)
      have p8 := hB0.cell 8 (by simp)
      simp only [List.getElem?_cons_zero, List.getElem?_cons_succ] at p0 p1 p2 p3 p4 p5 p6 p7 p8
      have pF := hB0.free
      have pL := hB0.lt
      have pB := hB0.base
      have r0 := hB1.cell 0 (by simp)
      have r1 := hB1.cell 1 (by simp)
      have r2 := hB1.cell 2 (by simp)
      have r3 := hB1.cell 3 (by simp)
      have r4 := hB1.cell 4 (by simp)
      have r5 := hB1.cell 5 (by simp)
      have r6 := hB1.cell 6 (by simp)
      have r7 := hB1.cell 7 (by simp)
      have r8 := hB1.cell 8 (by simp)
      simp only [List.getElem?_cons_zero, List.getElem?_cons_succ] at r0 r1 r2 r3 r4 r5 r6 r7 r8
      have rF := hB1.free
      have rL := hB1.lt
      have rB := hB1.base
      have HZ := Lib.hid (And.intro (hE.trans hEZ) (And.intro h3 (And.intro ((hB.lift hE).lift hEZ) (And.intro hL hq9))))
      clear hE hEZ h3 hA hB hL hq9 hq hB0 hB1
      go_wp2_with fail
      refine bodyPost_ret (v := (.tuple #[pv id cl ic A3 L.length c3 oc B m d bu false false, .int .i64 q])) (by simp [results, Try.results24, go_sem, r0, r1, r2, r3, r4, r5, r6, r7, r8]) rfl ?_
      obtain ⟨hE, h3, h2, rfl, rfl⟩ := HZ.out
      have hN := HN.out
      refine ⟨_, rfl, ⟨A3, _, c3, B, m, d, rfl, h3.u8 ?_, h2.u8 ?_⟩, ?_⟩
      · repeat' (first | with_reducible exact U8.refl _ | with_reducible assumption | with_reducible apply U8.up | with_reducible apply U8.drew | ((with_reducible refine U8.putE ?_ ?_); rotate_left; (refine ⟨_, by assumption, ?_⟩); intro _ h; cases h) | ((with_reducible refine U8.new ?_ ?_); rotate_left; first | omega | (simp <;> omega)))
      · repeat' (first | with_reducible exact U8.refl _ | with_reducible assumption | with_reducible apply U8.up | with_reducible apply U8.drew | ((with_reducible refine U8.putE ?_ ?_); rotate_left; (refine ⟨_, by assumption, ?_⟩); intro _ h; cases h) | ((with_reducible refine U8.new ?_ ?_); rotate_left; first | omega | (simp <;> omega)))
      · repeat' (first | with_reducible assumption | with_reducible exact Ext.refl _ | with_reducible apply Ext.alloc | with_reducible apply Ext.drew | with_reducible apply Ext.drewN | with_reducible apply Ext.plus_ | with_reducible refine Ext.put ?_ (by omega))
    · go_enter Try.func24, Try.ntmps24
      go_wp2
      refine bodyPost_ret (v := (.tuple #[pv id cl ic A n c oc B m d bu false true, .int .i64 0])) (by simp [results, Try.results24, go_sem]) rfl ?_
      refine ⟨_, rfl, ⟨A, n, c, B, m, d, rfl, h1.lift ?_, h2.lift ?_⟩, ?_⟩
      · repeat' (first | with_reducible assumption | with_reducible exact Ext.refl _ | with_reducible apply Ext.alloc | with_reducible apply Ext.drew | with_reducible apply Ext.drewN | with_reducible apply Ext.plus_ | with_reducible refine Ext.put ?_ (by omega))
      · repeat' (first | with_reducible assumption | with_reducible exact Ext.refl _ | with_reducible apply Ext.alloc | with_reducible apply Ext.drew | with_reducible apply Ext.drewN | with_reducible apply Ext.plus_ | with_reducible refine Ext.put ?_ (by omega))
      · repeat' (first | with_reducible assumption | with_reducible exact Ext.refl _ | with_reducible apply Ext.alloc | with_reducible apply Ext.drew | with_reducible apply Ext.drewN | with_reducible apply Ext.plus_ | with_reducible refine Ext.put ?_ (by omega))
  · go_enter Try.func24, Try.ntmps24
    go_wp2
    refine bodyPost_ret (v := (.tuple #[pv id cl ic A n c oc B m d bu true cg, .int .i64 0])) (by simp [results, Try.results24, go_sem]) rfl ?_
    refine ⟨_, rfl, ⟨A, n, c, B, m, d, rfl, h1.lift ?_, h2.lift ?_⟩, ?_⟩
    · repeat' (first | with_reducible assumption | with_reducible exact Ext.refl _ | with_reducible apply Ext.alloc | with_reducible apply Ext.drew | with_reducible apply Ext.drewN | with_reducible apply Ext.plus_ | with_reducible refine Ext.put ?_ (by omega))
    · repeat' (first | with_reducible assumption | with_reducible exact Ext.refl _ | with_reducible apply Ext.alloc | with_reducible apply Ext.drew | with_reducible apply Ext.drewN | with_reducible apply Ext.plus_ | with_reducible refine Ext.put ?_ (by omega))
    · repeat' (first | with_reducible assumption | with_reducible exact Ext.refl _ | with_reducible apply Ext.alloc | with_reducible apply Ext.drew | with_reducible apply Ext.drewN | with_reducible apply Ext.plus_ | with_reducible refine Ext.put ?_ (by omega))
end Go.Proofs.Ytphbmibgnnobcaa
