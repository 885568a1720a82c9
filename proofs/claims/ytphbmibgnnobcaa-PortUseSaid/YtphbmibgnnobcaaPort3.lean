/- Ports: flush with bytes that are added. -/
import Derived.Test.YtphbmibgnnobcaaPort2
import Derived.Test.YtphbmibgnnobcaaApp
set_option linter.unusedVariables false
namespace Go.Proofs.Ytphbmibgnnobcaa
open Go.RowKit Go.Rg

theorem append_named {P : Program} {t t2 e e2 : TypeId} (ht : P.underlying t = some (.slice e)) (ht2 : P.underlying t2 = some (.slice e2)) (ty : TypeId) (A : Option Addr) (n c : Nat) (u : Value) (w : World) :
    (Builtin.append_ #[t, t2] ty #[.slice A n c, u]).run P w = (Builtin.append_ #[t, t] ty #[.slice A n c, u]).run P w := by
  unfold Builtin.append_
  simp [Sem.run_bind, run_underlying ht, run_underlying ht2, Result.andThen_ok]
theorem wpList_app2 {P : Program} (w : World) {ops : Array Oper} {rest : List Oper} {o : Oper} {a : Act} {Q : Exit → Act → World → Prop} (hgd : o.guard = none) (s x : Operand) (t t2 : TypeId)
    (ho : o.op = .call { callee := .builtin .append, args := #[s, x], argTypes := #[t, t2] }) (v u : Value) (hs : a.eval s = v) (hx : a.eval x = u) {R : Value → World → Prop}
    (hr : ∃ v' w', (Builtin.append_ #[t, t2] o.type #[v, u]).run P w = .ok v' w' ∧ R v' w') (h : ∀ v' w', R v' w' → wpList P ops Q rest (a.put o.dst v') w') : wpList P ops Q (o :: rest) a w := by
  refine wpList_plain hgd fun _ hK => ?_
  obtain ⟨v', w', hr, hR⟩ := hr
  unfold Oper.wp execOp
  simp only [ho, resolve, invoke, builtin, Sem.run_bind, Sem.run_pure, Result.andThen_ok, List.map_toArray, List.map_cons, List.map_nil, hs, hx, hr]
  exact hK _ _ (h _ _ hR)
theorem own_kept {w w' : World} {base n c size : Nat} {e : TypeId} {A : Option Addr} {xs : List Value} {row : Option Nat} (h : w.ownsRow base e size (.slice A n c) n xs) (hg : w.grownBy w' row) (hne : ∀ a, A = some a → row ≠ some a.block) :
    w'.ownsRow base e size (.slice A n c) n xs := by
  refine ⟨h.1, ?_⟩
  rcases h.2 with h1 | ⟨g, cap, cur, hv, hb, hgb, h2⟩
  · exact .inl h1
  · refine .inr ⟨g, cap, cur, hv, hb, ?_, h2⟩
    have hlt : g < w.heap.size := by
      rcases Nat.lt_or_ge g w.heap.size with h | h
      · exact h
      · rw [Array.getElem?_eq_none h] at hgb; cases hgb
    have hA : A = some ⟨g, 0, none⟩ := by injection hv
    rw [hg.block g hlt (fun e => hne _ hA e.symm)]; exact hgb

set_option maxHeartbeats 4000000 in
theorem pflush_added (id cl ic : Int) (A : Option Addr) (n c : Nat) (l : List Int) (oc : Int) (B : Option Addr) (m d : Nat) (k : List Int) (bu : Int) (en cg : Bool) (V : Option Addr) (vn vc : Nat) (vl : List Int) (w : World)
    (hA : RB w A n c l) (hn : n ≤ 140737488355328) (hB : RB w B m d k) (hm2 : m + vn ≤ 140737488355328) (hV : RB w V vn vc vl) (hb2 : 0 ≤ bu) (hb3 : bu ≤ 1000000) :
    Calls Try.prog 34 #[pv id cl ic A n c oc B m d bu en cg, .iface 57 (.slice V vn vc)] w (FlPost w id cl ic l oc (k ++ vl) bu en cg) := by
  have hm : m ≤ 140737488355328 := by omega
  have HV := Lib.hid hV
  clear hV
  obtain ⟨i0, hi, hz0, hz1, hz2⟩ := info_parts Try.infoByte
  go_enter Try.func34, Try.ntmps34
  go_wp2_with fail
  refine calls_at fun W hW => ?_
  obtain ⟨N, hN⟩ : ∃ N, N = w.heap.size := ⟨_, rfl⟩
  have hB1 : Box N [.int .i64 0, .int .i64 0, .int .i64 0, .slice none 0 0, .int .i64 0, .slice none 0 0, .int .i64 0, .bool false, .bool false] (N + 1) W := by
    rw [hW]
    repeat' (first | with_reducible assumption | ((with_reducible refine Box.fresh ?fb ?fn ?fr); (case fb => first | omega | (simp <;> omega)); (case fn => first | omega | (simp <;> omega)); (case fr => rfl)) | with_reducible apply Box.up | with_reducible apply Box.drew_ | with_reducible apply Box.drewN_ | with_reducible apply Box.plus_ | with_reducible apply Box.put | with_reducible refine Box.off ?_ (by omega))
    all_goals first | rfl | (simp; done)
  have hB0 : Box N [.int .i64 id, .int .i64 cl, .int .i64 ic, .slice A n c, .int .i64 oc, .slice B m d, .int .i64 bu, .bool en, .bool cg] N W := by
    rw [hW]
    repeat' (first | with_reducible assumption | ((with_reducible refine Box.fresh ?fb ?fn ?fr); (case fb => first | omega | (simp <;> omega)); (case fn => first | omega | (simp <;> omega)); (case fr => rfl)) | with_reducible apply Box.up | with_reducible apply Box.drew_ | with_reducible apply Box.drewN_ | with_reducible apply Box.plus_ | with_reducible apply Box.put | with_reducible refine Box.off ?_ (by omega))
    all_goals first | rfl | (simp; done)
  have hE : Ext w W := by
    rw [hW]
    repeat' (first | with_reducible assumption | with_reducible exact Ext.refl _ | with_reducible apply Ext.alloc | with_reducible apply Ext.drew | with_reducible apply Ext.drewN | with_reducible apply Ext.plus_ | with_reducible refine Ext.put ?_ (by omega))
  rw [← hN]
  have HN := Lib.hid hN
  clear hW hN
  refine (pcopied_any id cl ic A n c l oc B m d k bu en cg W (hA.lift hE).row hA.nil hn (hB.lift hE).row hB.nil hm).mono ?_
  rintro e X ⟨A1, c1, B1, d1, rfl, ho1, ho2, hdis, hEX⟩
  have hN2 : N + 2 ≤ W.heap.size := hB1.lt
  replace ho1 := own_lower_ ho1 hN2
  replace ho2 := own_lower_ ho2 hN2
  replace hB0 := hB0.ext hEX
  replace hB1 := hB1.ext hEX
  replace hE := hE.trans hEX
  clear hEX hA hB hN2
  have p0 := hB0.cell 0 (by simp)
  have p1 := hB0.cell 1 (by simp)
  have p2 := hB0.cell 2 (by simp)
  have p3 := hB0.cell 3 (by simp)
  have p4 := hB0.cell 4 (by simp)
  have p5 := hB0.cell 5 (by simp)
  have p6 := hB0.cell 6 (by simp)
  have p7 := hB0.cell 7 (by simp)
  have p8 := hB0.cell 8 (by simp)
  simp only [List.getElem?_cons_zero, List.getElem?_cons_succ] at p0 p1 p2 p3 p4 p5 p6 p7 p8
  have pF := hB0.free
  have pL := hB0.lt
  have pB := hB0.base
  have r0 := hB1.cell 0 (by simp)
  have r1 := hB1.cell 1 (by simp)
  have r2 := hB1.cell 2 (by simp)
  have r3 := hB1.cell 3 (by simp)
  have r4 := hB1.cell 4 (by simp)
  have r5 := hB1.cell 5 (by simp)
  have r6 := hB1.cell 6 (by simp)
  have r7 := hB1.cell 7 (by simp)
  have r8 := hB1.cell 8 (by simp)
  simp only [List.getElem?_cons_zero, List.getElem?_cons_succ] at r0 r1 r2 r3 r4 r5 r6 r7 r8
  have rF := hB1.free
  have rL := hB1.lt
  have rB := hB1.base
  have H := Lib.hid (And.intro hB0 (And.intro hB1 (And.intro hE (And.intro ho1 (And.intro ho2 hdis)))))
  clear hB0 hB1 hE ho1 ho2 hdis
  go_wp2_with (with_reducible show wpList _ _ _ (⟨some 18, _, _, _, _, _⟩ :: _) _ _; refine Lock.out ?_)
  refine ⟨?_, trivial⟩
  refine wl_at fun Y hY => ?_
  obtain ⟨hB0, hB1, hE, ho1, ho2, hdis⟩ := H.out
  have hN := HN.out
  replace hB0 : Box N [.int .i64 id, .int .i64 cl, .int .i64 ic, .slice A1 n c1, .int .i64 oc, .slice B1 m d1, .int .i64 bu, .bool en, .bool cg] N Y := by
    rw [hY]
    repeat' (first | with_reducible assumption | ((with_reducible refine Box.fresh ?fb ?fn ?fr); (case fb => first | omega | (simp <;> omega)); (case fn => first | omega | (simp <;> omega)); (case fr => rfl)) | with_reducible apply Box.up | with_reducible apply Box.drew_ | with_reducible apply Box.drewN_ | with_reducible apply Box.plus_ | with_reducible apply Box.put | with_reducible refine Box.off ?_ (by omega))
    all_goals first | rfl | (simp; done)
  replace hB1 : Box N [.int .i64 0, .int .i64 0, .int .i64 0, .slice none 0 0, .int .i64 0, .slice none 0 0, .int .i64 0, .bool false, .bool false] (N + 1) Y := by
    rw [hY]
    repeat' (first | with_reducible assumption | ((with_reducible refine Box.fresh ?fb ?fn ?fr); (case fb => first | omega | (simp <;> omega)); (case fn => first | omega | (simp <;> omega)); (case fr => rfl)) | with_reducible apply Box.up | with_reducible apply Box.drew_ | with_reducible apply Box.drewN_ | with_reducible apply Box.plus_ | with_reducible apply Box.put | with_reducible refine Box.off ?_ (by omega))
    all_goals first | rfl | (simp; done)
  replace hE : Ext w Y := by
    rw [hY]
    repeat' (first | with_reducible assumption | with_reducible exact Ext.refl _ | with_reducible apply Ext.alloc | with_reducible apply Ext.drew | with_reducible apply Ext.drewN | with_reducible apply Ext.plus_ | with_reducible refine Ext.put ?_ (by omega))
  replace ho1 : Y.ownsRow (N + 2) 5 1 (.slice A1 n c1) n (bytes l) := by
    rw [hY]
    repeat' (first | with_reducible assumption | with_reducible refine own_put_ ?_ (by omega) | with_reducible apply own_up_ | with_reducible apply own_plus_ | with_reducible apply own_drew_)
  replace ho2 : Y.ownsRow (N + 2) 5 1 (.slice B1 m d1) m (bytes k) := by
    rw [hY]
    repeat' (first | with_reducible assumption | with_reducible refine own_put_ ?_ (by omega) | with_reducible apply own_up_ | with_reducible apply own_plus_ | with_reducible apply own_drew_)
  clear hY H hN
  clear p0 p1 p2 p3 p4 p5 p6 p7 p8 pF pL pB
  clear r0 r1 r2 r3 r4 r5 r6 r7 r8 rF rL rB
  have p0 := hB0.cell 0 (by simp)
  have p1 := hB0.cell 1 (by simp)
  have p2 := hB0.cell 2 (by simp)
  have p3 := hB0.cell 3 (by simp)
  have p4 := hB0.cell 4 (by simp)
  have p5 := hB0.cell 5 (by simp)
  have p6 := hB0.cell 6 (by simp)
  have p7 := hB0.cell 7 (by simp)
  have p8 := hB0.cell 8 (by simp)
  simp only [List.getElem?_cons_zero, List.getElem?_cons_succ] at p0 p1 p2 p3 p4 p5 p6 p7 p8
  have pF := hB0.free
  have pL := hB0.lt
  have pB := hB0.base
  have hNY : N + 2 ≤ Y.heap.size := hB1.lt
  have HA := Lib.hid (app_own Y (N + 2) 26 26 5 i0 (.int .u8 0) 1 Try.underlying26 hi hz0 hz1 hz2 rfl _ _ _ ho2 _ V vn vc (bytes vl) (HV.out.lift hE).row (bytes_one vl) (by unfold maxLen; omega) (by omega) hNY)
  rw [← append_named Try.underlying26 Try.underlying57] at HA
  have H := Lib.hid (And.intro hB0 (And.intro hB1 (And.intro hE (And.intro ho1 (And.intro ho2 hdis)))))
  clear hB0 hB1 hE ho1 ho2 hdis
  go_wp2_with (at_builtin; refine wpList_app2 _ rfl (.tmp 18) (.tmp 19) 26 57 rfl _ _ rfl rfl HA.out ?_)
  intro v' Z hap
  obtain ⟨hB0, hB1, hE, ho1, ho2, hdis⟩ := H.out
  obtain ⟨ho3, hg, _⟩ := hap
  have hwN : w.heap.size ≤ N + 2 := by
    have := HN.out
    omega
  replace hE := hE.grown ho2 hwN hg
  replace ho1 := own_kept ho1 hg (fun a ha h => by
    rcases B1 with _ | b
    · cases h
    · injection h with h
      exact hdis a b ha rfl h.symm)
  replace hB0 := hB0.grown hg (own_ne ho2 (by omega))
  replace hB1 := hB1.grown hg (own_ne ho2 (by omega))
  obtain ⟨B9, d9, rfl, _, _⟩ := own_form ho3
  clear hg hdis ho2 HA H HV
  have ho2 := ho3
  clear ho3
  obtain ⟨k9, hk9⟩ : ∃ k9, k9 = k ++ vl := ⟨_, rfl⟩
  obtain ⟨M9, hM9⟩ : ∃ M9, M9 = m + vn := ⟨_, rfl⟩
  obtain ⟨b9, hb9⟩ : ∃ b9, b9 = bu := ⟨_, rfl⟩
  rw [show bytes k ++ bytes vl = bytes (k ++ vl) by simp, ← hk9, ← hM9] at ho2
  rw [← hM9]
  have HKK := Lib.hid hk9
  have HBQ := Lib.hid hb9
  rw [← hb9] at hB0 hb2 hb3
  clear p0 p1 p2 p3 p4 p5 p6 p7 p8 pF pL pB
  have p0 := hB0.cell 0 (by simp)
  have p1 := hB0.cell 1 (by simp)
  have p2 := hB0.cell 2 (by simp)
  have p3 := hB0.cell 3 (by simp)
  have p4 := hB0.cell 4 (by simp)
  have p5 := hB0.cell 5 (by simp)
  have p6 := hB0.cell 6 (by simp)
  have p7 := hB0.cell 7 (by simp)
  have p8 := hB0.cell 8 (by simp)
  simp only [List.getElem?_cons_zero, List.getElem?_cons_succ] at p0 p1 p2 p3 p4 p5 p6 p7 p8
  have pF := hB0.free
  have pL := hB0.lt
  have pB := hB0.base
  have r0 := hB1.cell 0 (by simp)
  have r1 := hB1.cell 1 (by simp)
  have r2 := hB1.cell 2 (by simp)
  have r3 := hB1.cell 3 (by simp)
  have r4 := hB1.cell 4 (by simp)
  have r5 := hB1.cell 5 (by simp)
  have r6 := hB1.cell 6 (by simp)
  have r7 := hB1.cell 7 (by simp)
  have r8 := hB1.cell 8 (by simp)
  simp only [List.getElem?_cons_zero, List.getElem?_cons_succ] at r0 r1 r2 r3 r4 r5 r6 r7 r8
  have rF := hB1.free
  have rL := hB1.lt
  have rB := hB1.base
  have hm9 : M9 ≤ 140737488355328 := by omega
  have H := Lib.hid (And.intro hB0 (And.intro hB1 (And.intro hE (And.intro ho1 ho2))))
  clear hB0 hB1 hE ho1 ho2 hk9 hb9 hM9 hwN
  go_wp2_with (with_reducible show wpList _ _ _ (⟨some 33, _, _, _, _, _⟩ :: _) _ _; refine Lock.out ?_)
  refine ⟨?_, trivial⟩
  refine wl_at fun U hU => ?_
  obtain ⟨hB0, hB1, hE, ho1, ho2⟩ := H.out
  have hN := HN.out
  replace hB0 : Box N [.int .i64 id, .int .i64 cl, .int .i64 ic, .slice A1 n c1, .int .i64 oc, .slice B9 M9 d9, .int .i64 b9, .bool en, .bool cg] N U := by
    rw [hU]
    repeat' (first | with_reducible assumption | ((with_reducible refine Box.fresh ?fb ?fn ?fr); (case fb => first | omega | (simp <;> omega)); (case fn => first | omega | (simp <;> omega)); (case fr => rfl)) | with_reducible apply Box.up | with_reducible apply Box.drew_ | with_reducible apply Box.drewN_ | with_reducible apply Box.plus_ | with_reducible apply Box.put | with_reducible refine Box.off ?_ (by omega))
    all_goals first | rfl | (simp; done)
  replace hB1 : Box N [.int .i64 0, .int .i64 0, .int .i64 0, .slice none 0 0, .int .i64 0, .slice none 0 0, .int .i64 0, .bool false, .bool false] (N + 1) U := by
    rw [hU]
    repeat' (first | with_reducible assumption | ((with_reducible refine Box.fresh ?fb ?fn ?fr); (case fb => first | omega | (simp <;> omega)); (case fn => first | omega | (simp <;> omega)); (case fr => rfl)) | with_reducible apply Box.up | with_reducible apply Box.drew_ | with_reducible apply Box.drewN_ | with_reducible apply Box.plus_ | with_reducible apply Box.put | with_reducible refine Box.off ?_ (by omega))
    all_goals first | rfl | (simp; done)
  replace hE : Ext w U := by
    rw [hU]
    repeat' (first | with_reducible assumption | with_reducible exact Ext.refl _ | with_reducible apply Ext.alloc | with_reducible apply Ext.drew | with_reducible apply Ext.drewN | with_reducible apply Ext.plus_ | with_reducible refine Ext.put ?_ (by omega))
  replace ho1 : U.ownsRow (N + 2) 5 1 (.slice A1 n c1) n (bytes l) := by
    rw [hU]
    repeat' (first | with_reducible assumption | with_reducible refine own_put_ ?_ (by omega) | with_reducible apply own_up_ | with_reducible apply own_plus_ | with_reducible apply own_drew_)
  replace ho2 : U.ownsRow (N + 2) 5 1 (.slice B9 M9 d9) M9 (bytes k9) := by
    rw [hU]
    repeat' (first | with_reducible assumption | with_reducible refine own_put_ ?_ (by omega) | with_reducible apply own_up_ | with_reducible apply own_plus_ | with_reducible apply own_drew_)
  clear hU H hN
  clear p0 p1 p2 p3 p4 p5 p6 p7 p8 pF pL pB
  clear r0 r1 r2 r3 r4 r5 r6 r7 r8 rF rL rB
  have p0 := hB0.cell 0 (by simp)
  have p1 := hB0.cell 1 (by simp)
  have p2 := hB0.cell 2 (by simp)
  have p3 := hB0.cell 3 (by simp)
  have p4 := hB0.cell 4 (by simp)
  have p5 := hB0.cell 5 (by simp)
  have p6 := hB0.cell 6 (by simp)
  have p7 := hB0.cell 7 (by simp)
  have p8 := hB0.cell 8 (by simp)
  simp only [List.getElem?_cons_zero, List.getElem?_cons_succ] at p0 p1 p2 p3 p4 p5 p6 p7 p8
  have pF := hB0.free
  have pL := hB0.lt
  have pB := hB0.base
  have r0 := hB1.cell 0 (by simp)
  have r1 := hB1.cell 1 (by simp)
  have r2 := hB1.cell 2 (by simp)
  have r3 := hB1.cell 3 (by simp)
  have r4 := hB1.cell 4 (by simp)
  have r5 := hB1.cell 5 (by simp)
  have r6 := hB1.cell 6 (by simp)
  have r7 := hB1.cell 7 (by simp)
  have r8 := hB1.cell 8 (by simp)
  simp only [List.getElem?_cons_zero, List.getElem?_cons_succ] at r0 r1 r2 r3 r4 r5 r6 r7 r8
  have rF := hB1.free
  have rL := hB1.lt
  have rB := hB1.base
  have H := Lib.hid (And.intro hB0 (And.intro hB1 (And.intro hE (And.intro ho1 ho2))))
  have hkl : k9.length = M9 := by
    have := ho2.1
    simpa using this
  have hmd : M9 ≤ d9 := by
    obtain ⟨A9, c9, e2, hnc, hcm⟩ := own_form ho2
    injection e2 with e2 e3 e4
    omega
  clear hB0 hB1 hE ho1 ho2
  by_cases hq : b9 ≤ (M9 : Int)
  · obtain ⟨q, hbq⟩ := Int.eq_ofNat_of_zero_le hb2
    have hq1 : q ≤ M9 := by omega
    have hq2 : q ≤ d9 := by omega
    have HP := Lib.hid (show min b9 (k9.length : Int) = q by rw [hkl]; omega)
    subst hbq
    go_wp2_with fail
    obtain ⟨hB0, hB1, hE, ho1, ho2⟩ := H.out
    have hnil := own_nil ho2
    have hrow := (own_row ho2).take q hq1
    rw [show (bytes k9).take q = bytes ((k9).take q) by simp] at hrow
    refine (clone_any B9 q d9 ((k9).take q) U hrow (fun h => by have := hnil h; omega) (by omega)).mono ?_
    rintro ee Z ⟨v4, rfl, ho4, hEZ⟩
    have hbs := own_lower_ ho4 (show N + 2 ≤ U.heap.size from hB1.lt)
    replace hB0 := hB0.ext hEZ
    replace hB1 := hB1.ext hEZ
    replace hE := hE.trans hEZ
    replace ho1 := own_ext ho1 hEZ
    replace ho2 := own_ext ho2 hEZ
    clear p0 p1 p2 p3 p4 p5 p6 p7 p8 pF pL pB
    clear r0 r1 r2 r3 r4 r5 r6 r7 r8 rF rL rB
    have p0 := hB0.cell 0 (by simp)
    have p1 := hB0.cell 1 (by simp)
    have p2 := hB0.cell 2 (by simp)
    have p3 := hB0.cell 3 (by simp)
    have p4 := hB0.cell 4 (by simp)
    have p5 := hB0.cell 5 (by simp)
    have p6 := hB0.cell 6 (by simp)
    have p7 := hB0.cell 7 (by simp)
    have p8 := hB0.cell 8 (by simp)
    simp only [List.getElem?_cons_zero, List.getElem?_cons_succ] at p0 p1 p2 p3 p4 p5 p6 p7 p8
    have pF := hB0.free
    have pL := hB0.lt
    have pB := hB0.base
    have r0 := hB1.cell 0 (by simp)
    have r1 := hB1.cell 1 (by simp)
    have r2 := hB1.cell 2 (by simp)
    have r3 := hB1.cell 3 (by simp)
    have r4 := hB1.cell 4 (by simp)
    have r5 := hB1.cell 5 (by simp)
    have r6 := hB1.cell 6 (by simp)
    have r7 := hB1.cell 7 (by simp)
    have r8 := hB1.cell 8 (by simp)
    simp only [List.getElem?_cons_zero, List.getElem?_cons_succ] at r0 r1 r2 r3 r4 r5 r6 r7 r8
    have rF := hB1.free
    have rL := hB1.lt
    have rB := hB1.base
    have HZ := Lib.hid (And.intro hB0 (And.intro hB1 (And.intro hE (And.intro ho1 (And.intro ho2 hbs)))))
    clear hB0 hB1 hEZ H ho4 hrow
    clear hE ho1 hbs hnil
    go_wp2_with fail
    rcases Nat.lt_or_ge q d9 with hqc | hqc
    · obtain ⟨gb, rfl⟩ : ∃ gb, B9 = some ⟨gb, 0, none⟩ := by
        rcases ho2.2 with ⟨h1, _⟩ | ⟨gb, _, _, h1, _⟩
        · injection h1 with _ _ h1
          omega
        · injection h1 with h1 _ _
          exact ⟨gb, h1⟩
      clear ho2
      go_region_with fail
      all_goals
        go_wp2
        refine bodyPost_ret (v := (.tuple #[pv id cl ic A1 n c1 oc (some ⟨gb, q, none⟩) (M9 - q) (d9 - q) (0) en cg, v4])) (by simp [results, Try.results34, go_sem, r0, r1, r2, r3, r4, r5, r6, r7, r8]) rfl ?_
        obtain ⟨hB0, hB1, hE, ho1, ho2, hbs⟩ := HZ.out
        clear hB0 hB1
        have hN := HN.out
        have hP1 := own_base ho1
        have hP2 := own_base ho2
        unfold FlPost
        rw [← HBQ.out, ← HKK.out, HP.out, Int.toNat_natCast, Int.sub_self]
        refine ⟨_, v4, rfl, ⟨A1, n, c1, _, _, _, rfl, RB.of_own (base := N + 2) ?_, ?_, fun a ha => ?_, ?_⟩, ?_, ?_⟩
        · repeat' (first | with_reducible assumption | with_reducible refine own_put_ ?_ (by omega) | with_reducible apply own_up_ | with_reducible apply own_plus_ | with_reducible apply own_drew_)
        · skip
          refine RB.drop (base := N + 2) (n := M9) (c := d9) ?_ hq1
          repeat' (first | with_reducible assumption | with_reducible refine own_put_ ?_ (by omega) | with_reducible apply own_up_ | with_reducible apply own_plus_ | with_reducible apply own_drew_)
        · have := hP1 a ha
          omega
        · skip
          (intro a ha; injection ha with ha; subst ha; have h9 := hP2 ⟨gb, 0, none⟩ rfl; simp only at h9 ⊢; omega)
        · refine BF.of_own (base := N + 2) (n := q) ?_ (by omega)
          repeat' (first | with_reducible assumption | with_reducible refine own_put_ ?_ (by omega) | with_reducible apply own_up_ | with_reducible apply own_plus_ | with_reducible apply own_drew_)
        · repeat' (first | with_reducible assumption | with_reducible exact Ext.refl _ | with_reducible apply Ext.alloc | with_reducible apply Ext.drew | with_reducible apply Ext.drewN | with_reducible apply Ext.plus_ | with_reducible refine Ext.put ?_ (by omega))
    · obtain rfl : q = d9 := by omega
      obtain rfl : M9 = q := by omega
      have HK := Lib.hid (show k9.drop M9 = [] from List.drop_of_length_le (by omega))
      clear ho2
      go_region_with fail
      all_goals
        go_wp2
        refine bodyPost_ret (v := (.tuple #[pv id cl ic A1 n c1 oc B9 0 0 (0) en cg, v4])) (by simp [results, Try.results34, go_sem, r0, r1, r2, r3, r4, r5, r6, r7, r8]) rfl ?_
        obtain ⟨hB0, hB1, hE, ho1, ho2, hbs⟩ := HZ.out
        clear hB0 hB1
        have hN := HN.out
        have hP1 := own_base ho1
        have hP2 := own_base ho2
        unfold FlPost
        rw [← HBQ.out, ← HKK.out, HP.out, Int.toNat_natCast, Int.sub_self]
        refine ⟨_, v4, rfl, ⟨A1, n, c1, _, _, _, rfl, RB.of_own (base := N + 2) ?_, ?_, fun a ha => ?_, ?_⟩, ?_, ?_⟩
        · repeat' (first | with_reducible assumption | with_reducible refine own_put_ ?_ (by omega) | with_reducible apply own_up_ | with_reducible apply own_plus_ | with_reducible apply own_drew_)
        · skip
          (rw [HK.out]; exact ⟨Row.nil, Nat.le_refl _, by omega, fun _ => ⟨rfl, rfl⟩⟩)
        · have := hP1 a ha
          omega
        · skip
          (intro a ha; have := hP2 a ha; omega)
        · refine BF.of_own (base := N + 2) (n := M9) ?_ (by omega)
          repeat' (first | with_reducible assumption | with_reducible refine own_put_ ?_ (by omega) | with_reducible apply own_up_ | with_reducible apply own_plus_ | with_reducible apply own_drew_)
        · repeat' (first | with_reducible assumption | with_reducible exact Ext.refl _ | with_reducible apply Ext.alloc | with_reducible apply Ext.drew | with_reducible apply Ext.drewN | with_reducible apply Ext.plus_ | with_reducible refine Ext.put ?_ (by omega))
  · have hq1 : M9 ≤ M9 := Nat.le_refl M9
    have hqm : (M9 : Int) ≤ b9 := by omega
    have hqm2 : (M9 : Int) < b9 := by omega
    have HP := Lib.hid (show min b9 (k9.length : Int) = (M9 : Nat) by rw [hkl]; omega)
    clear hq
    go_wp2_with fail
    obtain ⟨hB0, hB1, hE, ho1, ho2⟩ := H.out
    have hnil := own_nil ho2
    have hrow := (own_row ho2).take M9 hq1
    rw [show (bytes k9).take M9 = bytes ((k9).take M9) by simp] at hrow
    refine (clone_any B9 M9 d9 ((k9).take M9) U hrow (fun h => by have := hnil h; omega) (by omega)).mono ?_
    rintro ee Z ⟨v4, rfl, ho4, hEZ⟩
    have hbs := own_lower_ ho4 (show N + 2 ≤ U.heap.size from hB1.lt)
    replace hB0 := hB0.ext hEZ
    replace hB1 := hB1.ext hEZ
    replace hE := hE.trans hEZ
    replace ho1 := own_ext ho1 hEZ
    replace ho2 := own_ext ho2 hEZ
    clear p0 p1 p2 p3 p4 p5 p6 p7 p8 pF pL pB
    clear r0 r1 r2 r3 r4 r5 r6 r7 r8 rF rL rB
    have p0 := hB0.cell 0 (by simp)
    have p1 := hB0.cell 1 (by simp)
    have p2 := hB0.cell 2 (by simp)
    have p3 := hB0.cell 3 (by simp)
    have p4 := hB0.cell 4 (by simp)
    have p5 := hB0.cell 5 (by simp)
    have p6 := hB0.cell 6 (by simp)
    have p7 := hB0.cell 7 (by simp)
    have p8 := hB0.cell 8 (by simp)
    simp only [List.getElem?_cons_zero, List.getElem?_cons_succ] at p0 p1 p2 p3 p4 p5 p6 p7 p8
    have pF := hB0.free
    have pL := hB0.lt
    have pB := hB0.base
    have r0 := hB1.cell 0 (by simp)
    have r1 := hB1.cell 1 (by simp)
    have r2 := hB1.cell 2 (by simp)
    have r3 := hB1.cell 3 (by simp)
    have r4 := hB1.cell 4 (by simp)
    have r5 := hB1.cell 5 (by simp)
    have r6 := hB1.cell 6 (by simp)
    have r7 := hB1.cell 7 (by simp)
    have r8 := hB1.cell 8 (by simp)
    simp only [List.getElem?_cons_zero, List.getElem?_cons_succ] at r0 r1 r2 r3 r4 r5 r6 r7 r8
    have rF := hB1.free
    have rL := hB1.lt
    have rB := hB1.base
    have HZ := Lib.hid (And.intro hB0 (And.intro hB1 (And.intro hE (And.intro ho1 (And.intro ho2 hbs)))))
    clear hB0 hB1 hEZ H ho4 hrow
    clear hE ho1 hbs hnil
    go_wp2_with fail
    rcases Nat.lt_or_ge M9 d9 with hqc | hqc
    · obtain ⟨gb, rfl⟩ : ∃ gb, B9 = some ⟨gb, 0, none⟩ := by
        rcases ho2.2 with ⟨h1, _⟩ | ⟨gb, _, _, h1, _⟩
        · injection h1 with _ _ h1
          omega
        · injection h1 with h1 _ _
          exact ⟨gb, h1⟩
      clear ho2
      go_region_with fail
      all_goals
        go_wp2
        refine bodyPost_ret (v := (.tuple #[pv id cl ic A1 n c1 oc (some ⟨gb, M9, none⟩) 0 (d9 - M9) (b9 - M9) en cg, v4])) (by simp [results, Try.results34, go_sem, r0, r1, r2, r3, r4, r5, r6, r7, r8]) rfl ?_
        obtain ⟨hB0, hB1, hE, ho1, ho2, hbs⟩ := HZ.out
        clear hB0 hB1
        have hN := HN.out
        have hP1 := own_base ho1
        have hP2 := own_base ho2
        unfold FlPost
        rw [← HBQ.out, ← HKK.out, HP.out, Int.toNat_natCast]
        refine ⟨_, v4, rfl, ⟨A1, n, c1, _, _, _, rfl, RB.of_own (base := N + 2) ?_, ?_, fun a ha => ?_, ?_⟩, ?_, ?_⟩
        · repeat' (first | with_reducible assumption | with_reducible refine own_put_ ?_ (by omega) | with_reducible apply own_up_ | with_reducible apply own_plus_ | with_reducible apply own_drew_)
        · skip
          refine RB.drop0 (base := N + 2) (n := M9) (c := d9) (by omega) ?_
          repeat' (first | with_reducible assumption | with_reducible refine own_put_ ?_ (by omega) | with_reducible apply own_up_ | with_reducible apply own_plus_ | with_reducible apply own_drew_)
        · have := hP1 a ha
          omega
        · skip
          (intro a ha; injection ha with ha; subst ha; have h9 := hP2 ⟨gb, 0, none⟩ rfl; simp only at h9 ⊢; omega)
        · refine BF.of_own (base := N + 2) (n := M9) ?_ (by omega)
          repeat' (first | with_reducible assumption | with_reducible refine own_put_ ?_ (by omega) | with_reducible apply own_up_ | with_reducible apply own_plus_ | with_reducible apply own_drew_)
        · repeat' (first | with_reducible assumption | with_reducible exact Ext.refl _ | with_reducible apply Ext.alloc | with_reducible apply Ext.drew | with_reducible apply Ext.drewN | with_reducible apply Ext.plus_ | with_reducible refine Ext.put ?_ (by omega))
    · obtain rfl : M9 = d9 := by omega
      have HK := Lib.hid (show k9.drop M9 = [] from List.drop_of_length_le (by omega))
      clear ho2
      go_region_with fail
      all_goals
        go_wp2
        refine bodyPost_ret (v := (.tuple #[pv id cl ic A1 n c1 oc B9 0 0 (b9 - M9) en cg, v4])) (by simp [results, Try.results34, go_sem, r0, r1, r2, r3, r4, r5, r6, r7, r8]) rfl ?_
        obtain ⟨hB0, hB1, hE, ho1, ho2, hbs⟩ := HZ.out
        clear hB0 hB1
        have hN := HN.out
        have hP1 := own_base ho1
        have hP2 := own_base ho2
        unfold FlPost
        rw [← HBQ.out, ← HKK.out, HP.out, Int.toNat_natCast]
        refine ⟨_, v4, rfl, ⟨A1, n, c1, _, _, _, rfl, RB.of_own (base := N + 2) ?_, ?_, fun a ha => ?_, ?_⟩, ?_, ?_⟩
        · repeat' (first | with_reducible assumption | with_reducible refine own_put_ ?_ (by omega) | with_reducible apply own_up_ | with_reducible apply own_plus_ | with_reducible apply own_drew_)
        · skip
          (rw [HK.out]; exact ⟨Row.nil, Nat.le_refl _, by omega, fun _ => ⟨rfl, rfl⟩⟩)
        · have := hP1 a ha
          omega
        · skip
          (intro a ha; have := hP2 a ha; omega)
        · refine BF.of_own (base := N + 2) (n := M9) ?_ (by omega)
          repeat' (first | with_reducible assumption | with_reducible refine own_put_ ?_ (by omega) | with_reducible apply own_up_ | with_reducible apply own_plus_ | with_reducible apply own_drew_)
        · repeat' (first | with_reducible assumption | with_reducible exact Ext.refl _ | with_reducible apply Ext.alloc | with_reducible apply Ext.drew | with_reducible apply Ext.drewN | with_reducible apply Ext.plus_ | with_reducible refine Ext.put ?_ (by omega))
end Go.Proofs.Ytphbmibgnnobcaa
