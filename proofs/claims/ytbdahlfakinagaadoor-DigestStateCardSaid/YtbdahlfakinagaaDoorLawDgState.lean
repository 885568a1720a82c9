/- DigestState: the walk. -/
import Derived.Test.YtbdahlfakinagaaDoorDgE
set_option linter.unusedVariables false
namespace Go.Proofs.YtbdahlfakinagaaDoor
open Go.RowKit Go.Rg

theorem wpList_app_on {P : Program} {w : World} {ops : Array Oper} {rest : List Oper} {o : Oper} {a : Act} {Q : Exit → Act → World → Prop} (hw : Region.wanted o (yielded ops a.tmps) = true) (s x : Operand) (t : TypeId)
    (ho : o.op = .call { callee := .builtin .append, args := #[s, x], argTypes := #[t, t] }) (v u : Value) (hs : a.eval s = v) (hx : a.eval x = u) {R : Value → World → Prop}
    (hr : ∃ v' w', (Builtin.append_ #[t, t] o.type #[v, u]).run P w = .ok v' w' ∧ R v' w') (h : ∀ v' w', R v' w' → wpList P ops Q rest (a.put o.dst v') w') : wpList P ops Q (o :: rest) a w :=
  wpList_step fun K hK => by
    rw [if_pos hw]
    exact wp_app w s x t ho v u hs hx hr fun v' w' h' => hK _ _ (h v' w' h')
set_option maxRecDepth 100000 in
set_option maxHeartbeats 4000000 in
theorem digestState_any (v1 v2 : Value) (l1 l2 : List Int) (w : World) (hg : Glob w) (hg2 : 2 ≤ w.heap.size) (h1 : BS w v1 l1) (h2 : BS w v2 l2) (b1 : By l1) (b2 : By l2) :
    Calls Tryd.prog 5 #[v1, v2] w fun e w' => e = .returned (.bool true) ∧ Ext w w' := by
  obtain ⟨i0, hi, hz0, hz1, hz2⟩ := info_parts Tryd.infoByte
  have HG0 := Lib.hid (And.intro hg hg2)
  have HS1 := Lib.hid (short_bs v1 l1 200 200 rfl w h1 b1 (by decide))
  have HS2 := Lib.hid (short_bs v2 l2 200 200 rfl w h2 b2 (by decide))
  clear hg hg2 h1 b1 h2 b2
  go_enter Tryd.func5, Tryd.ntmps5
  go_wp2_with fail
  refine HS1.out.mono ?_
  rintro e w' ⟨A1, n1, c1, s1, rfl, hB, hy, hn, rfl⟩
  have K1 := Lib.hid (And.intro hB (And.intro hy hn))
  clear hB hy hn HS1
  go_wp2_with fail
  refine HS2.out.mono ?_
  rintro e w' ⟨A2, n2, c2, s2, rfl, hB, hy, hn, rfl⟩
  have K2 := Lib.hid (And.intro hB (And.intro hy hn))
  clear hB hy hn HS2
  go_wp2_with fail
  refine (start_dg _ HG0.out.1 0).mono ?_
  rintro e X ⟨v, rfl, hD, hE⟩
  have HX := Lib.hid (And.intro hD hE)
  clear hD hE
  go_wp2_with fail
  refine (state_dg none 0 0 [] _ ⟨none, 0, 0, rfl, ⟨rfl, fun h => absurd h (by decide)⟩, Nat.le_refl _, by decide, fun _ => ⟨rfl, rfl⟩⟩ by_nil (by decide)).mono ?_
  rintro e X2 ⟨v9, rfl, hD, hE⟩
  have H2 := Lib.hid (And.intro (IsDg.ext HX.out.1 hE) (And.intro hD (HX.out.2.trans hE)))
  clear hD hE HX
  go_wp2_with fail
  refine (same_dg _ _ v v9 [] _ H2.out.1 H2.out.2.1).mono ?_
  rintro e X3 ⟨rfl, hE⟩
  have H3 := Lib.hid (H2.out.2.2.trans hE)
  clear hE H2
  go_wp2_with fail
  refine (start_dg _ (HG0.out.1.ext H3.out) 0).mono ?_
  rintro e X4 ⟨v13, rfl, hD, hE⟩
  have H4 := Lib.hid (And.intro hD (H3.out.trans hE))
  clear hD hE H3
  go_wp2_with fail
  refine (write_bs v13 (.slice A1 n1 c1) [] s1 _ (HG0.out.1.ext H4.out.2) (Nat.le_trans HG0.out.2 H4.out.2.size) H4.out.1 (K1.out.1.lift H4.out.2) by_nil K1.out.2.1 (by have h1 := K1.out.2.2; first | omega | (simp only [List.length_append, List.length_nil]; omega))).mono ?_
  rintro e X5 ⟨v15, rfl, hD, hE⟩
  rw [List.nil_append] at hD
  have H5 := Lib.hid (And.intro hD (H4.out.2.trans hE))
  clear hD hE H4
  go_wp2_with fail
  refine (write_bs v15 (.slice A2 n2 c2) s1 s2 _ (HG0.out.1.ext H5.out.2) (Nat.le_trans HG0.out.2 H5.out.2.size) H5.out.1 (K2.out.1.lift H5.out.2) K1.out.2.1 K2.out.2.1 (by have h1 := K1.out.2.2; have h2 := K2.out.2.2; first | omega | (simp only [List.length_append, List.length_nil]; omega))).mono ?_
  rintro e X6 ⟨v17, rfl, hD, hE⟩
  have H6 := Lib.hid (And.intro hD (H5.out.2.trans hE))
  clear hD hE H5
  go_wp2_with (with_reducible show wpList _ _ _ (⟨some 20, _, _, _, _, _⟩ :: _) _ _; refine Lock.out ?_)
  refine ⟨?_, trivial⟩
  refine wl_at fun Y19 hY19 => ?_
  obtain ⟨O, hOe⟩ : ∃ O, O = X6.heap.size := ⟨_, rfl⟩
  have hO : SmR X6 O (.slice (some ⟨O, 0, none⟩) 0 0) [] Y19 := by
    rw [hY19, hOe]
    exact ⟨own_empty X6 X6.heap.size 5 (Nat.le_refl _), (by repeat (first | exact Ext.refl _ | assumption | apply Ext.plus_ | apply Ext.alloc | apply Ext.drew)), by simp⟩
  rw [← hOe]
  have hXO : X6.heap.size ≤ O := by omega
  clear hY19 hOe
  have HO := Lib.hid hO
  clear hO
  have hs2 := HO.out
  clear HO
  have hb2 := K1.out.1.lift (H6.out.2.trans hs2.ext)
  refine wpList_app_on (by kernel_rfl) (.tmp 18) (.tmp 19) 22 rfl _ _ rfl rfl (app_own _ O 22 _ 5 i0 (.int .u8 0) 1 Tryd.underlying22 hi hz0 hz1 hz2 rfl _ _ _ hs2.own _ _ _ _ (bytes s1) hb2.at_.1 (bytes_one _) (by have h1 := K1.out.2.2; have h3 := K2.out.2.2; have h5 := hb2.at_.2.2.2.2; unfold maxLen; (try simp only [List.length_nil]); omega) (by have h1 := K1.out.2.2; have h3 := K2.out.2.2; have h5 := hb2.at_.2.2.2.2; (try simp only [List.length_nil]); omega) hs2.size) ?_
  rintro v20 W2 ha
  have hs3 := hs2.apped hb2.at_.2.2.2.2 ha hXO
  rw [List.nil_append] at hs3
  have HO := Lib.hid hs3
  clear hs2 hs3 hb2 ha
  go_wp2_with (with_reducible show wpList _ _ _ (⟨some 22, _, _, _, _, _⟩ :: _) _ _; refine Lock.out ?_)
  refine ⟨?_, trivial⟩
  refine wl_at fun Y22 hY22 => ?_
  have hs2 := HO.out
  rw [← hY22] at hs2
  clear hY22 HO
  have hb2 := K2.out.1.lift (H6.out.2.trans hs2.ext)
  refine wpList_app_on (by kernel_rfl) (.tmp 20) (.tmp 21) 22 rfl _ _ rfl rfl (app_own _ O 22 _ 5 i0 (.int .u8 0) 1 Tryd.underlying22 hi hz0 hz1 hz2 rfl _ _ _ hs2.own _ _ _ _ (bytes s2) hb2.at_.1 (bytes_one _) (by have h1 := K1.out.2.2; have h3 := K2.out.2.2; have h5 := hb2.at_.2.2.2.2; unfold maxLen; (try simp only [List.length_nil]); omega) (by have h1 := K1.out.2.2; have h3 := K2.out.2.2; have h5 := hb2.at_.2.2.2.2; (try simp only [List.length_nil]); omega) hs2.size) ?_
  rintro v22 W3 ha
  have hs3 := hs2.apped hb2.at_.2.2.2.2 ha hXO
  have HO := Lib.hid hs3
  clear hs2 hs3 hb2 ha
  obtain ⟨Az, cz, hv0, _, _⟩ := own_form HO.out.own
  obtain ⟨nz, hn0⟩ : ∃ n, n = (s1 ++ s2).length := ⟨_, rfl⟩
  have hb := BS.of_own HO.out.own
  rw [← hn0] at hv0
  rw [hv0] at hb ⊢
  have HB := Lib.hid (And.intro hb (And.intro (IsDg.ext H6.out.1 HO.out.ext) (H6.out.2.trans HO.out.ext)))
  clear hv0 hn0 hb HO H6 hXO
  go_wp2_with fail
  refine (state_dg Az nz cz (s1 ++ s2) _ HB.out.1 (K1.out.2.1.append K2.out.2.1) (by have h1 := K1.out.2.2; have h2 := K2.out.2.2; first | omega | (simp only [List.length_append, List.length_nil]; omega))).mono ?_
  rintro e X7 ⟨v23, rfl, hD, hE⟩
  have H7 := Lib.hid (And.intro (IsDg.ext HB.out.2.1 hE) (And.intro hD (HB.out.2.2.trans hE)))
  clear hD hE HB
  go_wp2_with fail
  refine (same_dg _ _ v17 v23 (s1 ++ s2) _ H7.out.1 H7.out.2.1).mono ?_
  rintro e X8 ⟨rfl, hE⟩
  have H8 := Lib.hid (H7.out.2.2.trans hE)
  clear hE H7
  go_wp2_with fail
  refine (awake_any _ (HG0.out.1.ext H8.out) (Nat.le_trans HG0.out.2 H8.out.size)).mono ?_
  rintro e X9 ⟨rfl, hE⟩
  have H9 := Lib.hid (H8.out.trans hE)
  clear hE H8
  go_wp2
  go_ret
  exact ⟨rfl, H9.out.trans (by repeat (first | exact Ext.refl _ | assumption | apply Ext.plus_ | apply Ext.alloc | apply Ext.drew))⟩
end Go.Proofs.YtbdahlfakinagaaDoor
