/- DigestKeeps: the walk. -/
import Derived.Test.YtbdahlfakinagaaDoorDgK0
set_option linter.unusedVariables false
namespace Go.Proofs.YtbdahlfakinagaaDoor
open Go.RowKit Go.Rg

set_option maxRecDepth 100000 in
set_option maxHeartbeats 4000000 in
theorem digestKeeps_any (v1 v2 : Value) (l1 l2 : List Int) (w : World) (hg : Glob w) (hg2 : 2 ≤ w.heap.size) (h1 : BS w v1 l1) (h2 : BS w v2 l2) (b1 : By l1) (b2 : By l2) :
    Calls Tryd.prog 6 #[v1, v2] w fun e w' => e = .returned (.bool true) ∧ Ext w w' := by
  have HG0 := Lib.hid (And.intro hg hg2)
  have HS1 := Lib.hid (short_bs v1 l1 200 200 rfl w h1 b1 (by decide))
  have HS2 := Lib.hid (short_bs v2 l2 200 200 rfl w h2 b2 (by decide))
  clear hg hg2 h1 b1 h2 b2
  go_enter Tryd.func6, Tryd.ntmps6
  go_wp2_with fail
  refine HS1.out.mono ?_
  rintro e w' ⟨A1, n1, c1, s1, rfl, hB, hy, hn, rfl⟩
  have K1 := Lib.hid (And.intro hB (And.intro hy hn))
  clear hB hy hn HS1
  go_wp2_with fail
  refine HS2.out.mono ?_
  rintro e w' ⟨A2, n2, c2, s2, rfl, hB, hy, hn, rfl⟩
  have K2 := Lib.hid (And.intro hB (And.intro hy hn))
  clear hB hy hn HS2
  go_wp2_with fail
  refine (start_dg _ HG0.out.1 0).mono ?_
  rintro e X ⟨v, rfl, hD, hE⟩
  have HX := Lib.hid (And.intro hD hE)
  clear hD hE
  go_wp2_with fail
  refine (write_bs v (.slice A1 n1 c1) ([]) s1 _ (HG0.out.1.ext HX.out.2) (Nat.le_trans HG0.out.2 HX.out.2.size) HX.out.1 (K1.out.1.lift HX.out.2) by_nil K1.out.2.1 (by have h1 := K1.out.2.2; first | omega | (simp only [List.length_append, List.length_nil]; omega))).mono ?_
  rintro e X2 ⟨v', rfl, hD, hE⟩
  rw [List.nil_append] at hD
  obtain ⟨cs, rfl, hcl, hone, hDc⟩ := hD.cells
  clear hD
  have HY := Lib.hid (And.intro hDc (And.intro (HX.out.2.trans hE) (And.intro hcl hone)))
  clear hE hDc hcl hone HX
  go_wp2_with (with_reducible show wpList _ _ _ (⟨none, _, _, _, _, _⟩ :: _) _ _; refine Lock.out ?_)
  refine ⟨?_, trivial⟩
  refine wl_at fun Z hZ => ?_
  obtain ⟨R, hR⟩ : ∃ V, V = X2.heap.size := ⟨_, rfl⟩
  have hB0 : Box 0 (zero8.map bw ++ [nw 0, .slice none 0 0]) R Z := by
    rw [hZ, hR]
    repeat' (first | with_reducible assumption | ((with_reducible refine Box.fresh ?fb ?fn ?fr); (case fb => first | omega | (simp <;> omega)); (case fn => first | omega | (simp <;> omega)); (case fr => rfl)) | with_reducible apply Box.up | with_reducible apply Box.drew_ | with_reducible apply Box.drewN_ | with_reducible apply Box.plus_ | with_reducible apply Box.put | with_reducible refine Box.off ?_ (by omega))
    all_goals first | rfl | (simp; done)
  have hE1 : Ext X2 Z := by
    rw [hZ]
    repeat' (first | with_reducible assumption | with_reducible exact Ext.refl _ | with_reducible apply Ext.alloc | with_reducible apply Ext.drew | with_reducible apply Ext.drewN | with_reducible apply Ext.plus_ | with_reducible refine Ext.put ?_ (by omega))
  have hRl : X2.heap.size ≤ R := by omega
  rw [← hR]
  clear hZ hR
  refine wl_store rfl 34 (.tmp 5) (.tmp 14) rfl hB0 cs rfl rfl (by rw [HY.out.2.2.1]; rfl) (by rw [HY.out.2.2.1]; kernel_rfl) HY.out.2.2.2 fun W hW hx => ?_
  have hYW := hx.ext _ hE1 hRl
  have HW := Lib.hid (And.intro (show DBox R cs s1 W from ⟨hW, HY.out.2.2.1, IsDg.ext HY.out.1 hYW⟩) (HY.out.2.1.trans hYW))
  clear hW hx hYW hB0 hE1 hRl HY
  go_wp2_with (with_reducible show wpList _ _ _ (⟨some 15, _, _, _, _, _⟩ :: _) _ _; refine Lock.out ?_)
  refine ⟨?_, trivial⟩
  refine wl_load_dg rfl 34 (.tmp 5) rfl HW.out.1 rfl Tryd.underlying34 rfl (by kernel_rfl) ?_
  go_wp2_with fail
  refine (sum_bs (.agg cs.toArray) s1 _ (HG0.out.1.ext HW.out.2) (Nat.le_trans HG0.out.2 HW.out.2.size) HW.out.1.2.2 K1.out.2.1 (Nat.le_trans K1.out.2.2 (by decide))).mono ?_
  rintro e W2 ⟨x6, rfl, hb, hE⟩
  have HW2 := Lib.hid (And.intro (HW.out.1.ext hE) (And.intro hb (HW.out.2.trans hE)))
  clear hb hE HW
  go_wp2_with (with_reducible show wpList _ _ _ (⟨some 17, _, _, _, _, _⟩ :: _) _ _; refine Lock.out ?_)
  refine ⟨?_, trivial⟩
  refine wl_load_dg rfl 34 (.tmp 5) rfl HW2.out.1 rfl Tryd.underlying34 rfl (by kernel_rfl) ?_
  go_wp2_with fail
  refine (write_bs (.agg cs.toArray) (.slice A2 n2 c2) s1 s2 _ (HG0.out.1.ext HW2.out.2.2) (Nat.le_trans HG0.out.2 HW2.out.2.2.size) HW2.out.1.2.2 (K2.out.1.lift HW2.out.2.2) K1.out.2.1 K2.out.2.1 (by have h1 := K1.out.2.2; have h2 := K2.out.2.2; first | omega | (simp only [List.length_append, List.length_nil]; omega))).mono ?_
  rintro e W3 ⟨v3, rfl, hb, hE⟩
  have HW3 := Lib.hid (And.intro (HW2.out.1.ext hE) (And.intro (HW2.out.2.1.lift hE) (And.intro (HW2.out.2.2.trans hE) hb)))
  clear hb hE HW2
  go_wp2_with fail
  refine (sum_bs v3 (s1 ++ s2) _ (HG0.out.1.ext HW3.out.2.2.1) (Nat.le_trans HG0.out.2 HW3.out.2.2.1.size) HW3.out.2.2.2 (K1.out.2.1.append K2.out.2.1) (by have h1 := K1.out.2.2; have h2 := K2.out.2.2; first | omega | (simp only [List.length_append, List.length_nil]; omega))).mono ?_
  rintro e W4 ⟨x7, rfl, hb, hE⟩
  have HW4 := Lib.hid (And.intro (HW3.out.1.ext hE) (And.intro (HW3.out.2.1.lift hE) (And.intro (HW3.out.2.2.1.trans hE) hb)))
  clear hb hE HW3
  go_upto_region 5 with fail
  refine wp_at fun Y hY => ?_
  have hWY : Ext W4 Y := by
    rw [hY]
    repeat' (first | with_reducible assumption | with_reducible exact Ext.refl _ | with_reducible apply Ext.alloc | with_reducible apply Ext.drew | with_reducible apply Ext.drewN | with_reducible apply Ext.plus_ | with_reducible refine Ext.put ?_ (by omega))
  have HD := Lib.hid (HW4.out.1.ext hWY)
  have K6 := Lib.hid (HW4.out.2.1.lift hWY)
  have K7 := Lib.hid (HW4.out.2.2.2.lift hWY)
  have HE := Lib.hid (HW4.out.2.2.1.trans hWY)
  have KY1 := Lib.hid (K1.out.1.lift HE.out)
  have KY2 := Lib.hid (K2.out.1.lift HE.out)
  have HG := Lib.hid (HG0.out.1.ext HE.out)
  have h2 := Nat.le_trans HG0.out.2 HE.out.size
  clear hWY hY HW4 HG0
  refine act_at fun A0 hAq => ?_
  have hsz : A0.tmps.size = 40 := by
    rw [hAq]
    rfl
  have hA0 : A0.tmps.getD 0 undef = .slice A1 n1 c1 := by
    rw [hAq]
    first | rfl | kernel_rfl
  have hA1 : A0.tmps.getD 1 undef = .slice A2 n2 c2 := by
    rw [hAq]
    first | rfl | kernel_rfl
  have hA5 : A0.tmps.getD 5 undef = .pointer (some ⟨R, 0, none⟩) := by
    rw [hAq]
    first | rfl | kernel_rfl
  have hA6 : A0.tmps.getD 6 undef = x6 := by
    rw [hAq]
    first | rfl | kernel_rfl
  have hA7 : A0.tmps.getD 7 undef = x7 := by
    rw [hAq]
    first | rfl | kernel_rfl
  have HAq := Lib.hid hAq
  clear hAq
  apply wp_region_ext 19 [is (x6), is (.string (strOfNums (shaOf s1))), is (.agg cs.toArray), isBS (shaOf s1), is (.string (strOfNums (shaOf s1))), is (.bool true), is (.bool true), is (x7), is (.string (strOfNums (shaOf (s1 ++ s2)))), is (.slice A1 n1 c1), is (.slice A2 n2 c2), isTwo s1 s2, isBS (shaOf (s1 ++ s2)), is (.string (strOfNums (shaOf (s1 ++ s2)))), is (.bool true), is (.bool true), is (.bool true), is (.bool true), is (.bool true)] (by kernel_rfl) (by kernel_rfl) rfl
  case hops =>
    simp only [List.take_succ_cons, List.take_zero]
    with_reducible refine xOps_cons ?_ ?_
    · with_reducible refine xop_un ?_ ?_
      · rfl
      · intro vs x F hF hd
        have e1 : F.tmps.getD 6 undef = x6 := (hF.a 6 (by kernel_rfl) (by rw [hsz]; rfl)).trans hA6
        exact m_v e1
    with_reducible refine xOps_cons ?_ ?_
    · with_reducible refine xop_un ?_ ?_
      · rfl
      · intro vs x F hF hd
        have e1 : F.tmps.getD 21 undef = x6 := (hF.v 21 0 (by kernel_rfl) (by rw [hsz]; rfl)).trans (dep_at hd 0 0 (is (x6)) (by kernel_rfl) (by kernel_rfl))
        have he1 := BS.lift K6.out (show Ext Y (Y.plus x) from (by repeat (first | exact Ext.refl _ | assumption | apply Ext.plus_ | apply Ext.alloc | apply Ext.drew)))
        exact comes_str (.tmp 21) rfl _ e1 (shaOf s1) he1 ⟨Ext.refl _, rfl⟩
    with_reducible refine xOps_cons ?_ ?_
    · with_reducible refine xop_un ?_ ?_
      · rfl
      · intro vs x F hF hd
        have e1 : F.tmps.getD 5 undef = .pointer (some ⟨R, 0, none⟩) := (hF.a 5 (by kernel_rfl) (by rw [hsz]; rfl)).trans hA5
        exact comes_load_box 34 (.tmp 5) rfl (HD.out.1.ext (by repeat (first | exact Ext.refl _ | assumption | apply Ext.plus_ | apply Ext.alloc | apply Ext.drew))) e1 Tryd.underlying34 rfl (by rw [HD.out.2.1]; kernel_rfl)
    with_reducible refine xOps_cons ?_ ?_
    · with_reducible refine xop_un ?_ ?_
      · rfl
      · intro vs x F hF hd
        have e1 : F.tmps.getD 23 undef = .agg cs.toArray := (hF.v 23 2 (by kernel_rfl) (by rw [hsz]; rfl)).trans (dep_at hd 0 2 (is (.agg cs.toArray)) (by kernel_rfl) (by kernel_rfl))
        have he1 := IsDg.ext HD.out.2.2 (show Ext Y (Y.plus x) from (by repeat (first | exact Ext.refl _ | assumption | apply Ext.plus_ | apply Ext.alloc | apply Ext.drew)))
        clear hF hd
        simp only [comes]
        go_simp
        refine (sum_bs _ s1 _ (HG.out.ext (show Ext Y (Y.plus x) from (by repeat (first | exact Ext.refl _ | assumption | apply Ext.plus_ | apply Ext.alloc | apply Ext.drew)))) (Nat.le_trans h2 (show Ext Y (Y.plus x) from (by repeat (first | exact Ext.refl _ | assumption | apply Ext.plus_ | apply Ext.alloc | apply Ext.drew))).size) he1 K1.out.2.1 (Nat.le_trans K1.out.2.2 (by decide))).mono ?_
        rintro e w' ⟨u, rfl, hb, hE⟩
        exact ⟨_, rfl, hE, hb⟩
    with_reducible refine xOps_cons ?_ ?_
    · with_reducible refine xop_un ?_ ?_
      · rfl
      · intro vs x F hF hd
        have e1 : F.tmps.getD 24 undef = vs 3 := hF.v 24 3 (by kernel_rfl) (by rw [hsz]; rfl)
        have pe1 : isBS (shaOf s1) (vs 3) (Y.plus x) := dep_at hd 0 3 (isBS (shaOf s1)) (by kernel_rfl) (by kernel_rfl)
        have he1 := pe1
        exact comes_str (.tmp 24) rfl _ e1 (shaOf s1) he1 ⟨Ext.refl _, rfl⟩
    with_reducible refine xOps_cons ?_ ?_
    · with_reducible refine xop_un ?_ ?_
      · rfl
      · intro vs x F hF hd
        have e0 : F.tmps.getD 22 undef = .string (strOfNums (shaOf s1)) := (hF.v 22 1 (by kernel_rfl) (by rw [hsz]; rfl)).trans (dep_at hd 0 1 (is (.string (strOfNums (shaOf s1)))) (by kernel_rfl) (by kernel_rfl))
        have e1 : F.tmps.getD 25 undef = .string (strOfNums (shaOf s1)) := (hF.v 25 4 (by kernel_rfl) (by rw [hsz]; rfl)).trans (dep_at hd 1 4 (is (.string (strOfNums (shaOf s1)))) (by kernel_rfl) (by kernel_rfl))
        exact s_eqs e0 e1
    with_reducible refine xOps_cons ?_ ?_
    · with_reducible refine xop_un ?_ ?_
      · rfl
      · intro vs x F hF hd
        have e1 : F.tmps.getD 26 undef = .bool true := (hF.v 26 5 (by kernel_rfl) (by rw [hsz]; rfl)).trans (dep_at hd 0 5 (is (.bool true)) (by kernel_rfl) (by kernel_rfl))
        exact m_v e1
    with_reducible refine xOps_cons ?_ ?_
    · with_reducible refine xop_on 6 27 6 0 ?_ ?_ ?_ ?_ ?_ ?_ ?_
      · rfl
      · kernel_rfl
      · kernel_rfl
      · rw [hsz]; rfl
      · kernel_rfl
      · kernel_rfl
      · intro vs x F hF hd
        have e1 : F.tmps.getD 7 undef = x7 := (hF.a 7 (by kernel_rfl) (by rw [hsz]; rfl)).trans hA7
        exact m_v e1
    with_reducible refine xOps_cons ?_ ?_
    · with_reducible refine xop_on 6 27 6 1 ?_ ?_ ?_ ?_ ?_ ?_ ?_
      · rfl
      · kernel_rfl
      · kernel_rfl
      · rw [hsz]; rfl
      · kernel_rfl
      · kernel_rfl
      · intro vs x F hF hd
        have e1 : F.tmps.getD 28 undef = x7 := (hF.v 28 7 (by kernel_rfl) (by rw [hsz]; rfl)).trans (dep_at hd 0 7 (is (x7)) (by kernel_rfl) (by kernel_rfl))
        have he1 := BS.lift K7.out (show Ext Y (Y.plus x) from (by repeat (first | exact Ext.refl _ | assumption | apply Ext.plus_ | apply Ext.alloc | apply Ext.drew)))
        exact comes_str (.tmp 28) rfl _ e1 (shaOf (s1 ++ s2)) he1 ⟨Ext.refl _, rfl⟩
    with_reducible refine xOps_cons ?_ ?_
    · with_reducible refine xop_on 6 27 6 0 ?_ ?_ ?_ ?_ ?_ ?_ ?_
      · rfl
      · kernel_rfl
      · kernel_rfl
      · rw [hsz]; rfl
      · kernel_rfl
      · kernel_rfl
      · intro vs x F hF hd
        have e1 : F.tmps.getD 0 undef = .slice A1 n1 c1 := (hF.a 0 (by kernel_rfl) (by rw [hsz]; rfl)).trans hA0
        exact m_v e1
    with_reducible refine xOps_cons ?_ ?_
    · with_reducible refine xop_on 6 27 6 0 ?_ ?_ ?_ ?_ ?_ ?_ ?_
      · rfl
      · kernel_rfl
      · kernel_rfl
      · rw [hsz]; rfl
      · kernel_rfl
      · kernel_rfl
      · intro vs x F hF hd
        have e1 : F.tmps.getD 1 undef = .slice A2 n2 c2 := (hF.a 1 (by kernel_rfl) (by rw [hsz]; rfl)).trans hA1
        exact m_v e1
    with_reducible refine xOps_cons ?_ ?_
    · with_reducible refine xop_on 6 27 6 2 ?_ ?_ ?_ ?_ ?_ ?_ ?_
      · rfl
      · kernel_rfl
      · kernel_rfl
      · rw [hsz]; rfl
      · kernel_rfl
      · kernel_rfl
      · intro vs x F hF hd
        have e30 : F.tmps.getD 30 undef = .slice A1 n1 c1 := (hF.v 30 9 (by kernel_rfl) (by rw [hsz]; rfl)).trans (dep_at hd 0 9 (is (.slice A1 n1 c1)) (by kernel_rfl) (by kernel_rfl))
        have e31 : F.tmps.getD 31 undef = .slice A2 n2 c2 := (hF.v 31 10 (by kernel_rfl) (by rw [hsz]; rfl)).trans (dep_at hd 1 10 (is (.slice A2 n2 c2)) (by kernel_rfl) (by kernel_rfl))
        rw [Array.getD_eq_getD_getElem?] at e30 e31
        clear hF hd
        simp only [comes]
        go_simp
        exact ⟨(Ext.refl _).alloc _, _, _, _, rfl, Cells.new _ _ _ _ rfl, BS.lift KY1.out (by repeat (first | exact Ext.refl _ | assumption | apply Ext.plus_ | apply Ext.alloc | apply Ext.drew)), BS.lift KY2.out (by repeat (first | exact Ext.refl _ | assumption | apply Ext.plus_ | apply Ext.alloc | apply Ext.drew))⟩
    with_reducible refine xOps_cons ?_ ?_
    · with_reducible refine xop_on 6 27 6 2 ?_ ?_ ?_ ?_ ?_ ?_ ?_
      · rfl
      · kernel_rfl
      · kernel_rfl
      · rw [hsz]; rfl
      · kernel_rfl
      · kernel_rfl
      · intro vs x F hF hd
        have e1 : F.tmps.getD 32 undef = vs 11 := hF.v 32 11 (by kernel_rfl) (by rw [hsz]; rfl)
        have pe1 : isTwo s1 s2 (vs 11) (Y.plus x) := dep_at hd 0 11 (isTwo s1 s2) (by kernel_rfl) (by kernel_rfl)
        obtain ⟨b9, u8, u9, hv9, hc9, hb8, hb9⟩ := pe1
        rw [hv9] at e1
        clear hF hd
        simp only [comes]
        go_simp
        refine (of_two _ (HG.out.ext (show Ext Y (Y.plus x) from (by repeat (first | exact Ext.refl _ | assumption | apply Ext.plus_ | apply Ext.alloc | apply Ext.drew)))) (Nat.le_trans h2 (show Ext Y (Y.plus x) from (by repeat (first | exact Ext.refl _ | assumption | apply Ext.plus_ | apply Ext.alloc | apply Ext.drew))).size) b9 u8 u9 s1 s2 hc9 hb8 hb9 K1.out.2.1 K2.out.2.1 (by have h1 := K1.out.2.2; have h2 := K2.out.2.2; first | omega | (simp only [List.length_append, List.length_nil]; omega))).mono ?_
        rintro e w' ⟨u, rfl, hb, hE⟩
        exact ⟨_, rfl, hE, hb⟩
    with_reducible refine xOps_cons ?_ ?_
    · with_reducible refine xop_on 6 27 6 1 ?_ ?_ ?_ ?_ ?_ ?_ ?_
      · rfl
      · kernel_rfl
      · kernel_rfl
      · rw [hsz]; rfl
      · kernel_rfl
      · kernel_rfl
      · intro vs x F hF hd
        have e1 : F.tmps.getD 33 undef = vs 12 := hF.v 33 12 (by kernel_rfl) (by rw [hsz]; rfl)
        have pe1 : isBS (shaOf (s1 ++ s2)) (vs 12) (Y.plus x) := dep_at hd 0 12 (isBS (shaOf (s1 ++ s2))) (by kernel_rfl) (by kernel_rfl)
        have he1 := pe1
        exact comes_str (.tmp 33) rfl _ e1 (shaOf (s1 ++ s2)) he1 ⟨Ext.refl _, rfl⟩
    with_reducible refine xOps_cons ?_ ?_
    · with_reducible refine xop_on 6 27 6 2 ?_ ?_ ?_ ?_ ?_ ?_ ?_
      · rfl
      · kernel_rfl
      · kernel_rfl
      · rw [hsz]; rfl
      · kernel_rfl
      · kernel_rfl
      · intro vs x F hF hd
        have e0 : F.tmps.getD 29 undef = .string (strOfNums (shaOf (s1 ++ s2))) := (hF.v 29 8 (by kernel_rfl) (by rw [hsz]; rfl)).trans (dep_at hd 0 8 (is (.string (strOfNums (shaOf (s1 ++ s2))))) (by kernel_rfl) (by kernel_rfl))
        have e1 : F.tmps.getD 34 undef = .string (strOfNums (shaOf (s1 ++ s2))) := (hF.v 34 13 (by kernel_rfl) (by rw [hsz]; rfl)).trans (dep_at hd 1 13 (is (.string (strOfNums (shaOf (s1 ++ s2))))) (by kernel_rfl) (by kernel_rfl))
        exact s_eqs e0 e1
    with_reducible refine xOps_cons ?_ ?_
    · with_reducible refine xop_un ?_ ?_
      · rfl
      · intro vs x F hF hd
        have e27 : F.tmps.getD 27 undef = .bool true := (hF.v 27 6 (by kernel_rfl) (by rw [hsz]; rfl)).trans (dep_at hd 0 6 (is (.bool true)) (by kernel_rfl) (by kernel_rfl))
        have e35 : F.tmps.getD 35 undef = .bool true := (hF.v 35 14 (by kernel_rfl) (by rw [hsz]; rfl)).trans (dep_at hd 1 14 (is (.bool true)) (by kernel_rfl) (by kernel_rfl))
        clear hF hd
        simp only [comes]
        go_simp
        first | exact ⟨Ext.refl _, rfl⟩ | exact Ext.refl _
    with_reducible refine xOps_cons ?_ ?_
    · with_reducible refine xop_un ?_ ?_
      · rfl
      · intro vs x F hF hd
        have e1 : F.tmps.getD 36 undef = .bool true := (hF.v 36 15 (by kernel_rfl) (by rw [hsz]; rfl)).trans (dep_at hd 0 15 (is (.bool true)) (by kernel_rfl) (by kernel_rfl))
        exact m_v e1
    with_reducible refine xOps_cons ?_ ?_
    · with_reducible refine xop_on 16 37 16 1 ?_ ?_ ?_ ?_ ?_ ?_ ?_
      · rfl
      · kernel_rfl
      · kernel_rfl
      · rw [hsz]; rfl
      · kernel_rfl
      · kernel_rfl
      · intro vs x F hF hd
        clear hF hd
        simp only [comes]
        go_simp
        refine (awake_any _ (HG.out.ext (show Ext Y (Y.plus x) from (by repeat (first | exact Ext.refl _ | assumption | apply Ext.plus_ | apply Ext.alloc | apply Ext.drew)))) (Nat.le_trans h2 (show Ext Y (Y.plus x) from (by repeat (first | exact Ext.refl _ | assumption | apply Ext.plus_ | apply Ext.alloc | apply Ext.drew))).size)).mono ?_
        rintro e w' ⟨rfl, hE⟩
        first | exact ⟨_, rfl, hE, rfl⟩ | exact ⟨_, rfl, hE⟩ | exact ⟨rfl, hE⟩ | exact ⟨_, hE⟩ | exact hE
    with_reducible refine xOps_cons ?_ ?_
    · with_reducible refine xop_un ?_ ?_
      · rfl
      · intro vs x F hF hd
        have e37 : F.tmps.getD 37 undef = .bool true := (hF.v 37 16 (by kernel_rfl) (by rw [hsz]; rfl)).trans (dep_at hd 0 16 (is (.bool true)) (by kernel_rfl) (by kernel_rfl))
        have e38 : F.tmps.getD 38 undef = .bool true := (hF.v 38 17 (by kernel_rfl) (by rw [hsz]; rfl)).trans (dep_at hd 1 17 (is (.bool true)) (by kernel_rfl) (by kernel_rfl))
        clear hF hd
        simp only [comes]
        go_simp
        first | exact ⟨Ext.refl _, rfl⟩ | exact Ext.refl _
    exact xOps_nil
  case hst => exact ⟨is.st _, is.st _, is.st _, (by apply isBS.st), is.st _, is.st _, is.st _, is.st _, is.st _, is.st _, is.st _, (by apply isTwo.st), (by apply isBS.st), is.st _, is.st _, is.st _, is.st _, is.st _, is.st _, trivial⟩
  case hfin =>
    intro vs x hf
    have f18 : vs 18 = .bool true := hf.2.2.2.2.2.2.2.2.2.2.2.2.2.2.2.2.2.2.1
    clear hf
    have hAq := HAq.out
    subst hAq
    clear hsz hA0 hA1 hA5 hA6 hA7
    simp only [List.take_succ_cons, List.take_zero, List.drop_succ_cons, List.drop_zero, putAll, Act.put, List.setIfInBounds_toArray, List.set_cons_succ, List.set_cons_zero, Nat.zero_add, Nat.reduceAdd]
    clear HAq
    rw [f18]
    clear f18
    go_wp2
    go_ret
    exact ⟨rfl, HE.out.trans (by repeat (first | exact Ext.refl _ | assumption | apply Ext.plus_ | apply Ext.alloc | apply Ext.drew))⟩
end Go.Proofs.YtbdahlfakinagaaDoor
