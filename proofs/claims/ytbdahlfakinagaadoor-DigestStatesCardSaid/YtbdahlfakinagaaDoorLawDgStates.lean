/- DigestStates: the walk. -/
import Derived.Test.YtbdahlfakinagaaDoorDgK0
set_option linter.unusedVariables false
namespace Go.Proofs.YtbdahlfakinagaaDoor
open Go.RowKit Go.Rg

set_option maxRecDepth 100000 in
set_option maxHeartbeats 4000000 in
theorem digestStates_any (v1 v2 v3 : Value) (l1 l2 l3 : List Int) (w : World) (hg : Glob w) (hg2 : 2 ≤ w.heap.size) (h1 : BS w v1 l1) (h2 : BS w v2 l2) (h3 : BS w v3 l3) (b1 : By l1) (b2 : By l2) (b3 : By l3) :
    Calls Tryd.prog 7 #[v1, v2, v3] w fun e w' => e = .returned (.bool true) ∧ Ext w w' := by
  have HG0 := Lib.hid (And.intro hg hg2)
  have HS1 := Lib.hid (short_bs v1 l1 90 90 rfl w h1 b1 (by decide))
  have HS2 := Lib.hid (short_bs v2 l2 90 90 rfl w h2 b2 (by decide))
  have HS3 := Lib.hid (short_bs v3 l3 90 90 rfl w h3 b3 (by decide))
  clear hg hg2 h1 b1 h2 b2 h3 b3
  go_enter Tryd.func7, Tryd.ntmps7
  go_wp2_with fail
  refine HS1.out.mono ?_
  rintro e w' ⟨A1, n1, c1, s1, rfl, hB, hy, hn, rfl⟩
  have K1 := Lib.hid (And.intro hB (And.intro hy hn))
  clear hB hy hn HS1
  go_wp2_with fail
  refine HS2.out.mono ?_
  rintro e w' ⟨A2, n2, c2, s2, rfl, hB, hy, hn, rfl⟩
  have K2 := Lib.hid (And.intro hB (And.intro hy hn))
  clear hB hy hn HS2
  go_wp2_with fail
  refine HS3.out.mono ?_
  rintro e w' ⟨A3, n3, c3, s3, rfl, hB, hy, hn, rfl⟩
  have K3 := Lib.hid (And.intro hB (And.intro hy hn))
  clear hB hy hn HS3
  go_wp2_with fail
  refine (start_dg _ HG0.out.1 0).mono ?_
  rintro e X ⟨v, rfl, hD, hE⟩
  have HX := Lib.hid (And.intro hD hE)
  clear hD hE
  go_wp2_with fail
  refine (write_bs v (.slice A1 n1 c1) ([]) s1 _ (HG0.out.1.ext HX.out.2) (Nat.le_trans HG0.out.2 HX.out.2.size) HX.out.1 (K1.out.1.lift HX.out.2) by_nil K1.out.2.1 (by have h1 := K1.out.2.2; first | omega | (simp only [List.length_append, List.length_nil]; omega))).mono ?_
  rintro e X2 ⟨v2, rfl, hD, hE⟩
  rw [List.nil_append] at hD
  obtain ⟨cs, rfl, hcl, hone, hDc⟩ := hD.cells
  clear hD
  have HY := Lib.hid (And.intro hDc (And.intro (HX.out.2.trans hE) (And.intro hcl hone)))
  clear hE hDc hcl hone HX
  go_wp2_with (with_reducible show wpList _ _ _ (⟨none, _, _, _, _, _⟩ :: _) _ _; refine Lock.out ?_)
  refine ⟨?_, trivial⟩
  refine wl_at fun Z hZ => ?_
  obtain ⟨R, hR⟩ : ∃ V, V = X2.heap.size := ⟨_, rfl⟩
  have hB0 : Box 0 (zero8.map bw ++ [nw 0, .slice none 0 0]) R Z := by
    rw [hZ, hR]
    repeat' (first | with_reducible assumption | ((with_reducible refine Box.fresh ?fb ?fn ?fr); (case fb => first | omega | (simp <;> omega)); (case fn => first | omega | (simp <;> omega)); (case fr => rfl)) | with_reducible apply Box.up | with_reducible apply Box.drew_ | with_reducible apply Box.drewN_ | with_reducible apply Box.plus_ | with_reducible apply Box.put | with_reducible refine Box.off ?_ (by omega))
    all_goals first | rfl | (simp; done)
  have hE1 : Ext X2 Z := by
    rw [hZ]
    repeat' (first | with_reducible assumption | with_reducible exact Ext.refl _ | with_reducible apply Ext.alloc | with_reducible apply Ext.drew | with_reducible apply Ext.drewN | with_reducible apply Ext.plus_ | with_reducible refine Ext.put ?_ (by omega))
  have hRl : X2.heap.size ≤ R := by omega
  rw [← hR]
  clear hZ hR
  refine wl_store rfl 34 (.tmp 7) (.tmp 18) rfl hB0 cs rfl rfl (by rw [HY.out.2.2.1]; rfl) (by rw [HY.out.2.2.1]; kernel_rfl) HY.out.2.2.2 fun W hW hx => ?_
  have hYW := hx.ext _ hE1 hRl
  have HW := Lib.hid (And.intro (show DBox R cs s1 W from ⟨hW, HY.out.2.2.1, IsDg.ext HY.out.1 hYW⟩) (HY.out.2.1.trans hYW))
  clear hW hx hYW hB0 hE1 hRl HY
  go_wp2_with (with_reducible show wpList _ _ _ (⟨some 19, _, _, _, _, _⟩ :: _) _ _; refine Lock.out ?_)
  refine ⟨?_, trivial⟩
  refine wl_load_dg rfl 34 (.tmp 7) rfl HW.out.1 rfl Tryd.underlying34 rfl (by kernel_rfl) ?_
  go_wp2_with fail
  refine (write_bs (.agg cs.toArray) (.slice A2 n2 c2) s1 s2 _ (HG0.out.1.ext HW.out.2) (Nat.le_trans HG0.out.2 HW.out.2.size) HW.out.1.2.2 (K2.out.1.lift HW.out.2) K1.out.2.1 K2.out.2.1 (by have h1 := K1.out.2.2; have h2 := K2.out.2.2; first | omega | (simp only [List.length_append, List.length_nil]; omega))).mono ?_
  rintro e X3 ⟨v3, rfl, hD, hE⟩
  obtain ⟨cs2, rfl, hcl, hone, hDc⟩ := hD.cells
  clear hD
  have HY := Lib.hid (And.intro hDc (And.intro (HW.out.2.trans hE) (And.intro hcl hone)))
  have Q1 := Lib.hid (HW.out.1.ext hE)
  clear hE hDc hcl hone HW
  go_wp2_with (with_reducible show wpList _ _ _ (⟨none, _, _, _, _, _⟩ :: _) _ _; refine Lock.out ?_)
  refine ⟨?_, trivial⟩
  refine wl_at fun Z hZ => ?_
  obtain ⟨R2, hR2⟩ : ∃ V, V = X3.heap.size := ⟨_, rfl⟩
  have hB0 : Box 0 (zero8.map bw ++ [nw 0, .slice none 0 0]) R2 Z := by
    rw [hZ, hR2]
    repeat' (first | with_reducible assumption | ((with_reducible refine Box.fresh ?fb ?fn ?fr); (case fb => first | omega | (simp <;> omega)); (case fn => first | omega | (simp <;> omega)); (case fr => rfl)) | with_reducible apply Box.up | with_reducible apply Box.drew_ | with_reducible apply Box.drewN_ | with_reducible apply Box.plus_ | with_reducible apply Box.put | with_reducible refine Box.off ?_ (by omega))
    all_goals first | rfl | (simp; done)
  have hE1 : Ext X3 Z := by
    rw [hZ]
    repeat' (first | with_reducible assumption | with_reducible exact Ext.refl _ | with_reducible apply Ext.alloc | with_reducible apply Ext.drew | with_reducible apply Ext.drewN | with_reducible apply Ext.plus_ | with_reducible refine Ext.put ?_ (by omega))
  have hRl : X3.heap.size ≤ R2 := by omega
  rw [← hR2]
  clear hZ hR2
  refine wl_store rfl 34 (.tmp 8) (.tmp 21) rfl hB0 cs2 rfl rfl (by rw [HY.out.2.2.1]; rfl) (by rw [HY.out.2.2.1]; kernel_rfl) HY.out.2.2.2 fun W2 hW hx => ?_
  have hYW := hx.ext _ hE1 hRl
  have HW2 := Lib.hid (And.intro (show DBox R2 cs2 (s1 ++ s2) W2 from ⟨hW, HY.out.2.2.1, IsDg.ext HY.out.1 hYW⟩) (HY.out.2.1.trans hYW))
  have P1 := Lib.hid (Q1.out.ext hYW)
  clear hW hx hYW hB0 hE1 hRl HY Q1
  have HV := Lib.hid (And.intro P1.out HW2.out.2)
  go_wp2_with (with_reducible show wpList _ _ _ (⟨some 22, _, _, _, _, _⟩ :: _) _ _; refine Lock.out ?_)
  refine ⟨?_, trivial⟩
  refine wl_load_dg rfl 34 (.tmp 7) rfl HV.out.1 rfl Tryd.underlying34 rfl (by kernel_rfl) ?_
  go_wp2_with fail
  refine (write_bs (.agg cs.toArray) (.slice A3 n3 c3) s1 s3 _ (HG0.out.1.ext HV.out.2) (Nat.le_trans HG0.out.2 HV.out.2.size) HV.out.1.2.2 (K3.out.1.lift HV.out.2) K1.out.2.1 K3.out.2.1 (by have h1 := K1.out.2.2; have h3 := K3.out.2.2; first | omega | (simp only [List.length_append, List.length_nil]; omega))).mono ?_
  rintro e X4 ⟨v4, rfl, hD, hE⟩
  obtain ⟨cs3, rfl, hcl, hone, hDc⟩ := hD.cells
  clear hD
  have HY := Lib.hid (And.intro hDc (And.intro (HV.out.2.trans hE) (And.intro hcl hone)))
  have Q2 := Lib.hid (HW2.out.1.ext hE)
  clear hE hDc hcl hone HV
  clear HW2
  go_wp2_with (with_reducible show wpList _ _ _ (⟨none, _, _, _, _, _⟩ :: _) _ _; refine Lock.out ?_)
  refine ⟨?_, trivial⟩
  refine wl_at fun Z hZ => ?_
  obtain ⟨R3, hR3⟩ : ∃ V, V = X4.heap.size := ⟨_, rfl⟩
  have hB0 : Box 0 (zero8.map bw ++ [nw 0, .slice none 0 0]) R3 Z := by
    rw [hZ, hR3]
    repeat' (first | with_reducible assumption | ((with_reducible refine Box.fresh ?fb ?fn ?fr); (case fb => first | omega | (simp <;> omega)); (case fn => first | omega | (simp <;> omega)); (case fr => rfl)) | with_reducible apply Box.up | with_reducible apply Box.drew_ | with_reducible apply Box.drewN_ | with_reducible apply Box.plus_ | with_reducible apply Box.put | with_reducible refine Box.off ?_ (by omega))
    all_goals first | rfl | (simp; done)
  have hE1 : Ext X4 Z := by
    rw [hZ]
    repeat' (first | with_reducible assumption | with_reducible exact Ext.refl _ | with_reducible apply Ext.alloc | with_reducible apply Ext.drew | with_reducible apply Ext.drewN | with_reducible apply Ext.plus_ | with_reducible refine Ext.put ?_ (by omega))
  have hRl : X4.heap.size ≤ R3 := by omega
  rw [← hR3]
  clear hZ hR3
  refine wl_store rfl 34 (.tmp 9) (.tmp 24) rfl hB0 cs3 rfl rfl (by rw [HY.out.2.2.1]; rfl) (by rw [HY.out.2.2.1]; kernel_rfl) HY.out.2.2.2 fun W3 hW hx => ?_
  have hYW := hx.ext _ hE1 hRl
  have HW3 := Lib.hid (And.intro (show DBox R3 cs3 (s1 ++ s3) W3 from ⟨hW, HY.out.2.2.1, IsDg.ext HY.out.1 hYW⟩) (HY.out.2.1.trans hYW))
  have P2 := Lib.hid (Q2.out.ext hYW)
  clear hW hx hYW hB0 hE1 hRl HY Q2
  go_upto_region 5 with fail
  refine wp_at fun Y hY => ?_
  have hWY : Ext W3 Y := by
    rw [hY]
    repeat' (first | with_reducible assumption | with_reducible exact Ext.refl _ | with_reducible apply Ext.alloc | with_reducible apply Ext.drew | with_reducible apply Ext.drewN | with_reducible apply Ext.plus_ | with_reducible refine Ext.put ?_ (by omega))
  have HD2 := Lib.hid (P2.out.ext hWY)
  have HD3 := Lib.hid (HW3.out.1.ext hWY)
  have HE := Lib.hid (HW3.out.2.trans hWY)
  have KY1 := Lib.hid (K1.out.1.lift HE.out)
  have KY2 := Lib.hid (K2.out.1.lift HE.out)
  have KY3 := Lib.hid (K3.out.1.lift HE.out)
  have HG := Lib.hid (HG0.out.1.ext HE.out)
  have h2 := Nat.le_trans HG0.out.2 HE.out.size
  clear hWY hY HW3 P2 HG0
  refine act_at fun A0 hAq => ?_
  have hsz : A0.tmps.size = 48 := by
    rw [hAq]
    rfl
  have hA0 : A0.tmps.getD 0 undef = .slice A1 n1 c1 := by
    rw [hAq]
    first | rfl | kernel_rfl
  have hA1 : A0.tmps.getD 1 undef = .slice A2 n2 c2 := by
    rw [hAq]
    first | rfl | kernel_rfl
  have hA2 : A0.tmps.getD 2 undef = .slice A3 n3 c3 := by
    rw [hAq]
    first | rfl | kernel_rfl
  have hA8 : A0.tmps.getD 8 undef = .pointer (some ⟨R2, 0, none⟩) := by
    rw [hAq]
    first | rfl | kernel_rfl
  have hA9 : A0.tmps.getD 9 undef = .pointer (some ⟨R3, 0, none⟩) := by
    rw [hAq]
    first | rfl | kernel_rfl
  have HAq := Lib.hid hAq
  clear hAq
  apply wp_region_ext 23 [is (.agg cs2.toArray), isBS (shaOf (s1 ++ s2)), is (.string (strOfNums (shaOf (s1 ++ s2)))), is (.slice A1 n1 c1), is (.slice A2 n2 c2), isTwo s1 s2, isBS (shaOf (s1 ++ s2)), is (.string (strOfNums (shaOf (s1 ++ s2)))), is (.bool true), is (.bool true), is (.agg cs3.toArray), isBS (shaOf (s1 ++ s3)), is (.string (strOfNums (shaOf (s1 ++ s3)))), is (.slice A1 n1 c1), is (.slice A3 n3 c3), isTwo s1 s3, isBS (shaOf (s1 ++ s3)), is (.string (strOfNums (shaOf (s1 ++ s3)))), is (.bool true), is (.bool true), is (.bool true), is (.bool true), is (.bool true)] (by kernel_rfl) (by kernel_rfl) rfl
  case hops =>
    simp only [List.take_succ_cons, List.take_zero]
    with_reducible refine xOps_cons ?_ ?_
    · with_reducible refine xop_un ?_ ?_
      · rfl
      · intro vs x F hF hd
        have e1 : F.tmps.getD 8 undef = .pointer (some ⟨R2, 0, none⟩) := (hF.a 8 (by kernel_rfl) (by rw [hsz]; rfl)).trans hA8
        exact comes_load_box 34 (.tmp 8) rfl (HD2.out.1.ext (by repeat (first | exact Ext.refl _ | assumption | apply Ext.plus_ | apply Ext.alloc | apply Ext.drew))) e1 Tryd.underlying34 rfl (by rw [HD2.out.2.1]; kernel_rfl)
    with_reducible refine xOps_cons ?_ ?_
    · with_reducible refine xop_un ?_ ?_
      · rfl
      · intro vs x F hF hd
        have e1 : F.tmps.getD 25 undef = .agg cs2.toArray := (hF.v 25 0 (by kernel_rfl) (by rw [hsz]; rfl)).trans (dep_at hd 0 0 (is (.agg cs2.toArray)) (by kernel_rfl) (by kernel_rfl))
        have he1 := IsDg.ext HD2.out.2.2 (show Ext Y (Y.plus x) from (by repeat (first | exact Ext.refl _ | assumption | apply Ext.plus_ | apply Ext.alloc | apply Ext.drew)))
        clear hF hd
        simp only [comes]
        go_simp
        refine (sum_bs _ (s1 ++ s2) _ (HG.out.ext (show Ext Y (Y.plus x) from (by repeat (first | exact Ext.refl _ | assumption | apply Ext.plus_ | apply Ext.alloc | apply Ext.drew)))) (Nat.le_trans h2 (show Ext Y (Y.plus x) from (by repeat (first | exact Ext.refl _ | assumption | apply Ext.plus_ | apply Ext.alloc | apply Ext.drew))).size) he1 (K1.out.2.1.append K2.out.2.1) (by have h1 := K1.out.2.2; have h2 := K2.out.2.2; first | omega | (simp only [List.length_append, List.length_nil]; omega))).mono ?_
        rintro e w' ⟨u, rfl, hb, hE⟩
        exact ⟨_, rfl, hE, hb⟩
    with_reducible refine xOps_cons ?_ ?_
    · with_reducible refine xop_un ?_ ?_
      · rfl
      · intro vs x F hF hd
        have e1 : F.tmps.getD 26 undef = vs 1 := hF.v 26 1 (by kernel_rfl) (by rw [hsz]; rfl)
        have pe1 : isBS (shaOf (s1 ++ s2)) (vs 1) (Y.plus x) := dep_at hd 0 1 (isBS (shaOf (s1 ++ s2))) (by kernel_rfl) (by kernel_rfl)
        have he1 := pe1
        exact comes_str (.tmp 26) rfl _ e1 (shaOf (s1 ++ s2)) he1 ⟨Ext.refl _, rfl⟩
    with_reducible refine xOps_cons ?_ ?_
    · with_reducible refine xop_un ?_ ?_
      · rfl
      · intro vs x F hF hd
        have e1 : F.tmps.getD 0 undef = .slice A1 n1 c1 := (hF.a 0 (by kernel_rfl) (by rw [hsz]; rfl)).trans hA0
        exact m_v e1
    with_reducible refine xOps_cons ?_ ?_
    · with_reducible refine xop_un ?_ ?_
      · rfl
      · intro vs x F hF hd
        have e1 : F.tmps.getD 1 undef = .slice A2 n2 c2 := (hF.a 1 (by kernel_rfl) (by rw [hsz]; rfl)).trans hA1
        exact m_v e1
    with_reducible refine xOps_cons ?_ ?_
    · with_reducible refine xop_un ?_ ?_
      · rfl
      · intro vs x F hF hd
        have e28 : F.tmps.getD 28 undef = .slice A1 n1 c1 := (hF.v 28 3 (by kernel_rfl) (by rw [hsz]; rfl)).trans (dep_at hd 0 3 (is (.slice A1 n1 c1)) (by kernel_rfl) (by kernel_rfl))
        have e29 : F.tmps.getD 29 undef = .slice A2 n2 c2 := (hF.v 29 4 (by kernel_rfl) (by rw [hsz]; rfl)).trans (dep_at hd 1 4 (is (.slice A2 n2 c2)) (by kernel_rfl) (by kernel_rfl))
        rw [Array.getD_eq_getD_getElem?] at e28 e29
        clear hF hd
        simp only [comes]
        go_simp
        exact ⟨(Ext.refl _).alloc _, _, _, _, rfl, Cells.new _ _ _ _ rfl, BS.lift KY1.out (by repeat (first | exact Ext.refl _ | assumption | apply Ext.plus_ | apply Ext.alloc | apply Ext.drew)), BS.lift KY2.out (by repeat (first | exact Ext.refl _ | assumption | apply Ext.plus_ | apply Ext.alloc | apply Ext.drew))⟩
    with_reducible refine xOps_cons ?_ ?_
    · with_reducible refine xop_un ?_ ?_
      · rfl
      · intro vs x F hF hd
        have e1 : F.tmps.getD 30 undef = vs 5 := hF.v 30 5 (by kernel_rfl) (by rw [hsz]; rfl)
        have pe1 : isTwo s1 s2 (vs 5) (Y.plus x) := dep_at hd 0 5 (isTwo s1 s2) (by kernel_rfl) (by kernel_rfl)
        obtain ⟨b9, u8, u9, hv9, hc9, hb8, hb9⟩ := pe1
        rw [hv9] at e1
        clear hF hd
        simp only [comes]
        go_simp
        refine (of_two _ (HG.out.ext (show Ext Y (Y.plus x) from (by repeat (first | exact Ext.refl _ | assumption | apply Ext.plus_ | apply Ext.alloc | apply Ext.drew)))) (Nat.le_trans h2 (show Ext Y (Y.plus x) from (by repeat (first | exact Ext.refl _ | assumption | apply Ext.plus_ | apply Ext.alloc | apply Ext.drew))).size) b9 u8 u9 s1 s2 hc9 hb8 hb9 K1.out.2.1 K2.out.2.1 (by have h1 := K1.out.2.2; have h2 := K2.out.2.2; first | omega | (simp only [List.length_append, List.length_nil]; omega))).mono ?_
        rintro e w' ⟨u, rfl, hb, hE⟩
        exact ⟨_, rfl, hE, hb⟩
    with_reducible refine xOps_cons ?_ ?_
    · with_reducible refine xop_un ?_ ?_
      · rfl
      · intro vs x F hF hd
        have e1 : F.tmps.getD 31 undef = vs 6 := hF.v 31 6 (by kernel_rfl) (by rw [hsz]; rfl)
        have pe1 : isBS (shaOf (s1 ++ s2)) (vs 6) (Y.plus x) := dep_at hd 0 6 (isBS (shaOf (s1 ++ s2))) (by kernel_rfl) (by kernel_rfl)
        have he1 := pe1
        exact comes_str (.tmp 31) rfl _ e1 (shaOf (s1 ++ s2)) he1 ⟨Ext.refl _, rfl⟩
    with_reducible refine xOps_cons ?_ ?_
    · with_reducible refine xop_un ?_ ?_
      · rfl
      · intro vs x F hF hd
        have e0 : F.tmps.getD 27 undef = .string (strOfNums (shaOf (s1 ++ s2))) := (hF.v 27 2 (by kernel_rfl) (by rw [hsz]; rfl)).trans (dep_at hd 0 2 (is (.string (strOfNums (shaOf (s1 ++ s2))))) (by kernel_rfl) (by kernel_rfl))
        have e1 : F.tmps.getD 32 undef = .string (strOfNums (shaOf (s1 ++ s2))) := (hF.v 32 7 (by kernel_rfl) (by rw [hsz]; rfl)).trans (dep_at hd 1 7 (is (.string (strOfNums (shaOf (s1 ++ s2))))) (by kernel_rfl) (by kernel_rfl))
        exact s_eqs e0 e1
    with_reducible refine xOps_cons ?_ ?_
    · with_reducible refine xop_un ?_ ?_
      · rfl
      · intro vs x F hF hd
        have e1 : F.tmps.getD 33 undef = .bool true := (hF.v 33 8 (by kernel_rfl) (by rw [hsz]; rfl)).trans (dep_at hd 0 8 (is (.bool true)) (by kernel_rfl) (by kernel_rfl))
        exact m_v e1
    with_reducible refine xOps_cons ?_ ?_
    · with_reducible refine xop_on 9 34 9 0 ?_ ?_ ?_ ?_ ?_ ?_ ?_
      · rfl
      · kernel_rfl
      · kernel_rfl
      · rw [hsz]; rfl
      · kernel_rfl
      · kernel_rfl
      · intro vs x F hF hd
        have e1 : F.tmps.getD 9 undef = .pointer (some ⟨R3, 0, none⟩) := (hF.a 9 (by kernel_rfl) (by rw [hsz]; rfl)).trans hA9
        exact comes_load_box 34 (.tmp 9) rfl (HD3.out.1.ext (by repeat (first | exact Ext.refl _ | assumption | apply Ext.plus_ | apply Ext.alloc | apply Ext.drew))) e1 Tryd.underlying34 rfl (by rw [HD3.out.2.1]; kernel_rfl)
    with_reducible refine xOps_cons ?_ ?_
    · with_reducible refine xop_on 9 34 9 2 ?_ ?_ ?_ ?_ ?_ ?_ ?_
      · rfl
      · kernel_rfl
      · kernel_rfl
      · rw [hsz]; rfl
      · kernel_rfl
      · kernel_rfl
      · intro vs x F hF hd
        have e1 : F.tmps.getD 35 undef = .agg cs3.toArray := (hF.v 35 10 (by kernel_rfl) (by rw [hsz]; rfl)).trans (dep_at hd 0 10 (is (.agg cs3.toArray)) (by kernel_rfl) (by kernel_rfl))
        have he1 := IsDg.ext HD3.out.2.2 (show Ext Y (Y.plus x) from (by repeat (first | exact Ext.refl _ | assumption | apply Ext.plus_ | apply Ext.alloc | apply Ext.drew)))
        clear hF hd
        simp only [comes]
        go_simp
        refine (sum_bs _ (s1 ++ s3) _ (HG.out.ext (show Ext Y (Y.plus x) from (by repeat (first | exact Ext.refl _ | assumption | apply Ext.plus_ | apply Ext.alloc | apply Ext.drew)))) (Nat.le_trans h2 (show Ext Y (Y.plus x) from (by repeat (first | exact Ext.refl _ | assumption | apply Ext.plus_ | apply Ext.alloc | apply Ext.drew))).size) he1 (K1.out.2.1.append K3.out.2.1) (by have h1 := K1.out.2.2; have h3 := K3.out.2.2; first | omega | (simp only [List.length_append, List.length_nil]; omega))).mono ?_
        rintro e w' ⟨u, rfl, hb, hE⟩
        exact ⟨_, rfl, hE, hb⟩
    with_reducible refine xOps_cons ?_ ?_
    · with_reducible refine xop_on 9 34 9 1 ?_ ?_ ?_ ?_ ?_ ?_ ?_
      · rfl
      · kernel_rfl
      · kernel_rfl
      · rw [hsz]; rfl
      · kernel_rfl
      · kernel_rfl
      · intro vs x F hF hd
        have e1 : F.tmps.getD 36 undef = vs 11 := hF.v 36 11 (by kernel_rfl) (by rw [hsz]; rfl)
        have pe1 : isBS (shaOf (s1 ++ s3)) (vs 11) (Y.plus x) := dep_at hd 0 11 (isBS (shaOf (s1 ++ s3))) (by kernel_rfl) (by kernel_rfl)
        have he1 := pe1
        exact comes_str (.tmp 36) rfl _ e1 (shaOf (s1 ++ s3)) he1 ⟨Ext.refl _, rfl⟩
    with_reducible refine xOps_cons ?_ ?_
    · with_reducible refine xop_on 9 34 9 0 ?_ ?_ ?_ ?_ ?_ ?_ ?_
      · rfl
      · kernel_rfl
      · kernel_rfl
      · rw [hsz]; rfl
      · kernel_rfl
      · kernel_rfl
      · intro vs x F hF hd
        have e1 : F.tmps.getD 0 undef = .slice A1 n1 c1 := (hF.a 0 (by kernel_rfl) (by rw [hsz]; rfl)).trans hA0
        exact m_v e1
    with_reducible refine xOps_cons ?_ ?_
    · with_reducible refine xop_on 9 34 9 0 ?_ ?_ ?_ ?_ ?_ ?_ ?_
      · rfl
      · kernel_rfl
      · kernel_rfl
      · rw [hsz]; rfl
      · kernel_rfl
      · kernel_rfl
      · intro vs x F hF hd
        have e1 : F.tmps.getD 2 undef = .slice A3 n3 c3 := (hF.a 2 (by kernel_rfl) (by rw [hsz]; rfl)).trans hA2
        exact m_v e1
    with_reducible refine xOps_cons ?_ ?_
    · with_reducible refine xop_on 9 34 9 2 ?_ ?_ ?_ ?_ ?_ ?_ ?_
      · rfl
      · kernel_rfl
      · kernel_rfl
      · rw [hsz]; rfl
      · kernel_rfl
      · kernel_rfl
      · intro vs x F hF hd
        have e38 : F.tmps.getD 38 undef = .slice A1 n1 c1 := (hF.v 38 13 (by kernel_rfl) (by rw [hsz]; rfl)).trans (dep_at hd 0 13 (is (.slice A1 n1 c1)) (by kernel_rfl) (by kernel_rfl))
        have e39 : F.tmps.getD 39 undef = .slice A3 n3 c3 := (hF.v 39 14 (by kernel_rfl) (by rw [hsz]; rfl)).trans (dep_at hd 1 14 (is (.slice A3 n3 c3)) (by kernel_rfl) (by kernel_rfl))
        rw [Array.getD_eq_getD_getElem?] at e38 e39
        clear hF hd
        simp only [comes]
        go_simp
        exact ⟨(Ext.refl _).alloc _, _, _, _, rfl, Cells.new _ _ _ _ rfl, BS.lift KY1.out (by repeat (first | exact Ext.refl _ | assumption | apply Ext.plus_ | apply Ext.alloc | apply Ext.drew)), BS.lift KY3.out (by repeat (first | exact Ext.refl _ | assumption | apply Ext.plus_ | apply Ext.alloc | apply Ext.drew))⟩
    with_reducible refine xOps_cons ?_ ?_
    · with_reducible refine xop_on 9 34 9 2 ?_ ?_ ?_ ?_ ?_ ?_ ?_
      · rfl
      · kernel_rfl
      · kernel_rfl
      · rw [hsz]; rfl
      · kernel_rfl
      · kernel_rfl
      · intro vs x F hF hd
        have e1 : F.tmps.getD 40 undef = vs 15 := hF.v 40 15 (by kernel_rfl) (by rw [hsz]; rfl)
        have pe1 : isTwo s1 s3 (vs 15) (Y.plus x) := dep_at hd 0 15 (isTwo s1 s3) (by kernel_rfl) (by kernel_rfl)
        obtain ⟨b9, u8, u9, hv9, hc9, hb8, hb9⟩ := pe1
        rw [hv9] at e1
        clear hF hd
        simp only [comes]
        go_simp
        refine (of_two _ (HG.out.ext (show Ext Y (Y.plus x) from (by repeat (first | exact Ext.refl _ | assumption | apply Ext.plus_ | apply Ext.alloc | apply Ext.drew)))) (Nat.le_trans h2 (show Ext Y (Y.plus x) from (by repeat (first | exact Ext.refl _ | assumption | apply Ext.plus_ | apply Ext.alloc | apply Ext.drew))).size) b9 u8 u9 s1 s3 hc9 hb8 hb9 K1.out.2.1 K3.out.2.1 (by have h1 := K1.out.2.2; have h3 := K3.out.2.2; first | omega | (simp only [List.length_append, List.length_nil]; omega))).mono ?_
        rintro e w' ⟨u, rfl, hb, hE⟩
        exact ⟨_, rfl, hE, hb⟩
    with_reducible refine xOps_cons ?_ ?_
    · with_reducible refine xop_on 9 34 9 1 ?_ ?_ ?_ ?_ ?_ ?_ ?_
      · rfl
      · kernel_rfl
      · kernel_rfl
      · rw [hsz]; rfl
      · kernel_rfl
      · kernel_rfl
      · intro vs x F hF hd
        have e1 : F.tmps.getD 41 undef = vs 16 := hF.v 41 16 (by kernel_rfl) (by rw [hsz]; rfl)
        have pe1 : isBS (shaOf (s1 ++ s3)) (vs 16) (Y.plus x) := dep_at hd 0 16 (isBS (shaOf (s1 ++ s3))) (by kernel_rfl) (by kernel_rfl)
        have he1 := pe1
        exact comes_str (.tmp 41) rfl _ e1 (shaOf (s1 ++ s3)) he1 ⟨Ext.refl _, rfl⟩
    with_reducible refine xOps_cons ?_ ?_
    · with_reducible refine xop_on 9 34 9 2 ?_ ?_ ?_ ?_ ?_ ?_ ?_
      · rfl
      · kernel_rfl
      · kernel_rfl
      · rw [hsz]; rfl
      · kernel_rfl
      · kernel_rfl
      · intro vs x F hF hd
        have e0 : F.tmps.getD 37 undef = .string (strOfNums (shaOf (s1 ++ s3))) := (hF.v 37 12 (by kernel_rfl) (by rw [hsz]; rfl)).trans (dep_at hd 0 12 (is (.string (strOfNums (shaOf (s1 ++ s3))))) (by kernel_rfl) (by kernel_rfl))
        have e1 : F.tmps.getD 42 undef = .string (strOfNums (shaOf (s1 ++ s3))) := (hF.v 42 17 (by kernel_rfl) (by rw [hsz]; rfl)).trans (dep_at hd 1 17 (is (.string (strOfNums (shaOf (s1 ++ s3))))) (by kernel_rfl) (by kernel_rfl))
        exact s_eqs e0 e1
    with_reducible refine xOps_cons ?_ ?_
    · with_reducible refine xop_un ?_ ?_
      · rfl
      · intro vs x F hF hd
        have e34 : F.tmps.getD 34 undef = .bool true := (hF.v 34 9 (by kernel_rfl) (by rw [hsz]; rfl)).trans (dep_at hd 0 9 (is (.bool true)) (by kernel_rfl) (by kernel_rfl))
        have e43 : F.tmps.getD 43 undef = .bool true := (hF.v 43 18 (by kernel_rfl) (by rw [hsz]; rfl)).trans (dep_at hd 1 18 (is (.bool true)) (by kernel_rfl) (by kernel_rfl))
        clear hF hd
        simp only [comes]
        go_simp
        first | exact ⟨Ext.refl _, rfl⟩ | exact Ext.refl _
    with_reducible refine xOps_cons ?_ ?_
    · with_reducible refine xop_un ?_ ?_
      · rfl
      · intro vs x F hF hd
        have e1 : F.tmps.getD 44 undef = .bool true := (hF.v 44 19 (by kernel_rfl) (by rw [hsz]; rfl)).trans (dep_at hd 0 19 (is (.bool true)) (by kernel_rfl) (by kernel_rfl))
        exact m_v e1
    with_reducible refine xOps_cons ?_ ?_
    · with_reducible refine xop_on 20 45 20 1 ?_ ?_ ?_ ?_ ?_ ?_ ?_
      · rfl
      · kernel_rfl
      · kernel_rfl
      · rw [hsz]; rfl
      · kernel_rfl
      · kernel_rfl
      · intro vs x F hF hd
        clear hF hd
        simp only [comes]
        go_simp
        refine (awake_any _ (HG.out.ext (show Ext Y (Y.plus x) from (by repeat (first | exact Ext.refl _ | assumption | apply Ext.plus_ | apply Ext.alloc | apply Ext.drew)))) (Nat.le_trans h2 (show Ext Y (Y.plus x) from (by repeat (first | exact Ext.refl _ | assumption | apply Ext.plus_ | apply Ext.alloc | apply Ext.drew))).size)).mono ?_
        rintro e w' ⟨rfl, hE⟩
        first | exact ⟨_, rfl, hE, rfl⟩ | exact ⟨_, rfl, hE⟩ | exact ⟨rfl, hE⟩ | exact ⟨_, hE⟩ | exact hE
    with_reducible refine xOps_cons ?_ ?_
    · with_reducible refine xop_un ?_ ?_
      · rfl
      · intro vs x F hF hd
        have e45 : F.tmps.getD 45 undef = .bool true := (hF.v 45 20 (by kernel_rfl) (by rw [hsz]; rfl)).trans (dep_at hd 0 20 (is (.bool true)) (by kernel_rfl) (by kernel_rfl))
        have e46 : F.tmps.getD 46 undef = .bool true := (hF.v 46 21 (by kernel_rfl) (by rw [hsz]; rfl)).trans (dep_at hd 1 21 (is (.bool true)) (by kernel_rfl) (by kernel_rfl))
        clear hF hd
        simp only [comes]
        go_simp
        first | exact ⟨Ext.refl _, rfl⟩ | exact Ext.refl _
    exact xOps_nil
  case hst => exact ⟨is.st _, (by apply isBS.st), is.st _, is.st _, is.st _, (by apply isTwo.st), (by apply isBS.st), is.st _, is.st _, is.st _, is.st _, (by apply isBS.st), is.st _, is.st _, is.st _, (by apply isTwo.st), (by apply isBS.st), is.st _, is.st _, is.st _, is.st _, is.st _, is.st _, trivial⟩
  case hfin =>
    intro vs x hf
    have f22 : vs 22 = .bool true := hf.2.2.2.2.2.2.2.2.2.2.2.2.2.2.2.2.2.2.2.2.2.2.1
    clear hf
    have hAq := HAq.out
    subst hAq
    clear hsz hA0 hA1 hA2 hA8 hA9
    simp only [List.take_succ_cons, List.take_zero, List.drop_succ_cons, List.drop_zero, putAll, Act.put, List.setIfInBounds_toArray, List.set_cons_succ, List.set_cons_zero, Nat.zero_add, Nat.reduceAdd]
    clear HAq
    rw [f22]
    clear f22
    go_wp2
    go_ret
    exact ⟨rfl, HE.out.trans (by repeat (first | exact Ext.refl _ | assumption | apply Ext.plus_ | apply Ext.alloc | apply Ext.drew))⟩
end Go.Proofs.YtbdahlfakinagaaDoor
