/- ConfigBound: the walk. -/
import Derived.Test.YtlcopiepcpangaaCfgA
import Derived.Test.YtlcopiepcpangaaOpenCfg
set_option linter.unusedVariables false
namespace Go.Proofs.Ytlcopiepcpangaa
open Go.RowKit Go.Rg

set_option maxRecDepth 100000 in
set_option maxHeartbeats 8000000 in
theorem law_bound_core (B : Option Addr) (k d : Nat) (ll : List Int) (c0 : Cf) (wl0 : List Int) (ig0 : List ByteArray) (wild : Bool) (w : World) (hB : Row w w.heap.size 1 B k (ints ll)) (hk : k ≤ 9223372036854775807) (h0 : CfOK c0 w wl0 ig0) :
    Calls Try.prog 4 #[.slice B k d, cv c0, .bool wild] w fun e w' => e = .returned (.bool true) ∧ Ext w w' := by
  have H0 := Lib.hid h0
  clear h0
  go_enter Try.func4, Try.ntmps4
  go_wp2_with (with_reducible show wpList _ _ _ (⟨some 8, _, _, _, _, _⟩ :: _) _ _; refine Lock.out ?_)
  refine ⟨?_, trivial⟩
  refine wl_at fun U hU => ?_
  have hA : Box 0 c0.cells w.heap.size U := by
    rw [hU]
    repeat' (first | with_reducible assumption | ((with_reducible refine Box.fresh ?fb ?fn ?fr); (case fb => first | omega | (simp <;> omega)); (case fn => first | omega | (simp <;> omega)); (case fr => rfl)) | with_reducible apply Box.up | with_reducible apply Box.drew_ | with_reducible apply Box.drewN_ | with_reducible apply Box.plus_ | with_reducible apply Box.put | with_reducible refine Box.off ?_ (by omega))
    all_goals first | rfl | (simp; done)
  have hE : Ext w U := by
    rw [hU]
    repeat' (first | with_reducible assumption | with_reducible exact Ext.refl _ | with_reducible apply Ext.alloc | with_reducible apply Ext.drew | with_reducible apply Ext.drewN | with_reducible apply Ext.plus_ | with_reducible refine Ext.put ?_ (by omega))
  clear hU
  refine wl_load rfl 27 (.tmp 4) rfl hA rfl Try.underlying27 rfl (by kernel_rfl) ?_
  have HE := Lib.hid hE
  clear hA hE
  go_wp2_with (with_reducible show wpList _ _ _ (⟨none, _, _, _, _, _⟩ :: _) _ _; refine Lock.out ?_)
  refine ⟨?_, trivial⟩
  refine wl_at fun V hV => ?_
  obtain ⟨M, hM⟩ : ∃ P, P = U.heap.size := ⟨_, rfl⟩
  have hB0 : Box 0 (.int .i64 0 :: zcells) M V := by
    rw [hV, hM]
    repeat' (first | with_reducible assumption | ((with_reducible refine Box.fresh ?fb ?fn ?fr); (case fb => first | omega | (simp <;> omega)); (case fn => first | omega | (simp <;> omega)); (case fr => rfl)) | with_reducible apply Box.up | with_reducible apply Box.drew_ | with_reducible apply Box.drewN_ | with_reducible apply Box.plus_ | with_reducible apply Box.put | with_reducible refine Box.off ?_ (by omega))
    all_goals first | rfl | (simp; done)
  have hE1 : Ext U V := by
    rw [hV]
    repeat' (first | with_reducible assumption | with_reducible exact Ext.refl _ | with_reducible apply Ext.alloc | with_reducible apply Ext.drew | with_reducible apply Ext.drewN | with_reducible apply Ext.plus_ | with_reducible refine Ext.put ?_ (by omega))
  have hMl : U.heap.size ≤ M := by omega
  rw [← hM]
  clear hV hM
  refine wl_store rfl 27 (.tmp 7) (.tmp 8) rfl hB0 c0.cells rfl rfl rfl (by kernel_rfl) rfl fun W1 hB1 hx => ?_
  have hE2 := hx.ext _ hE1 hMl
  have HE1 := Lib.hid (HE.out.trans hE2)
  have hwM : w.heap.size ≤ M := Nat.le_trans HE.out.size hMl
  have HM := Lib.hid hB1
  clear hE2 hE1 hx hB0 hB1 HE hMl V U
  cases wild
  · go_wp2_with fail
    refine calls_at fun X0 hX => ?_
    obtain ⟨s, hs⟩ : ∃ s, s = W1.heap.size := ⟨_, rfl⟩
    have hS : SSt X0 X0 s B k d ll := by
      rw [hX, hs]
      exact src_new hB HE1.out hk
    have hE0 : Ext W1 X0 := by
      rw [hX]
      repeat' (first | with_reducible assumption | with_reducible exact Ext.refl _ | with_reducible apply Ext.alloc | with_reducible apply Ext.drew | with_reducible apply Ext.drewN | with_reducible apply Ext.plus_ | with_reducible refine Ext.put ?_ (by omega))
    rw [← hs]
    have hMs : M < s := by
      have := HM.out.lt
      omega
    clear hX hs
    replace HM := Lib.hid (HM.out.ext hE0)
    have HE0 := Lib.hid (HE1.out.trans hE0)
    clear hE0 HE1
    refine (srcConfig_any s B k d ll X0 hS).mono ?_
    rintro e X1 ⟨g, wl, ig, rfl, hg, hok, hss, hpl, hil⟩
    have HE1 := Lib.hid (ext_se HE0.out hss.se (by omega))
    replace HM := Lib.hid (hss.se.boxx HM.out (by omega))
    have HG := Lib.hid hg
    have HO := Lib.hid (And.intro hok (And.intro (fun a ha => Nat.lt_trans hMs (hpl a ha)) (fun a ha => Nat.lt_trans hMs (hil a ha))))
    clear hg hok hss hpl hil HE0 hS hMs X0
    go_wp2_with (with_reducible show wpList _ _ _ (⟨none, _, _, _, _, _⟩ :: _) _ _; refine Lock.out ?_)
    refine ⟨?_, trivial⟩
    refine wl_store rfl 27 (.tmp 7) (.tmp 14) rfl HM.out g.cells rfl rfl rfl (by kernel_rfl) rfl fun W2 hB2 hx => ?_
    have HOK := Lib.hid (CfOK.stb HO.out.1 hx (fun a ha => Nat.ne_of_gt (HO.out.2.1 a ha)) (fun a ha => Nat.ne_of_gt (HO.out.2.2 a ha)))
    have HPL := Lib.hid HO.out.2
    have HE2 := Lib.hid (hx.ext _ HE1.out hwM)
    replace HM := Lib.hid hB2
    clear hx hB2 HO HE1 X1
    go_upto_region 4 with fail
    refine wp_at fun Y hY => ?_
    rw [← hY] at HM HE2 HOK
    obtain ⟨z, hv, uv, x1, x2, x3, hO⟩ := HOK.out.overs
    have HV := Lib.hid hO
    have HE := Lib.hid HE2.out
    clear hY hO HOK HE2 HG H0 HPL
    refine act_at fun A0 hA0 => ?_
    have hsz : A0.tmps.size = 37 := by
      rw [hA0]
      rfl
    have hA7 : A0.tmps.getD 7 undef = .pointer (some ⟨M, 0, none⟩) := by
      rw [hA0]
      rfl
    have HA0 := Lib.hid hA0
    clear hA0
    apply wp_region_ext 22 [is (cv g), is (.int .i64 hv), is (cv g), is (.int .i64 hv), is (.bool true), is (.bool true), is (cv g), is (.int .i64 uv), is (cv g), is (.int .i64 uv), is (.bool true), is (.bool true), is (.bool true), is (cv g), is (.agg #[.int .i64 x1, .int .i64 x2, .int .i64 x3]), is (cv g), is (.agg #[.int .i64 x1, .int .i64 x2, .int .i64 x3]), is (.bool true), is (.bool true), is (.bool true), is (.bool true), is (.bool true)] (by kernel_rfl) (by kernel_rfl) rfl
    case hops =>
      simp only [List.take_succ_cons, List.take_zero]
      with_reducible refine xOps_cons ?_ ?_
      · with_reducible refine xop_un ?_ ?_
        · rfl
        · intro vs x F hF hd
          have e1 : F.tmps.getD 7 undef = .pointer (some ⟨M, 0, none⟩) := (hF.a 7 (by kernel_rfl) (by rw [hsz]; rfl)).trans hA7
          exact comes_load_box 27 (.tmp 7) rfl (HM.out.ext (by repeat (first | exact Ext.refl _ | assumption | apply Ext.plus_ | apply Ext.alloc | apply Ext.drew))) e1 Try.underlying27 rfl (by kernel_rfl)
      with_reducible refine xOps_cons ?_ ?_
      · with_reducible refine xop_un ?_ ?_
        · rfl
        · intro vs x F hF hd
          have e15 : F.tmps.getD 15 undef = cv g := (hF.v 15 0 (by kernel_rfl) (by rw [hsz]; rfl)).trans (dep_at hd 0 0 (is (cv g)) (by kernel_rfl) (by kernel_rfl))
          clear hF hd
          simp only [comes]
          go_simp
          refine ((HV.out.H.out _ (by repeat (first | exact Ext.refl _ | assumption | apply Ext.plus_ | apply Ext.alloc | apply Ext.drew)))).mono ?_
          rintro e w' ⟨rfl, hE⟩
          first | exact ⟨_, rfl, hE, rfl⟩ | exact ⟨_, rfl, hE⟩ | exact ⟨rfl, hE⟩ | exact ⟨_, hE⟩ | exact hE
      with_reducible refine xOps_cons ?_ ?_
      · with_reducible refine xop_un ?_ ?_
        · rfl
        · intro vs x F hF hd
          have e1 : F.tmps.getD 7 undef = .pointer (some ⟨M, 0, none⟩) := (hF.a 7 (by kernel_rfl) (by rw [hsz]; rfl)).trans hA7
          exact comes_load_box 27 (.tmp 7) rfl (HM.out.ext (by repeat (first | exact Ext.refl _ | assumption | apply Ext.plus_ | apply Ext.alloc | apply Ext.drew))) e1 Try.underlying27 rfl (by kernel_rfl)
      with_reducible refine xOps_cons ?_ ?_
      · with_reducible refine xop_un ?_ ?_
        · rfl
        · intro vs x F hF hd
          have e17 : F.tmps.getD 17 undef = cv g := (hF.v 17 2 (by kernel_rfl) (by rw [hsz]; rfl)).trans (dep_at hd 0 2 (is (cv g)) (by kernel_rfl) (by kernel_rfl))
          clear hF hd
          simp only [comes]
          go_simp
          refine ((HV.out.RH.out _ (by repeat (first | exact Ext.refl _ | assumption | apply Ext.plus_ | apply Ext.alloc | apply Ext.drew)))).mono ?_
          rintro e w' ⟨rfl, hE⟩
          first | exact ⟨_, rfl, hE, rfl⟩ | exact ⟨_, rfl, hE⟩ | exact ⟨rfl, hE⟩ | exact ⟨_, hE⟩ | exact hE
      with_reducible refine xOps_cons ?_ ?_
      · with_reducible refine xop_un ?_ ?_
        · rfl
        · intro vs x F hF hd
          have e0 : F.tmps.getD 16 undef = .int .i64 hv := (hF.v 16 1 (by kernel_rfl) (by rw [hsz]; rfl)).trans (dep_at hd 0 1 (is (.int .i64 hv)) (by kernel_rfl) (by kernel_rfl))
          have e1 : F.tmps.getD 18 undef = .int .i64 hv := (hF.v 18 3 (by kernel_rfl) (by rw [hsz]; rfl)).trans (dep_at hd 1 3 (is (.int .i64 hv)) (by kernel_rfl) (by kernel_rfl))
          clear hF hd
          simp only [comes]
          go_simp
          first | exact ⟨Ext.refl _, rfl⟩ | exact Ext.refl _
      with_reducible refine xOps_cons ?_ ?_
      · with_reducible refine xop_un ?_ ?_
        · rfl
        · intro vs x F hF hd
          have e1 : F.tmps.getD 19 undef = .bool true := (hF.v 19 4 (by kernel_rfl) (by rw [hsz]; rfl)).trans (dep_at hd 0 4 (is (.bool true)) (by kernel_rfl) (by kernel_rfl))
          clear hF hd
          simp only [comes]
          go_simp
          first | exact ⟨Ext.refl _, rfl⟩ | exact Ext.refl _
      with_reducible refine xOps_cons ?_ ?_
      · with_reducible refine xop_on 5 20 5 0 ?_ ?_ ?_ ?_ ?_ ?_ ?_
        · rfl
        · kernel_rfl
        · kernel_rfl
        · rw [hsz]; rfl
        · kernel_rfl
        · kernel_rfl
        · intro vs x F hF hd
          have e1 : F.tmps.getD 7 undef = .pointer (some ⟨M, 0, none⟩) := (hF.a 7 (by kernel_rfl) (by rw [hsz]; rfl)).trans hA7
          exact comes_load_box 27 (.tmp 7) rfl (HM.out.ext (by repeat (first | exact Ext.refl _ | assumption | apply Ext.plus_ | apply Ext.alloc | apply Ext.drew))) e1 Try.underlying27 rfl (by kernel_rfl)
      with_reducible refine xOps_cons ?_ ?_
      · with_reducible refine xop_on 5 20 5 2 ?_ ?_ ?_ ?_ ?_ ?_ ?_
        · rfl
        · kernel_rfl
        · kernel_rfl
        · rw [hsz]; rfl
        · kernel_rfl
        · kernel_rfl
        · intro vs x F hF hd
          have e21 : F.tmps.getD 21 undef = cv g := (hF.v 21 6 (by kernel_rfl) (by rw [hsz]; rfl)).trans (dep_at hd 0 6 (is (cv g)) (by kernel_rfl) (by kernel_rfl))
          clear hF hd
          simp only [comes]
          go_simp
          refine ((HV.out.U.out _ (by repeat (first | exact Ext.refl _ | assumption | apply Ext.plus_ | apply Ext.alloc | apply Ext.drew)))).mono ?_
          rintro e w' ⟨rfl, hE⟩
          first | exact ⟨_, rfl, hE, rfl⟩ | exact ⟨_, rfl, hE⟩ | exact ⟨rfl, hE⟩ | exact ⟨_, hE⟩ | exact hE
      with_reducible refine xOps_cons ?_ ?_
      · with_reducible refine xop_on 5 20 5 0 ?_ ?_ ?_ ?_ ?_ ?_ ?_
        · rfl
        · kernel_rfl
        · kernel_rfl
        · rw [hsz]; rfl
        · kernel_rfl
        · kernel_rfl
        · intro vs x F hF hd
          have e1 : F.tmps.getD 7 undef = .pointer (some ⟨M, 0, none⟩) := (hF.a 7 (by kernel_rfl) (by rw [hsz]; rfl)).trans hA7
          exact comes_load_box 27 (.tmp 7) rfl (HM.out.ext (by repeat (first | exact Ext.refl _ | assumption | apply Ext.plus_ | apply Ext.alloc | apply Ext.drew))) e1 Try.underlying27 rfl (by kernel_rfl)
      with_reducible refine xOps_cons ?_ ?_
      · with_reducible refine xop_on 5 20 5 2 ?_ ?_ ?_ ?_ ?_ ?_ ?_
        · rfl
        · kernel_rfl
        · kernel_rfl
        · rw [hsz]; rfl
        · kernel_rfl
        · kernel_rfl
        · intro vs x F hF hd
          have e23 : F.tmps.getD 23 undef = cv g := (hF.v 23 8 (by kernel_rfl) (by rw [hsz]; rfl)).trans (dep_at hd 0 8 (is (cv g)) (by kernel_rfl) (by kernel_rfl))
          clear hF hd
          simp only [comes]
          go_simp
          refine ((HV.out.RU.out _ (by repeat (first | exact Ext.refl _ | assumption | apply Ext.plus_ | apply Ext.alloc | apply Ext.drew)))).mono ?_
          rintro e w' ⟨rfl, hE⟩
          first | exact ⟨_, rfl, hE, rfl⟩ | exact ⟨_, rfl, hE⟩ | exact ⟨rfl, hE⟩ | exact ⟨_, hE⟩ | exact hE
      with_reducible refine xOps_cons ?_ ?_
      · with_reducible refine xop_on 5 20 5 2 ?_ ?_ ?_ ?_ ?_ ?_ ?_
        · rfl
        · kernel_rfl
        · kernel_rfl
        · rw [hsz]; rfl
        · kernel_rfl
        · kernel_rfl
        · intro vs x F hF hd
          have e0 : F.tmps.getD 22 undef = .int .i64 uv := (hF.v 22 7 (by kernel_rfl) (by rw [hsz]; rfl)).trans (dep_at hd 0 7 (is (.int .i64 uv)) (by kernel_rfl) (by kernel_rfl))
          have e1 : F.tmps.getD 24 undef = .int .i64 uv := (hF.v 24 9 (by kernel_rfl) (by rw [hsz]; rfl)).trans (dep_at hd 1 9 (is (.int .i64 uv)) (by kernel_rfl) (by kernel_rfl))
          clear hF hd
          simp only [comes]
          go_simp
          first | exact ⟨Ext.refl _, rfl⟩ | exact Ext.refl _
      with_reducible refine xOps_cons ?_ ?_
      · with_reducible refine xop_un ?_ ?_
        · rfl
        · intro vs x F hF hd
          have e1 : F.tmps.getD 20 undef = .bool true := (hF.v 20 5 (by kernel_rfl) (by rw [hsz]; rfl)).trans (dep_at hd 0 5 (is (.bool true)) (by kernel_rfl) (by kernel_rfl))
          have e2 : F.tmps.getD 25 undef = .bool true := (hF.v 25 10 (by kernel_rfl) (by rw [hsz]; rfl)).trans (dep_at hd 1 10 (is (.bool true)) (by kernel_rfl) (by kernel_rfl))
          clear hF hd
          simp only [comes]
          go_simp
          first | exact ⟨Ext.refl _, rfl⟩ | exact Ext.refl _
      with_reducible refine xOps_cons ?_ ?_
      · with_reducible refine xop_un ?_ ?_
        · rfl
        · intro vs x F hF hd
          have e1 : F.tmps.getD 26 undef = .bool true := (hF.v 26 11 (by kernel_rfl) (by rw [hsz]; rfl)).trans (dep_at hd 0 11 (is (.bool true)) (by kernel_rfl) (by kernel_rfl))
          clear hF hd
          simp only [comes]
          go_simp
          first | exact ⟨Ext.refl _, rfl⟩ | exact Ext.refl _
      with_reducible refine xOps_cons ?_ ?_
      · with_reducible refine xop_on 12 27 12 0 ?_ ?_ ?_ ?_ ?_ ?_ ?_
        · rfl
        · kernel_rfl
        · kernel_rfl
        · rw [hsz]; rfl
        · kernel_rfl
        · kernel_rfl
        · intro vs x F hF hd
          have e1 : F.tmps.getD 7 undef = .pointer (some ⟨M, 0, none⟩) := (hF.a 7 (by kernel_rfl) (by rw [hsz]; rfl)).trans hA7
          exact comes_load_box 27 (.tmp 7) rfl (HM.out.ext (by repeat (first | exact Ext.refl _ | assumption | apply Ext.plus_ | apply Ext.alloc | apply Ext.drew))) e1 Try.underlying27 rfl (by kernel_rfl)
      with_reducible refine xOps_cons ?_ ?_
      · with_reducible refine xop_on 12 27 12 2 ?_ ?_ ?_ ?_ ?_ ?_ ?_
        · rfl
        · kernel_rfl
        · kernel_rfl
        · rw [hsz]; rfl
        · kernel_rfl
        · kernel_rfl
        · intro vs x F hF hd
          have e28 : F.tmps.getD 28 undef = cv g := (hF.v 28 13 (by kernel_rfl) (by rw [hsz]; rfl)).trans (dep_at hd 0 13 (is (cv g)) (by kernel_rfl) (by kernel_rfl))
          clear hF hd
          simp only [comes]
          go_simp
          refine ((HV.out.B.out _ (by repeat (first | exact Ext.refl _ | assumption | apply Ext.plus_ | apply Ext.alloc | apply Ext.drew)))).mono ?_
          rintro e w' ⟨rfl, hE⟩
          first | exact ⟨_, rfl, hE, rfl⟩ | exact ⟨_, rfl, hE⟩ | exact ⟨rfl, hE⟩ | exact ⟨_, hE⟩ | exact hE
      with_reducible refine xOps_cons ?_ ?_
      · with_reducible refine xop_on 12 27 12 0 ?_ ?_ ?_ ?_ ?_ ?_ ?_
        · rfl
        · kernel_rfl
        · kernel_rfl
        · rw [hsz]; rfl
        · kernel_rfl
        · kernel_rfl
        · intro vs x F hF hd
          have e1 : F.tmps.getD 7 undef = .pointer (some ⟨M, 0, none⟩) := (hF.a 7 (by kernel_rfl) (by rw [hsz]; rfl)).trans hA7
          exact comes_load_box 27 (.tmp 7) rfl (HM.out.ext (by repeat (first | exact Ext.refl _ | assumption | apply Ext.plus_ | apply Ext.alloc | apply Ext.drew))) e1 Try.underlying27 rfl (by kernel_rfl)
      with_reducible refine xOps_cons ?_ ?_
      · with_reducible refine xop_on 12 27 12 2 ?_ ?_ ?_ ?_ ?_ ?_ ?_
        · rfl
        · kernel_rfl
        · kernel_rfl
        · rw [hsz]; rfl
        · kernel_rfl
        · kernel_rfl
        · intro vs x F hF hd
          have e30 : F.tmps.getD 30 undef = cv g := (hF.v 30 15 (by kernel_rfl) (by rw [hsz]; rfl)).trans (dep_at hd 0 15 (is (cv g)) (by kernel_rfl) (by kernel_rfl))
          clear hF hd
          simp only [comes]
          go_simp
          refine ((HV.out.RB.out _ (by repeat (first | exact Ext.refl _ | assumption | apply Ext.plus_ | apply Ext.alloc | apply Ext.drew)))).mono ?_
          rintro e w' ⟨rfl, hE⟩
          first | exact ⟨_, rfl, hE, rfl⟩ | exact ⟨_, rfl, hE⟩ | exact ⟨rfl, hE⟩ | exact ⟨_, hE⟩ | exact hE
      with_reducible refine xOps_cons ?_ ?_
      · with_reducible refine xop_on 12 27 12 2 ?_ ?_ ?_ ?_ ?_ ?_ ?_
        · rfl
        · kernel_rfl
        · kernel_rfl
        · rw [hsz]; rfl
        · kernel_rfl
        · kernel_rfl
        · intro vs x F hF hd
          have e0 : F.tmps.getD 29 undef = .agg #[.int .i64 x1, .int .i64 x2, .int .i64 x3] := (hF.v 29 14 (by kernel_rfl) (by rw [hsz]; rfl)).trans (dep_at hd 0 14 (is (.agg #[.int .i64 x1, .int .i64 x2, .int .i64 x3])) (by kernel_rfl) (by kernel_rfl))
          have e1 : F.tmps.getD 31 undef = .agg #[.int .i64 x1, .int .i64 x2, .int .i64 x3] := (hF.v 31 16 (by kernel_rfl) (by rw [hsz]; rfl)).trans (dep_at hd 1 16 (is (.agg #[.int .i64 x1, .int .i64 x2, .int .i64 x3])) (by kernel_rfl) (by kernel_rfl))
          clear hF hd
          simp only [comes]
          go_simp
          first | exact ⟨Ext.refl _, rfl⟩ | exact Ext.refl _
      with_reducible refine xOps_cons ?_ ?_
      · with_reducible refine xop_un ?_ ?_
        · rfl
        · intro vs x F hF hd
          have e1 : F.tmps.getD 27 undef = .bool true := (hF.v 27 12 (by kernel_rfl) (by rw [hsz]; rfl)).trans (dep_at hd 0 12 (is (.bool true)) (by kernel_rfl) (by kernel_rfl))
          have e2 : F.tmps.getD 32 undef = .bool true := (hF.v 32 17 (by kernel_rfl) (by rw [hsz]; rfl)).trans (dep_at hd 1 17 (is (.bool true)) (by kernel_rfl) (by kernel_rfl))
          clear hF hd
          simp only [comes]
          go_simp
          first | exact ⟨Ext.refl _, rfl⟩ | exact Ext.refl _
      with_reducible refine xOps_cons ?_ ?_
      · with_reducible refine xop_un ?_ ?_
        · rfl
        · intro vs x F hF hd
          have e1 : F.tmps.getD 33 undef = .bool true := (hF.v 33 18 (by kernel_rfl) (by rw [hsz]; rfl)).trans (dep_at hd 0 18 (is (.bool true)) (by kernel_rfl) (by kernel_rfl))
          clear hF hd
          simp only [comes]
          go_simp
          first | exact ⟨Ext.refl _, rfl⟩ | exact Ext.refl _
      with_reducible refine xOps_cons ?_ ?_
      · with_reducible refine xop_on 19 34 19 1 ?_ ?_ ?_ ?_ ?_ ?_ ?_
        · rfl
        · kernel_rfl
        · kernel_rfl
        · rw [hsz]; rfl
        · kernel_rfl
        · kernel_rfl
        · intro vs x F hF hd
          clear hF hd
          simp only [comes]
          go_simp
          refine ((awake_any _)).mono ?_
          rintro e w' ⟨rfl, hE⟩
          first | exact ⟨_, rfl, hE, rfl⟩ | exact ⟨_, rfl, hE⟩ | exact ⟨rfl, hE⟩ | exact ⟨_, hE⟩ | exact hE
      with_reducible refine xOps_cons ?_ ?_
      · with_reducible refine xop_un ?_ ?_
        · rfl
        · intro vs x F hF hd
          have e1 : F.tmps.getD 34 undef = .bool true := (hF.v 34 19 (by kernel_rfl) (by rw [hsz]; rfl)).trans (dep_at hd 0 19 (is (.bool true)) (by kernel_rfl) (by kernel_rfl))
          have e2 : F.tmps.getD 35 undef = .bool true := (hF.v 35 20 (by kernel_rfl) (by rw [hsz]; rfl)).trans (dep_at hd 1 20 (is (.bool true)) (by kernel_rfl) (by kernel_rfl))
          clear hF hd
          simp only [comes]
          go_simp
          first | exact ⟨Ext.refl _, rfl⟩ | exact Ext.refl _
      exact xOps_nil
    case hst => exact ⟨is.st _, is.st _, is.st _, is.st _, is.st _, is.st _, is.st _, is.st _, is.st _, is.st _, is.st _, is.st _, is.st _, is.st _, is.st _, is.st _, is.st _, is.st _, is.st _, is.st _, is.st _, is.st _, trivial⟩
    case hfin =>
      intro vs x hf
      have f21 : vs 21 = .bool true := hf.2.2.2.2.2.2.2.2.2.2.2.2.2.2.2.2.2.2.2.2.2.1
      clear hf
      have hA0 := HA0.out
      subst hA0
      clear hsz hA7
      simp only [List.take_succ_cons, List.take_zero, List.drop_succ_cons, List.drop_zero, putAll, Act.put, List.setIfInBounds_toArray, List.set_cons_succ, List.set_cons_zero, Nat.zero_add, Nat.reduceAdd]
      clear HA0
      rw [f21]
      clear f21
      go_wp2
      go_ret
      exact ⟨rfl, HE.out.trans (by repeat (first | exact Ext.refl _ | assumption | apply Ext.plus_ | apply Ext.alloc | apply Ext.drew))⟩
  · go_upto_region 4 with fail
    refine wp_at fun Y hY => ?_
    rw [← hY] at HM HE1
    obtain ⟨z, hv, uv, x1, x2, x3, hO⟩ := (H0.out.lift HE1.out).overs
    have HV := Lib.hid hO
    have HE := Lib.hid HE1.out
    clear hY hO HE1 H0
    refine act_at fun A0 hA0 => ?_
    have hsz : A0.tmps.size = 37 := by
      rw [hA0]
      rfl
    have hA7 : A0.tmps.getD 7 undef = .pointer (some ⟨M, 0, none⟩) := by
      rw [hA0]
      rfl
    have HA0 := Lib.hid hA0
    clear hA0
    apply wp_region_ext 22 [is (cv c0), is (.int .i64 hv), is (cv c0), is (.int .i64 hv), is (.bool true), is (.bool true), is (cv c0), is (.int .i64 uv), is (cv c0), is (.int .i64 uv), is (.bool true), is (.bool true), is (.bool true), is (cv c0), is (.agg #[.int .i64 x1, .int .i64 x2, .int .i64 x3]), is (cv c0), is (.agg #[.int .i64 x1, .int .i64 x2, .int .i64 x3]), is (.bool true), is (.bool true), is (.bool true), is (.bool true), is (.bool true)] (by kernel_rfl) (by kernel_rfl) rfl
    case hops =>
      simp only [List.take_succ_cons, List.take_zero]
      with_reducible refine xOps_cons ?_ ?_
      · with_reducible refine xop_un ?_ ?_
        · rfl
        · intro vs x F hF hd
          have e1 : F.tmps.getD 7 undef = .pointer (some ⟨M, 0, none⟩) := (hF.a 7 (by kernel_rfl) (by rw [hsz]; rfl)).trans hA7
          exact comes_load_box 27 (.tmp 7) rfl (HM.out.ext (by repeat (first | exact Ext.refl _ | assumption | apply Ext.plus_ | apply Ext.alloc | apply Ext.drew))) e1 Try.underlying27 rfl (by kernel_rfl)
      with_reducible refine xOps_cons ?_ ?_
      · with_reducible refine xop_un ?_ ?_
        · rfl
        · intro vs x F hF hd
          have e15 : F.tmps.getD 15 undef = cv c0 := (hF.v 15 0 (by kernel_rfl) (by rw [hsz]; rfl)).trans (dep_at hd 0 0 (is (cv c0)) (by kernel_rfl) (by kernel_rfl))
          clear hF hd
          simp only [comes]
          go_simp
          refine ((HV.out.H.out _ (by repeat (first | exact Ext.refl _ | assumption | apply Ext.plus_ | apply Ext.alloc | apply Ext.drew)))).mono ?_
          rintro e w' ⟨rfl, hE⟩
          first | exact ⟨_, rfl, hE, rfl⟩ | exact ⟨_, rfl, hE⟩ | exact ⟨rfl, hE⟩ | exact ⟨_, hE⟩ | exact hE
      with_reducible refine xOps_cons ?_ ?_
      · with_reducible refine xop_un ?_ ?_
        · rfl
        · intro vs x F hF hd
          have e1 : F.tmps.getD 7 undef = .pointer (some ⟨M, 0, none⟩) := (hF.a 7 (by kernel_rfl) (by rw [hsz]; rfl)).trans hA7
          exact comes_load_box 27 (.tmp 7) rfl (HM.out.ext (by repeat (first | exact Ext.refl _ | assumption | apply Ext.plus_ | apply Ext.alloc | apply Ext.drew))) e1 Try.underlying27 rfl (by kernel_rfl)
      with_reducible refine xOps_cons ?_ ?_
      · with_reducible refine xop_un ?_ ?_
        · rfl
        · intro vs x F hF hd
          have e17 : F.tmps.getD 17 undef = cv c0 := (hF.v 17 2 (by kernel_rfl) (by rw [hsz]; rfl)).trans (dep_at hd 0 2 (is (cv c0)) (by kernel_rfl) (by kernel_rfl))
          clear hF hd
          simp only [comes]
          go_simp
          refine ((HV.out.RH.out _ (by repeat (first | exact Ext.refl _ | assumption | apply Ext.plus_ | apply Ext.alloc | apply Ext.drew)))).mono ?_
          rintro e w' ⟨rfl, hE⟩
          first | exact ⟨_, rfl, hE, rfl⟩ | exact ⟨_, rfl, hE⟩ | exact ⟨rfl, hE⟩ | exact ⟨_, hE⟩ | exact hE
      with_reducible refine xOps_cons ?_ ?_
      · with_reducible refine xop_un ?_ ?_
        · rfl
        · intro vs x F hF hd
          have e0 : F.tmps.getD 16 undef = .int .i64 hv := (hF.v 16 1 (by kernel_rfl) (by rw [hsz]; rfl)).trans (dep_at hd 0 1 (is (.int .i64 hv)) (by kernel_rfl) (by kernel_rfl))
          have e1 : F.tmps.getD 18 undef = .int .i64 hv := (hF.v 18 3 (by kernel_rfl) (by rw [hsz]; rfl)).trans (dep_at hd 1 3 (is (.int .i64 hv)) (by kernel_rfl) (by kernel_rfl))
          clear hF hd
          simp only [comes]
          go_simp
          first | exact ⟨Ext.refl _, rfl⟩ | exact Ext.refl _
      with_reducible refine xOps_cons ?_ ?_
      · with_reducible refine xop_un ?_ ?_
        · rfl
        · intro vs x F hF hd
          have e1 : F.tmps.getD 19 undef = .bool true := (hF.v 19 4 (by kernel_rfl) (by rw [hsz]; rfl)).trans (dep_at hd 0 4 (is (.bool true)) (by kernel_rfl) (by kernel_rfl))
          clear hF hd
          simp only [comes]
          go_simp
          first | exact ⟨Ext.refl _, rfl⟩ | exact Ext.refl _
      with_reducible refine xOps_cons ?_ ?_
      · with_reducible refine xop_on 5 20 5 0 ?_ ?_ ?_ ?_ ?_ ?_ ?_
        · rfl
        · kernel_rfl
        · kernel_rfl
        · rw [hsz]; rfl
        · kernel_rfl
        · kernel_rfl
        · intro vs x F hF hd
          have e1 : F.tmps.getD 7 undef = .pointer (some ⟨M, 0, none⟩) := (hF.a 7 (by kernel_rfl) (by rw [hsz]; rfl)).trans hA7
          exact comes_load_box 27 (.tmp 7) rfl (HM.out.ext (by repeat (first | exact Ext.refl _ | assumption | apply Ext.plus_ | apply Ext.alloc | apply Ext.drew))) e1 Try.underlying27 rfl (by kernel_rfl)
      with_reducible refine xOps_cons ?_ ?_
      · with_reducible refine xop_on 5 20 5 2 ?_ ?_ ?_ ?_ ?_ ?_ ?_
        · rfl
        · kernel_rfl
        · kernel_rfl
        · rw [hsz]; rfl
        · kernel_rfl
        · kernel_rfl
        · intro vs x F hF hd
          have e21 : F.tmps.getD 21 undef = cv c0 := (hF.v 21 6 (by kernel_rfl) (by rw [hsz]; rfl)).trans (dep_at hd 0 6 (is (cv c0)) (by kernel_rfl) (by kernel_rfl))
          clear hF hd
          simp only [comes]
          go_simp
          refine ((HV.out.U.out _ (by repeat (first | exact Ext.refl _ | assumption | apply Ext.plus_ | apply Ext.alloc | apply Ext.drew)))).mono ?_
          rintro e w' ⟨rfl, hE⟩
          first | exact ⟨_, rfl, hE, rfl⟩ | exact ⟨_, rfl, hE⟩ | exact ⟨rfl, hE⟩ | exact ⟨_, hE⟩ | exact hE
      with_reducible refine xOps_cons ?_ ?_
      · with_reducible refine xop_on 5 20 5 0 ?_ ?_ ?_ ?_ ?_ ?_ ?_
        · rfl
        · kernel_rfl
        · kernel_rfl
        · rw [hsz]; rfl
        · kernel_rfl
        · kernel_rfl
        · intro vs x F hF hd
          have e1 : F.tmps.getD 7 undef = .pointer (some ⟨M, 0, none⟩) := (hF.a 7 (by kernel_rfl) (by rw [hsz]; rfl)).trans hA7
          exact comes_load_box 27 (.tmp 7) rfl (HM.out.ext (by repeat (first | exact Ext.refl _ | assumption | apply Ext.plus_ | apply Ext.alloc | apply Ext.drew))) e1 Try.underlying27 rfl (by kernel_rfl)
      with_reducible refine xOps_cons ?_ ?_
      · with_reducible refine xop_on 5 20 5 2 ?_ ?_ ?_ ?_ ?_ ?_ ?_
        · rfl
        · kernel_rfl
        · kernel_rfl
        · rw [hsz]; rfl
        · kernel_rfl
        · kernel_rfl
        · intro vs x F hF hd
          have e23 : F.tmps.getD 23 undef = cv c0 := (hF.v 23 8 (by kernel_rfl) (by rw [hsz]; rfl)).trans (dep_at hd 0 8 (is (cv c0)) (by kernel_rfl) (by kernel_rfl))
          clear hF hd
          simp only [comes]
          go_simp
          refine ((HV.out.RU.out _ (by repeat (first | exact Ext.refl _ | assumption | apply Ext.plus_ | apply Ext.alloc | apply Ext.drew)))).mono ?_
          rintro e w' ⟨rfl, hE⟩
          first | exact ⟨_, rfl, hE, rfl⟩ | exact ⟨_, rfl, hE⟩ | exact ⟨rfl, hE⟩ | exact ⟨_, hE⟩ | exact hE
      with_reducible refine xOps_cons ?_ ?_
      · with_reducible refine xop_on 5 20 5 2 ?_ ?_ ?_ ?_ ?_ ?_ ?_
        · rfl
        · kernel_rfl
        · kernel_rfl
        · rw [hsz]; rfl
        · kernel_rfl
        · kernel_rfl
        · intro vs x F hF hd
          have e0 : F.tmps.getD 22 undef = .int .i64 uv := (hF.v 22 7 (by kernel_rfl) (by rw [hsz]; rfl)).trans (dep_at hd 0 7 (is (.int .i64 uv)) (by kernel_rfl) (by kernel_rfl))
          have e1 : F.tmps.getD 24 undef = .int .i64 uv := (hF.v 24 9 (by kernel_rfl) (by rw [hsz]; rfl)).trans (dep_at hd 1 9 (is (.int .i64 uv)) (by kernel_rfl) (by kernel_rfl))
          clear hF hd
          simp only [comes]
          go_simp
          first | exact ⟨Ext.refl _, rfl⟩ | exact Ext.refl _
      with_reducible refine xOps_cons ?_ ?_
      · with_reducible refine xop_un ?_ ?_
        · rfl
        · intro vs x F hF hd
          have e1 : F.tmps.getD 20 undef = .bool true := (hF.v 20 5 (by kernel_rfl) (by rw [hsz]; rfl)).trans (dep_at hd 0 5 (is (.bool true)) (by kernel_rfl) (by kernel_rfl))
          have e2 : F.tmps.getD 25 undef = .bool true := (hF.v 25 10 (by kernel_rfl) (by rw [hsz]; rfl)).trans (dep_at hd 1 10 (is (.bool true)) (by kernel_rfl) (by kernel_rfl))
          clear hF hd
          simp only [comes]
          go_simp
          first | exact ⟨Ext.refl _, rfl⟩ | exact Ext.refl _
      with_reducible refine xOps_cons ?_ ?_
      · with_reducible refine xop_un ?_ ?_
        · rfl
        · intro vs x F hF hd
          have e1 : F.tmps.getD 26 undef = .bool true := (hF.v 26 11 (by kernel_rfl) (by rw [hsz]; rfl)).trans (dep_at hd 0 11 (is (.bool true)) (by kernel_rfl) (by kernel_rfl))
          clear hF hd
          simp only [comes]
          go_simp
          first | exact ⟨Ext.refl _, rfl⟩ | exact Ext.refl _
      with_reducible refine xOps_cons ?_ ?_
      · with_reducible refine xop_on 12 27 12 0 ?_ ?_ ?_ ?_ ?_ ?_ ?_
        · rfl
        · kernel_rfl
        · kernel_rfl
        · rw [hsz]; rfl
        · kernel_rfl
        · kernel_rfl
        · intro vs x F hF hd
          have e1 : F.tmps.getD 7 undef = .pointer (some ⟨M, 0, none⟩) := (hF.a 7 (by kernel_rfl) (by rw [hsz]; rfl)).trans hA7
          exact comes_load_box 27 (.tmp 7) rfl (HM.out.ext (by repeat (first | exact Ext.refl _ | assumption | apply Ext.plus_ | apply Ext.alloc | apply Ext.drew))) e1 Try.underlying27 rfl (by kernel_rfl)
      with_reducible refine xOps_cons ?_ ?_
      · with_reducible refine xop_on 12 27 12 2 ?_ ?_ ?_ ?_ ?_ ?_ ?_
        · rfl
        · kernel_rfl
        · kernel_rfl
        · rw [hsz]; rfl
        · kernel_rfl
        · kernel_rfl
        · intro vs x F hF hd
          have e28 : F.tmps.getD 28 undef = cv c0 := (hF.v 28 13 (by kernel_rfl) (by rw [hsz]; rfl)).trans (dep_at hd 0 13 (is (cv c0)) (by kernel_rfl) (by kernel_rfl))
          clear hF hd
          simp only [comes]
          go_simp
          refine ((HV.out.B.out _ (by repeat (first | exact Ext.refl _ | assumption | apply Ext.plus_ | apply Ext.alloc | apply Ext.drew)))).mono ?_
          rintro e w' ⟨rfl, hE⟩
          first | exact ⟨_, rfl, hE, rfl⟩ | exact ⟨_, rfl, hE⟩ | exact ⟨rfl, hE⟩ | exact ⟨_, hE⟩ | exact hE
      with_reducible refine xOps_cons ?_ ?_
      · with_reducible refine xop_on 12 27 12 0 ?_ ?_ ?_ ?_ ?_ ?_ ?_
        · rfl
        · kernel_rfl
        · kernel_rfl
        · rw [hsz]; rfl
        · kernel_rfl
        · kernel_rfl
        · intro vs x F hF hd
          have e1 : F.tmps.getD 7 undef = .pointer (some ⟨M, 0, none⟩) := (hF.a 7 (by kernel_rfl) (by rw [hsz]; rfl)).trans hA7
          exact comes_load_box 27 (.tmp 7) rfl (HM.out.ext (by repeat (first | exact Ext.refl _ | assumption | apply Ext.plus_ | apply Ext.alloc | apply Ext.drew))) e1 Try.underlying27 rfl (by kernel_rfl)
      with_reducible refine xOps_cons ?_ ?_
      · with_reducible refine xop_on 12 27 12 2 ?_ ?_ ?_ ?_ ?_ ?_ ?_
        · rfl
        · kernel_rfl
        · kernel_rfl
        · rw [hsz]; rfl
        · kernel_rfl
        · kernel_rfl
        · intro vs x F hF hd
          have e30 : F.tmps.getD 30 undef = cv c0 := (hF.v 30 15 (by kernel_rfl) (by rw [hsz]; rfl)).trans (dep_at hd 0 15 (is (cv c0)) (by kernel_rfl) (by kernel_rfl))
          clear hF hd
          simp only [comes]
          go_simp
          refine ((HV.out.RB.out _ (by repeat (first | exact Ext.refl _ | assumption | apply Ext.plus_ | apply Ext.alloc | apply Ext.drew)))).mono ?_
          rintro e w' ⟨rfl, hE⟩
          first | exact ⟨_, rfl, hE, rfl⟩ | exact ⟨_, rfl, hE⟩ | exact ⟨rfl, hE⟩ | exact ⟨_, hE⟩ | exact hE
      with_reducible refine xOps_cons ?_ ?_
      · with_reducible refine xop_on 12 27 12 2 ?_ ?_ ?_ ?_ ?_ ?_ ?_
        · rfl
        · kernel_rfl
        · kernel_rfl
        · rw [hsz]; rfl
        · kernel_rfl
        · kernel_rfl
        · intro vs x F hF hd
          have e0 : F.tmps.getD 29 undef = .agg #[.int .i64 x1, .int .i64 x2, .int .i64 x3] := (hF.v 29 14 (by kernel_rfl) (by rw [hsz]; rfl)).trans (dep_at hd 0 14 (is (.agg #[.int .i64 x1, .int .i64 x2, .int .i64 x3])) (by kernel_rfl) (by kernel_rfl))
          have e1 : F.tmps.getD 31 undef = .agg #[.int .i64 x1, .int .i64 x2, .int .i64 x3] := (hF.v 31 16 (by kernel_rfl) (by rw [hsz]; rfl)).trans (dep_at hd 1 16 (is (.agg #[.int .i64 x1, .int .i64 x2, .int .i64 x3])) (by kernel_rfl) (by kernel_rfl))
          clear hF hd
          simp only [comes]
          go_simp
          first | exact ⟨Ext.refl _, rfl⟩ | exact Ext.refl _
      with_reducible refine xOps_cons ?_ ?_
      · with_reducible refine xop_un ?_ ?_
        · rfl
        · intro vs x F hF hd
          have e1 : F.tmps.getD 27 undef = .bool true := (hF.v 27 12 (by kernel_rfl) (by rw [hsz]; rfl)).trans (dep_at hd 0 12 (is (.bool true)) (by kernel_rfl) (by kernel_rfl))
          have e2 : F.tmps.getD 32 undef = .bool true := (hF.v 32 17 (by kernel_rfl) (by rw [hsz]; rfl)).trans (dep_at hd 1 17 (is (.bool true)) (by kernel_rfl) (by kernel_rfl))
          clear hF hd
          simp only [comes]
          go_simp
          first | exact ⟨Ext.refl _, rfl⟩ | exact Ext.refl _
      with_reducible refine xOps_cons ?_ ?_
      · with_reducible refine xop_un ?_ ?_
        · rfl
        · intro vs x F hF hd
          have e1 : F.tmps.getD 33 undef = .bool true := (hF.v 33 18 (by kernel_rfl) (by rw [hsz]; rfl)).trans (dep_at hd 0 18 (is (.bool true)) (by kernel_rfl) (by kernel_rfl))
          clear hF hd
          simp only [comes]
          go_simp
          first | exact ⟨Ext.refl _, rfl⟩ | exact Ext.refl _
      with_reducible refine xOps_cons ?_ ?_
      · with_reducible refine xop_on 19 34 19 1 ?_ ?_ ?_ ?_ ?_ ?_ ?_
        · rfl
        · kernel_rfl
        · kernel_rfl
        · rw [hsz]; rfl
        · kernel_rfl
        · kernel_rfl
        · intro vs x F hF hd
          clear hF hd
          simp only [comes]
          go_simp
          refine ((awake_any _)).mono ?_
          rintro e w' ⟨rfl, hE⟩
          first | exact ⟨_, rfl, hE, rfl⟩ | exact ⟨_, rfl, hE⟩ | exact ⟨rfl, hE⟩ | exact ⟨_, hE⟩ | exact hE
      with_reducible refine xOps_cons ?_ ?_
      · with_reducible refine xop_un ?_ ?_
        · rfl
        · intro vs x F hF hd
          have e1 : F.tmps.getD 34 undef = .bool true := (hF.v 34 19 (by kernel_rfl) (by rw [hsz]; rfl)).trans (dep_at hd 0 19 (is (.bool true)) (by kernel_rfl) (by kernel_rfl))
          have e2 : F.tmps.getD 35 undef = .bool true := (hF.v 35 20 (by kernel_rfl) (by rw [hsz]; rfl)).trans (dep_at hd 1 20 (is (.bool true)) (by kernel_rfl) (by kernel_rfl))
          clear hF hd
          simp only [comes]
          go_simp
          first | exact ⟨Ext.refl _, rfl⟩ | exact Ext.refl _
      exact xOps_nil
    case hst => exact ⟨is.st _, is.st _, is.st _, is.st _, is.st _, is.st _, is.st _, is.st _, is.st _, is.st _, is.st _, is.st _, is.st _, is.st _, is.st _, is.st _, is.st _, is.st _, is.st _, is.st _, is.st _, is.st _, trivial⟩
    case hfin =>
      intro vs x hf
      have f21 : vs 21 = .bool true := hf.2.2.2.2.2.2.2.2.2.2.2.2.2.2.2.2.2.2.2.2.2.1
      clear hf
      have hA0 := HA0.out
      subst hA0
      clear hsz hA7
      simp only [List.take_succ_cons, List.take_zero, List.drop_succ_cons, List.drop_zero, putAll, Act.put, List.setIfInBounds_toArray, List.set_cons_succ, List.set_cons_zero, Nat.zero_add, Nat.reduceAdd]
      clear HA0
      rw [f21]
      clear f21
      go_wp2
      go_ret
      exact ⟨rfl, HE.out.trans (by repeat (first | exact Ext.refl _ | assumption | apply Ext.plus_ | apply Ext.alloc | apply Ext.drew))⟩
theorem law_bound (v0 v1 v2 : Value) (w : World) (p0 : ∃ A n c, ∃ l : List Int, v0 = .slice A n c ∧ ArgRow w A n c (l.map (Value.int .i64)) ∧ ∀ x ∈ l, I64 x)
    (p1 : ∃ (c : Cf) (wl : List Int) (ig : List ByteArray), v1 = cv c ∧ CfOK c w wl ig) (p2 : ∃ b, v2 = .bool b) :
    Calls Try.prog 4 #[v0, v1, v2] w fun ee w' => ee = .returned (.bool true) ∧ Ext w w' := by
  obtain ⟨B, k, d, ll, rfl, ⟨hB, hkd, hdm, _⟩, _⟩ := p0
  obtain ⟨c, wl, ig, rfl, hc⟩ := p1
  obtain ⟨b, rfl⟩ := p2
  exact law_bound_core B k d ll c wl ig b w hB (by omega) hc
end Go.Proofs.Ytlcopiepcpangaa
