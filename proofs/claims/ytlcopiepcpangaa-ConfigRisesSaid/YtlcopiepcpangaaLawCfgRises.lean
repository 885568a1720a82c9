/- ConfigRises: the walk. -/
import Derived.Test.YtlcopiepcpangaaCfgA
import Derived.Test.YtlcopiepcpangaaOpenCfg
import Derived.Test.YtlcopiepcpangaaRgD
set_option linter.unusedVariables false
namespace Go.Proofs.Ytlcopiepcpangaa
open Go.RowKit Go.Rg

/-- Greater numbers, greater bounds. -/
theorem bounds_mono {c d : Cf} (hc : CfN c) (hmh : c.mh ≤ d.mh) (hmb : c.mb ≤ d.mb) (hmr : c.mr ≤ d.mr) (hci : c.ci ≤ d.ci) (hco : c.co ≤ d.co) (hcl : c.cl ≤ d.cl) (had : c.ad ≤ d.ad) (hli : c.li ≤ d.li) (hst : c.st ≤ d.st) (hca : c.ca ≤ d.ca) (hsh : c.sh ≤ d.sh) (hte : c.te ≤ d.te) (hrp : c.rp ≤ d.rp) :
    conV c true ≤ conV d true ∧ bytV c true ≤ bytV d true ∧ recV c true ≤ recV d true ∧ 0 < bytV c true := by
  obtain ⟨m0, m1, m2, m3, m4, m5, m6, m7, m8, m9, m10, m11, m12⟩ := hc
  have hh : hardV c true ≤ hardV d true := by
    simp only [hardV, if_true]
    omega
  have hu : upV c true ≤ upV d true := by
    simp only [upV, if_true]
    omega
  have hh0 : 0 ≤ hardV c true := by
    simp only [hardV, if_true]
    omega
  have hu0 : 0 ≤ upV c true := by
    simp only [upV, if_true]
    omega
  simp only [conV, bytV, recV, if_true]
  have e1 : (c.cl + c.ad) * (c.ci + hardV c true + c.mb + c.mr) ≤ (d.cl + d.ad) * (d.ci + hardV d true + d.mb + d.mr) := Int.mul_le_mul (by omega) (by omega) (by omega) (by omega)
  have e2 : c.li * (c.ci + 1000000 + c.mb) ≤ d.li * (d.ci + 1000000 + d.mb) := Int.mul_le_mul (by omega) (by omega) (by omega) (by omega)
  have e3 : (c.st + c.ca) * (c.ci + upV c true) ≤ (d.st + d.ca) * (d.ci + upV d true) := Int.mul_le_mul (by omega) (by omega) (by omega) (by omega)
  have e4 : c.sh * c.ci ≤ d.sh * d.ci := Int.mul_le_mul (by omega) (by omega) (by omega) (by omega)
  have p1 : 0 ≤ (c.cl + c.ad) * (c.ci + hardV c true + c.mb + c.mr) := Int.mul_nonneg (by omega) (by omega)
  have p2 : 0 < c.li * (c.ci + 1000000 + c.mb) := Int.mul_pos (by omega) (by omega)
  have p3 : 0 ≤ (c.st + c.ca) * (c.ci + upV c true) := Int.mul_nonneg (by omega) (by omega)
  have p4 : 0 ≤ c.sh * c.ci := Int.mul_nonneg (by omega) (by omega)
  refine ⟨by omega, by omega, by omega, by omega⟩
theorem Gen.more_mb {c d : Cf} {wl : List Int} {ig : List ByteArray} (h : Gen c wl ig) {n : Int} (h0 : 0 ≤ n) (h1 : n ≤ 49) (e : d = { c with mb := c.mb + n }) : cfB d true ig = true := by
  have k := h.ok
  have g := h.mb
  subst e
  simp only [cfB, szB, cnB, nmB, inn, Bool.and_eq_true, decide_eq_true_eq] at k ⊢
  obtain ⟨⟨k1, ⟨k2, k3⟩, k4, k5, k6, k7⟩, ⟨⟨k8, k9, k10⟩, ⟨k11, k12, k13⟩, k14, k15, k16⟩, k17, k18⟩ := k
  exact ⟨⟨by omega, ⟨by omega, by omega⟩, by omega, by omega, by omega, by omega⟩, ⟨⟨by omega, by omega, by omega⟩, ⟨by omega, by omega, by omega⟩, by omega, by omega, by omega⟩, k17, k18⟩
theorem Gen.more_cl {c d : Cf} {wl : List Int} {ig : List ByteArray} (h : Gen c wl ig) {n : Int} (h0 : 0 ≤ n) (h1 : n ≤ 49) (e : d = { c with cl := c.cl + n }) : cfB d true ig = true := by
  have k := h.ok
  have g := h.cl
  subst e
  simp only [cfB, szB, cnB, nmB, inn, Bool.and_eq_true, decide_eq_true_eq] at k ⊢
  obtain ⟨⟨k1, ⟨k2, k3⟩, k4, k5, k6, k7⟩, ⟨⟨k8, k9, k10⟩, ⟨k11, k12, k13⟩, k14, k15, k16⟩, k17, k18⟩ := k
  exact ⟨⟨by omega, ⟨by omega, by omega⟩, by omega, by omega, by omega, by omega⟩, ⟨⟨by omega, by omega, by omega⟩, ⟨by omega, by omega, by omega⟩, by omega, by omega, by omega⟩, k17, k18⟩
theorem Gen.more_sh {c d : Cf} {wl : List Int} {ig : List ByteArray} (h : Gen c wl ig) {n : Int} (h0 : 0 ≤ n) (h1 : n ≤ 49) (e : d = { c with sh := c.sh + n }) : cfB d true ig = true := by
  have k := h.ok
  have g := h.sh
  subst e
  simp only [cfB, szB, cnB, nmB, inn, Bool.and_eq_true, decide_eq_true_eq] at k ⊢
  obtain ⟨⟨k1, ⟨k2, k3⟩, k4, k5, k6, k7⟩, ⟨⟨k8, k9, k10⟩, ⟨k11, k12, k13⟩, k14, k15, k16⟩, k17, k18⟩ := k
  exact ⟨⟨by omega, ⟨by omega, by omega⟩, by omega, by omega, by omega, by omega⟩, ⟨⟨by omega, by omega, by omega⟩, ⟨by omega, by omega, by omega⟩, by omega, by omega, by omega⟩, k17, k18⟩
theorem Gen.more_te {c d : Cf} {wl : List Int} {ig : List ByteArray} (h : Gen c wl ig) {n : Int} (h0 : 0 ≤ n) (h1 : n ≤ 49) (e : d = { c with te := c.te + n }) : cfB d true ig = true := by
  have k := h.ok
  have g := h.te
  subst e
  simp only [cfB, szB, cnB, nmB, inn, Bool.and_eq_true, decide_eq_true_eq] at k ⊢
  obtain ⟨⟨k1, ⟨k2, k3⟩, k4, k5, k6, k7⟩, ⟨⟨k8, k9, k10⟩, ⟨k11, k12, k13⟩, k14, k15, k16⟩, k17, k18⟩ := k
  exact ⟨⟨by omega, ⟨by omega, by omega⟩, by omega, by omega, by omega, by omega⟩, ⟨⟨by omega, by omega, by omega⟩, ⟨by omega, by omega, by omega⟩, by omega, by omega, by omega⟩, k17, k18⟩
theorem Gen.more_co {c d : Cf} {wl : List Int} {ig : List ByteArray} (h : Gen c wl ig) {n : Int} (h0 : 0 ≤ n) (h1 : n ≤ 49) (e : d = { c with co := c.co + n }) : cfB d true ig = true := by
  have k := h.ok
  have g := h.co
  subst e
  simp only [cfB, szB, cnB, nmB, inn, Bool.and_eq_true, decide_eq_true_eq] at k ⊢
  obtain ⟨⟨k1, ⟨k2, k3⟩, k4, k5, k6, k7⟩, ⟨⟨k8, k9, k10⟩, ⟨k11, k12, k13⟩, k14, k15, k16⟩, k17, k18⟩ := k
  exact ⟨⟨by omega, ⟨by omega, by omega⟩, by omega, by omega, by omega, by omega⟩, ⟨⟨by omega, by omega, by omega⟩, ⟨by omega, by omega, by omega⟩, by omega, by omega, by omega⟩, k17, k18⟩
theorem Gen.more_rp {c d : Cf} {wl : List Int} {ig : List ByteArray} (h : Gen c wl ig) {n : Int} (h0 : 0 ≤ n) (h1 : n ≤ 49) (e : d = { c with rp := c.rp + n }) : cfB d true ig = true := by
  have k := h.ok
  have g := h.rp
  subst e
  simp only [cfB, szB, cnB, nmB, inn, Bool.and_eq_true, decide_eq_true_eq] at k ⊢
  obtain ⟨⟨k1, ⟨k2, k3⟩, k4, k5, k6, k7⟩, ⟨⟨k8, k9, k10⟩, ⟨k11, k12, k13⟩, k14, k15, k16⟩, k17, k18⟩ := k
  exact ⟨⟨by omega, ⟨by omega, by omega⟩, by omega, by omega, by omega, by omega⟩, ⟨⟨by omega, by omega, by omega⟩, ⟨by omega, by omega, by omega⟩, by omega, by omega, by omega⟩, k17, k18⟩
theorem Gen.overB {c : Cf} {wl : List Int} {ig : List ByteArray} {w : World} (hpl : PlanOK wl c.mi c.nu c.de c.ho c.wi) (h : cfB c true ig = true) (k : CfOK c w wl ig) : Over 15 c w (bv c true) := by
  have := (k.overs_ true (tt_iff hpl)).B
  rw [h] at this
  exact this
set_option maxRecDepth 100000 in
set_option maxHeartbeats 8000000 in
theorem rises_0 (B : Option Addr) (k d0 : Nat) (ll : List Int) (at_ more : Int) (w : World) (hB : Row w w.heap.size 1 B k (ints ll)) (hk : k ≤ 9223372036854775807) (hat : at_ % 6 = 0) :
    Calls Try.prog 5 #[.slice B k d0, .int .i64 at_, .int .i64 more] w fun e w' => e = .returned (.bool true) ∧ Ext w w' := by
  have CW := Lib.hid (fun w => within_any at_ 6 w (by decide) (by decide))
  rw [hat] at CW
  have CM := Lib.hid (fun w => within_any more 50 w (by decide) (by decide))
  obtain ⟨mo, hmo⟩ : ∃ mo, mo = more % 50 := ⟨_, rfl⟩
  rw [← hmo] at CM
  have hm0 : 0 ≤ mo := by omega
  have hm1 : mo ≤ 49 := by omega
  have HM := Lib.hid (And.intro hm0 hm1)
  clear hmo hat hm0 hm1
  go_enter Try.func5, Try.ntmps5
  go_wp2_with fail
  refine calls_at fun X0 hX => ?_
  obtain ⟨s, hs⟩ : ∃ s, s = w.heap.size := ⟨_, rfl⟩
  have hS : SSt X0 X0 s B k d0 ll := by
    rw [hX, hs]
    exact src_new hB (by repeat (first | exact Ext.refl _ | assumption | apply Ext.plus_ | apply Ext.alloc | apply Ext.drew)) hk
  have hE0 : Ext w X0 := by
    rw [hX]
    repeat' (first | with_reducible assumption | with_reducible exact Ext.refl _ | with_reducible apply Ext.alloc | with_reducible apply Ext.drew | with_reducible apply Ext.drewN | with_reducible apply Ext.plus_ | with_reducible refine Ext.put ?_ (by omega))
  rw [← hs]
  have hsw : w.heap.size ≤ s := by omega
  clear hX hs
  refine (srcConfig_any s B k d0 ll X0 hS).mono ?_
  rintro e X1 ⟨g, wl, ig, rfl, hg, hok, hss, -, -⟩
  have hE1 : Ext w X1 := ext_se hE0 hss.se hsw
  have H1 := Lib.hid (And.intro hE1 hok)
  have HG := Lib.hid hg
  clear hE1 hok hss hE0 hS hsw hg X0
  go_wp2_with (with_reducible show wpList _ _ _ (⟨none, _, _, _, _, _⟩ :: _) _ _; refine Lock.out ?_)
  refine ⟨?_, trivial⟩
  refine wl_at fun V hV => ?_
  obtain ⟨P, hP⟩ : ∃ P, P = X1.heap.size := ⟨_, rfl⟩
  have hB0 : Box 0 (.int .i64 0 :: zcells) P V := by
    rw [hV, hP]
    repeat' (first | with_reducible assumption | ((with_reducible refine Box.fresh ?fb ?fn ?fr); (case fb => first | omega | (simp <;> omega)); (case fn => first | omega | (simp <;> omega)); (case fr => rfl)) | with_reducible apply Box.up | with_reducible apply Box.drew_ | with_reducible apply Box.drewN_ | with_reducible apply Box.plus_ | with_reducible apply Box.put | with_reducible refine Box.off ?_ (by omega))
    all_goals first | rfl | (simp; done)
  have hE1 : Ext X1 V := by
    rw [hV]
    repeat' (first | with_reducible assumption | with_reducible exact Ext.refl _ | with_reducible apply Ext.alloc | with_reducible apply Ext.drew | with_reducible apply Ext.drewN | with_reducible apply Ext.plus_ | with_reducible refine Ext.put ?_ (by omega))
  have hPl : X1.heap.size ≤ P := by omega
  rw [← hP]
  clear hV hP
  refine wl_store rfl 27 (.tmp 7) (.tmp 14) rfl hB0 g.cells rfl rfl rfl (by kernel_rfl) rfl fun W1 hB hx => ?_
  have hE2 := hx.ext _ hE1 hPl
  clear hE1 hx hB0 V
  have hok := H1.out.2.lift hE2
  have hE := H1.out.1.trans hE2
  have H2 := Lib.hid (And.intro hE hok)
  clear hE2 hok hE H1 hPl
  go_wp2_with (with_reducible show wpList _ _ _ (⟨some 15, _, _, _, _, _⟩ :: _) _ _; refine Lock.out ?_)
  refine ⟨?_, trivial⟩
  refine wl_load rfl 27 (.tmp 7) rfl hB rfl Try.underlying27 rfl (by kernel_rfl) ?_
  have HP := Lib.hid hB
  clear hB
  go_wp2_with (with_reducible show wpList _ _ _ (⟨none, _, _, _, _, _⟩ :: _) _ _; refine Lock.out ?_)
  refine ⟨?_, trivial⟩
  refine wl_at fun V hV => ?_
  obtain ⟨Q, hQ⟩ : ∃ Q, Q = W1.heap.size := ⟨_, rfl⟩
  have hB0 : Box 0 (.int .i64 0 :: zcells) Q V := by
    rw [hV, hQ]
    repeat' (first | with_reducible assumption | ((with_reducible refine Box.fresh ?fb ?fn ?fr); (case fb => first | omega | (simp <;> omega)); (case fn => first | omega | (simp <;> omega)); (case fr => rfl)) | with_reducible apply Box.up | with_reducible apply Box.drew_ | with_reducible apply Box.drewN_ | with_reducible apply Box.plus_ | with_reducible apply Box.put | with_reducible refine Box.off ?_ (by omega))
    all_goals first | rfl | (simp; done)
  have hE1 : Ext W1 V := by
    rw [hV]
    repeat' (first | with_reducible assumption | with_reducible exact Ext.refl _ | with_reducible apply Ext.alloc | with_reducible apply Ext.drew | with_reducible apply Ext.drewN | with_reducible apply Ext.plus_ | with_reducible refine Ext.put ?_ (by omega))
  have hQl : W1.heap.size ≤ Q := by omega
  rw [← hQ]
  clear hV hQ
  refine wl_store rfl 27 (.tmp 8) (.tmp 15) rfl hB0 g.cells rfl rfl rfl (by kernel_rfl) rfl fun W2 hB hx => ?_
  have hE2 := hx.ext _ hE1 hQl
  clear hE1 hx hB0 V
  have c0 := (HP.out.ext hE2).cell 1 (by simp)
  have c3 := hB.cell 1 (by simp)
  simp only [List.getElem?_cons_zero, List.getElem?_cons_succ] at c0 c3
  have f := hB.free
  have HQ := Lib.hid hB
  clear hB
  have HF := Lib.hid (And.intro hE2 hQl)
  clear hE2 hQl
  go_wp2_with fail
  refine (CM.out _).mono ?_
  rintro e w' ⟨rfl, rfl⟩
  go_wp2_with fail
  refine (CW.out _).mono ?_
  rintro e w' ⟨rfl, rfl⟩
  have m0 := HM.out.1
  have m1 := HM.out.2
  have b1 := HG.out.mb.1
  have b2 := HG.out.mb.2
  clear CW CM
  go_upto_region 16 with fail
  refine wp_at fun Y hY => ?_
  obtain ⟨d, hd⟩ : ∃ d : Cf, d = { g with mb := g.mb + mo } := ⟨_, rfl⟩
  have hEY : Ext W1 Y := by
    rw [hY]
    exact Ext.put HF.out.1 HF.out.2
  have hBQ : Box 0 d.cells Q Y := by
    rw [hY, hd]
    exact Box.put HQ.out rfl (by simp)
  have hEw := H2.out.1.trans hEY
  have hok := H2.out.2.lift hEY
  have hokd : CfOK d Y wl ig := by
    rw [hd]
    exact ⟨hok.pr, hok.ir, hok.pn, hok.im, hok.pm, hok.ikm, hok.si, hok.ss, hok.cs⟩
  have hcd : cfB d true ig = true := HG.out.more_mb HM.out.1 HM.out.2 hd
  have hpd : PlanOK wl d.mi d.nu d.de d.ho d.wi := by
    rw [hd]
    exact HG.out.pl
  have CG := Gen.overB HG.out.pl HG.out.ok hok
  have CD := Gen.overB hpd hcd hokd
  have HL := Lib.hid (bounds_mono (d := d) (CfN.of HG.out.ok) (by rw [hd]; simp only; omega) (by rw [hd]; simp only; omega) (by rw [hd]; simp only; omega) (by rw [hd]; simp only; omega) (by rw [hd]; simp only; omega) (by rw [hd]; simp only; omega) (by rw [hd]; simp only; omega) (by rw [hd]; simp only; omega) (by rw [hd]; simp only; omega) (by rw [hd]; simp only; omega) (by rw [hd]; simp only; omega) (by rw [hd]; simp only; omega) (by rw [hd]; simp only; omega))
  replace HP := Lib.hid (HP.out.ext hEY)
  replace HQ := Lib.hid hBQ
  have HE := Lib.hid hEw
  clear hY hd hEY hBQ hEw hok hokd hcd hpd H2 HF HG c0 c3 f b1 b2 m0 m1
  refine act_at fun A0 hA0 => ?_
  have hsz : A0.tmps.size = 91 := by
    rw [hA0]
    rfl
  have hA7 : A0.tmps.getD 7 undef = .pointer (some ⟨P, 0, none⟩) := by
    rw [hA0]
    rfl
  have hA8 : A0.tmps.getD 8 undef = .pointer (some ⟨Q, 0, none⟩) := by
    rw [hA0]
    rfl
  have HA0 := Lib.hid hA0
  clear hA0
  apply wp_region_extd 6 [is (cv g), is (bv g true), is (cv d), is (bv d true), isBox w.heap.size [.int .i64 0, .int .i64 0, .int .i64 0], isBox w.heap.size [.int .i64 0, .int .i64 0, .int .i64 0]] (fun i => i == 4 || i == 5) (by kernel_rfl) (by kernel_rfl) rfl
  case hops =>
    simp only [List.take_succ_cons, List.take_zero]
    with_reducible refine xOps_cons ?_ ?_
    · with_reducible refine xop_un ?_ ?_
      · rfl
      · intro vs x F hF hd
        have e1 : F.tmps.getD 7 undef = .pointer (some ⟨P, 0, none⟩) := (hF.a 7 (by kernel_rfl) (by rw [hsz]; rfl)).trans hA7
        exact comes_load_box 27 (.tmp 7) rfl (HP.out.ext (by repeat (first | exact Ext.refl _ | assumption | apply Ext.plus_ | apply Ext.alloc | apply Ext.drew))) e1 Try.underlying27 rfl (by kernel_rfl)
    with_reducible refine xOps_cons ?_ ?_
    · with_reducible refine xop_un ?_ ?_
      · rfl
      · intro vs x F hF hd
        have e60 : F.tmps.getD 60 undef = cv g := (hF.v 60 0 (by kernel_rfl) (by rw [hsz]; rfl)).trans (dep_at hd 0 0 (is (cv g)) (by kernel_rfl) (by kernel_rfl))
        clear hF hd
        simp only [comes]
        go_simp
        refine ((CG.out _ (by repeat (first | exact Ext.refl _ | assumption | apply Ext.plus_ | apply Ext.alloc | apply Ext.drew)))).mono ?_
        rintro e w' ⟨rfl, hE⟩
        first | exact ⟨_, rfl, hE, rfl⟩ | exact ⟨_, rfl, hE⟩ | exact ⟨rfl, hE⟩ | exact ⟨_, hE⟩ | exact hE
    with_reducible refine xOps_cons ?_ ?_
    · with_reducible refine xop_un ?_ ?_
      · rfl
      · intro vs x F hF hd
        have e1 : F.tmps.getD 8 undef = .pointer (some ⟨Q, 0, none⟩) := (hF.a 8 (by kernel_rfl) (by rw [hsz]; rfl)).trans hA8
        exact comes_load_box 27 (.tmp 8) rfl (HQ.out.ext (by repeat (first | exact Ext.refl _ | assumption | apply Ext.plus_ | apply Ext.alloc | apply Ext.drew))) e1 Try.underlying27 rfl (by kernel_rfl)
    with_reducible refine xOps_cons ?_ ?_
    · with_reducible refine xop_un ?_ ?_
      · rfl
      · intro vs x F hF hd
        have e62 : F.tmps.getD 62 undef = cv d := (hF.v 62 2 (by kernel_rfl) (by rw [hsz]; rfl)).trans (dep_at hd 0 2 (is (cv d)) (by kernel_rfl) (by kernel_rfl))
        clear hF hd
        simp only [comes]
        go_simp
        refine ((CD.out _ (by repeat (first | exact Ext.refl _ | assumption | apply Ext.plus_ | apply Ext.alloc | apply Ext.drew)))).mono ?_
        rintro e w' ⟨rfl, hE⟩
        first | exact ⟨_, rfl, hE, rfl⟩ | exact ⟨_, rfl, hE⟩ | exact ⟨rfl, hE⟩ | exact ⟨_, hE⟩ | exact hE
    with_reducible refine xOps_cons ?_ ?_
    · with_reducible refine xop_un ?_ ?_
      · rfl
      · intro vs x F hF hd
        clear hF hd
        simp only [comes]
        go_simp
        exact ⟨(Ext.refl _).alloc _, _, rfl, Box.new _ _ _ _ (HE.out.trans (by repeat (first | exact Ext.refl _ | assumption | apply Ext.plus_ | apply Ext.alloc | apply Ext.drew))).size rfl⟩
    with_reducible refine xOps_cons ?_ ?_
    · with_reducible refine xop_un ?_ ?_
      · rfl
      · intro vs x F hF hd
        clear hF hd
        simp only [comes]
        go_simp
        exact ⟨(Ext.refl _).alloc _, _, rfl, Box.new _ _ _ _ (HE.out.trans (by repeat (first | exact Ext.refl _ | assumption | apply Ext.plus_ | apply Ext.alloc | apply Ext.drew))).size rfl⟩
    exact xOps_nil
  case hst => exact ⟨is.st _, is.st _, is.st _, is.st _, isBox.st _ _, isBox.st _ _, trivial⟩
  case hDT =>
    intro i T di hT v w' hv
    have di' : i = 4 ∨ i = 5 := by simpa using di
    rcases di' with rfl | rfl
    · injection hT with hT
      subst hT
      exact isBox.old hv
    · injection hT with hT
      subst hT
      exact isBox.old hv
  case hD =>
    intro i o di ho
    have di' : i = 4 ∨ i = 5 := by simpa using di
    rcases di' with rfl | rfl
    · simp only [List.take_succ_cons, List.take_zero, List.getElem?_cons_succ, List.getElem?_cons_zero, Option.some.injEq] at ho
      subst ho
      refine ⟨rfl, fun vs x => ?_⟩
      simp only [comes]
      go_simp
      exact ⟨(Ext.refl _).alloc _, ⟨_, rfl, Box.new _ _ _ _ (HE.out.trans (by repeat (first | exact Ext.refl _ | assumption | apply Ext.plus_ | apply Ext.alloc | apply Ext.drew))).size rfl⟩, _, rfl, Nat.le_refl _⟩
    · simp only [List.take_succ_cons, List.take_zero, List.getElem?_cons_succ, List.getElem?_cons_zero, Option.some.injEq] at ho
      subst ho
      refine ⟨rfl, fun vs x => ?_⟩
      simp only [comes]
      go_simp
      exact ⟨(Ext.refl _).alloc _, ⟨_, rfl, Box.new _ _ _ _ (HE.out.trans (by repeat (first | exact Ext.refl _ | assumption | apply Ext.plus_ | apply Ext.alloc | apply Ext.drew))).size rfl⟩, _, rfl, Nat.le_refl _⟩
  case hfin =>
    intro vs x hf hap
    have f1 : vs 1 = bv g true := hf.2.1
    have f3 : vs 3 = bv d true := hf.2.2.2.1
    obtain ⟨b1, f4, h1⟩ := hf.2.2.2.2.1
    obtain ⟨b2, f5, h2⟩ := hf.2.2.2.2.2.1
    have hne : b1 ≠ b2 := fun e => hap 4 5 (by decide) (by decide) (by decide) rfl rfl (by
      have g4 : vs 4 = _ := f4
      have g5 : vs 5 = _ := f5
      rw [g4, g5, e])
    clear hf hap
    have hA0 := HA0.out
    subst hA0
    clear hsz hA7 hA8
    simp only [List.take_succ_cons, List.take_zero, List.drop_succ_cons, List.drop_zero, putAll, Act.put, List.setIfInBounds_toArray, List.set_cons_succ, List.set_cons_zero, Nat.zero_add, Nat.reduceAdd]
    clear HA0
    have g4 : vs 4 = .pointer (some ⟨b1, 0, none⟩) := f4
    have g5 : vs 5 = .pointer (some ⟨b2, 0, none⟩) := f5
    rw [f1, f3, g4, g5]
    clear f1 f3 f4 f5 g4 g5
    refine wl_store rfl 40 (.tmp 9) (.tmp 61) rfl h1 [.int .i64 (conV g true), .int .i64 (bytV g true), .int .i64 (recV g true)] rfl rfl rfl (by kernel_rfl) rfl fun W3 hB3 hx => ?_
    have hE3 := hx.ext _ (HE.out.trans (by repeat (first | exact Ext.refl _ | assumption | apply Ext.plus_ | apply Ext.alloc | apply Ext.drew))) h1.base
    have hB2 := hx.box h2 (Ne.symm hne)
    refine wl_store rfl 40 (.tmp 10) (.tmp 63) rfl hB2 [.int .i64 (conV d true), .int .i64 (bytV d true), .int .i64 (recV d true)] rfl rfl rfl (by kernel_rfl) rfl fun W4 hB4 hy => ?_
    have HE4 := Lib.hid (hy.ext _ hE3 h2.base)
    have HB3 := Lib.hid (hy.box hB3 hne)
    have HB4 := Lib.hid hB4
    clear hx hE3 hB2 hB3 hB4 hy h1 h2 hne CG CD HP HQ HE
    go_upto_region 17 with fail
    refine wp_at fun Y4 hY4 => ?_
    rw [← hY4] at HE4 HB3 HB4
    clear hY4
    refine act_at fun A0 hA0 => ?_
    have hsz : A0.tmps.size = 91 := by
      rw [hA0]
      rfl
    have hA9 : A0.tmps.getD 9 undef = .pointer (some ⟨b1, 0, none⟩) := by
      rw [hA0]
      rfl
    have hA10 : A0.tmps.getD 10 undef = .pointer (some ⟨b2, 0, none⟩) := by
      rw [hA0]
      rfl
    have HA0 := Lib.hid hA0
    clear hA0
    apply wp_region_seq 27 [is (.pointer (some ⟨b1, 0, none⟩)), is (.int .i64 (conV g true)), is (.pointer (some ⟨b2, 0, none⟩)), is (.int .i64 (conV d true)), is (.bool true), is (.bool true), is (.pointer (some ⟨b1, 1, none⟩)), is (.int .i64 (bytV g true)), is (.pointer (some ⟨b2, 1, none⟩)), is (.int .i64 (bytV d true)), is (.bool true), is (.bool true), is (.bool true), is (.pointer (some ⟨b1, 2, none⟩)), is (.int .i64 (recV g true)), is (.pointer (some ⟨b2, 2, none⟩)), is (.int .i64 (recV d true)), is (.bool true), is (.bool true), is (.bool true), is (.pointer (some ⟨b1, 1, none⟩)), is (.int .i64 (bytV g true)), is (.bool true), is (.bool true), is (.bool true), is (.bool true), is (.bool true)] (by kernel_rfl) (by kernel_rfl) rfl
    case hops =>
      simp only [List.take_succ_cons, List.take_zero]
      with_reducible refine xOps_cons ?_ ?_
      · with_reducible refine xop_un ?_ ?_
        · rfl
        · intro vs x F hF hd
          have e1 : F.tmps.getD 9 undef = .pointer (some ⟨b1, 0, none⟩) := (hF.a 9 (by kernel_rfl) (by rw [hsz]; rfl)).trans hA9
          clear hF hd
          simp only [comes]
          go_simp
          first | exact ⟨Ext.refl _, rfl⟩ | exact Ext.refl _
      with_reducible refine xOps_cons ?_ ?_
      · with_reducible refine xop_un ?_ ?_
        · rfl
        · intro vs x F hF hd
          have e1 : F.tmps.getD 64 undef = .pointer (some ⟨b1, 0, none⟩) := (hF.v 64 0 (by kernel_rfl) (by rw [hsz]; rfl)).trans (dep_at hd 0 0 (is (.pointer (some ⟨b1, 0, none⟩))) (by kernel_rfl) (by kernel_rfl))
          have c : Y4.cell? ⟨b1, 0, none⟩ = some (.int .i64 (conV g true)) := HB3.out.cell 0 (by simp)
          clear hF hd
          simp only [comes]
          go_simp
          first | exact ⟨Ext.refl _, rfl⟩ | exact Ext.refl _
      with_reducible refine xOps_cons ?_ ?_
      · with_reducible refine xop_un ?_ ?_
        · rfl
        · intro vs x F hF hd
          have e1 : F.tmps.getD 10 undef = .pointer (some ⟨b2, 0, none⟩) := (hF.a 10 (by kernel_rfl) (by rw [hsz]; rfl)).trans hA10
          clear hF hd
          simp only [comes]
          go_simp
          first | exact ⟨Ext.refl _, rfl⟩ | exact Ext.refl _
      with_reducible refine xOps_cons ?_ ?_
      · with_reducible refine xop_un ?_ ?_
        · rfl
        · intro vs x F hF hd
          have e1 : F.tmps.getD 66 undef = .pointer (some ⟨b2, 0, none⟩) := (hF.v 66 2 (by kernel_rfl) (by rw [hsz]; rfl)).trans (dep_at hd 0 2 (is (.pointer (some ⟨b2, 0, none⟩))) (by kernel_rfl) (by kernel_rfl))
          have c : Y4.cell? ⟨b2, 0, none⟩ = some (.int .i64 (conV d true)) := HB4.out.cell 0 (by simp)
          clear hF hd
          simp only [comes]
          go_simp
          first | exact ⟨Ext.refl _, rfl⟩ | exact Ext.refl _
      with_reducible refine xOps_cons ?_ ?_
      · with_reducible refine xop_un ?_ ?_
        · rfl
        · intro vs x F hF hd
          have e0 : F.tmps.getD 65 undef = .int .i64 (conV g true) := (hF.v 65 1 (by kernel_rfl) (by rw [hsz]; rfl)).trans (dep_at hd 0 1 (is (.int .i64 (conV g true))) (by kernel_rfl) (by kernel_rfl))
          have e1 : F.tmps.getD 67 undef = .int .i64 (conV d true) := (hF.v 67 3 (by kernel_rfl) (by rw [hsz]; rfl)).trans (dep_at hd 1 3 (is (.int .i64 (conV d true))) (by kernel_rfl) (by kernel_rfl))
          have q := HL.out.1
          clear hF hd
          simp only [comes]
          go_simp
          first | exact ⟨Ext.refl _, rfl⟩ | exact Ext.refl _
      with_reducible refine xOps_cons ?_ ?_
      · with_reducible refine xop_un ?_ ?_
        · rfl
        · intro vs x F hF hd
          have e1 : F.tmps.getD 68 undef = .bool true := (hF.v 68 4 (by kernel_rfl) (by rw [hsz]; rfl)).trans (dep_at hd 0 4 (is (.bool true)) (by kernel_rfl) (by kernel_rfl))
          clear hF hd
          simp only [comes]
          go_simp
          first | exact ⟨Ext.refl _, rfl⟩ | exact Ext.refl _
      with_reducible refine xOps_cons ?_ ?_
      · with_reducible refine xop_on 5 69 5 0 ?_ ?_ ?_ ?_ ?_ ?_ ?_
        · rfl
        · kernel_rfl
        · kernel_rfl
        · rw [hsz]; rfl
        · kernel_rfl
        · kernel_rfl
        · intro vs x F hF hd
          have e1 : F.tmps.getD 9 undef = .pointer (some ⟨b1, 0, none⟩) := (hF.a 9 (by kernel_rfl) (by rw [hsz]; rfl)).trans hA9
          clear hF hd
          simp only [comes]
          go_simp
          first | exact ⟨Ext.refl _, rfl⟩ | exact Ext.refl _
      with_reducible refine xOps_cons ?_ ?_
      · with_reducible refine xop_on 5 69 5 1 ?_ ?_ ?_ ?_ ?_ ?_ ?_
        · rfl
        · kernel_rfl
        · kernel_rfl
        · rw [hsz]; rfl
        · kernel_rfl
        · kernel_rfl
        · intro vs x F hF hd
          have e1 : F.tmps.getD 70 undef = .pointer (some ⟨b1, 1, none⟩) := (hF.v 70 6 (by kernel_rfl) (by rw [hsz]; rfl)).trans (dep_at hd 0 6 (is (.pointer (some ⟨b1, 1, none⟩))) (by kernel_rfl) (by kernel_rfl))
          have c : Y4.cell? ⟨b1, 1, none⟩ = some (.int .i64 (bytV g true)) := HB3.out.cell 1 (by simp)
          clear hF hd
          simp only [comes]
          go_simp
          first | exact ⟨Ext.refl _, rfl⟩ | exact Ext.refl _
      with_reducible refine xOps_cons ?_ ?_
      · with_reducible refine xop_on 5 69 5 0 ?_ ?_ ?_ ?_ ?_ ?_ ?_
        · rfl
        · kernel_rfl
        · kernel_rfl
        · rw [hsz]; rfl
        · kernel_rfl
        · kernel_rfl
        · intro vs x F hF hd
          have e1 : F.tmps.getD 10 undef = .pointer (some ⟨b2, 0, none⟩) := (hF.a 10 (by kernel_rfl) (by rw [hsz]; rfl)).trans hA10
          clear hF hd
          simp only [comes]
          go_simp
          first | exact ⟨Ext.refl _, rfl⟩ | exact Ext.refl _
      with_reducible refine xOps_cons ?_ ?_
      · with_reducible refine xop_on 5 69 5 1 ?_ ?_ ?_ ?_ ?_ ?_ ?_
        · rfl
        · kernel_rfl
        · kernel_rfl
        · rw [hsz]; rfl
        · kernel_rfl
        · kernel_rfl
        · intro vs x F hF hd
          have e1 : F.tmps.getD 72 undef = .pointer (some ⟨b2, 1, none⟩) := (hF.v 72 8 (by kernel_rfl) (by rw [hsz]; rfl)).trans (dep_at hd 0 8 (is (.pointer (some ⟨b2, 1, none⟩))) (by kernel_rfl) (by kernel_rfl))
          have c : Y4.cell? ⟨b2, 1, none⟩ = some (.int .i64 (bytV d true)) := HB4.out.cell 1 (by simp)
          clear hF hd
          simp only [comes]
          go_simp
          first | exact ⟨Ext.refl _, rfl⟩ | exact Ext.refl _
      with_reducible refine xOps_cons ?_ ?_
      · with_reducible refine xop_on 5 69 5 2 ?_ ?_ ?_ ?_ ?_ ?_ ?_
        · rfl
        · kernel_rfl
        · kernel_rfl
        · rw [hsz]; rfl
        · kernel_rfl
        · kernel_rfl
        · intro vs x F hF hd
          have e0 : F.tmps.getD 71 undef = .int .i64 (bytV g true) := (hF.v 71 7 (by kernel_rfl) (by rw [hsz]; rfl)).trans (dep_at hd 0 7 (is (.int .i64 (bytV g true))) (by kernel_rfl) (by kernel_rfl))
          have e1 : F.tmps.getD 73 undef = .int .i64 (bytV d true) := (hF.v 73 9 (by kernel_rfl) (by rw [hsz]; rfl)).trans (dep_at hd 1 9 (is (.int .i64 (bytV d true))) (by kernel_rfl) (by kernel_rfl))
          have q := HL.out.2.1
          clear hF hd
          simp only [comes]
          go_simp
          first | exact ⟨Ext.refl _, rfl⟩ | exact Ext.refl _
      with_reducible refine xOps_cons ?_ ?_
      · with_reducible refine xop_un ?_ ?_
        · rfl
        · intro vs x F hF hd
          have e1 : F.tmps.getD 69 undef = .bool true := (hF.v 69 5 (by kernel_rfl) (by rw [hsz]; rfl)).trans (dep_at hd 0 5 (is (.bool true)) (by kernel_rfl) (by kernel_rfl))
          have e2 : F.tmps.getD 74 undef = .bool true := (hF.v 74 10 (by kernel_rfl) (by rw [hsz]; rfl)).trans (dep_at hd 1 10 (is (.bool true)) (by kernel_rfl) (by kernel_rfl))
          clear hF hd
          simp only [comes]
          go_simp
          first | exact ⟨Ext.refl _, rfl⟩ | exact Ext.refl _
      with_reducible refine xOps_cons ?_ ?_
      · with_reducible refine xop_un ?_ ?_
        · rfl
        · intro vs x F hF hd
          have e1 : F.tmps.getD 75 undef = .bool true := (hF.v 75 11 (by kernel_rfl) (by rw [hsz]; rfl)).trans (dep_at hd 0 11 (is (.bool true)) (by kernel_rfl) (by kernel_rfl))
          clear hF hd
          simp only [comes]
          go_simp
          first | exact ⟨Ext.refl _, rfl⟩ | exact Ext.refl _
      with_reducible refine xOps_cons ?_ ?_
      · with_reducible refine xop_on 12 76 12 0 ?_ ?_ ?_ ?_ ?_ ?_ ?_
        · rfl
        · kernel_rfl
        · kernel_rfl
        · rw [hsz]; rfl
        · kernel_rfl
        · kernel_rfl
        · intro vs x F hF hd
          have e1 : F.tmps.getD 9 undef = .pointer (some ⟨b1, 0, none⟩) := (hF.a 9 (by kernel_rfl) (by rw [hsz]; rfl)).trans hA9
          clear hF hd
          simp only [comes]
          go_simp
          first | exact ⟨Ext.refl _, rfl⟩ | exact Ext.refl _
      with_reducible refine xOps_cons ?_ ?_
      · with_reducible refine xop_on 12 76 12 1 ?_ ?_ ?_ ?_ ?_ ?_ ?_
        · rfl
        · kernel_rfl
        · kernel_rfl
        · rw [hsz]; rfl
        · kernel_rfl
        · kernel_rfl
        · intro vs x F hF hd
          have e1 : F.tmps.getD 77 undef = .pointer (some ⟨b1, 2, none⟩) := (hF.v 77 13 (by kernel_rfl) (by rw [hsz]; rfl)).trans (dep_at hd 0 13 (is (.pointer (some ⟨b1, 2, none⟩))) (by kernel_rfl) (by kernel_rfl))
          have c : Y4.cell? ⟨b1, 2, none⟩ = some (.int .i64 (recV g true)) := HB3.out.cell 2 (by simp)
          clear hF hd
          simp only [comes]
          go_simp
          first | exact ⟨Ext.refl _, rfl⟩ | exact Ext.refl _
      with_reducible refine xOps_cons ?_ ?_
      · with_reducible refine xop_on 12 76 12 0 ?_ ?_ ?_ ?_ ?_ ?_ ?_
        · rfl
        · kernel_rfl
        · kernel_rfl
        · rw [hsz]; rfl
        · kernel_rfl
        · kernel_rfl
        · intro vs x F hF hd
          have e1 : F.tmps.getD 10 undef = .pointer (some ⟨b2, 0, none⟩) := (hF.a 10 (by kernel_rfl) (by rw [hsz]; rfl)).trans hA10
          clear hF hd
          simp only [comes]
          go_simp
          first | exact ⟨Ext.refl _, rfl⟩ | exact Ext.refl _
      with_reducible refine xOps_cons ?_ ?_
      · with_reducible refine xop_on 12 76 12 1 ?_ ?_ ?_ ?_ ?_ ?_ ?_
        · rfl
        · kernel_rfl
        · kernel_rfl
        · rw [hsz]; rfl
        · kernel_rfl
        · kernel_rfl
        · intro vs x F hF hd
          have e1 : F.tmps.getD 79 undef = .pointer (some ⟨b2, 2, none⟩) := (hF.v 79 15 (by kernel_rfl) (by rw [hsz]; rfl)).trans (dep_at hd 0 15 (is (.pointer (some ⟨b2, 2, none⟩))) (by kernel_rfl) (by kernel_rfl))
          have c : Y4.cell? ⟨b2, 2, none⟩ = some (.int .i64 (recV d true)) := HB4.out.cell 2 (by simp)
          clear hF hd
          simp only [comes]
          go_simp
          first | exact ⟨Ext.refl _, rfl⟩ | exact Ext.refl _
      with_reducible refine xOps_cons ?_ ?_
      · with_reducible refine xop_on 12 76 12 2 ?_ ?_ ?_ ?_ ?_ ?_ ?_
        · rfl
        · kernel_rfl
        · kernel_rfl
        · rw [hsz]; rfl
        · kernel_rfl
        · kernel_rfl
        · intro vs x F hF hd
          have e0 : F.tmps.getD 78 undef = .int .i64 (recV g true) := (hF.v 78 14 (by kernel_rfl) (by rw [hsz]; rfl)).trans (dep_at hd 0 14 (is (.int .i64 (recV g true))) (by kernel_rfl) (by kernel_rfl))
          have e1 : F.tmps.getD 80 undef = .int .i64 (recV d true) := (hF.v 80 16 (by kernel_rfl) (by rw [hsz]; rfl)).trans (dep_at hd 1 16 (is (.int .i64 (recV d true))) (by kernel_rfl) (by kernel_rfl))
          have q := HL.out.2.2.1
          clear hF hd
          simp only [comes]
          go_simp
          first | exact ⟨Ext.refl _, rfl⟩ | exact Ext.refl _
      with_reducible refine xOps_cons ?_ ?_
      · with_reducible refine xop_un ?_ ?_
        · rfl
        · intro vs x F hF hd
          have e1 : F.tmps.getD 76 undef = .bool true := (hF.v 76 12 (by kernel_rfl) (by rw [hsz]; rfl)).trans (dep_at hd 0 12 (is (.bool true)) (by kernel_rfl) (by kernel_rfl))
          have e2 : F.tmps.getD 81 undef = .bool true := (hF.v 81 17 (by kernel_rfl) (by rw [hsz]; rfl)).trans (dep_at hd 1 17 (is (.bool true)) (by kernel_rfl) (by kernel_rfl))
          clear hF hd
          simp only [comes]
          go_simp
          first | exact ⟨Ext.refl _, rfl⟩ | exact Ext.refl _
      with_reducible refine xOps_cons ?_ ?_
      · with_reducible refine xop_un ?_ ?_
        · rfl
        · intro vs x F hF hd
          have e1 : F.tmps.getD 82 undef = .bool true := (hF.v 82 18 (by kernel_rfl) (by rw [hsz]; rfl)).trans (dep_at hd 0 18 (is (.bool true)) (by kernel_rfl) (by kernel_rfl))
          clear hF hd
          simp only [comes]
          go_simp
          first | exact ⟨Ext.refl _, rfl⟩ | exact Ext.refl _
      with_reducible refine xOps_cons ?_ ?_
      · with_reducible refine xop_on 19 83 19 0 ?_ ?_ ?_ ?_ ?_ ?_ ?_
        · rfl
        · kernel_rfl
        · kernel_rfl
        · rw [hsz]; rfl
        · kernel_rfl
        · kernel_rfl
        · intro vs x F hF hd
          have e1 : F.tmps.getD 9 undef = .pointer (some ⟨b1, 0, none⟩) := (hF.a 9 (by kernel_rfl) (by rw [hsz]; rfl)).trans hA9
          clear hF hd
          simp only [comes]
          go_simp
          first | exact ⟨Ext.refl _, rfl⟩ | exact Ext.refl _
      with_reducible refine xOps_cons ?_ ?_
      · with_reducible refine xop_on 19 83 19 1 ?_ ?_ ?_ ?_ ?_ ?_ ?_
        · rfl
        · kernel_rfl
        · kernel_rfl
        · rw [hsz]; rfl
        · kernel_rfl
        · kernel_rfl
        · intro vs x F hF hd
          have e1 : F.tmps.getD 84 undef = .pointer (some ⟨b1, 1, none⟩) := (hF.v 84 20 (by kernel_rfl) (by rw [hsz]; rfl)).trans (dep_at hd 0 20 (is (.pointer (some ⟨b1, 1, none⟩))) (by kernel_rfl) (by kernel_rfl))
          have c : Y4.cell? ⟨b1, 1, none⟩ = some (.int .i64 (bytV g true)) := HB3.out.cell 1 (by simp)
          clear hF hd
          simp only [comes]
          go_simp
          first | exact ⟨Ext.refl _, rfl⟩ | exact Ext.refl _
      with_reducible refine xOps_cons ?_ ?_
      · with_reducible refine xop_on 19 83 19 1 ?_ ?_ ?_ ?_ ?_ ?_ ?_
        · rfl
        · kernel_rfl
        · kernel_rfl
        · rw [hsz]; rfl
        · kernel_rfl
        · kernel_rfl
        · intro vs x F hF hd
          have e0 : F.tmps.getD 85 undef = .int .i64 (bytV g true) := (hF.v 85 21 (by kernel_rfl) (by rw [hsz]; rfl)).trans (dep_at hd 0 21 (is (.int .i64 (bytV g true))) (by kernel_rfl) (by kernel_rfl))
          have q := HL.out.2.2.2
          clear hF hd
          simp only [comes]
          go_simp
          first | exact ⟨Ext.refl _, rfl⟩ | exact Ext.refl _
      with_reducible refine xOps_cons ?_ ?_
      · with_reducible refine xop_un ?_ ?_
        · rfl
        · intro vs x F hF hd
          have e1 : F.tmps.getD 83 undef = .bool true := (hF.v 83 19 (by kernel_rfl) (by rw [hsz]; rfl)).trans (dep_at hd 0 19 (is (.bool true)) (by kernel_rfl) (by kernel_rfl))
          have e2 : F.tmps.getD 86 undef = .bool true := (hF.v 86 22 (by kernel_rfl) (by rw [hsz]; rfl)).trans (dep_at hd 1 22 (is (.bool true)) (by kernel_rfl) (by kernel_rfl))
          clear hF hd
          simp only [comes]
          go_simp
          first | exact ⟨Ext.refl _, rfl⟩ | exact Ext.refl _
      with_reducible refine xOps_cons ?_ ?_
      · with_reducible refine xop_un ?_ ?_
        · rfl
        · intro vs x F hF hd
          have e1 : F.tmps.getD 87 undef = .bool true := (hF.v 87 23 (by kernel_rfl) (by rw [hsz]; rfl)).trans (dep_at hd 0 23 (is (.bool true)) (by kernel_rfl) (by kernel_rfl))
          clear hF hd
          simp only [comes]
          go_simp
          first | exact ⟨Ext.refl _, rfl⟩ | exact Ext.refl _
      with_reducible refine xOps_cons ?_ ?_
      · with_reducible refine xop_on 24 88 24 1 ?_ ?_ ?_ ?_ ?_ ?_ ?_
        · rfl
        · kernel_rfl
        · kernel_rfl
        · rw [hsz]; rfl
        · kernel_rfl
        · kernel_rfl
        · intro vs x F hF hd
          clear hF hd
          simp only [comes]
          go_simp
          refine ((awake_any _)).mono ?_
          rintro e w' ⟨rfl, hE⟩
          first | exact ⟨_, rfl, hE, rfl⟩ | exact ⟨_, rfl, hE⟩ | exact ⟨rfl, hE⟩ | exact ⟨_, hE⟩ | exact hE
      with_reducible refine xOps_cons ?_ ?_
      · with_reducible refine xop_un ?_ ?_
        · rfl
        · intro vs x F hF hd
          have e1 : F.tmps.getD 88 undef = .bool true := (hF.v 88 24 (by kernel_rfl) (by rw [hsz]; rfl)).trans (dep_at hd 0 24 (is (.bool true)) (by kernel_rfl) (by kernel_rfl))
          have e2 : F.tmps.getD 89 undef = .bool true := (hF.v 89 25 (by kernel_rfl) (by rw [hsz]; rfl)).trans (dep_at hd 1 25 (is (.bool true)) (by kernel_rfl) (by kernel_rfl))
          clear hF hd
          simp only [comes]
          go_simp
          first | exact ⟨Ext.refl _, rfl⟩ | exact Ext.refl _
      exact xOps_nil
    case hst => exact ⟨is.st _, is.st _, is.st _, is.st _, is.st _, is.st _, is.st _, is.st _, is.st _, is.st _, is.st _, is.st _, is.st _, is.st _, is.st _, is.st _, is.st _, is.st _, is.st _, is.st _, is.st _, is.st _, is.st _, is.st _, is.st _, is.st _, is.st _, trivial⟩
    case hfin =>
      intro vs x hf
      have f26 : vs 26 = .bool true := hf.2.2.2.2.2.2.2.2.2.2.2.2.2.2.2.2.2.2.2.2.2.2.2.2.2.2.1
      clear hf
      have hA0 := HA0.out
      subst hA0
      clear hsz hA9 hA10
      simp only [List.take_succ_cons, List.take_zero, List.drop_succ_cons, List.drop_zero, putAll, Act.put, List.setIfInBounds_toArray, List.set_cons_succ, List.set_cons_zero, Nat.zero_add, Nat.reduceAdd]
      clear HA0
      rw [f26]
      clear f26
      go_wp2
      go_ret
      exact ⟨rfl, HE4.out.trans (by repeat (first | exact Ext.refl _ | assumption | apply Ext.plus_ | apply Ext.alloc | apply Ext.drew))⟩
set_option maxRecDepth 100000 in
set_option maxHeartbeats 8000000 in
theorem rises_1 (B : Option Addr) (k d0 : Nat) (ll : List Int) (at_ more : Int) (w : World) (hB : Row w w.heap.size 1 B k (ints ll)) (hk : k ≤ 9223372036854775807) (hat : at_ % 6 = 1) :
    Calls Try.prog 5 #[.slice B k d0, .int .i64 at_, .int .i64 more] w fun e w' => e = .returned (.bool true) ∧ Ext w w' := by
  have CW := Lib.hid (fun w => within_any at_ 6 w (by decide) (by decide))
  rw [hat] at CW
  have CM := Lib.hid (fun w => within_any more 50 w (by decide) (by decide))
  obtain ⟨mo, hmo⟩ : ∃ mo, mo = more % 50 := ⟨_, rfl⟩
  rw [← hmo] at CM
  have hm0 : 0 ≤ mo := by omega
  have hm1 : mo ≤ 49 := by omega
  have HM := Lib.hid (And.intro hm0 hm1)
  clear hmo hat hm0 hm1
  go_enter Try.func5, Try.ntmps5
  go_wp2_with fail
  refine calls_at fun X0 hX => ?_
  obtain ⟨s, hs⟩ : ∃ s, s = w.heap.size := ⟨_, rfl⟩
  have hS : SSt X0 X0 s B k d0 ll := by
    rw [hX, hs]
    exact src_new hB (by repeat (first | exact Ext.refl _ | assumption | apply Ext.plus_ | apply Ext.alloc | apply Ext.drew)) hk
  have hE0 : Ext w X0 := by
    rw [hX]
    repeat' (first | with_reducible assumption | with_reducible exact Ext.refl _ | with_reducible apply Ext.alloc | with_reducible apply Ext.drew | with_reducible apply Ext.drewN | with_reducible apply Ext.plus_ | with_reducible refine Ext.put ?_ (by omega))
  rw [← hs]
  have hsw : w.heap.size ≤ s := by omega
  clear hX hs
  refine (srcConfig_any s B k d0 ll X0 hS).mono ?_
  rintro e X1 ⟨g, wl, ig, rfl, hg, hok, hss, -, -⟩
  have hE1 : Ext w X1 := ext_se hE0 hss.se hsw
  have H1 := Lib.hid (And.intro hE1 hok)
  have HG := Lib.hid hg
  clear hE1 hok hss hE0 hS hsw hg X0
  go_wp2_with (with_reducible show wpList _ _ _ (⟨none, _, _, _, _, _⟩ :: _) _ _; refine Lock.out ?_)
  refine ⟨?_, trivial⟩
  refine wl_at fun V hV => ?_
  obtain ⟨P, hP⟩ : ∃ P, P = X1.heap.size := ⟨_, rfl⟩
  have hB0 : Box 0 (.int .i64 0 :: zcells) P V := by
    rw [hV, hP]
    repeat' (first | with_reducible assumption | ((with_reducible refine Box.fresh ?fb ?fn ?fr); (case fb => first | omega | (simp <;> omega)); (case fn => first | omega | (simp <;> omega)); (case fr => rfl)) | with_reducible apply Box.up | with_reducible apply Box.drew_ | with_reducible apply Box.drewN_ | with_reducible apply Box.plus_ | with_reducible apply Box.put | with_reducible refine Box.off ?_ (by omega))
    all_goals first | rfl | (simp; done)
  have hE1 : Ext X1 V := by
    rw [hV]
    repeat' (first | with_reducible assumption | with_reducible exact Ext.refl _ | with_reducible apply Ext.alloc | with_reducible apply Ext.drew | with_reducible apply Ext.drewN | with_reducible apply Ext.plus_ | with_reducible refine Ext.put ?_ (by omega))
  have hPl : X1.heap.size ≤ P := by omega
  rw [← hP]
  clear hV hP
  refine wl_store rfl 27 (.tmp 7) (.tmp 14) rfl hB0 g.cells rfl rfl rfl (by kernel_rfl) rfl fun W1 hB hx => ?_
  have hE2 := hx.ext _ hE1 hPl
  clear hE1 hx hB0 V
  have hok := H1.out.2.lift hE2
  have hE := H1.out.1.trans hE2
  have H2 := Lib.hid (And.intro hE hok)
  clear hE2 hok hE H1 hPl
  go_wp2_with (with_reducible show wpList _ _ _ (⟨some 15, _, _, _, _, _⟩ :: _) _ _; refine Lock.out ?_)
  refine ⟨?_, trivial⟩
  refine wl_load rfl 27 (.tmp 7) rfl hB rfl Try.underlying27 rfl (by kernel_rfl) ?_
  have HP := Lib.hid hB
  clear hB
  go_wp2_with (with_reducible show wpList _ _ _ (⟨none, _, _, _, _, _⟩ :: _) _ _; refine Lock.out ?_)
  refine ⟨?_, trivial⟩
  refine wl_at fun V hV => ?_
  obtain ⟨Q, hQ⟩ : ∃ Q, Q = W1.heap.size := ⟨_, rfl⟩
  have hB0 : Box 0 (.int .i64 0 :: zcells) Q V := by
    rw [hV, hQ]
    repeat' (first | with_reducible assumption | ((with_reducible refine Box.fresh ?fb ?fn ?fr); (case fb => first | omega | (simp <;> omega)); (case fn => first | omega | (simp <;> omega)); (case fr => rfl)) | with_reducible apply Box.up | with_reducible apply Box.drew_ | with_reducible apply Box.drewN_ | with_reducible apply Box.plus_ | with_reducible apply Box.put | with_reducible refine Box.off ?_ (by omega))
    all_goals first | rfl | (simp; done)
  have hE1 : Ext W1 V := by
    rw [hV]
    repeat' (first | with_reducible assumption | with_reducible exact Ext.refl _ | with_reducible apply Ext.alloc | with_reducible apply Ext.drew | with_reducible apply Ext.drewN | with_reducible apply Ext.plus_ | with_reducible refine Ext.put ?_ (by omega))
  have hQl : W1.heap.size ≤ Q := by omega
  rw [← hQ]
  clear hV hQ
  refine wl_store rfl 27 (.tmp 8) (.tmp 15) rfl hB0 g.cells rfl rfl rfl (by kernel_rfl) rfl fun W2 hB hx => ?_
  have hE2 := hx.ext _ hE1 hQl
  clear hE1 hx hB0 V
  have c0 := (HP.out.ext hE2).cell 5 (by simp)
  have c3 := hB.cell 5 (by simp)
  simp only [List.getElem?_cons_zero, List.getElem?_cons_succ] at c0 c3
  have f := hB.free
  have HQ := Lib.hid hB
  clear hB
  have HF := Lib.hid (And.intro hE2 hQl)
  clear hE2 hQl
  go_wp2_with fail
  refine (CM.out _).mono ?_
  rintro e w' ⟨rfl, rfl⟩
  go_wp2_with fail
  refine (CW.out _).mono ?_
  rintro e w' ⟨rfl, rfl⟩
  have m0 := HM.out.1
  have m1 := HM.out.2
  have b1 := HG.out.cl.1
  have b2 := HG.out.cl.2
  clear CW CM
  go_upto_region 16 with fail
  refine wp_at fun Y hY => ?_
  obtain ⟨d, hd⟩ : ∃ d : Cf, d = { g with cl := g.cl + mo } := ⟨_, rfl⟩
  have hEY : Ext W1 Y := by
    rw [hY]
    exact Ext.put HF.out.1 HF.out.2
  have hBQ : Box 0 d.cells Q Y := by
    rw [hY, hd]
    exact Box.put HQ.out rfl (by simp)
  have hEw := H2.out.1.trans hEY
  have hok := H2.out.2.lift hEY
  have hokd : CfOK d Y wl ig := by
    rw [hd]
    exact ⟨hok.pr, hok.ir, hok.pn, hok.im, hok.pm, hok.ikm, hok.si, hok.ss, hok.cs⟩
  have hcd : cfB d true ig = true := HG.out.more_cl HM.out.1 HM.out.2 hd
  have hpd : PlanOK wl d.mi d.nu d.de d.ho d.wi := by
    rw [hd]
    exact HG.out.pl
  have CG := Gen.overB HG.out.pl HG.out.ok hok
  have CD := Gen.overB hpd hcd hokd
  have HL := Lib.hid (bounds_mono (d := d) (CfN.of HG.out.ok) (by rw [hd]; simp only; omega) (by rw [hd]; simp only; omega) (by rw [hd]; simp only; omega) (by rw [hd]; simp only; omega) (by rw [hd]; simp only; omega) (by rw [hd]; simp only; omega) (by rw [hd]; simp only; omega) (by rw [hd]; simp only; omega) (by rw [hd]; simp only; omega) (by rw [hd]; simp only; omega) (by rw [hd]; simp only; omega) (by rw [hd]; simp only; omega) (by rw [hd]; simp only; omega))
  replace HP := Lib.hid (HP.out.ext hEY)
  replace HQ := Lib.hid hBQ
  have HE := Lib.hid hEw
  clear hY hd hEY hBQ hEw hok hokd hcd hpd H2 HF HG c0 c3 f b1 b2 m0 m1
  refine act_at fun A0 hA0 => ?_
  have hsz : A0.tmps.size = 91 := by
    rw [hA0]
    rfl
  have hA7 : A0.tmps.getD 7 undef = .pointer (some ⟨P, 0, none⟩) := by
    rw [hA0]
    rfl
  have hA8 : A0.tmps.getD 8 undef = .pointer (some ⟨Q, 0, none⟩) := by
    rw [hA0]
    rfl
  have HA0 := Lib.hid hA0
  clear hA0
  apply wp_region_extd 6 [is (cv g), is (bv g true), is (cv d), is (bv d true), isBox w.heap.size [.int .i64 0, .int .i64 0, .int .i64 0], isBox w.heap.size [.int .i64 0, .int .i64 0, .int .i64 0]] (fun i => i == 4 || i == 5) (by kernel_rfl) (by kernel_rfl) rfl
  case hops =>
    simp only [List.take_succ_cons, List.take_zero]
    with_reducible refine xOps_cons ?_ ?_
    · with_reducible refine xop_un ?_ ?_
      · rfl
      · intro vs x F hF hd
        have e1 : F.tmps.getD 7 undef = .pointer (some ⟨P, 0, none⟩) := (hF.a 7 (by kernel_rfl) (by rw [hsz]; rfl)).trans hA7
        exact comes_load_box 27 (.tmp 7) rfl (HP.out.ext (by repeat (first | exact Ext.refl _ | assumption | apply Ext.plus_ | apply Ext.alloc | apply Ext.drew))) e1 Try.underlying27 rfl (by kernel_rfl)
    with_reducible refine xOps_cons ?_ ?_
    · with_reducible refine xop_un ?_ ?_
      · rfl
      · intro vs x F hF hd
        have e60 : F.tmps.getD 60 undef = cv g := (hF.v 60 0 (by kernel_rfl) (by rw [hsz]; rfl)).trans (dep_at hd 0 0 (is (cv g)) (by kernel_rfl) (by kernel_rfl))
        clear hF hd
        simp only [comes]
        go_simp
        refine ((CG.out _ (by repeat (first | exact Ext.refl _ | assumption | apply Ext.plus_ | apply Ext.alloc | apply Ext.drew)))).mono ?_
        rintro e w' ⟨rfl, hE⟩
        first | exact ⟨_, rfl, hE, rfl⟩ | exact ⟨_, rfl, hE⟩ | exact ⟨rfl, hE⟩ | exact ⟨_, hE⟩ | exact hE
    with_reducible refine xOps_cons ?_ ?_
    · with_reducible refine xop_un ?_ ?_
      · rfl
      · intro vs x F hF hd
        have e1 : F.tmps.getD 8 undef = .pointer (some ⟨Q, 0, none⟩) := (hF.a 8 (by kernel_rfl) (by rw [hsz]; rfl)).trans hA8
        exact comes_load_box 27 (.tmp 8) rfl (HQ.out.ext (by repeat (first | exact Ext.refl _ | assumption | apply Ext.plus_ | apply Ext.alloc | apply Ext.drew))) e1 Try.underlying27 rfl (by kernel_rfl)
    with_reducible refine xOps_cons ?_ ?_
    · with_reducible refine xop_un ?_ ?_
      · rfl
      · intro vs x F hF hd
        have e62 : F.tmps.getD 62 undef = cv d := (hF.v 62 2 (by kernel_rfl) (by rw [hsz]; rfl)).trans (dep_at hd 0 2 (is (cv d)) (by kernel_rfl) (by kernel_rfl))
        clear hF hd
        simp only [comes]
        go_simp
        refine ((CD.out _ (by repeat (first | exact Ext.refl _ | assumption | apply Ext.plus_ | apply Ext.alloc | apply Ext.drew)))).mono ?_
        rintro e w' ⟨rfl, hE⟩
        first | exact ⟨_, rfl, hE, rfl⟩ | exact ⟨_, rfl, hE⟩ | exact ⟨rfl, hE⟩ | exact ⟨_, hE⟩ | exact hE
    with_reducible refine xOps_cons ?_ ?_
    · with_reducible refine xop_un ?_ ?_
      · rfl
      · intro vs x F hF hd
        clear hF hd
        simp only [comes]
        go_simp
        exact ⟨(Ext.refl _).alloc _, _, rfl, Box.new _ _ _ _ (HE.out.trans (by repeat (first | exact Ext.refl _ | assumption | apply Ext.plus_ | apply Ext.alloc | apply Ext.drew))).size rfl⟩
    with_reducible refine xOps_cons ?_ ?_
    · with_reducible refine xop_un ?_ ?_
      · rfl
      · intro vs x F hF hd
        clear hF hd
        simp only [comes]
        go_simp
        exact ⟨(Ext.refl _).alloc _, _, rfl, Box.new _ _ _ _ (HE.out.trans (by repeat (first | exact Ext.refl _ | assumption | apply Ext.plus_ | apply Ext.alloc | apply Ext.drew))).size rfl⟩
    exact xOps_nil
  case hst => exact ⟨is.st _, is.st _, is.st _, is.st _, isBox.st _ _, isBox.st _ _, trivial⟩
  case hDT =>
    intro i T di hT v w' hv
    have di' : i = 4 ∨ i = 5 := by simpa using di
    rcases di' with rfl | rfl
    · injection hT with hT
      subst hT
      exact isBox.old hv
    · injection hT with hT
      subst hT
      exact isBox.old hv
  case hD =>
    intro i o di ho
    have di' : i = 4 ∨ i = 5 := by simpa using di
    rcases di' with rfl | rfl
    · simp only [List.take_succ_cons, List.take_zero, List.getElem?_cons_succ, List.getElem?_cons_zero, Option.some.injEq] at ho
      subst ho
      refine ⟨rfl, fun vs x => ?_⟩
      simp only [comes]
      go_simp
      exact ⟨(Ext.refl _).alloc _, ⟨_, rfl, Box.new _ _ _ _ (HE.out.trans (by repeat (first | exact Ext.refl _ | assumption | apply Ext.plus_ | apply Ext.alloc | apply Ext.drew))).size rfl⟩, _, rfl, Nat.le_refl _⟩
    · simp only [List.take_succ_cons, List.take_zero, List.getElem?_cons_succ, List.getElem?_cons_zero, Option.some.injEq] at ho
      subst ho
      refine ⟨rfl, fun vs x => ?_⟩
      simp only [comes]
      go_simp
      exact ⟨(Ext.refl _).alloc _, ⟨_, rfl, Box.new _ _ _ _ (HE.out.trans (by repeat (first | exact Ext.refl _ | assumption | apply Ext.plus_ | apply Ext.alloc | apply Ext.drew))).size rfl⟩, _, rfl, Nat.le_refl _⟩
  case hfin =>
    intro vs x hf hap
    have f1 : vs 1 = bv g true := hf.2.1
    have f3 : vs 3 = bv d true := hf.2.2.2.1
    obtain ⟨b1, f4, h1⟩ := hf.2.2.2.2.1
    obtain ⟨b2, f5, h2⟩ := hf.2.2.2.2.2.1
    have hne : b1 ≠ b2 := fun e => hap 4 5 (by decide) (by decide) (by decide) rfl rfl (by
      have g4 : vs 4 = _ := f4
      have g5 : vs 5 = _ := f5
      rw [g4, g5, e])
    clear hf hap
    have hA0 := HA0.out
    subst hA0
    clear hsz hA7 hA8
    simp only [List.take_succ_cons, List.take_zero, List.drop_succ_cons, List.drop_zero, putAll, Act.put, List.setIfInBounds_toArray, List.set_cons_succ, List.set_cons_zero, Nat.zero_add, Nat.reduceAdd]
    clear HA0
    have g4 : vs 4 = .pointer (some ⟨b1, 0, none⟩) := f4
    have g5 : vs 5 = .pointer (some ⟨b2, 0, none⟩) := f5
    rw [f1, f3, g4, g5]
    clear f1 f3 f4 f5 g4 g5
    refine wl_store rfl 40 (.tmp 9) (.tmp 61) rfl h1 [.int .i64 (conV g true), .int .i64 (bytV g true), .int .i64 (recV g true)] rfl rfl rfl (by kernel_rfl) rfl fun W3 hB3 hx => ?_
    have hE3 := hx.ext _ (HE.out.trans (by repeat (first | exact Ext.refl _ | assumption | apply Ext.plus_ | apply Ext.alloc | apply Ext.drew))) h1.base
    have hB2 := hx.box h2 (Ne.symm hne)
    refine wl_store rfl 40 (.tmp 10) (.tmp 63) rfl hB2 [.int .i64 (conV d true), .int .i64 (bytV d true), .int .i64 (recV d true)] rfl rfl rfl (by kernel_rfl) rfl fun W4 hB4 hy => ?_
    have HE4 := Lib.hid (hy.ext _ hE3 h2.base)
    have HB3 := Lib.hid (hy.box hB3 hne)
    have HB4 := Lib.hid hB4
    clear hx hE3 hB2 hB3 hB4 hy h1 h2 hne CG CD HP HQ HE
    go_upto_region 17 with fail
    refine wp_at fun Y4 hY4 => ?_
    rw [← hY4] at HE4 HB3 HB4
    clear hY4
    refine act_at fun A0 hA0 => ?_
    have hsz : A0.tmps.size = 91 := by
      rw [hA0]
      rfl
    have hA9 : A0.tmps.getD 9 undef = .pointer (some ⟨b1, 0, none⟩) := by
      rw [hA0]
      rfl
    have hA10 : A0.tmps.getD 10 undef = .pointer (some ⟨b2, 0, none⟩) := by
      rw [hA0]
      rfl
    have HA0 := Lib.hid hA0
    clear hA0
    apply wp_region_seq 27 [is (.pointer (some ⟨b1, 0, none⟩)), is (.int .i64 (conV g true)), is (.pointer (some ⟨b2, 0, none⟩)), is (.int .i64 (conV d true)), is (.bool true), is (.bool true), is (.pointer (some ⟨b1, 1, none⟩)), is (.int .i64 (bytV g true)), is (.pointer (some ⟨b2, 1, none⟩)), is (.int .i64 (bytV d true)), is (.bool true), is (.bool true), is (.bool true), is (.pointer (some ⟨b1, 2, none⟩)), is (.int .i64 (recV g true)), is (.pointer (some ⟨b2, 2, none⟩)), is (.int .i64 (recV d true)), is (.bool true), is (.bool true), is (.bool true), is (.pointer (some ⟨b1, 1, none⟩)), is (.int .i64 (bytV g true)), is (.bool true), is (.bool true), is (.bool true), is (.bool true), is (.bool true)] (by kernel_rfl) (by kernel_rfl) rfl
    case hops =>
      simp only [List.take_succ_cons, List.take_zero]
      with_reducible refine xOps_cons ?_ ?_
      · with_reducible refine xop_un ?_ ?_
        · rfl
        · intro vs x F hF hd
          have e1 : F.tmps.getD 9 undef = .pointer (some ⟨b1, 0, none⟩) := (hF.a 9 (by kernel_rfl) (by rw [hsz]; rfl)).trans hA9
          clear hF hd
          simp only [comes]
          go_simp
          first | exact ⟨Ext.refl _, rfl⟩ | exact Ext.refl _
      with_reducible refine xOps_cons ?_ ?_
      · with_reducible refine xop_un ?_ ?_
        · rfl
        · intro vs x F hF hd
          have e1 : F.tmps.getD 64 undef = .pointer (some ⟨b1, 0, none⟩) := (hF.v 64 0 (by kernel_rfl) (by rw [hsz]; rfl)).trans (dep_at hd 0 0 (is (.pointer (some ⟨b1, 0, none⟩))) (by kernel_rfl) (by kernel_rfl))
          have c : Y4.cell? ⟨b1, 0, none⟩ = some (.int .i64 (conV g true)) := HB3.out.cell 0 (by simp)
          clear hF hd
          simp only [comes]
          go_simp
          first | exact ⟨Ext.refl _, rfl⟩ | exact Ext.refl _
      with_reducible refine xOps_cons ?_ ?_
      · with_reducible refine xop_un ?_ ?_
        · rfl
        · intro vs x F hF hd
          have e1 : F.tmps.getD 10 undef = .pointer (some ⟨b2, 0, none⟩) := (hF.a 10 (by kernel_rfl) (by rw [hsz]; rfl)).trans hA10
          clear hF hd
          simp only [comes]
          go_simp
          first | exact ⟨Ext.refl _, rfl⟩ | exact Ext.refl _
      with_reducible refine xOps_cons ?_ ?_
      · with_reducible refine xop_un ?_ ?_
        · rfl
        · intro vs x F hF hd
          have e1 : F.tmps.getD 66 undef = .pointer (some ⟨b2, 0, none⟩) := (hF.v 66 2 (by kernel_rfl) (by rw [hsz]; rfl)).trans (dep_at hd 0 2 (is (.pointer (some ⟨b2, 0, none⟩))) (by kernel_rfl) (by kernel_rfl))
          have c : Y4.cell? ⟨b2, 0, none⟩ = some (.int .i64 (conV d true)) := HB4.out.cell 0 (by simp)
          clear hF hd
          simp only [comes]
          go_simp
          first | exact ⟨Ext.refl _, rfl⟩ | exact Ext.refl _
      with_reducible refine xOps_cons ?_ ?_
      · with_reducible refine xop_un ?_ ?_
        · rfl
        · intro vs x F hF hd
          have e0 : F.tmps.getD 65 undef = .int .i64 (conV g true) := (hF.v 65 1 (by kernel_rfl) (by rw [hsz]; rfl)).trans (dep_at hd 0 1 (is (.int .i64 (conV g true))) (by kernel_rfl) (by kernel_rfl))
          have e1 : F.tmps.getD 67 undef = .int .i64 (conV d true) := (hF.v 67 3 (by kernel_rfl) (by rw [hsz]; rfl)).trans (dep_at hd 1 3 (is (.int .i64 (conV d true))) (by kernel_rfl) (by kernel_rfl))
          have q := HL.out.1
          clear hF hd
          simp only [comes]
          go_simp
          first | exact ⟨Ext.refl _, rfl⟩ | exact Ext.refl _
      with_reducible refine xOps_cons ?_ ?_
      · with_reducible refine xop_un ?_ ?_
        · rfl
        · intro vs x F hF hd
          have e1 : F.tmps.getD 68 undef = .bool true := (hF.v 68 4 (by kernel_rfl) (by rw [hsz]; rfl)).trans (dep_at hd 0 4 (is (.bool true)) (by kernel_rfl) (by kernel_rfl))
          clear hF hd
          simp only [comes]
          go_simp
          first | exact ⟨Ext.refl _, rfl⟩ | exact Ext.refl _
      with_reducible refine xOps_cons ?_ ?_
      · with_reducible refine xop_on 5 69 5 0 ?_ ?_ ?_ ?_ ?_ ?_ ?_
        · rfl
        · kernel_rfl
        · kernel_rfl
        · rw [hsz]; rfl
        · kernel_rfl
        · kernel_rfl
        · intro vs x F hF hd
          have e1 : F.tmps.getD 9 undef = .pointer (some ⟨b1, 0, none⟩) := (hF.a 9 (by kernel_rfl) (by rw [hsz]; rfl)).trans hA9
          clear hF hd
          simp only [comes]
          go_simp
          first | exact ⟨Ext.refl _, rfl⟩ | exact Ext.refl _
      with_reducible refine xOps_cons ?_ ?_
      · with_reducible refine xop_on 5 69 5 1 ?_ ?_ ?_ ?_ ?_ ?_ ?_
        · rfl
        · kernel_rfl
        · kernel_rfl
        · rw [hsz]; rfl
        · kernel_rfl
        · kernel_rfl
        · intro vs x F hF hd
          have e1 : F.tmps.getD 70 undef = .pointer (some ⟨b1, 1, none⟩) := (hF.v 70 6 (by kernel_rfl) (by rw [hsz]; rfl)).trans (dep_at hd 0 6 (is (.pointer (some ⟨b1, 1, none⟩))) (by kernel_rfl) (by kernel_rfl))
          have c : Y4.cell? ⟨b1, 1, none⟩ = some (.int .i64 (bytV g true)) := HB3.out.cell 1 (by simp)
          clear hF hd
          simp only [comes]
          go_simp
          first | exact ⟨Ext.refl _, rfl⟩ | exact Ext.refl _
      with_reducible refine xOps_cons ?_ ?_
      · with_reducible refine xop_on 5 69 5 0 ?_ ?_ ?_ ?_ ?_ ?_ ?_
        · rfl
        · kernel_rfl
        · kernel_rfl
        · rw [hsz]; rfl
        · kernel_rfl
        · kernel_rfl
        · intro vs x F hF hd
          have e1 : F.tmps.getD 10 undef = .pointer (some ⟨b2, 0, none⟩) := (hF.a 10 (by kernel_rfl) (by rw [hsz]; rfl)).trans hA10
          clear hF hd
          simp only [comes]
          go_simp
          first | exact ⟨Ext.refl _, rfl⟩ | exact Ext.refl _
      with_reducible refine xOps_cons ?_ ?_
      · with_reducible refine xop_on 5 69 5 1 ?_ ?_ ?_ ?_ ?_ ?_ ?_
        · rfl
        · kernel_rfl
        · kernel_rfl
        · rw [hsz]; rfl
        · kernel_rfl
        · kernel_rfl
        · intro vs x F hF hd
          have e1 : F.tmps.getD 72 undef = .pointer (some ⟨b2, 1, none⟩) := (hF.v 72 8 (by kernel_rfl) (by rw [hsz]; rfl)).trans (dep_at hd 0 8 (is (.pointer (some ⟨b2, 1, none⟩))) (by kernel_rfl) (by kernel_rfl))
          have c : Y4.cell? ⟨b2, 1, none⟩ = some (.int .i64 (bytV d true)) := HB4.out.cell 1 (by simp)
          clear hF hd
          simp only [comes]
          go_simp
          first | exact ⟨Ext.refl _, rfl⟩ | exact Ext.refl _
      with_reducible refine xOps_cons ?_ ?_
      · with_reducible refine xop_on 5 69 5 2 ?_ ?_ ?_ ?_ ?_ ?_ ?_
        · rfl
        · kernel_rfl
        · kernel_rfl
        · rw [hsz]; rfl
        · kernel_rfl
        · kernel_rfl
        · intro vs x F hF hd
          have e0 : F.tmps.getD 71 undef = .int .i64 (bytV g true) := (hF.v 71 7 (by kernel_rfl) (by rw [hsz]; rfl)).trans (dep_at hd 0 7 (is (.int .i64 (bytV g true))) (by kernel_rfl) (by kernel_rfl))
          have e1 : F.tmps.getD 73 undef = .int .i64 (bytV d true) := (hF.v 73 9 (by kernel_rfl) (by rw [hsz]; rfl)).trans (dep_at hd 1 9 (is (.int .i64 (bytV d true))) (by kernel_rfl) (by kernel_rfl))
          have q := HL.out.2.1
          clear hF hd
          simp only [comes]
          go_simp
          first | exact ⟨Ext.refl _, rfl⟩ | exact Ext.refl _
      with_reducible refine xOps_cons ?_ ?_
      · with_reducible refine xop_un ?_ ?_
        · rfl
        · intro vs x F hF hd
          have e1 : F.tmps.getD 69 undef = .bool true := (hF.v 69 5 (by kernel_rfl) (by rw [hsz]; rfl)).trans (dep_at hd 0 5 (is (.bool true)) (by kernel_rfl) (by kernel_rfl))
          have e2 : F.tmps.getD 74 undef = .bool true := (hF.v 74 10 (by kernel_rfl) (by rw [hsz]; rfl)).trans (dep_at hd 1 10 (is (.bool true)) (by kernel_rfl) (by kernel_rfl))
          clear hF hd
          simp only [comes]
          go_simp
          first | exact ⟨Ext.refl _, rfl⟩ | exact Ext.refl _
      with_reducible refine xOps_cons ?_ ?_
      · with_reducible refine xop_un ?_ ?_
        · rfl
        · intro vs x F hF hd
          have e1 : F.tmps.getD 75 undef = .bool true := (hF.v 75 11 (by kernel_rfl) (by rw [hsz]; rfl)).trans (dep_at hd 0 11 (is (.bool true)) (by kernel_rfl) (by kernel_rfl))
          clear hF hd
          simp only [comes]
          go_simp
          first | exact ⟨Ext.refl _, rfl⟩ | exact Ext.refl _
      with_reducible refine xOps_cons ?_ ?_
      · with_reducible refine xop_on 12 76 12 0 ?_ ?_ ?_ ?_ ?_ ?_ ?_
        · rfl
        · kernel_rfl
        · kernel_rfl
        · rw [hsz]; rfl
        · kernel_rfl
        · kernel_rfl
        · intro vs x F hF hd
          have e1 : F.tmps.getD 9 undef = .pointer (some ⟨b1, 0, none⟩) := (hF.a 9 (by kernel_rfl) (by rw [hsz]; rfl)).trans hA9
          clear hF hd
          simp only [comes]
          go_simp
          first | exact ⟨Ext.refl _, rfl⟩ | exact Ext.refl _
      with_reducible refine xOps_cons ?_ ?_
      · with_reducible refine xop_on 12 76 12 1 ?_ ?_ ?_ ?_ ?_ ?_ ?_
        · rfl
        · kernel_rfl
        · kernel_rfl
        · rw [hsz]; rfl
        · kernel_rfl
        · kernel_rfl
        · intro vs x F hF hd
          have e1 : F.tmps.getD 77 undef = .pointer (some ⟨b1, 2, none⟩) := (hF.v 77 13 (by kernel_rfl) (by rw [hsz]; rfl)).trans (dep_at hd 0 13 (is (.pointer (some ⟨b1, 2, none⟩))) (by kernel_rfl) (by kernel_rfl))
          have c : Y4.cell? ⟨b1, 2, none⟩ = some (.int .i64 (recV g true)) := HB3.out.cell 2 (by simp)
          clear hF hd
          simp only [comes]
          go_simp
          first | exact ⟨Ext.refl _, rfl⟩ | exact Ext.refl _
      with_reducible refine xOps_cons ?_ ?_
      · with_reducible refine xop_on 12 76 12 0 ?_ ?_ ?_ ?_ ?_ ?_ ?_
        · rfl
        · kernel_rfl
        · kernel_rfl
        · rw [hsz]; rfl
        · kernel_rfl
        · kernel_rfl
        · intro vs x F hF hd
          have e1 : F.tmps.getD 10 undef = .pointer (some ⟨b2, 0, none⟩) := (hF.a 10 (by kernel_rfl) (by rw [hsz]; rfl)).trans hA10
          clear hF hd
          simp only [comes]
          go_simp
          first | exact ⟨Ext.refl _, rfl⟩ | exact Ext.refl _
      with_reducible refine xOps_cons ?_ ?_
      · with_reducible refine xop_on 12 76 12 1 ?_ ?_ ?_ ?_ ?_ ?_ ?_
        · rfl
        · kernel_rfl
        · kernel_rfl
        · rw [hsz]; rfl
        · kernel_rfl
        · kernel_rfl
        · intro vs x F hF hd
          have e1 : F.tmps.getD 79 undef = .pointer (some ⟨b2, 2, none⟩) := (hF.v 79 15 (by kernel_rfl) (by rw [hsz]; rfl)).trans (dep_at hd 0 15 (is (.pointer (some ⟨b2, 2, none⟩))) (by kernel_rfl) (by kernel_rfl))
          have c : Y4.cell? ⟨b2, 2, none⟩ = some (.int .i64 (recV d true)) := HB4.out.cell 2 (by simp)
          clear hF hd
          simp only [comes]
          go_simp
          first | exact ⟨Ext.refl _, rfl⟩ | exact Ext.refl _
      with_reducible refine xOps_cons ?_ ?_
      · with_reducible refine xop_on 12 76 12 2 ?_ ?_ ?_ ?_ ?_ ?_ ?_
        · rfl
        · kernel_rfl
        · kernel_rfl
        · rw [hsz]; rfl
        · kernel_rfl
        · kernel_rfl
        · intro vs x F hF hd
          have e0 : F.tmps.getD 78 undef = .int .i64 (recV g true) := (hF.v 78 14 (by kernel_rfl) (by rw [hsz]; rfl)).trans (dep_at hd 0 14 (is (.int .i64 (recV g true))) (by kernel_rfl) (by kernel_rfl))
          have e1 : F.tmps.getD 80 undef = .int .i64 (recV d true) := (hF.v 80 16 (by kernel_rfl) (by rw [hsz]; rfl)).trans (dep_at hd 1 16 (is (.int .i64 (recV d true))) (by kernel_rfl) (by kernel_rfl))
          have q := HL.out.2.2.1
          clear hF hd
          simp only [comes]
          go_simp
          first | exact ⟨Ext.refl _, rfl⟩ | exact Ext.refl _
      with_reducible refine xOps_cons ?_ ?_
      · with_reducible refine xop_un ?_ ?_
        · rfl
        · intro vs x F hF hd
          have e1 : F.tmps.getD 76 undef = .bool true := (hF.v 76 12 (by kernel_rfl) (by rw [hsz]; rfl)).trans (dep_at hd 0 12 (is (.bool true)) (by kernel_rfl) (by kernel_rfl))
          have e2 : F.tmps.getD 81 undef = .bool true := (hF.v 81 17 (by kernel_rfl) (by rw [hsz]; rfl)).trans (dep_at hd 1 17 (is (.bool true)) (by kernel_rfl) (by kernel_rfl))
          clear hF hd
          simp only [comes]
          go_simp
          first | exact ⟨Ext.refl _, rfl⟩ | exact Ext.refl _
      with_reducible refine xOps_cons ?_ ?_
      · with_reducible refine xop_un ?_ ?_
        · rfl
        · intro vs x F hF hd
          have e1 : F.tmps.getD 82 undef = .bool true := (hF.v 82 18 (by kernel_rfl) (by rw [hsz]; rfl)).trans (dep_at hd 0 18 (is (.bool true)) (by kernel_rfl) (by kernel_rfl))
          clear hF hd
          simp only [comes]
          go_simp
          first | exact ⟨Ext.refl _, rfl⟩ | exact Ext.refl _
      with_reducible refine xOps_cons ?_ ?_
      · with_reducible refine xop_on 19 83 19 0 ?_ ?_ ?_ ?_ ?_ ?_ ?_
        · rfl
        · kernel_rfl
        · kernel_rfl
        · rw [hsz]; rfl
        · kernel_rfl
        · kernel_rfl
        · intro vs x F hF hd
          have e1 : F.tmps.getD 9 undef = .pointer (some ⟨b1, 0, none⟩) := (hF.a 9 (by kernel_rfl) (by rw [hsz]; rfl)).trans hA9
          clear hF hd
          simp only [comes]
          go_simp
          first | exact ⟨Ext.refl _, rfl⟩ | exact Ext.refl _
      with_reducible refine xOps_cons ?_ ?_
      · with_reducible refine xop_on 19 83 19 1 ?_ ?_ ?_ ?_ ?_ ?_ ?_
        · rfl
        · kernel_rfl
        · kernel_rfl
        · rw [hsz]; rfl
        · kernel_rfl
        · kernel_rfl
        · intro vs x F hF hd
          have e1 : F.tmps.getD 84 undef = .pointer (some ⟨b1, 1, none⟩) := (hF.v 84 20 (by kernel_rfl) (by rw [hsz]; rfl)).trans (dep_at hd 0 20 (is (.pointer (some ⟨b1, 1, none⟩))) (by kernel_rfl) (by kernel_rfl))
          have c : Y4.cell? ⟨b1, 1, none⟩ = some (.int .i64 (bytV g true)) := HB3.out.cell 1 (by simp)
          clear hF hd
          simp only [comes]
          go_simp
          first | exact ⟨Ext.refl _, rfl⟩ | exact Ext.refl _
      with_reducible refine xOps_cons ?_ ?_
      · with_reducible refine xop_on 19 83 19 1 ?_ ?_ ?_ ?_ ?_ ?_ ?_
        · rfl
        · kernel_rfl
        · kernel_rfl
        · rw [hsz]; rfl
        · kernel_rfl
        · kernel_rfl
        · intro vs x F hF hd
          have e0 : F.tmps.getD 85 undef = .int .i64 (bytV g true) := (hF.v 85 21 (by kernel_rfl) (by rw [hsz]; rfl)).trans (dep_at hd 0 21 (is (.int .i64 (bytV g true))) (by kernel_rfl) (by kernel_rfl))
          have q := HL.out.2.2.2
          clear hF hd
          simp only [comes]
          go_simp
          first | exact ⟨Ext.refl _, rfl⟩ | exact Ext.refl _
      with_reducible refine xOps_cons ?_ ?_
      · with_reducible refine xop_un ?_ ?_
        · rfl
        · intro vs x F hF hd
          have e1 : F.tmps.getD 83 undef = .bool true := (hF.v 83 19 (by kernel_rfl) (by rw [hsz]; rfl)).trans (dep_at hd 0 19 (is (.bool true)) (by kernel_rfl) (by kernel_rfl))
          have e2 : F.tmps.getD 86 undef = .bool true := (hF.v 86 22 (by kernel_rfl) (by rw [hsz]; rfl)).trans (dep_at hd 1 22 (is (.bool true)) (by kernel_rfl) (by kernel_rfl))
          clear hF hd
          simp only [comes]
          go_simp
          first | exact ⟨Ext.refl _, rfl⟩ | exact Ext.refl _
      with_reducible refine xOps_cons ?_ ?_
      · with_reducible refine xop_un ?_ ?_
        · rfl
        · intro vs x F hF hd
          have e1 : F.tmps.getD 87 undef = .bool true := (hF.v 87 23 (by kernel_rfl) (by rw [hsz]; rfl)).trans (dep_at hd 0 23 (is (.bool true)) (by kernel_rfl) (by kernel_rfl))
          clear hF hd
          simp only [comes]
          go_simp
          first | exact ⟨Ext.refl _, rfl⟩ | exact Ext.refl _
      with_reducible refine xOps_cons ?_ ?_
      · with_reducible refine xop_on 24 88 24 1 ?_ ?_ ?_ ?_ ?_ ?_ ?_
        · rfl
        · kernel_rfl
        · kernel_rfl
        · rw [hsz]; rfl
        · kernel_rfl
        · kernel_rfl
        · intro vs x F hF hd
          clear hF hd
          simp only [comes]
          go_simp
          refine ((awake_any _)).mono ?_
          rintro e w' ⟨rfl, hE⟩
          first | exact ⟨_, rfl, hE, rfl⟩ | exact ⟨_, rfl, hE⟩ | exact ⟨rfl, hE⟩ | exact ⟨_, hE⟩ | exact hE
      with_reducible refine xOps_cons ?_ ?_
      · with_reducible refine xop_un ?_ ?_
        · rfl
        · intro vs x F hF hd
          have e1 : F.tmps.getD 88 undef = .bool true := (hF.v 88 24 (by kernel_rfl) (by rw [hsz]; rfl)).trans (dep_at hd 0 24 (is (.bool true)) (by kernel_rfl) (by kernel_rfl))
          have e2 : F.tmps.getD 89 undef = .bool true := (hF.v 89 25 (by kernel_rfl) (by rw [hsz]; rfl)).trans (dep_at hd 1 25 (is (.bool true)) (by kernel_rfl) (by kernel_rfl))
          clear hF hd
          simp only [comes]
          go_simp
          first | exact ⟨Ext.refl _, rfl⟩ | exact Ext.refl _
      exact xOps_nil
    case hst => exact ⟨is.st _, is.st _, is.st _, is.st _, is.st _, is.st _, is.st _, is.st _, is.st _, is.st _, is.st _, is.st _, is.st _, is.st _, is.st _, is.st _, is.st _, is.st _, is.st _, is.st _, is.st _, is.st _, is.st _, is.st _, is.st _, is.st _, is.st _, trivial⟩
    case hfin =>
      intro vs x hf
      have f26 : vs 26 = .bool true := hf.2.2.2.2.2.2.2.2.2.2.2.2.2.2.2.2.2.2.2.2.2.2.2.2.2.2.1
      clear hf
      have hA0 := HA0.out
      subst hA0
      clear hsz hA9 hA10
      simp only [List.take_succ_cons, List.take_zero, List.drop_succ_cons, List.drop_zero, putAll, Act.put, List.setIfInBounds_toArray, List.set_cons_succ, List.set_cons_zero, Nat.zero_add, Nat.reduceAdd]
      clear HA0
      rw [f26]
      clear f26
      go_wp2
      go_ret
      exact ⟨rfl, HE4.out.trans (by repeat (first | exact Ext.refl _ | assumption | apply Ext.plus_ | apply Ext.alloc | apply Ext.drew))⟩
set_option maxRecDepth 100000 in
set_option maxHeartbeats 8000000 in
theorem rises_2 (B : Option Addr) (k d0 : Nat) (ll : List Int) (at_ more : Int) (w : World) (hB : Row w w.heap.size 1 B k (ints ll)) (hk : k ≤ 9223372036854775807) (hat : at_ % 6 = 2) :
    Calls Try.prog 5 #[.slice B k d0, .int .i64 at_, .int .i64 more] w fun e w' => e = .returned (.bool true) ∧ Ext w w' := by
  have CW := Lib.hid (fun w => within_any at_ 6 w (by decide) (by decide))
  rw [hat] at CW
  have CM := Lib.hid (fun w => within_any more 50 w (by decide) (by decide))
  obtain ⟨mo, hmo⟩ : ∃ mo, mo = more % 50 := ⟨_, rfl⟩
  rw [← hmo] at CM
  have hm0 : 0 ≤ mo := by omega
  have hm1 : mo ≤ 49 := by omega
  have HM := Lib.hid (And.intro hm0 hm1)
  clear hmo hat hm0 hm1
  go_enter Try.func5, Try.ntmps5
  go_wp2_with fail
  refine calls_at fun X0 hX => ?_
  obtain ⟨s, hs⟩ : ∃ s, s = w.heap.size := ⟨_, rfl⟩
  have hS : SSt X0 X0 s B k d0 ll := by
    rw [hX, hs]
    exact src_new hB (by repeat (first | exact Ext.refl _ | assumption | apply Ext.plus_ | apply Ext.alloc | apply Ext.drew)) hk
  have hE0 : Ext w X0 := by
    rw [hX]
    repeat' (first | with_reducible assumption | with_reducible exact Ext.refl _ | with_reducible apply Ext.alloc | with_reducible apply Ext.drew | with_reducible apply Ext.drewN | with_reducible apply Ext.plus_ | with_reducible refine Ext.put ?_ (by omega))
  rw [← hs]
  have hsw : w.heap.size ≤ s := by omega
  clear hX hs
  refine (srcConfig_any s B k d0 ll X0 hS).mono ?_
  rintro e X1 ⟨g, wl, ig, rfl, hg, hok, hss, -, -⟩
  have hE1 : Ext w X1 := ext_se hE0 hss.se hsw
  have H1 := Lib.hid (And.intro hE1 hok)
  have HG := Lib.hid hg
  clear hE1 hok hss hE0 hS hsw hg X0
  go_wp2_with (with_reducible show wpList _ _ _ (⟨none, _, _, _, _, _⟩ :: _) _ _; refine Lock.out ?_)
  refine ⟨?_, trivial⟩
  refine wl_at fun V hV => ?_
  obtain ⟨P, hP⟩ : ∃ P, P = X1.heap.size := ⟨_, rfl⟩
  have hB0 : Box 0 (.int .i64 0 :: zcells) P V := by
    rw [hV, hP]
    repeat' (first | with_reducible assumption | ((with_reducible refine Box.fresh ?fb ?fn ?fr); (case fb => first | omega | (simp <;> omega)); (case fn => first | omega | (simp <;> omega)); (case fr => rfl)) | with_reducible apply Box.up | with_reducible apply Box.drew_ | with_reducible apply Box.drewN_ | with_reducible apply Box.plus_ | with_reducible apply Box.put | with_reducible refine Box.off ?_ (by omega))
    all_goals first | rfl | (simp; done)
  have hE1 : Ext X1 V := by
    rw [hV]
    repeat' (first | with_reducible assumption | with_reducible exact Ext.refl _ | with_reducible apply Ext.alloc | with_reducible apply Ext.drew | with_reducible apply Ext.drewN | with_reducible apply Ext.plus_ | with_reducible refine Ext.put ?_ (by omega))
  have hPl : X1.heap.size ≤ P := by omega
  rw [← hP]
  clear hV hP
  refine wl_store rfl 27 (.tmp 7) (.tmp 14) rfl hB0 g.cells rfl rfl rfl (by kernel_rfl) rfl fun W1 hB hx => ?_
  have hE2 := hx.ext _ hE1 hPl
  clear hE1 hx hB0 V
  have hok := H1.out.2.lift hE2
  have hE := H1.out.1.trans hE2
  have H2 := Lib.hid (And.intro hE hok)
  clear hE2 hok hE H1 hPl
  go_wp2_with (with_reducible show wpList _ _ _ (⟨some 15, _, _, _, _, _⟩ :: _) _ _; refine Lock.out ?_)
  refine ⟨?_, trivial⟩
  refine wl_load rfl 27 (.tmp 7) rfl hB rfl Try.underlying27 rfl (by kernel_rfl) ?_
  have HP := Lib.hid hB
  clear hB
  go_wp2_with (with_reducible show wpList _ _ _ (⟨none, _, _, _, _, _⟩ :: _) _ _; refine Lock.out ?_)
  refine ⟨?_, trivial⟩
  refine wl_at fun V hV => ?_
  obtain ⟨Q, hQ⟩ : ∃ Q, Q = W1.heap.size := ⟨_, rfl⟩
  have hB0 : Box 0 (.int .i64 0 :: zcells) Q V := by
    rw [hV, hQ]
    repeat' (first | with_reducible assumption | ((with_reducible refine Box.fresh ?fb ?fn ?fr); (case fb => first | omega | (simp <;> omega)); (case fn => first | omega | (simp <;> omega)); (case fr => rfl)) | with_reducible apply Box.up | with_reducible apply Box.drew_ | with_reducible apply Box.drewN_ | with_reducible apply Box.plus_ | with_reducible apply Box.put | with_reducible refine Box.off ?_ (by omega))
    all_goals first | rfl | (simp; done)
  have hE1 : Ext W1 V := by
    rw [hV]
    repeat' (first | with_reducible assumption | with_reducible exact Ext.refl _ | with_reducible apply Ext.alloc | with_reducible apply Ext.drew | with_reducible apply Ext.drewN | with_reducible apply Ext.plus_ | with_reducible refine Ext.put ?_ (by omega))
  have hQl : W1.heap.size ≤ Q := by omega
  rw [← hQ]
  clear hV hQ
  refine wl_store rfl 27 (.tmp 8) (.tmp 15) rfl hB0 g.cells rfl rfl rfl (by kernel_rfl) rfl fun W2 hB hx => ?_
  have hE2 := hx.ext _ hE1 hQl
  clear hE1 hx hB0 V
  have c0 := (HP.out.ext hE2).cell 10 (by simp)
  have c3 := hB.cell 10 (by simp)
  simp only [List.getElem?_cons_zero, List.getElem?_cons_succ] at c0 c3
  have f := hB.free
  have HQ := Lib.hid hB
  clear hB
  have HF := Lib.hid (And.intro hE2 hQl)
  clear hE2 hQl
  go_wp2_with fail
  refine (CM.out _).mono ?_
  rintro e w' ⟨rfl, rfl⟩
  go_wp2_with fail
  refine (CW.out _).mono ?_
  rintro e w' ⟨rfl, rfl⟩
  have m0 := HM.out.1
  have m1 := HM.out.2
  have b1 := HG.out.sh.1
  have b2 := HG.out.sh.2
  clear CW CM
  go_upto_region 16 with fail
  refine wp_at fun Y hY => ?_
  obtain ⟨d, hd⟩ : ∃ d : Cf, d = { g with sh := g.sh + mo } := ⟨_, rfl⟩
  have hEY : Ext W1 Y := by
    rw [hY]
    exact Ext.put HF.out.1 HF.out.2
  have hBQ : Box 0 d.cells Q Y := by
    rw [hY, hd]
    exact Box.put HQ.out rfl (by simp)
  have hEw := H2.out.1.trans hEY
  have hok := H2.out.2.lift hEY
  have hokd : CfOK d Y wl ig := by
    rw [hd]
    exact ⟨hok.pr, hok.ir, hok.pn, hok.im, hok.pm, hok.ikm, hok.si, hok.ss, hok.cs⟩
  have hcd : cfB d true ig = true := HG.out.more_sh HM.out.1 HM.out.2 hd
  have hpd : PlanOK wl d.mi d.nu d.de d.ho d.wi := by
    rw [hd]
    exact HG.out.pl
  have CG := Gen.overB HG.out.pl HG.out.ok hok
  have CD := Gen.overB hpd hcd hokd
  have HL := Lib.hid (bounds_mono (d := d) (CfN.of HG.out.ok) (by rw [hd]; simp only; omega) (by rw [hd]; simp only; omega) (by rw [hd]; simp only; omega) (by rw [hd]; simp only; omega) (by rw [hd]; simp only; omega) (by rw [hd]; simp only; omega) (by rw [hd]; simp only; omega) (by rw [hd]; simp only; omega) (by rw [hd]; simp only; omega) (by rw [hd]; simp only; omega) (by rw [hd]; simp only; omega) (by rw [hd]; simp only; omega) (by rw [hd]; simp only; omega))
  replace HP := Lib.hid (HP.out.ext hEY)
  replace HQ := Lib.hid hBQ
  have HE := Lib.hid hEw
  clear hY hd hEY hBQ hEw hok hokd hcd hpd H2 HF HG c0 c3 f b1 b2 m0 m1
  refine act_at fun A0 hA0 => ?_
  have hsz : A0.tmps.size = 91 := by
    rw [hA0]
    rfl
  have hA7 : A0.tmps.getD 7 undef = .pointer (some ⟨P, 0, none⟩) := by
    rw [hA0]
    rfl
  have hA8 : A0.tmps.getD 8 undef = .pointer (some ⟨Q, 0, none⟩) := by
    rw [hA0]
    rfl
  have HA0 := Lib.hid hA0
  clear hA0
  apply wp_region_extd 6 [is (cv g), is (bv g true), is (cv d), is (bv d true), isBox w.heap.size [.int .i64 0, .int .i64 0, .int .i64 0], isBox w.heap.size [.int .i64 0, .int .i64 0, .int .i64 0]] (fun i => i == 4 || i == 5) (by kernel_rfl) (by kernel_rfl) rfl
  case hops =>
    simp only [List.take_succ_cons, List.take_zero]
    with_reducible refine xOps_cons ?_ ?_
    · with_reducible refine xop_un ?_ ?_
      · rfl
      · intro vs x F hF hd
        have e1 : F.tmps.getD 7 undef = .pointer (some ⟨P, 0, none⟩) := (hF.a 7 (by kernel_rfl) (by rw [hsz]; rfl)).trans hA7
        exact comes_load_box 27 (.tmp 7) rfl (HP.out.ext (by repeat (first | exact Ext.refl _ | assumption | apply Ext.plus_ | apply Ext.alloc | apply Ext.drew))) e1 Try.underlying27 rfl (by kernel_rfl)
    with_reducible refine xOps_cons ?_ ?_
    · with_reducible refine xop_un ?_ ?_
      · rfl
      · intro vs x F hF hd
        have e60 : F.tmps.getD 60 undef = cv g := (hF.v 60 0 (by kernel_rfl) (by rw [hsz]; rfl)).trans (dep_at hd 0 0 (is (cv g)) (by kernel_rfl) (by kernel_rfl))
        clear hF hd
        simp only [comes]
        go_simp
        refine ((CG.out _ (by repeat (first | exact Ext.refl _ | assumption | apply Ext.plus_ | apply Ext.alloc | apply Ext.drew)))).mono ?_
        rintro e w' ⟨rfl, hE⟩
        first | exact ⟨_, rfl, hE, rfl⟩ | exact ⟨_, rfl, hE⟩ | exact ⟨rfl, hE⟩ | exact ⟨_, hE⟩ | exact hE
    with_reducible refine xOps_cons ?_ ?_
    · with_reducible refine xop_un ?_ ?_
      · rfl
      · intro vs x F hF hd
        have e1 : F.tmps.getD 8 undef = .pointer (some ⟨Q, 0, none⟩) := (hF.a 8 (by kernel_rfl) (by rw [hsz]; rfl)).trans hA8
        exact comes_load_box 27 (.tmp 8) rfl (HQ.out.ext (by repeat (first | exact Ext.refl _ | assumption | apply Ext.plus_ | apply Ext.alloc | apply Ext.drew))) e1 Try.underlying27 rfl (by kernel_rfl)
    with_reducible refine xOps_cons ?_ ?_
    · with_reducible refine xop_un ?_ ?_
      · rfl
      · intro vs x F hF hd
        have e62 : F.tmps.getD 62 undef = cv d := (hF.v 62 2 (by kernel_rfl) (by rw [hsz]; rfl)).trans (dep_at hd 0 2 (is (cv d)) (by kernel_rfl) (by kernel_rfl))
        clear hF hd
        simp only [comes]
        go_simp
        refine ((CD.out _ (by repeat (first | exact Ext.refl _ | assumption | apply Ext.plus_ | apply Ext.alloc | apply Ext.drew)))).mono ?_
        rintro e w' ⟨rfl, hE⟩
        first | exact ⟨_, rfl, hE, rfl⟩ | exact ⟨_, rfl, hE⟩ | exact ⟨rfl, hE⟩ | exact ⟨_, hE⟩ | exact hE
    with_reducible refine xOps_cons ?_ ?_
    · with_reducible refine xop_un ?_ ?_
      · rfl
      · intro vs x F hF hd
        clear hF hd
        simp only [comes]
        go_simp
        exact ⟨(Ext.refl _).alloc _, _, rfl, Box.new _ _ _ _ (HE.out.trans (by repeat (first | exact Ext.refl _ | assumption | apply Ext.plus_ | apply Ext.alloc | apply Ext.drew))).size rfl⟩
    with_reducible refine xOps_cons ?_ ?_
    · with_reducible refine xop_un ?_ ?_
      · rfl
      · intro vs x F hF hd
        clear hF hd
        simp only [comes]
        go_simp
        exact ⟨(Ext.refl _).alloc _, _, rfl, Box.new _ _ _ _ (HE.out.trans (by repeat (first | exact Ext.refl _ | assumption | apply Ext.plus_ | apply Ext.alloc | apply Ext.drew))).size rfl⟩
    exact xOps_nil
  case hst => exact ⟨is.st _, is.st _, is.st _, is.st _, isBox.st _ _, isBox.st _ _, trivial⟩
  case hDT =>
    intro i T di hT v w' hv
    have di' : i = 4 ∨ i = 5 := by simpa using di
    rcases di' with rfl | rfl
    · injection hT with hT
      subst hT
      exact isBox.old hv
    · injection hT with hT
      subst hT
      exact isBox.old hv
  case hD =>
    intro i o di ho
    have di' : i = 4 ∨ i = 5 := by simpa using di
    rcases di' with rfl | rfl
    · simp only [List.take_succ_cons, List.take_zero, List.getElem?_cons_succ, List.getElem?_cons_zero, Option.some.injEq] at ho
      subst ho
      refine ⟨rfl, fun vs x => ?_⟩
      simp only [comes]
      go_simp
      exact ⟨(Ext.refl _).alloc _, ⟨_, rfl, Box.new _ _ _ _ (HE.out.trans (by repeat (first | exact Ext.refl _ | assumption | apply Ext.plus_ | apply Ext.alloc | apply Ext.drew))).size rfl⟩, _, rfl, Nat.le_refl _⟩
    · simp only [List.take_succ_cons, List.take_zero, List.getElem?_cons_succ, List.getElem?_cons_zero, Option.some.injEq] at ho
      subst ho
      refine ⟨rfl, fun vs x => ?_⟩
      simp only [comes]
      go_simp
      exact ⟨(Ext.refl _).alloc _, ⟨_, rfl, Box.new _ _ _ _ (HE.out.trans (by repeat (first | exact Ext.refl _ | assumption | apply Ext.plus_ | apply Ext.alloc | apply Ext.drew))).size rfl⟩, _, rfl, Nat.le_refl _⟩
  case hfin =>
    intro vs x hf hap
    have f1 : vs 1 = bv g true := hf.2.1
    have f3 : vs 3 = bv d true := hf.2.2.2.1
    obtain ⟨b1, f4, h1⟩ := hf.2.2.2.2.1
    obtain ⟨b2, f5, h2⟩ := hf.2.2.2.2.2.1
    have hne : b1 ≠ b2 := fun e => hap 4 5 (by decide) (by decide) (by decide) rfl rfl (by
      have g4 : vs 4 = _ := f4
      have g5 : vs 5 = _ := f5
      rw [g4, g5, e])
    clear hf hap
    have hA0 := HA0.out
    subst hA0
    clear hsz hA7 hA8
    simp only [List.take_succ_cons, List.take_zero, List.drop_succ_cons, List.drop_zero, putAll, Act.put, List.setIfInBounds_toArray, List.set_cons_succ, List.set_cons_zero, Nat.zero_add, Nat.reduceAdd]
    clear HA0
    have g4 : vs 4 = .pointer (some ⟨b1, 0, none⟩) := f4
    have g5 : vs 5 = .pointer (some ⟨b2, 0, none⟩) := f5
    rw [f1, f3, g4, g5]
    clear f1 f3 f4 f5 g4 g5
    refine wl_store rfl 40 (.tmp 9) (.tmp 61) rfl h1 [.int .i64 (conV g true), .int .i64 (bytV g true), .int .i64 (recV g true)] rfl rfl rfl (by kernel_rfl) rfl fun W3 hB3 hx => ?_
    have hE3 := hx.ext _ (HE.out.trans (by repeat (first | exact Ext.refl _ | assumption | apply Ext.plus_ | apply Ext.alloc | apply Ext.drew))) h1.base
    have hB2 := hx.box h2 (Ne.symm hne)
    refine wl_store rfl 40 (.tmp 10) (.tmp 63) rfl hB2 [.int .i64 (conV d true), .int .i64 (bytV d true), .int .i64 (recV d true)] rfl rfl rfl (by kernel_rfl) rfl fun W4 hB4 hy => ?_
    have HE4 := Lib.hid (hy.ext _ hE3 h2.base)
    have HB3 := Lib.hid (hy.box hB3 hne)
    have HB4 := Lib.hid hB4
    clear hx hE3 hB2 hB3 hB4 hy h1 h2 hne CG CD HP HQ HE
    go_upto_region 17 with fail
    refine wp_at fun Y4 hY4 => ?_
    rw [← hY4] at HE4 HB3 HB4
    clear hY4
    refine act_at fun A0 hA0 => ?_
    have hsz : A0.tmps.size = 91 := by
      rw [hA0]
      rfl
    have hA9 : A0.tmps.getD 9 undef = .pointer (some ⟨b1, 0, none⟩) := by
      rw [hA0]
      rfl
    have hA10 : A0.tmps.getD 10 undef = .pointer (some ⟨b2, 0, none⟩) := by
      rw [hA0]
      rfl
    have HA0 := Lib.hid hA0
    clear hA0
    apply wp_region_seq 27 [is (.pointer (some ⟨b1, 0, none⟩)), is (.int .i64 (conV g true)), is (.pointer (some ⟨b2, 0, none⟩)), is (.int .i64 (conV d true)), is (.bool true), is (.bool true), is (.pointer (some ⟨b1, 1, none⟩)), is (.int .i64 (bytV g true)), is (.pointer (some ⟨b2, 1, none⟩)), is (.int .i64 (bytV d true)), is (.bool true), is (.bool true), is (.bool true), is (.pointer (some ⟨b1, 2, none⟩)), is (.int .i64 (recV g true)), is (.pointer (some ⟨b2, 2, none⟩)), is (.int .i64 (recV d true)), is (.bool true), is (.bool true), is (.bool true), is (.pointer (some ⟨b1, 1, none⟩)), is (.int .i64 (bytV g true)), is (.bool true), is (.bool true), is (.bool true), is (.bool true), is (.bool true)] (by kernel_rfl) (by kernel_rfl) rfl
    case hops =>
      simp only [List.take_succ_cons, List.take_zero]
      with_reducible refine xOps_cons ?_ ?_
      · with_reducible refine xop_un ?_ ?_
        · rfl
        · intro vs x F hF hd
          have e1 : F.tmps.getD 9 undef = .pointer (some ⟨b1, 0, none⟩) := (hF.a 9 (by kernel_rfl) (by rw [hsz]; rfl)).trans hA9
          clear hF hd
          simp only [comes]
          go_simp
          first | exact ⟨Ext.refl _, rfl⟩ | exact Ext.refl _
      with_reducible refine xOps_cons ?_ ?_
      · with_reducible refine xop_un ?_ ?_
        · rfl
        · intro vs x F hF hd
          have e1 : F.tmps.getD 64 undef = .pointer (some ⟨b1, 0, none⟩) := (hF.v 64 0 (by kernel_rfl) (by rw [hsz]; rfl)).trans (dep_at hd 0 0 (is (.pointer (some ⟨b1, 0, none⟩))) (by kernel_rfl) (by kernel_rfl))
          have c : Y4.cell? ⟨b1, 0, none⟩ = some (.int .i64 (conV g true)) := HB3.out.cell 0 (by simp)
          clear hF hd
          simp only [comes]
          go_simp
          first | exact ⟨Ext.refl _, rfl⟩ | exact Ext.refl _
      with_reducible refine xOps_cons ?_ ?_
      · with_reducible refine xop_un ?_ ?_
        · rfl
        · intro vs x F hF hd
          have e1 : F.tmps.getD 10 undef = .pointer (some ⟨b2, 0, none⟩) := (hF.a 10 (by kernel_rfl) (by rw [hsz]; rfl)).trans hA10
          clear hF hd
          simp only [comes]
          go_simp
          first | exact ⟨Ext.refl _, rfl⟩ | exact Ext.refl _
      with_reducible refine xOps_cons ?_ ?_
      · with_reducible refine xop_un ?_ ?_
        · rfl
        · intro vs x F hF hd
          have e1 : F.tmps.getD 66 undef = .pointer (some ⟨b2, 0, none⟩) := (hF.v 66 2 (by kernel_rfl) (by rw [hsz]; rfl)).trans (dep_at hd 0 2 (is (.pointer (some ⟨b2, 0, none⟩))) (by kernel_rfl) (by kernel_rfl))
          have c : Y4.cell? ⟨b2, 0, none⟩ = some (.int .i64 (conV d true)) := HB4.out.cell 0 (by simp)
          clear hF hd
          simp only [comes]
          go_simp
          first | exact ⟨Ext.refl _, rfl⟩ | exact Ext.refl _
      with_reducible refine xOps_cons ?_ ?_
      · with_reducible refine xop_un ?_ ?_
        · rfl
        · intro vs x F hF hd
          have e0 : F.tmps.getD 65 undef = .int .i64 (conV g true) := (hF.v 65 1 (by kernel_rfl) (by rw [hsz]; rfl)).trans (dep_at hd 0 1 (is (.int .i64 (conV g true))) (by kernel_rfl) (by kernel_rfl))
          have e1 : F.tmps.getD 67 undef = .int .i64 (conV d true) := (hF.v 67 3 (by kernel_rfl) (by rw [hsz]; rfl)).trans (dep_at hd 1 3 (is (.int .i64 (conV d true))) (by kernel_rfl) (by kernel_rfl))
          have q := HL.out.1
          clear hF hd
          simp only [comes]
          go_simp
          first | exact ⟨Ext.refl _, rfl⟩ | exact Ext.refl _
      with_reducible refine xOps_cons ?_ ?_
      · with_reducible refine xop_un ?_ ?_
        · rfl
        · intro vs x F hF hd
          have e1 : F.tmps.getD 68 undef = .bool true := (hF.v 68 4 (by kernel_rfl) (by rw [hsz]; rfl)).trans (dep_at hd 0 4 (is (.bool true)) (by kernel_rfl) (by kernel_rfl))
          clear hF hd
          simp only [comes]
          go_simp
          first | exact ⟨Ext.refl _, rfl⟩ | exact Ext.refl _
      with_reducible refine xOps_cons ?_ ?_
      · with_reducible refine xop_on 5 69 5 0 ?_ ?_ ?_ ?_ ?_ ?_ ?_
        · rfl
        · kernel_rfl
        · kernel_rfl
        · rw [hsz]; rfl
        · kernel_rfl
        · kernel_rfl
        · intro vs x F hF hd
          have e1 : F.tmps.getD 9 undef = .pointer (some ⟨b1, 0, none⟩) := (hF.a 9 (by kernel_rfl) (by rw [hsz]; rfl)).trans hA9
          clear hF hd
          simp only [comes]
          go_simp
          first | exact ⟨Ext.refl _, rfl⟩ | exact Ext.refl _
      with_reducible refine xOps_cons ?_ ?_
      · with_reducible refine xop_on 5 69 5 1 ?_ ?_ ?_ ?_ ?_ ?_ ?_
        · rfl
        · kernel_rfl
        · kernel_rfl
        · rw [hsz]; rfl
        · kernel_rfl
        · kernel_rfl
        · intro vs x F hF hd
          have e1 : F.tmps.getD 70 undef = .pointer (some ⟨b1, 1, none⟩) := (hF.v 70 6 (by kernel_rfl) (by rw [hsz]; rfl)).trans (dep_at hd 0 6 (is (.pointer (some ⟨b1, 1, none⟩))) (by kernel_rfl) (by kernel_rfl))
          have c : Y4.cell? ⟨b1, 1, none⟩ = some (.int .i64 (bytV g true)) := HB3.out.cell 1 (by simp)
          clear hF hd
          simp only [comes]
          go_simp
          first | exact ⟨Ext.refl _, rfl⟩ | exact Ext.refl _
      with_reducible refine xOps_cons ?_ ?_
      · with_reducible refine xop_on 5 69 5 0 ?_ ?_ ?_ ?_ ?_ ?_ ?_
        · rfl
        · kernel_rfl
        · kernel_rfl
        · rw [hsz]; rfl
        · kernel_rfl
        · kernel_rfl
        · intro vs x F hF hd
          have e1 : F.tmps.getD 10 undef = .pointer (some ⟨b2, 0, none⟩) := (hF.a 10 (by kernel_rfl) (by rw [hsz]; rfl)).trans hA10
          clear hF hd
          simp only [comes]
          go_simp
          first | exact ⟨Ext.refl _, rfl⟩ | exact Ext.refl _
      with_reducible refine xOps_cons ?_ ?_
      · with_reducible refine xop_on 5 69 5 1 ?_ ?_ ?_ ?_ ?_ ?_ ?_
        · rfl
        · kernel_rfl
        · kernel_rfl
        · rw [hsz]; rfl
        · kernel_rfl
        · kernel_rfl
        · intro vs x F hF hd
          have e1 : F.tmps.getD 72 undef = .pointer (some ⟨b2, 1, none⟩) := (hF.v 72 8 (by kernel_rfl) (by rw [hsz]; rfl)).trans (dep_at hd 0 8 (is (.pointer (some ⟨b2, 1, none⟩))) (by kernel_rfl) (by kernel_rfl))
          have c : Y4.cell? ⟨b2, 1, none⟩ = some (.int .i64 (bytV d true)) := HB4.out.cell 1 (by simp)
          clear hF hd
          simp only [comes]
          go_simp
          first | exact ⟨Ext.refl _, rfl⟩ | exact Ext.refl _
      with_reducible refine xOps_cons ?_ ?_
      · with_reducible refine xop_on 5 69 5 2 ?_ ?_ ?_ ?_ ?_ ?_ ?_
        · rfl
        · kernel_rfl
        · kernel_rfl
        · rw [hsz]; rfl
        · kernel_rfl
        · kernel_rfl
        · intro vs x F hF hd
          have e0 : F.tmps.getD 71 undef = .int .i64 (bytV g true) := (hF.v 71 7 (by kernel_rfl) (by rw [hsz]; rfl)).trans (dep_at hd 0 7 (is (.int .i64 (bytV g true))) (by kernel_rfl) (by kernel_rfl))
          have e1 : F.tmps.getD 73 undef = .int .i64 (bytV d true) := (hF.v 73 9 (by kernel_rfl) (by rw [hsz]; rfl)).trans (dep_at hd 1 9 (is (.int .i64 (bytV d true))) (by kernel_rfl) (by kernel_rfl))
          have q := HL.out.2.1
          clear hF hd
          simp only [comes]
          go_simp
          first | exact ⟨Ext.refl _, rfl⟩ | exact Ext.refl _
      with_reducible refine xOps_cons ?_ ?_
      · with_reducible refine xop_un ?_ ?_
        · rfl
        · intro vs x F hF hd
          have e1 : F.tmps.getD 69 undef = .bool true := (hF.v 69 5 (by kernel_rfl) (by rw [hsz]; rfl)).trans (dep_at hd 0 5 (is (.bool true)) (by kernel_rfl) (by kernel_rfl))
          have e2 : F.tmps.getD 74 undef = .bool true := (hF.v 74 10 (by kernel_rfl) (by rw [hsz]; rfl)).trans (dep_at hd 1 10 (is (.bool true)) (by kernel_rfl) (by kernel_rfl))
          clear hF hd
          simp only [comes]
          go_simp
          first | exact ⟨Ext.refl _, rfl⟩ | exact Ext.refl _
      with_reducible refine xOps_cons ?_ ?_
      · with_reducible refine xop_un ?_ ?_
        · rfl
        · intro vs x F hF hd
          have e1 : F.tmps.getD 75 undef = .bool true := (hF.v 75 11 (by kernel_rfl) (by rw [hsz]; rfl)).trans (dep_at hd 0 11 (is (.bool true)) (by kernel_rfl) (by kernel_rfl))
          clear hF hd
          simp only [comes]
          go_simp
          first | exact ⟨Ext.refl _, rfl⟩ | exact Ext.refl _
      with_reducible refine xOps_cons ?_ ?_
      · with_reducible refine xop_on 12 76 12 0 ?_ ?_ ?_ ?_ ?_ ?_ ?_
        · rfl
        · kernel_rfl
        · kernel_rfl
        · rw [hsz]; rfl
        · kernel_rfl
        · kernel_rfl
        · intro vs x F hF hd
          have e1 : F.tmps.getD 9 undef = .pointer (some ⟨b1, 0, none⟩) := (hF.a 9 (by kernel_rfl) (by rw [hsz]; rfl)).trans hA9
          clear hF hd
          simp only [comes]
          go_simp
          first | exact ⟨Ext.refl _, rfl⟩ | exact Ext.refl _
      with_reducible refine xOps_cons ?_ ?_
      · with_reducible refine xop_on 12 76 12 1 ?_ ?_ ?_ ?_ ?_ ?_ ?_
        · rfl
        · kernel_rfl
        · kernel_rfl
        · rw [hsz]; rfl
        · kernel_rfl
        · kernel_rfl
        · intro vs x F hF hd
          have e1 : F.tmps.getD 77 undef = .pointer (some ⟨b1, 2, none⟩) := (hF.v 77 13 (by kernel_rfl) (by rw [hsz]; rfl)).trans (dep_at hd 0 13 (is (.pointer (some ⟨b1, 2, none⟩))) (by kernel_rfl) (by kernel_rfl))
          have c : Y4.cell? ⟨b1, 2, none⟩ = some (.int .i64 (recV g true)) := HB3.out.cell 2 (by simp)
          clear hF hd
          simp only [comes]
          go_simp
          first | exact ⟨Ext.refl _, rfl⟩ | exact Ext.refl _
      with_reducible refine xOps_cons ?_ ?_
      · with_reducible refine xop_on 12 76 12 0 ?_ ?_ ?_ ?_ ?_ ?_ ?_
        · rfl
        · kernel_rfl
        · kernel_rfl
        · rw [hsz]; rfl
        · kernel_rfl
        · kernel_rfl
        · intro vs x F hF hd
          have e1 : F.tmps.getD 10 undef = .pointer (some ⟨b2, 0, none⟩) := (hF.a 10 (by kernel_rfl) (by rw [hsz]; rfl)).trans hA10
          clear hF hd
          simp only [comes]
          go_simp
          first | exact ⟨Ext.refl _, rfl⟩ | exact Ext.refl _
      with_reducible refine xOps_cons ?_ ?_
      · with_reducible refine xop_on 12 76 12 1 ?_ ?_ ?_ ?_ ?_ ?_ ?_
        · rfl
        · kernel_rfl
        · kernel_rfl
        · rw [hsz]; rfl
        · kernel_rfl
        · kernel_rfl
        · intro vs x F hF hd
          have e1 : F.tmps.getD 79 undef = .pointer (some ⟨b2, 2, none⟩) := (hF.v 79 15 (by kernel_rfl) (by rw [hsz]; rfl)).trans (dep_at hd 0 15 (is (.pointer (some ⟨b2, 2, none⟩))) (by kernel_rfl) (by kernel_rfl))
          have c : Y4.cell? ⟨b2, 2, none⟩ = some (.int .i64 (recV d true)) := HB4.out.cell 2 (by simp)
          clear hF hd
          simp only [comes]
          go_simp
          first | exact ⟨Ext.refl _, rfl⟩ | exact Ext.refl _
      with_reducible refine xOps_cons ?_ ?_
      · with_reducible refine xop_on 12 76 12 2 ?_ ?_ ?_ ?_ ?_ ?_ ?_
        · rfl
        · kernel_rfl
        · kernel_rfl
        · rw [hsz]; rfl
        · kernel_rfl
        · kernel_rfl
        · intro vs x F hF hd
          have e0 : F.tmps.getD 78 undef = .int .i64 (recV g true) := (hF.v 78 14 (by kernel_rfl) (by rw [hsz]; rfl)).trans (dep_at hd 0 14 (is (.int .i64 (recV g true))) (by kernel_rfl) (by kernel_rfl))
          have e1 : F.tmps.getD 80 undef = .int .i64 (recV d true) := (hF.v 80 16 (by kernel_rfl) (by rw [hsz]; rfl)).trans (dep_at hd 1 16 (is (.int .i64 (recV d true))) (by kernel_rfl) (by kernel_rfl))
          have q := HL.out.2.2.1
          clear hF hd
          simp only [comes]
          go_simp
          first | exact ⟨Ext.refl _, rfl⟩ | exact Ext.refl _
      with_reducible refine xOps_cons ?_ ?_
      · with_reducible refine xop_un ?_ ?_
        · rfl
        · intro vs x F hF hd
          have e1 : F.tmps.getD 76 undef = .bool true := (hF.v 76 12 (by kernel_rfl) (by rw [hsz]; rfl)).trans (dep_at hd 0 12 (is (.bool true)) (by kernel_rfl) (by kernel_rfl))
          have e2 : F.tmps.getD 81 undef = .bool true := (hF.v 81 17 (by kernel_rfl) (by rw [hsz]; rfl)).trans (dep_at hd 1 17 (is (.bool true)) (by kernel_rfl) (by kernel_rfl))
          clear hF hd
          simp only [comes]
          go_simp
          first | exact ⟨Ext.refl _, rfl⟩ | exact Ext.refl _
      with_reducible refine xOps_cons ?_ ?_
      · with_reducible refine xop_un ?_ ?_
        · rfl
        · intro vs x F hF hd
          have e1 : F.tmps.getD 82 undef = .bool true := (hF.v 82 18 (by kernel_rfl) (by rw [hsz]; rfl)).trans (dep_at hd 0 18 (is (.bool true)) (by kernel_rfl) (by kernel_rfl))
          clear hF hd
          simp only [comes]
          go_simp
          first | exact ⟨Ext.refl _, rfl⟩ | exact Ext.refl _
      with_reducible refine xOps_cons ?_ ?_
      · with_reducible refine xop_on 19 83 19 0 ?_ ?_ ?_ ?_ ?_ ?_ ?_
        · rfl
        · kernel_rfl
        · kernel_rfl
        · rw [hsz]; rfl
        · kernel_rfl
        · kernel_rfl
        · intro vs x F hF hd
          have e1 : F.tmps.getD 9 undef = .pointer (some ⟨b1, 0, none⟩) := (hF.a 9 (by kernel_rfl) (by rw [hsz]; rfl)).trans hA9
          clear hF hd
          simp only [comes]
          go_simp
          first | exact ⟨Ext.refl _, rfl⟩ | exact Ext.refl _
      with_reducible refine xOps_cons ?_ ?_
      · with_reducible refine xop_on 19 83 19 1 ?_ ?_ ?_ ?_ ?_ ?_ ?_
        · rfl
        · kernel_rfl
        · kernel_rfl
        · rw [hsz]; rfl
        · kernel_rfl
        · kernel_rfl
        · intro vs x F hF hd
          have e1 : F.tmps.getD 84 undef = .pointer (some ⟨b1, 1, none⟩) := (hF.v 84 20 (by kernel_rfl) (by rw [hsz]; rfl)).trans (dep_at hd 0 20 (is (.pointer (some ⟨b1, 1, none⟩))) (by kernel_rfl) (by kernel_rfl))
          have c : Y4.cell? ⟨b1, 1, none⟩ = some (.int .i64 (bytV g true)) := HB3.out.cell 1 (by simp)
          clear hF hd
          simp only [comes]
          go_simp
          first | exact ⟨Ext.refl _, rfl⟩ | exact Ext.refl _
      with_reducible refine xOps_cons ?_ ?_
      · with_reducible refine xop_on 19 83 19 1 ?_ ?_ ?_ ?_ ?_ ?_ ?_
        · rfl
        · kernel_rfl
        · kernel_rfl
        · rw [hsz]; rfl
        · kernel_rfl
        · kernel_rfl
        · intro vs x F hF hd
          have e0 : F.tmps.getD 85 undef = .int .i64 (bytV g true) := (hF.v 85 21 (by kernel_rfl) (by rw [hsz]; rfl)).trans (dep_at hd 0 21 (is (.int .i64 (bytV g true))) (by kernel_rfl) (by kernel_rfl))
          have q := HL.out.2.2.2
          clear hF hd
          simp only [comes]
          go_simp
          first | exact ⟨Ext.refl _, rfl⟩ | exact Ext.refl _
      with_reducible refine xOps_cons ?_ ?_
      · with_reducible refine xop_un ?_ ?_
        · rfl
        · intro vs x F hF hd
          have e1 : F.tmps.getD 83 undef = .bool true := (hF.v 83 19 (by kernel_rfl) (by rw [hsz]; rfl)).trans (dep_at hd 0 19 (is (.bool true)) (by kernel_rfl) (by kernel_rfl))
          have e2 : F.tmps.getD 86 undef = .bool true := (hF.v 86 22 (by kernel_rfl) (by rw [hsz]; rfl)).trans (dep_at hd 1 22 (is (.bool true)) (by kernel_rfl) (by kernel_rfl))
          clear hF hd
          simp only [comes]
          go_simp
          first | exact ⟨Ext.refl _, rfl⟩ | exact Ext.refl _
      with_reducible refine xOps_cons ?_ ?_
      · with_reducible refine xop_un ?_ ?_
        · rfl
        · intro vs x F hF hd
          have e1 : F.tmps.getD 87 undef = .bool true := (hF.v 87 23 (by kernel_rfl) (by rw [hsz]; rfl)).trans (dep_at hd 0 23 (is (.bool true)) (by kernel_rfl) (by kernel_rfl))
          clear hF hd
          simp only [comes]
          go_simp
          first | exact ⟨Ext.refl _, rfl⟩ | exact Ext.refl _
      with_reducible refine xOps_cons ?_ ?_
      · with_reducible refine xop_on 24 88 24 1 ?_ ?_ ?_ ?_ ?_ ?_ ?_
        · rfl
        · kernel_rfl
        · kernel_rfl
        · rw [hsz]; rfl
        · kernel_rfl
        · kernel_rfl
        · intro vs x F hF hd
          clear hF hd
          simp only [comes]
          go_simp
          refine ((awake_any _)).mono ?_
          rintro e w' ⟨rfl, hE⟩
          first | exact ⟨_, rfl, hE, rfl⟩ | exact ⟨_, rfl, hE⟩ | exact ⟨rfl, hE⟩ | exact ⟨_, hE⟩ | exact hE
      with_reducible refine xOps_cons ?_ ?_
      · with_reducible refine xop_un ?_ ?_
        · rfl
        · intro vs x F hF hd
          have e1 : F.tmps.getD 88 undef = .bool true := (hF.v 88 24 (by kernel_rfl) (by rw [hsz]; rfl)).trans (dep_at hd 0 24 (is (.bool true)) (by kernel_rfl) (by kernel_rfl))
          have e2 : F.tmps.getD 89 undef = .bool true := (hF.v 89 25 (by kernel_rfl) (by rw [hsz]; rfl)).trans (dep_at hd 1 25 (is (.bool true)) (by kernel_rfl) (by kernel_rfl))
          clear hF hd
          simp only [comes]
          go_simp
          first | exact ⟨Ext.refl _, rfl⟩ | exact Ext.refl _
      exact xOps_nil
    case hst => exact ⟨is.st _, is.st _, is.st _, is.st _, is.st _, is.st _, is.st _, is.st _, is.st _, is.st _, is.st _, is.st _, is.st _, is.st _, is.st _, is.st _, is.st _, is.st _, is.st _, is.st _, is.st _, is.st _, is.st _, is.st _, is.st _, is.st _, is.st _, trivial⟩
    case hfin =>
      intro vs x hf
      have f26 : vs 26 = .bool true := hf.2.2.2.2.2.2.2.2.2.2.2.2.2.2.2.2.2.2.2.2.2.2.2.2.2.2.1
      clear hf
      have hA0 := HA0.out
      subst hA0
      clear hsz hA9 hA10
      simp only [List.take_succ_cons, List.take_zero, List.drop_succ_cons, List.drop_zero, putAll, Act.put, List.setIfInBounds_toArray, List.set_cons_succ, List.set_cons_zero, Nat.zero_add, Nat.reduceAdd]
      clear HA0
      rw [f26]
      clear f26
      go_wp2
      go_ret
      exact ⟨rfl, HE4.out.trans (by repeat (first | exact Ext.refl _ | assumption | apply Ext.plus_ | apply Ext.alloc | apply Ext.drew))⟩
set_option maxRecDepth 100000 in
set_option maxHeartbeats 8000000 in
theorem rises_3 (B : Option Addr) (k d0 : Nat) (ll : List Int) (at_ more : Int) (w : World) (hB : Row w w.heap.size 1 B k (ints ll)) (hk : k ≤ 9223372036854775807) (hat : at_ % 6 = 3) :
    Calls Try.prog 5 #[.slice B k d0, .int .i64 at_, .int .i64 more] w fun e w' => e = .returned (.bool true) ∧ Ext w w' := by
  have CW := Lib.hid (fun w => within_any at_ 6 w (by decide) (by decide))
  rw [hat] at CW
  have CM := Lib.hid (fun w => within_any more 50 w (by decide) (by decide))
  obtain ⟨mo, hmo⟩ : ∃ mo, mo = more % 50 := ⟨_, rfl⟩
  rw [← hmo] at CM
  have hm0 : 0 ≤ mo := by omega
  have hm1 : mo ≤ 49 := by omega
  have HM := Lib.hid (And.intro hm0 hm1)
  clear hmo hat hm0 hm1
  go_enter Try.func5, Try.ntmps5
  go_wp2_with fail
  refine calls_at fun X0 hX => ?_
  obtain ⟨s, hs⟩ : ∃ s, s = w.heap.size := ⟨_, rfl⟩
  have hS : SSt X0 X0 s B k d0 ll := by
    rw [hX, hs]
    exact src_new hB (by repeat (first | exact Ext.refl _ | assumption | apply Ext.plus_ | apply Ext.alloc | apply Ext.drew)) hk
  have hE0 : Ext w X0 := by
    rw [hX]
    repeat' (first | with_reducible assumption | with_reducible exact Ext.refl _ | with_reducible apply Ext.alloc | with_reducible apply Ext.drew | with_reducible apply Ext.drewN | with_reducible apply Ext.plus_ | with_reducible refine Ext.put ?_ (by omega))
  rw [← hs]
  have hsw : w.heap.size ≤ s := by omega
  clear hX hs
  refine (srcConfig_any s B k d0 ll X0 hS).mono ?_
  rintro e X1 ⟨g, wl, ig, rfl, hg, hok, hss, -, -⟩
  have hE1 : Ext w X1 := ext_se hE0 hss.se hsw
  have H1 := Lib.hid (And.intro hE1 hok)
  have HG := Lib.hid hg
  clear hE1 hok hss hE0 hS hsw hg X0
  go_wp2_with (with_reducible show wpList _ _ _ (⟨none, _, _, _, _, _⟩ :: _) _ _; refine Lock.out ?_)
  refine ⟨?_, trivial⟩
  refine wl_at fun V hV => ?_
  obtain ⟨P, hP⟩ : ∃ P, P = X1.heap.size := ⟨_, rfl⟩
  have hB0 : Box 0 (.int .i64 0 :: zcells) P V := by
    rw [hV, hP]
    repeat' (first | with_reducible assumption | ((with_reducible refine Box.fresh ?fb ?fn ?fr); (case fb => first | omega | (simp <;> omega)); (case fn => first | omega | (simp <;> omega)); (case fr => rfl)) | with_reducible apply Box.up | with_reducible apply Box.drew_ | with_reducible apply Box.drewN_ | with_reducible apply Box.plus_ | with_reducible apply Box.put | with_reducible refine Box.off ?_ (by omega))
    all_goals first | rfl | (simp; done)
  have hE1 : Ext X1 V := by
    rw [hV]
    repeat' (first | with_reducible assumption | with_reducible exact Ext.refl _ | with_reducible apply Ext.alloc | with_reducible apply Ext.drew | with_reducible apply Ext.drewN | with_reducible apply Ext.plus_ | with_reducible refine Ext.put ?_ (by omega))
  have hPl : X1.heap.size ≤ P := by omega
  rw [← hP]
  clear hV hP
  refine wl_store rfl 27 (.tmp 7) (.tmp 14) rfl hB0 g.cells rfl rfl rfl (by kernel_rfl) rfl fun W1 hB hx => ?_
  have hE2 := hx.ext _ hE1 hPl
  clear hE1 hx hB0 V
  have hok := H1.out.2.lift hE2
  have hE := H1.out.1.trans hE2
  have H2 := Lib.hid (And.intro hE hok)
  clear hE2 hok hE H1 hPl
  go_wp2_with (with_reducible show wpList _ _ _ (⟨some 15, _, _, _, _, _⟩ :: _) _ _; refine Lock.out ?_)
  refine ⟨?_, trivial⟩
  refine wl_load rfl 27 (.tmp 7) rfl hB rfl Try.underlying27 rfl (by kernel_rfl) ?_
  have HP := Lib.hid hB
  clear hB
  go_wp2_with (with_reducible show wpList _ _ _ (⟨none, _, _, _, _, _⟩ :: _) _ _; refine Lock.out ?_)
  refine ⟨?_, trivial⟩
  refine wl_at fun V hV => ?_
  obtain ⟨Q, hQ⟩ : ∃ Q, Q = W1.heap.size := ⟨_, rfl⟩
  have hB0 : Box 0 (.int .i64 0 :: zcells) Q V := by
    rw [hV, hQ]
    repeat' (first | with_reducible assumption | ((with_reducible refine Box.fresh ?fb ?fn ?fr); (case fb => first | omega | (simp <;> omega)); (case fn => first | omega | (simp <;> omega)); (case fr => rfl)) | with_reducible apply Box.up | with_reducible apply Box.drew_ | with_reducible apply Box.drewN_ | with_reducible apply Box.plus_ | with_reducible apply Box.put | with_reducible refine Box.off ?_ (by omega))
    all_goals first | rfl | (simp; done)
  have hE1 : Ext W1 V := by
    rw [hV]
    repeat' (first | with_reducible assumption | with_reducible exact Ext.refl _ | with_reducible apply Ext.alloc | with_reducible apply Ext.drew | with_reducible apply Ext.drewN | with_reducible apply Ext.plus_ | with_reducible refine Ext.put ?_ (by omega))
  have hQl : W1.heap.size ≤ Q := by omega
  rw [← hQ]
  clear hV hQ
  refine wl_store rfl 27 (.tmp 8) (.tmp 15) rfl hB0 g.cells rfl rfl rfl (by kernel_rfl) rfl fun W2 hB hx => ?_
  have hE2 := hx.ext _ hE1 hQl
  clear hE1 hx hB0 V
  have c0 := (HP.out.ext hE2).cell 11 (by simp)
  have c3 := hB.cell 11 (by simp)
  simp only [List.getElem?_cons_zero, List.getElem?_cons_succ] at c0 c3
  have f := hB.free
  have HQ := Lib.hid hB
  clear hB
  have HF := Lib.hid (And.intro hE2 hQl)
  clear hE2 hQl
  go_wp2_with fail
  refine (CM.out _).mono ?_
  rintro e w' ⟨rfl, rfl⟩
  go_wp2_with fail
  refine (CW.out _).mono ?_
  rintro e w' ⟨rfl, rfl⟩
  have m0 := HM.out.1
  have m1 := HM.out.2
  have b1 := HG.out.te.1
  have b2 := HG.out.te.2
  clear CW CM
  go_upto_region 16 with fail
  refine wp_at fun Y hY => ?_
  obtain ⟨d, hd⟩ : ∃ d : Cf, d = { g with te := g.te + mo } := ⟨_, rfl⟩
  have hEY : Ext W1 Y := by
    rw [hY]
    exact Ext.put HF.out.1 HF.out.2
  have hBQ : Box 0 d.cells Q Y := by
    rw [hY, hd]
    exact Box.put HQ.out rfl (by simp)
  have hEw := H2.out.1.trans hEY
  have hok := H2.out.2.lift hEY
  have hokd : CfOK d Y wl ig := by
    rw [hd]
    exact ⟨hok.pr, hok.ir, hok.pn, hok.im, hok.pm, hok.ikm, hok.si, hok.ss, hok.cs⟩
  have hcd : cfB d true ig = true := HG.out.more_te HM.out.1 HM.out.2 hd
  have hpd : PlanOK wl d.mi d.nu d.de d.ho d.wi := by
    rw [hd]
    exact HG.out.pl
  have CG := Gen.overB HG.out.pl HG.out.ok hok
  have CD := Gen.overB hpd hcd hokd
  have HL := Lib.hid (bounds_mono (d := d) (CfN.of HG.out.ok) (by rw [hd]; simp only; omega) (by rw [hd]; simp only; omega) (by rw [hd]; simp only; omega) (by rw [hd]; simp only; omega) (by rw [hd]; simp only; omega) (by rw [hd]; simp only; omega) (by rw [hd]; simp only; omega) (by rw [hd]; simp only; omega) (by rw [hd]; simp only; omega) (by rw [hd]; simp only; omega) (by rw [hd]; simp only; omega) (by rw [hd]; simp only; omega) (by rw [hd]; simp only; omega))
  replace HP := Lib.hid (HP.out.ext hEY)
  replace HQ := Lib.hid hBQ
  have HE := Lib.hid hEw
  clear hY hd hEY hBQ hEw hok hokd hcd hpd H2 HF HG c0 c3 f b1 b2 m0 m1
  refine act_at fun A0 hA0 => ?_
  have hsz : A0.tmps.size = 91 := by
    rw [hA0]
    rfl
  have hA7 : A0.tmps.getD 7 undef = .pointer (some ⟨P, 0, none⟩) := by
    rw [hA0]
    rfl
  have hA8 : A0.tmps.getD 8 undef = .pointer (some ⟨Q, 0, none⟩) := by
    rw [hA0]
    rfl
  have HA0 := Lib.hid hA0
  clear hA0
  apply wp_region_extd 6 [is (cv g), is (bv g true), is (cv d), is (bv d true), isBox w.heap.size [.int .i64 0, .int .i64 0, .int .i64 0], isBox w.heap.size [.int .i64 0, .int .i64 0, .int .i64 0]] (fun i => i == 4 || i == 5) (by kernel_rfl) (by kernel_rfl) rfl
  case hops =>
    simp only [List.take_succ_cons, List.take_zero]
    with_reducible refine xOps_cons ?_ ?_
    · with_reducible refine xop_un ?_ ?_
      · rfl
      · intro vs x F hF hd
        have e1 : F.tmps.getD 7 undef = .pointer (some ⟨P, 0, none⟩) := (hF.a 7 (by kernel_rfl) (by rw [hsz]; rfl)).trans hA7
        exact comes_load_box 27 (.tmp 7) rfl (HP.out.ext (by repeat (first | exact Ext.refl _ | assumption | apply Ext.plus_ | apply Ext.alloc | apply Ext.drew))) e1 Try.underlying27 rfl (by kernel_rfl)
    with_reducible refine xOps_cons ?_ ?_
    · with_reducible refine xop_un ?_ ?_
      · rfl
      · intro vs x F hF hd
        have e60 : F.tmps.getD 60 undef = cv g := (hF.v 60 0 (by kernel_rfl) (by rw [hsz]; rfl)).trans (dep_at hd 0 0 (is (cv g)) (by kernel_rfl) (by kernel_rfl))
        clear hF hd
        simp only [comes]
        go_simp
        refine ((CG.out _ (by repeat (first | exact Ext.refl _ | assumption | apply Ext.plus_ | apply Ext.alloc | apply Ext.drew)))).mono ?_
        rintro e w' ⟨rfl, hE⟩
        first | exact ⟨_, rfl, hE, rfl⟩ | exact ⟨_, rfl, hE⟩ | exact ⟨rfl, hE⟩ | exact ⟨_, hE⟩ | exact hE
    with_reducible refine xOps_cons ?_ ?_
    · with_reducible refine xop_un ?_ ?_
      · rfl
      · intro vs x F hF hd
        have e1 : F.tmps.getD 8 undef = .pointer (some ⟨Q, 0, none⟩) := (hF.a 8 (by kernel_rfl) (by rw [hsz]; rfl)).trans hA8
        exact comes_load_box 27 (.tmp 8) rfl (HQ.out.ext (by repeat (first | exact Ext.refl _ | assumption | apply Ext.plus_ | apply Ext.alloc | apply Ext.drew))) e1 Try.underlying27 rfl (by kernel_rfl)
    with_reducible refine xOps_cons ?_ ?_
    · with_reducible refine xop_un ?_ ?_
      · rfl
      · intro vs x F hF hd
        have e62 : F.tmps.getD 62 undef = cv d := (hF.v 62 2 (by kernel_rfl) (by rw [hsz]; rfl)).trans (dep_at hd 0 2 (is (cv d)) (by kernel_rfl) (by kernel_rfl))
        clear hF hd
        simp only [comes]
        go_simp
        refine ((CD.out _ (by repeat (first | exact Ext.refl _ | assumption | apply Ext.plus_ | apply Ext.alloc | apply Ext.drew)))).mono ?_
        rintro e w' ⟨rfl, hE⟩
        first | exact ⟨_, rfl, hE, rfl⟩ | exact ⟨_, rfl, hE⟩ | exact ⟨rfl, hE⟩ | exact ⟨_, hE⟩ | exact hE
    with_reducible refine xOps_cons ?_ ?_
    · with_reducible refine xop_un ?_ ?_
      · rfl
      · intro vs x F hF hd
        clear hF hd
        simp only [comes]
        go_simp
        exact ⟨(Ext.refl _).alloc _, _, rfl, Box.new _ _ _ _ (HE.out.trans (by repeat (first | exact Ext.refl _ | assumption | apply Ext.plus_ | apply Ext.alloc | apply Ext.drew))).size rfl⟩
    with_reducible refine xOps_cons ?_ ?_
    · with_reducible refine xop_un ?_ ?_
      · rfl
      · intro vs x F hF hd
        clear hF hd
        simp only [comes]
        go_simp
        exact ⟨(Ext.refl _).alloc _, _, rfl, Box.new _ _ _ _ (HE.out.trans (by repeat (first | exact Ext.refl _ | assumption | apply Ext.plus_ | apply Ext.alloc | apply Ext.drew))).size rfl⟩
    exact xOps_nil
  case hst => exact ⟨is.st _, is.st _, is.st _, is.st _, isBox.st _ _, isBox.st _ _, trivial⟩
  case hDT =>
    intro i T di hT v w' hv
    have di' : i = 4 ∨ i = 5 := by simpa using di
    rcases di' with rfl | rfl
    · injection hT with hT
      subst hT
      exact isBox.old hv
    · injection hT with hT
      subst hT
      exact isBox.old hv
  case hD =>
    intro i o di ho
    have di' : i = 4 ∨ i = 5 := by simpa using di
    rcases di' with rfl | rfl
    · simp only [List.take_succ_cons, List.take_zero, List.getElem?_cons_succ, List.getElem?_cons_zero, Option.some.injEq] at ho
      subst ho
      refine ⟨rfl, fun vs x => ?_⟩
      simp only [comes]
      go_simp
      exact ⟨(Ext.refl _).alloc _, ⟨_, rfl, Box.new _ _ _ _ (HE.out.trans (by repeat (first | exact Ext.refl _ | assumption | apply Ext.plus_ | apply Ext.alloc | apply Ext.drew))).size rfl⟩, _, rfl, Nat.le_refl _⟩
    · simp only [List.take_succ_cons, List.take_zero, List.getElem?_cons_succ, List.getElem?_cons_zero, Option.some.injEq] at ho
      subst ho
      refine ⟨rfl, fun vs x => ?_⟩
      simp only [comes]
      go_simp
      exact ⟨(Ext.refl _).alloc _, ⟨_, rfl, Box.new _ _ _ _ (HE.out.trans (by repeat (first | exact Ext.refl _ | assumption | apply Ext.plus_ | apply Ext.alloc | apply Ext.drew))).size rfl⟩, _, rfl, Nat.le_refl _⟩
  case hfin =>
    intro vs x hf hap
    have f1 : vs 1 = bv g true := hf.2.1
    have f3 : vs 3 = bv d true := hf.2.2.2.1
    obtain ⟨b1, f4, h1⟩ := hf.2.2.2.2.1
    obtain ⟨b2, f5, h2⟩ := hf.2.2.2.2.2.1
    have hne : b1 ≠ b2 := fun e => hap 4 5 (by decide) (by decide) (by decide) rfl rfl (by
      have g4 : vs 4 = _ := f4
      have g5 : vs 5 = _ := f5
      rw [g4, g5, e])
    clear hf hap
    have hA0 := HA0.out
    subst hA0
    clear hsz hA7 hA8
    simp only [List.take_succ_cons, List.take_zero, List.drop_succ_cons, List.drop_zero, putAll, Act.put, List.setIfInBounds_toArray, List.set_cons_succ, List.set_cons_zero, Nat.zero_add, Nat.reduceAdd]
    clear HA0
    have g4 : vs 4 = .pointer (some ⟨b1, 0, none⟩) := f4
    have g5 : vs 5 = .pointer (some ⟨b2, 0, none⟩) := f5
    rw [f1, f3, g4, g5]
    clear f1 f3 f4 f5 g4 g5
    refine wl_store rfl 40 (.tmp 9) (.tmp 61) rfl h1 [.int .i64 (conV g true), .int .i64 (bytV g true), .int .i64 (recV g true)] rfl rfl rfl (by kernel_rfl) rfl fun W3 hB3 hx => ?_
    have hE3 := hx.ext _ (HE.out.trans (by repeat (first | exact Ext.refl _ | assumption | apply Ext.plus_ | apply Ext.alloc | apply Ext.drew))) h1.base
    have hB2 := hx.box h2 (Ne.symm hne)
    refine wl_store rfl 40 (.tmp 10) (.tmp 63) rfl hB2 [.int .i64 (conV d true), .int .i64 (bytV d true), .int .i64 (recV d true)] rfl rfl rfl (by kernel_rfl) rfl fun W4 hB4 hy => ?_
    have HE4 := Lib.hid (hy.ext _ hE3 h2.base)
    have HB3 := Lib.hid (hy.box hB3 hne)
    have HB4 := Lib.hid hB4
    clear hx hE3 hB2 hB3 hB4 hy h1 h2 hne CG CD HP HQ HE
    go_upto_region 17 with fail
    refine wp_at fun Y4 hY4 => ?_
    rw [← hY4] at HE4 HB3 HB4
    clear hY4
    refine act_at fun A0 hA0 => ?_
    have hsz : A0.tmps.size = 91 := by
      rw [hA0]
      rfl
    have hA9 : A0.tmps.getD 9 undef = .pointer (some ⟨b1, 0, none⟩) := by
      rw [hA0]
      rfl
    have hA10 : A0.tmps.getD 10 undef = .pointer (some ⟨b2, 0, none⟩) := by
      rw [hA0]
      rfl
    have HA0 := Lib.hid hA0
    clear hA0
    apply wp_region_seq 27 [is (.pointer (some ⟨b1, 0, none⟩)), is (.int .i64 (conV g true)), is (.pointer (some ⟨b2, 0, none⟩)), is (.int .i64 (conV d true)), is (.bool true), is (.bool true), is (.pointer (some ⟨b1, 1, none⟩)), is (.int .i64 (bytV g true)), is (.pointer (some ⟨b2, 1, none⟩)), is (.int .i64 (bytV d true)), is (.bool true), is (.bool true), is (.bool true), is (.pointer (some ⟨b1, 2, none⟩)), is (.int .i64 (recV g true)), is (.pointer (some ⟨b2, 2, none⟩)), is (.int .i64 (recV d true)), is (.bool true), is (.bool true), is (.bool true), is (.pointer (some ⟨b1, 1, none⟩)), is (.int .i64 (bytV g true)), is (.bool true), is (.bool true), is (.bool true), is (.bool true), is (.bool true)] (by kernel_rfl) (by kernel_rfl) rfl
    case hops =>
      simp only [List.take_succ_cons, List.take_zero]
      with_reducible refine xOps_cons ?_ ?_
      · with_reducible refine xop_un ?_ ?_
        · rfl
        · intro vs x F hF hd
          have e1 : F.tmps.getD 9 undef = .pointer (some ⟨b1, 0, none⟩) := (hF.a 9 (by kernel_rfl) (by rw [hsz]; rfl)).trans hA9
          clear hF hd
          simp only [comes]
          go_simp
          first | exact ⟨Ext.refl _, rfl⟩ | exact Ext.refl _
      with_reducible refine xOps_cons ?_ ?_
      · with_reducible refine xop_un ?_ ?_
        · rfl
        · intro vs x F hF hd
          have e1 : F.tmps.getD 64 undef = .pointer (some ⟨b1, 0, none⟩) := (hF.v 64 0 (by kernel_rfl) (by rw [hsz]; rfl)).trans (dep_at hd 0 0 (is (.pointer (some ⟨b1, 0, none⟩))) (by kernel_rfl) (by kernel_rfl))
          have c : Y4.cell? ⟨b1, 0, none⟩ = some (.int .i64 (conV g true)) := HB3.out.cell 0 (by simp)
          clear hF hd
          simp only [comes]
          go_simp
          first | exact ⟨Ext.refl _, rfl⟩ | exact Ext.refl _
      with_reducible refine xOps_cons ?_ ?_
      · with_reducible refine xop_un ?_ ?_
        · rfl
        · intro vs x F hF hd
          have e1 : F.tmps.getD 10 undef = .pointer (some ⟨b2, 0, none⟩) := (hF.a 10 (by kernel_rfl) (by rw [hsz]; rfl)).trans hA10
          clear hF hd
          simp only [comes]
          go_simp
          first | exact ⟨Ext.refl _, rfl⟩ | exact Ext.refl _
      with_reducible refine xOps_cons ?_ ?_
      · with_reducible refine xop_un ?_ ?_
        · rfl
        · intro vs x F hF hd
          have e1 : F.tmps.getD 66 undef = .pointer (some ⟨b2, 0, none⟩) := (hF.v 66 2 (by kernel_rfl) (by rw [hsz]; rfl)).trans (dep_at hd 0 2 (is (.pointer (some ⟨b2, 0, none⟩))) (by kernel_rfl) (by kernel_rfl))
          have c : Y4.cell? ⟨b2, 0, none⟩ = some (.int .i64 (conV d true)) := HB4.out.cell 0 (by simp)
          clear hF hd
          simp only [comes]
          go_simp
          first | exact ⟨Ext.refl _, rfl⟩ | exact Ext.refl _
      with_reducible refine xOps_cons ?_ ?_
      · with_reducible refine xop_un ?_ ?_
        · rfl
        · intro vs x F hF hd
          have e0 : F.tmps.getD 65 undef = .int .i64 (conV g true) := (hF.v 65 1 (by kernel_rfl) (by rw [hsz]; rfl)).trans (dep_at hd 0 1 (is (.int .i64 (conV g true))) (by kernel_rfl) (by kernel_rfl))
          have e1 : F.tmps.getD 67 undef = .int .i64 (conV d true) := (hF.v 67 3 (by kernel_rfl) (by rw [hsz]; rfl)).trans (dep_at hd 1 3 (is (.int .i64 (conV d true))) (by kernel_rfl) (by kernel_rfl))
          have q := HL.out.1
          clear hF hd
          simp only [comes]
          go_simp
          first | exact ⟨Ext.refl _, rfl⟩ | exact Ext.refl _
      with_reducible refine xOps_cons ?_ ?_
      · with_reducible refine xop_un ?_ ?_
        · rfl
        · intro vs x F hF hd
          have e1 : F.tmps.getD 68 undef = .bool true := (hF.v 68 4 (by kernel_rfl) (by rw [hsz]; rfl)).trans (dep_at hd 0 4 (is (.bool true)) (by kernel_rfl) (by kernel_rfl))
          clear hF hd
          simp only [comes]
          go_simp
          first | exact ⟨Ext.refl _, rfl⟩ | exact Ext.refl _
      with_reducible refine xOps_cons ?_ ?_
      · with_reducible refine xop_on 5 69 5 0 ?_ ?_ ?_ ?_ ?_ ?_ ?_
        · rfl
        · kernel_rfl
        · kernel_rfl
        · rw [hsz]; rfl
        · kernel_rfl
        · kernel_rfl
        · intro vs x F hF hd
          have e1 : F.tmps.getD 9 undef = .pointer (some ⟨b1, 0, none⟩) := (hF.a 9 (by kernel_rfl) (by rw [hsz]; rfl)).trans hA9
          clear hF hd
          simp only [comes]
          go_simp
          first | exact ⟨Ext.refl _, rfl⟩ | exact Ext.refl _
      with_reducible refine xOps_cons ?_ ?_
      · with_reducible refine xop_on 5 69 5 1 ?_ ?_ ?_ ?_ ?_ ?_ ?_
        · rfl
        · kernel_rfl
        · kernel_rfl
        · rw [hsz]; rfl
        · kernel_rfl
        · kernel_rfl
        · intro vs x F hF hd
          have e1 : F.tmps.getD 70 undef = .pointer (some ⟨b1, 1, none⟩) := (hF.v 70 6 (by kernel_rfl) (by rw [hsz]; rfl)).trans (dep_at hd 0 6 (is (.pointer (some ⟨b1, 1, none⟩))) (by kernel_rfl) (by kernel_rfl))
          have c : Y4.cell? ⟨b1, 1, none⟩ = some (.int .i64 (bytV g true)) := HB3.out.cell 1 (by simp)
          clear hF hd
          simp only [comes]
          go_simp
          first | exact ⟨Ext.refl _, rfl⟩ | exact Ext.refl _
      with_reducible refine xOps_cons ?_ ?_
      · with_reducible refine xop_on 5 69 5 0 ?_ ?_ ?_ ?_ ?_ ?_ ?_
        · rfl
        · kernel_rfl
        · kernel_rfl
        · rw [hsz]; rfl
        · kernel_rfl
        · kernel_rfl
        · intro vs x F hF hd
          have e1 : F.tmps.getD 10 undef = .pointer (some ⟨b2, 0, none⟩) := (hF.a 10 (by kernel_rfl) (by rw [hsz]; rfl)).trans hA10
          clear hF hd
          simp only [comes]
          go_simp
          first | exact ⟨Ext.refl _, rfl⟩ | exact Ext.refl _
      with_reducible refine xOps_cons ?_ ?_
      · with_reducible refine xop_on 5 69 5 1 ?_ ?_ ?_ ?_ ?_ ?_ ?_
        · rfl
        · kernel_rfl
        · kernel_rfl
        · rw [hsz]; rfl
        · kernel_rfl
        · kernel_rfl
        · intro vs x F hF hd
          have e1 : F.tmps.getD 72 undef = .pointer (some ⟨b2, 1, none⟩) := (hF.v 72 8 (by kernel_rfl) (by rw [hsz]; rfl)).trans (dep_at hd 0 8 (is (.pointer (some ⟨b2, 1, none⟩))) (by kernel_rfl) (by kernel_rfl))
          have c : Y4.cell? ⟨b2, 1, none⟩ = some (.int .i64 (bytV d true)) := HB4.out.cell 1 (by simp)
          clear hF hd
          simp only [comes]
          go_simp
          first | exact ⟨Ext.refl _, rfl⟩ | exact Ext.refl _
      with_reducible refine xOps_cons ?_ ?_
      · with_reducible refine xop_on 5 69 5 2 ?_ ?_ ?_ ?_ ?_ ?_ ?_
        · rfl
        · kernel_rfl
        · kernel_rfl
        · rw [hsz]; rfl
        · kernel_rfl
        · kernel_rfl
        · intro vs x F hF hd
          have e0 : F.tmps.getD 71 undef = .int .i64 (bytV g true) := (hF.v 71 7 (by kernel_rfl) (by rw [hsz]; rfl)).trans (dep_at hd 0 7 (is (.int .i64 (bytV g true))) (by kernel_rfl) (by kernel_rfl))
          have e1 : F.tmps.getD 73 undef = .int .i64 (bytV d true) := (hF.v 73 9 (by kernel_rfl) (by rw [hsz]; rfl)).trans (dep_at hd 1 9 (is (.int .i64 (bytV d true))) (by kernel_rfl) (by kernel_rfl))
          have q := HL.out.2.1
          clear hF hd
          simp only [comes]
          go_simp
          first | exact ⟨Ext.refl _, rfl⟩ | exact Ext.refl _
      with_reducible refine xOps_cons ?_ ?_
      · with_reducible refine xop_un ?_ ?_
        · rfl
        · intro vs x F hF hd
          have e1 : F.tmps.getD 69 undef = .bool true := (hF.v 69 5 (by kernel_rfl) (by rw [hsz]; rfl)).trans (dep_at hd 0 5 (is (.bool true)) (by kernel_rfl) (by kernel_rfl))
          have e2 : F.tmps.getD 74 undef = .bool true := (hF.v 74 10 (by kernel_rfl) (by rw [hsz]; rfl)).trans (dep_at hd 1 10 (is (.bool true)) (by kernel_rfl) (by kernel_rfl))
          clear hF hd
          simp only [comes]
          go_simp
          first | exact ⟨Ext.refl _, rfl⟩ | exact Ext.refl _
      with_reducible refine xOps_cons ?_ ?_
      · with_reducible refine xop_un ?_ ?_
        · rfl
        · intro vs x F hF hd
          have e1 : F.tmps.getD 75 undef = .bool true := (hF.v 75 11 (by kernel_rfl) (by rw [hsz]; rfl)).trans (dep_at hd 0 11 (is (.bool true)) (by kernel_rfl) (by kernel_rfl))
          clear hF hd
          simp only [comes]
          go_simp
          first | exact ⟨Ext.refl _, rfl⟩ | exact Ext.refl _
      with_reducible refine xOps_cons ?_ ?_
      · with_reducible refine xop_on 12 76 12 0 ?_ ?_ ?_ ?_ ?_ ?_ ?_
        · rfl
        · kernel_rfl
        · kernel_rfl
        · rw [hsz]; rfl
        · kernel_rfl
        · kernel_rfl
        · intro vs x F hF hd
          have e1 : F.tmps.getD 9 undef = .pointer (some ⟨b1, 0, none⟩) := (hF.a 9 (by kernel_rfl) (by rw [hsz]; rfl)).trans hA9
          clear hF hd
          simp only [comes]
          go_simp
          first | exact ⟨Ext.refl _, rfl⟩ | exact Ext.refl _
      with_reducible refine xOps_cons ?_ ?_
      · with_reducible refine xop_on 12 76 12 1 ?_ ?_ ?_ ?_ ?_ ?_ ?_
        · rfl
        · kernel_rfl
        · kernel_rfl
        · rw [hsz]; rfl
        · kernel_rfl
        · kernel_rfl
        · intro vs x F hF hd
          have e1 : F.tmps.getD 77 undef = .pointer (some ⟨b1, 2, none⟩) := (hF.v 77 13 (by kernel_rfl) (by rw [hsz]; rfl)).trans (dep_at hd 0 13 (is (.pointer (some ⟨b1, 2, none⟩))) (by kernel_rfl) (by kernel_rfl))
          have c : Y4.cell? ⟨b1, 2, none⟩ = some (.int .i64 (recV g true)) := HB3.out.cell 2 (by simp)
          clear hF hd
          simp only [comes]
          go_simp
          first | exact ⟨Ext.refl _, rfl⟩ | exact Ext.refl _
      with_reducible refine xOps_cons ?_ ?_
      · with_reducible refine xop_on 12 76 12 0 ?_ ?_ ?_ ?_ ?_ ?_ ?_
        · rfl
        · kernel_rfl
        · kernel_rfl
        · rw [hsz]; rfl
        · kernel_rfl
        · kernel_rfl
        · intro vs x F hF hd
          have e1 : F.tmps.getD 10 undef = .pointer (some ⟨b2, 0, none⟩) := (hF.a 10 (by kernel_rfl) (by rw [hsz]; rfl)).trans hA10
          clear hF hd
          simp only [comes]
          go_simp
          first | exact ⟨Ext.refl _, rfl⟩ | exact Ext.refl _
      with_reducible refine xOps_cons ?_ ?_
      · with_reducible refine xop_on 12 76 12 1 ?_ ?_ ?_ ?_ ?_ ?_ ?_
        · rfl
        · kernel_rfl
        · kernel_rfl
        · rw [hsz]; rfl
        · kernel_rfl
        · kernel_rfl
        · intro vs x F hF hd
          have e1 : F.tmps.getD 79 undef = .pointer (some ⟨b2, 2, none⟩) := (hF.v 79 15 (by kernel_rfl) (by rw [hsz]; rfl)).trans (dep_at hd 0 15 (is (.pointer (some ⟨b2, 2, none⟩))) (by kernel_rfl) (by kernel_rfl))
          have c : Y4.cell? ⟨b2, 2, none⟩ = some (.int .i64 (recV d true)) := HB4.out.cell 2 (by simp)
          clear hF hd
          simp only [comes]
          go_simp
          first | exact ⟨Ext.refl _, rfl⟩ | exact Ext.refl _
      with_reducible refine xOps_cons ?_ ?_
      · with_reducible refine xop_on 12 76 12 2 ?_ ?_ ?_ ?_ ?_ ?_ ?_
        · rfl
        · kernel_rfl
        · kernel_rfl
        · rw [hsz]; rfl
        · kernel_rfl
        · kernel_rfl
        · intro vs x F hF hd
          have e0 : F.tmps.getD 78 undef = .int .i64 (recV g true) := (hF.v 78 14 (by kernel_rfl) (by rw [hsz]; rfl)).trans (dep_at hd 0 14 (is (.int .i64 (recV g true))) (by kernel_rfl) (by kernel_rfl))
          have e1 : F.tmps.getD 80 undef = .int .i64 (recV d true) := (hF.v 80 16 (by kernel_rfl) (by rw [hsz]; rfl)).trans (dep_at hd 1 16 (is (.int .i64 (recV d true))) (by kernel_rfl) (by kernel_rfl))
          have q := HL.out.2.2.1
          clear hF hd
          simp only [comes]
          go_simp
          first | exact ⟨Ext.refl _, rfl⟩ | exact Ext.refl _
      with_reducible refine xOps_cons ?_ ?_
      · with_reducible refine xop_un ?_ ?_
        · rfl
        · intro vs x F hF hd
          have e1 : F.tmps.getD 76 undef = .bool true := (hF.v 76 12 (by kernel_rfl) (by rw [hsz]; rfl)).trans (dep_at hd 0 12 (is (.bool true)) (by kernel_rfl) (by kernel_rfl))
          have e2 : F.tmps.getD 81 undef = .bool true := (hF.v 81 17 (by kernel_rfl) (by rw [hsz]; rfl)).trans (dep_at hd 1 17 (is (.bool true)) (by kernel_rfl) (by kernel_rfl))
          clear hF hd
          simp only [comes]
          go_simp
          first | exact ⟨Ext.refl _, rfl⟩ | exact Ext.refl _
      with_reducible refine xOps_cons ?_ ?_
      · with_reducible refine xop_un ?_ ?_
        · rfl
        · intro vs x F hF hd
          have e1 : F.tmps.getD 82 undef = .bool true := (hF.v 82 18 (by kernel_rfl) (by rw [hsz]; rfl)).trans (dep_at hd 0 18 (is (.bool true)) (by kernel_rfl) (by kernel_rfl))
          clear hF hd
          simp only [comes]
          go_simp
          first | exact ⟨Ext.refl _, rfl⟩ | exact Ext.refl _
      with_reducible refine xOps_cons ?_ ?_
      · with_reducible refine xop_on 19 83 19 0 ?_ ?_ ?_ ?_ ?_ ?_ ?_
        · rfl
        · kernel_rfl
        · kernel_rfl
        · rw [hsz]; rfl
        · kernel_rfl
        · kernel_rfl
        · intro vs x F hF hd
          have e1 : F.tmps.getD 9 undef = .pointer (some ⟨b1, 0, none⟩) := (hF.a 9 (by kernel_rfl) (by rw [hsz]; rfl)).trans hA9
          clear hF hd
          simp only [comes]
          go_simp
          first | exact ⟨Ext.refl _, rfl⟩ | exact Ext.refl _
      with_reducible refine xOps_cons ?_ ?_
      · with_reducible refine xop_on 19 83 19 1 ?_ ?_ ?_ ?_ ?_ ?_ ?_
        · rfl
        · kernel_rfl
        · kernel_rfl
        · rw [hsz]; rfl
        · kernel_rfl
        · kernel_rfl
        · intro vs x F hF hd
          have e1 : F.tmps.getD 84 undef = .pointer (some ⟨b1, 1, none⟩) := (hF.v 84 20 (by kernel_rfl) (by rw [hsz]; rfl)).trans (dep_at hd 0 20 (is (.pointer (some ⟨b1, 1, none⟩))) (by kernel_rfl) (by kernel_rfl))
          have c : Y4.cell? ⟨b1, 1, none⟩ = some (.int .i64 (bytV g true)) := HB3.out.cell 1 (by simp)
          clear hF hd
          simp only [comes]
          go_simp
          first | exact ⟨Ext.refl _, rfl⟩ | exact Ext.refl _
      with_reducible refine xOps_cons ?_ ?_
      · with_reducible refine xop_on 19 83 19 1 ?_ ?_ ?_ ?_ ?_ ?_ ?_
        · rfl
        · kernel_rfl
        · kernel_rfl
        · rw [hsz]; rfl
        · kernel_rfl
        · kernel_rfl
        · intro vs x F hF hd
          have e0 : F.tmps.getD 85 undef = .int .i64 (bytV g true) := (hF.v 85 21 (by kernel_rfl) (by rw [hsz]; rfl)).trans (dep_at hd 0 21 (is (.int .i64 (bytV g true))) (by kernel_rfl) (by kernel_rfl))
          have q := HL.out.2.2.2
          clear hF hd
          simp only [comes]
          go_simp
          first | exact ⟨Ext.refl _, rfl⟩ | exact Ext.refl _
      with_reducible refine xOps_cons ?_ ?_
      · with_reducible refine xop_un ?_ ?_
        · rfl
        · intro vs x F hF hd
          have e1 : F.tmps.getD 83 undef = .bool true := (hF.v 83 19 (by kernel_rfl) (by rw [hsz]; rfl)).trans (dep_at hd 0 19 (is (.bool true)) (by kernel_rfl) (by kernel_rfl))
          have e2 : F.tmps.getD 86 undef = .bool true := (hF.v 86 22 (by kernel_rfl) (by rw [hsz]; rfl)).trans (dep_at hd 1 22 (is (.bool true)) (by kernel_rfl) (by kernel_rfl))
          clear hF hd
          simp only [comes]
          go_simp
          first | exact ⟨Ext.refl _, rfl⟩ | exact Ext.refl _
      with_reducible refine xOps_cons ?_ ?_
      · with_reducible refine xop_un ?_ ?_
        · rfl
        · intro vs x F hF hd
          have e1 : F.tmps.getD 87 undef = .bool true := (hF.v 87 23 (by kernel_rfl) (by rw [hsz]; rfl)).trans (dep_at hd 0 23 (is (.bool true)) (by kernel_rfl) (by kernel_rfl))
          clear hF hd
          simp only [comes]
          go_simp
          first | exact ⟨Ext.refl _, rfl⟩ | exact Ext.refl _
      with_reducible refine xOps_cons ?_ ?_
      · with_reducible refine xop_on 24 88 24 1 ?_ ?_ ?_ ?_ ?_ ?_ ?_
        · rfl
        · kernel_rfl
        · kernel_rfl
        · rw [hsz]; rfl
        · kernel_rfl
        · kernel_rfl
        · intro vs x F hF hd
          clear hF hd
          simp only [comes]
          go_simp
          refine ((awake_any _)).mono ?_
          rintro e w' ⟨rfl, hE⟩
          first | exact ⟨_, rfl, hE, rfl⟩ | exact ⟨_, rfl, hE⟩ | exact ⟨rfl, hE⟩ | exact ⟨_, hE⟩ | exact hE
      with_reducible refine xOps_cons ?_ ?_
      · with_reducible refine xop_un ?_ ?_
        · rfl
        · intro vs x F hF hd
          have e1 : F.tmps.getD 88 undef = .bool true := (hF.v 88 24 (by kernel_rfl) (by rw [hsz]; rfl)).trans (dep_at hd 0 24 (is (.bool true)) (by kernel_rfl) (by kernel_rfl))
          have e2 : F.tmps.getD 89 undef = .bool true := (hF.v 89 25 (by kernel_rfl) (by rw [hsz]; rfl)).trans (dep_at hd 1 25 (is (.bool true)) (by kernel_rfl) (by kernel_rfl))
          clear hF hd
          simp only [comes]
          go_simp
          first | exact ⟨Ext.refl _, rfl⟩ | exact Ext.refl _
      exact xOps_nil
    case hst => exact ⟨is.st _, is.st _, is.st _, is.st _, is.st _, is.st _, is.st _, is.st _, is.st _, is.st _, is.st _, is.st _, is.st _, is.st _, is.st _, is.st _, is.st _, is.st _, is.st _, is.st _, is.st _, is.st _, is.st _, is.st _, is.st _, is.st _, is.st _, trivial⟩
    case hfin =>
      intro vs x hf
      have f26 : vs 26 = .bool true := hf.2.2.2.2.2.2.2.2.2.2.2.2.2.2.2.2.2.2.2.2.2.2.2.2.2.2.1
      clear hf
      have hA0 := HA0.out
      subst hA0
      clear hsz hA9 hA10
      simp only [List.take_succ_cons, List.take_zero, List.drop_succ_cons, List.drop_zero, putAll, Act.put, List.setIfInBounds_toArray, List.set_cons_succ, List.set_cons_zero, Nat.zero_add, Nat.reduceAdd]
      clear HA0
      rw [f26]
      clear f26
      go_wp2
      go_ret
      exact ⟨rfl, HE4.out.trans (by repeat (first | exact Ext.refl _ | assumption | apply Ext.plus_ | apply Ext.alloc | apply Ext.drew))⟩
set_option maxRecDepth 100000 in
set_option maxHeartbeats 8000000 in
theorem rises_4 (B : Option Addr) (k d0 : Nat) (ll : List Int) (at_ more : Int) (w : World) (hB : Row w w.heap.size 1 B k (ints ll)) (hk : k ≤ 9223372036854775807) (hat : at_ % 6 = 4) :
    Calls Try.prog 5 #[.slice B k d0, .int .i64 at_, .int .i64 more] w fun e w' => e = .returned (.bool true) ∧ Ext w w' := by
  have CW := Lib.hid (fun w => within_any at_ 6 w (by decide) (by decide))
  rw [hat] at CW
  have CM := Lib.hid (fun w => within_any more 50 w (by decide) (by decide))
  obtain ⟨mo, hmo⟩ : ∃ mo, mo = more % 50 := ⟨_, rfl⟩
  rw [← hmo] at CM
  have hm0 : 0 ≤ mo := by omega
  have hm1 : mo ≤ 49 := by omega
  have HM := Lib.hid (And.intro hm0 hm1)
  clear hmo hat hm0 hm1
  go_enter Try.func5, Try.ntmps5
  go_wp2_with fail
  refine calls_at fun X0 hX => ?_
  obtain ⟨s, hs⟩ : ∃ s, s = w.heap.size := ⟨_, rfl⟩
  have hS : SSt X0 X0 s B k d0 ll := by
    rw [hX, hs]
    exact src_new hB (by repeat (first | exact Ext.refl _ | assumption | apply Ext.plus_ | apply Ext.alloc | apply Ext.drew)) hk
  have hE0 : Ext w X0 := by
    rw [hX]
    repeat' (first | with_reducible assumption | with_reducible exact Ext.refl _ | with_reducible apply Ext.alloc | with_reducible apply Ext.drew | with_reducible apply Ext.drewN | with_reducible apply Ext.plus_ | with_reducible refine Ext.put ?_ (by omega))
  rw [← hs]
  have hsw : w.heap.size ≤ s := by omega
  clear hX hs
  refine (srcConfig_any s B k d0 ll X0 hS).mono ?_
  rintro e X1 ⟨g, wl, ig, rfl, hg, hok, hss, -, -⟩
  have hE1 : Ext w X1 := ext_se hE0 hss.se hsw
  have H1 := Lib.hid (And.intro hE1 hok)
  have HG := Lib.hid hg
  clear hE1 hok hss hE0 hS hsw hg X0
  go_wp2_with (with_reducible show wpList _ _ _ (⟨none, _, _, _, _, _⟩ :: _) _ _; refine Lock.out ?_)
  refine ⟨?_, trivial⟩
  refine wl_at fun V hV => ?_
  obtain ⟨P, hP⟩ : ∃ P, P = X1.heap.size := ⟨_, rfl⟩
  have hB0 : Box 0 (.int .i64 0 :: zcells) P V := by
    rw [hV, hP]
    repeat' (first | with_reducible assumption | ((with_reducible refine Box.fresh ?fb ?fn ?fr); (case fb => first | omega | (simp <;> omega)); (case fn => first | omega | (simp <;> omega)); (case fr => rfl)) | with_reducible apply Box.up | with_reducible apply Box.drew_ | with_reducible apply Box.drewN_ | with_reducible apply Box.plus_ | with_reducible apply Box.put | with_reducible refine Box.off ?_ (by omega))
    all_goals first | rfl | (simp; done)
  have hE1 : Ext X1 V := by
    rw [hV]
    repeat' (first | with_reducible assumption | with_reducible exact Ext.refl _ | with_reducible apply Ext.alloc | with_reducible apply Ext.drew | with_reducible apply Ext.drewN | with_reducible apply Ext.plus_ | with_reducible refine Ext.put ?_ (by omega))
  have hPl : X1.heap.size ≤ P := by omega
  rw [← hP]
  clear hV hP
  refine wl_store rfl 27 (.tmp 7) (.tmp 14) rfl hB0 g.cells rfl rfl rfl (by kernel_rfl) rfl fun W1 hB hx => ?_
  have hE2 := hx.ext _ hE1 hPl
  clear hE1 hx hB0 V
  have hok := H1.out.2.lift hE2
  have hE := H1.out.1.trans hE2
  have H2 := Lib.hid (And.intro hE hok)
  clear hE2 hok hE H1 hPl
  go_wp2_with (with_reducible show wpList _ _ _ (⟨some 15, _, _, _, _, _⟩ :: _) _ _; refine Lock.out ?_)
  refine ⟨?_, trivial⟩
  refine wl_load rfl 27 (.tmp 7) rfl hB rfl Try.underlying27 rfl (by kernel_rfl) ?_
  have HP := Lib.hid hB
  clear hB
  go_wp2_with (with_reducible show wpList _ _ _ (⟨none, _, _, _, _, _⟩ :: _) _ _; refine Lock.out ?_)
  refine ⟨?_, trivial⟩
  refine wl_at fun V hV => ?_
  obtain ⟨Q, hQ⟩ : ∃ Q, Q = W1.heap.size := ⟨_, rfl⟩
  have hB0 : Box 0 (.int .i64 0 :: zcells) Q V := by
    rw [hV, hQ]
    repeat' (first | with_reducible assumption | ((with_reducible refine Box.fresh ?fb ?fn ?fr); (case fb => first | omega | (simp <;> omega)); (case fn => first | omega | (simp <;> omega)); (case fr => rfl)) | with_reducible apply Box.up | with_reducible apply Box.drew_ | with_reducible apply Box.drewN_ | with_reducible apply Box.plus_ | with_reducible apply Box.put | with_reducible refine Box.off ?_ (by omega))
    all_goals first | rfl | (simp; done)
  have hE1 : Ext W1 V := by
    rw [hV]
    repeat' (first | with_reducible assumption | with_reducible exact Ext.refl _ | with_reducible apply Ext.alloc | with_reducible apply Ext.drew | with_reducible apply Ext.drewN | with_reducible apply Ext.plus_ | with_reducible refine Ext.put ?_ (by omega))
  have hQl : W1.heap.size ≤ Q := by omega
  rw [← hQ]
  clear hV hQ
  refine wl_store rfl 27 (.tmp 8) (.tmp 15) rfl hB0 g.cells rfl rfl rfl (by kernel_rfl) rfl fun W2 hB hx => ?_
  have hE2 := hx.ext _ hE1 hQl
  clear hE1 hx hB0 V
  have c0 := (HP.out.ext hE2).cell 4 (by simp)
  have c3 := hB.cell 4 (by simp)
  simp only [List.getElem?_cons_zero, List.getElem?_cons_succ] at c0 c3
  have f := hB.free
  have HQ := Lib.hid hB
  clear hB
  have HF := Lib.hid (And.intro hE2 hQl)
  clear hE2 hQl
  go_wp2_with fail
  refine (CM.out _).mono ?_
  rintro e w' ⟨rfl, rfl⟩
  go_wp2_with fail
  refine (CW.out _).mono ?_
  rintro e w' ⟨rfl, rfl⟩
  have m0 := HM.out.1
  have m1 := HM.out.2
  have b1 := HG.out.co.1
  have b2 := HG.out.co.2
  clear CW CM
  go_upto_region 16 with fail
  refine wp_at fun Y hY => ?_
  obtain ⟨d, hd⟩ : ∃ d : Cf, d = { g with co := g.co + mo } := ⟨_, rfl⟩
  have hEY : Ext W1 Y := by
    rw [hY]
    exact Ext.put HF.out.1 HF.out.2
  have hBQ : Box 0 d.cells Q Y := by
    rw [hY, hd]
    exact Box.put HQ.out rfl (by simp)
  have hEw := H2.out.1.trans hEY
  have hok := H2.out.2.lift hEY
  have hokd : CfOK d Y wl ig := by
    rw [hd]
    exact ⟨hok.pr, hok.ir, hok.pn, hok.im, hok.pm, hok.ikm, hok.si, hok.ss, hok.cs⟩
  have hcd : cfB d true ig = true := HG.out.more_co HM.out.1 HM.out.2 hd
  have hpd : PlanOK wl d.mi d.nu d.de d.ho d.wi := by
    rw [hd]
    exact HG.out.pl
  have CG := Gen.overB HG.out.pl HG.out.ok hok
  have CD := Gen.overB hpd hcd hokd
  have HL := Lib.hid (bounds_mono (d := d) (CfN.of HG.out.ok) (by rw [hd]; simp only; omega) (by rw [hd]; simp only; omega) (by rw [hd]; simp only; omega) (by rw [hd]; simp only; omega) (by rw [hd]; simp only; omega) (by rw [hd]; simp only; omega) (by rw [hd]; simp only; omega) (by rw [hd]; simp only; omega) (by rw [hd]; simp only; omega) (by rw [hd]; simp only; omega) (by rw [hd]; simp only; omega) (by rw [hd]; simp only; omega) (by rw [hd]; simp only; omega))
  replace HP := Lib.hid (HP.out.ext hEY)
  replace HQ := Lib.hid hBQ
  have HE := Lib.hid hEw
  clear hY hd hEY hBQ hEw hok hokd hcd hpd H2 HF HG c0 c3 f b1 b2 m0 m1
  refine act_at fun A0 hA0 => ?_
  have hsz : A0.tmps.size = 91 := by
    rw [hA0]
    rfl
  have hA7 : A0.tmps.getD 7 undef = .pointer (some ⟨P, 0, none⟩) := by
    rw [hA0]
    rfl
  have hA8 : A0.tmps.getD 8 undef = .pointer (some ⟨Q, 0, none⟩) := by
    rw [hA0]
    rfl
  have HA0 := Lib.hid hA0
  clear hA0
  apply wp_region_extd 6 [is (cv g), is (bv g true), is (cv d), is (bv d true), isBox w.heap.size [.int .i64 0, .int .i64 0, .int .i64 0], isBox w.heap.size [.int .i64 0, .int .i64 0, .int .i64 0]] (fun i => i == 4 || i == 5) (by kernel_rfl) (by kernel_rfl) rfl
  case hops =>
    simp only [List.take_succ_cons, List.take_zero]
    with_reducible refine xOps_cons ?_ ?_
    · with_reducible refine xop_un ?_ ?_
      · rfl
      · intro vs x F hF hd
        have e1 : F.tmps.getD 7 undef = .pointer (some ⟨P, 0, none⟩) := (hF.a 7 (by kernel_rfl) (by rw [hsz]; rfl)).trans hA7
        exact comes_load_box 27 (.tmp 7) rfl (HP.out.ext (by repeat (first | exact Ext.refl _ | assumption | apply Ext.plus_ | apply Ext.alloc | apply Ext.drew))) e1 Try.underlying27 rfl (by kernel_rfl)
    with_reducible refine xOps_cons ?_ ?_
    · with_reducible refine xop_un ?_ ?_
      · rfl
      · intro vs x F hF hd
        have e60 : F.tmps.getD 60 undef = cv g := (hF.v 60 0 (by kernel_rfl) (by rw [hsz]; rfl)).trans (dep_at hd 0 0 (is (cv g)) (by kernel_rfl) (by kernel_rfl))
        clear hF hd
        simp only [comes]
        go_simp
        refine ((CG.out _ (by repeat (first | exact Ext.refl _ | assumption | apply Ext.plus_ | apply Ext.alloc | apply Ext.drew)))).mono ?_
        rintro e w' ⟨rfl, hE⟩
        first | exact ⟨_, rfl, hE, rfl⟩ | exact ⟨_, rfl, hE⟩ | exact ⟨rfl, hE⟩ | exact ⟨_, hE⟩ | exact hE
    with_reducible refine xOps_cons ?_ ?_
    · with_reducible refine xop_un ?_ ?_
      · rfl
      · intro vs x F hF hd
        have e1 : F.tmps.getD 8 undef = .pointer (some ⟨Q, 0, none⟩) := (hF.a 8 (by kernel_rfl) (by rw [hsz]; rfl)).trans hA8
        exact comes_load_box 27 (.tmp 8) rfl (HQ.out.ext (by repeat (first | exact Ext.refl _ | assumption | apply Ext.plus_ | apply Ext.alloc | apply Ext.drew))) e1 Try.underlying27 rfl (by kernel_rfl)
    with_reducible refine xOps_cons ?_ ?_
    · with_reducible refine xop_un ?_ ?_
      · rfl
      · intro vs x F hF hd
        have e62 : F.tmps.getD 62 undef = cv d := (hF.v 62 2 (by kernel_rfl) (by rw [hsz]; rfl)).trans (dep_at hd 0 2 (is (cv d)) (by kernel_rfl) (by kernel_rfl))
        clear hF hd
        simp only [comes]
        go_simp
        refine ((CD.out _ (by repeat (first | exact Ext.refl _ | assumption | apply Ext.plus_ | apply Ext.alloc | apply Ext.drew)))).mono ?_
        rintro e w' ⟨rfl, hE⟩
        first | exact ⟨_, rfl, hE, rfl⟩ | exact ⟨_, rfl, hE⟩ | exact ⟨rfl, hE⟩ | exact ⟨_, hE⟩ | exact hE
    with_reducible refine xOps_cons ?_ ?_
    · with_reducible refine xop_un ?_ ?_
      · rfl
      · intro vs x F hF hd
        clear hF hd
        simp only [comes]
        go_simp
        exact ⟨(Ext.refl _).alloc _, _, rfl, Box.new _ _ _ _ (HE.out.trans (by repeat (first | exact Ext.refl _ | assumption | apply Ext.plus_ | apply Ext.alloc | apply Ext.drew))).size rfl⟩
    with_reducible refine xOps_cons ?_ ?_
    · with_reducible refine xop_un ?_ ?_
      · rfl
      · intro vs x F hF hd
        clear hF hd
        simp only [comes]
        go_simp
        exact ⟨(Ext.refl _).alloc _, _, rfl, Box.new _ _ _ _ (HE.out.trans (by repeat (first | exact Ext.refl _ | assumption | apply Ext.plus_ | apply Ext.alloc | apply Ext.drew))).size rfl⟩
    exact xOps_nil
  case hst => exact ⟨is.st _, is.st _, is.st _, is.st _, isBox.st _ _, isBox.st _ _, trivial⟩
  case hDT =>
    intro i T di hT v w' hv
    have di' : i = 4 ∨ i = 5 := by simpa using di
    rcases di' with rfl | rfl
    · injection hT with hT
      subst hT
      exact isBox.old hv
    · injection hT with hT
      subst hT
      exact isBox.old hv
  case hD =>
    intro i o di ho
    have di' : i = 4 ∨ i = 5 := by simpa using di
    rcases di' with rfl | rfl
    · simp only [List.take_succ_cons, List.take_zero, List.getElem?_cons_succ, List.getElem?_cons_zero, Option.some.injEq] at ho
      subst ho
      refine ⟨rfl, fun vs x => ?_⟩
      simp only [comes]
      go_simp
      exact ⟨(Ext.refl _).alloc _, ⟨_, rfl, Box.new _ _ _ _ (HE.out.trans (by repeat (first | exact Ext.refl _ | assumption | apply Ext.plus_ | apply Ext.alloc | apply Ext.drew))).size rfl⟩, _, rfl, Nat.le_refl _⟩
    · simp only [List.take_succ_cons, List.take_zero, List.getElem?_cons_succ, List.getElem?_cons_zero, Option.some.injEq] at ho
      subst ho
      refine ⟨rfl, fun vs x => ?_⟩
      simp only [comes]
      go_simp
      exact ⟨(Ext.refl _).alloc _, ⟨_, rfl, Box.new _ _ _ _ (HE.out.trans (by repeat (first | exact Ext.refl _ | assumption | apply Ext.plus_ | apply Ext.alloc | apply Ext.drew))).size rfl⟩, _, rfl, Nat.le_refl _⟩
  case hfin =>
    intro vs x hf hap
    have f1 : vs 1 = bv g true := hf.2.1
    have f3 : vs 3 = bv d true := hf.2.2.2.1
    obtain ⟨b1, f4, h1⟩ := hf.2.2.2.2.1
    obtain ⟨b2, f5, h2⟩ := hf.2.2.2.2.2.1
    have hne : b1 ≠ b2 := fun e => hap 4 5 (by decide) (by decide) (by decide) rfl rfl (by
      have g4 : vs 4 = _ := f4
      have g5 : vs 5 = _ := f5
      rw [g4, g5, e])
    clear hf hap
    have hA0 := HA0.out
    subst hA0
    clear hsz hA7 hA8
    simp only [List.take_succ_cons, List.take_zero, List.drop_succ_cons, List.drop_zero, putAll, Act.put, List.setIfInBounds_toArray, List.set_cons_succ, List.set_cons_zero, Nat.zero_add, Nat.reduceAdd]
    clear HA0
    have g4 : vs 4 = .pointer (some ⟨b1, 0, none⟩) := f4
    have g5 : vs 5 = .pointer (some ⟨b2, 0, none⟩) := f5
    rw [f1, f3, g4, g5]
    clear f1 f3 f4 f5 g4 g5
    refine wl_store rfl 40 (.tmp 9) (.tmp 61) rfl h1 [.int .i64 (conV g true), .int .i64 (bytV g true), .int .i64 (recV g true)] rfl rfl rfl (by kernel_rfl) rfl fun W3 hB3 hx => ?_
    have hE3 := hx.ext _ (HE.out.trans (by repeat (first | exact Ext.refl _ | assumption | apply Ext.plus_ | apply Ext.alloc | apply Ext.drew))) h1.base
    have hB2 := hx.box h2 (Ne.symm hne)
    refine wl_store rfl 40 (.tmp 10) (.tmp 63) rfl hB2 [.int .i64 (conV d true), .int .i64 (bytV d true), .int .i64 (recV d true)] rfl rfl rfl (by kernel_rfl) rfl fun W4 hB4 hy => ?_
    have HE4 := Lib.hid (hy.ext _ hE3 h2.base)
    have HB3 := Lib.hid (hy.box hB3 hne)
    have HB4 := Lib.hid hB4
    clear hx hE3 hB2 hB3 hB4 hy h1 h2 hne CG CD HP HQ HE
    go_upto_region 17 with fail
    refine wp_at fun Y4 hY4 => ?_
    rw [← hY4] at HE4 HB3 HB4
    clear hY4
    refine act_at fun A0 hA0 => ?_
    have hsz : A0.tmps.size = 91 := by
      rw [hA0]
      rfl
    have hA9 : A0.tmps.getD 9 undef = .pointer (some ⟨b1, 0, none⟩) := by
      rw [hA0]
      rfl
    have hA10 : A0.tmps.getD 10 undef = .pointer (some ⟨b2, 0, none⟩) := by
      rw [hA0]
      rfl
    have HA0 := Lib.hid hA0
    clear hA0
    apply wp_region_seq 27 [is (.pointer (some ⟨b1, 0, none⟩)), is (.int .i64 (conV g true)), is (.pointer (some ⟨b2, 0, none⟩)), is (.int .i64 (conV d true)), is (.bool true), is (.bool true), is (.pointer (some ⟨b1, 1, none⟩)), is (.int .i64 (bytV g true)), is (.pointer (some ⟨b2, 1, none⟩)), is (.int .i64 (bytV d true)), is (.bool true), is (.bool true), is (.bool true), is (.pointer (some ⟨b1, 2, none⟩)), is (.int .i64 (recV g true)), is (.pointer (some ⟨b2, 2, none⟩)), is (.int .i64 (recV d true)), is (.bool true), is (.bool true), is (.bool true), is (.pointer (some ⟨b1, 1, none⟩)), is (.int .i64 (bytV g true)), is (.bool true), is (.bool true), is (.bool true), is (.bool true), is (.bool true)] (by kernel_rfl) (by kernel_rfl) rfl
    case hops =>
      simp only [List.take_succ_cons, List.take_zero]
      with_reducible refine xOps_cons ?_ ?_
      · with_reducible refine xop_un ?_ ?_
        · rfl
        · intro vs x F hF hd
          have e1 : F.tmps.getD 9 undef = .pointer (some ⟨b1, 0, none⟩) := (hF.a 9 (by kernel_rfl) (by rw [hsz]; rfl)).trans hA9
          clear hF hd
          simp only [comes]
          go_simp
          first | exact ⟨Ext.refl _, rfl⟩ | exact Ext.refl _
      with_reducible refine xOps_cons ?_ ?_
      · with_reducible refine xop_un ?_ ?_
        · rfl
        · intro vs x F hF hd
          have e1 : F.tmps.getD 64 undef = .pointer (some ⟨b1, 0, none⟩) := (hF.v 64 0 (by kernel_rfl) (by rw [hsz]; rfl)).trans (dep_at hd 0 0 (is (.pointer (some ⟨b1, 0, none⟩))) (by kernel_rfl) (by kernel_rfl))
          have c : Y4.cell? ⟨b1, 0, none⟩ = some (.int .i64 (conV g true)) := HB3.out.cell 0 (by simp)
          clear hF hd
          simp only [comes]
          go_simp
          first | exact ⟨Ext.refl _, rfl⟩ | exact Ext.refl _
      with_reducible refine xOps_cons ?_ ?_
      · with_reducible refine xop_un ?_ ?_
        · rfl
        · intro vs x F hF hd
          have e1 : F.tmps.getD 10 undef = .pointer (some ⟨b2, 0, none⟩) := (hF.a 10 (by kernel_rfl) (by rw [hsz]; rfl)).trans hA10
          clear hF hd
          simp only [comes]
          go_simp
          first | exact ⟨Ext.refl _, rfl⟩ | exact Ext.refl _
      with_reducible refine xOps_cons ?_ ?_
      · with_reducible refine xop_un ?_ ?_
        · rfl
        · intro vs x F hF hd
          have e1 : F.tmps.getD 66 undef = .pointer (some ⟨b2, 0, none⟩) := (hF.v 66 2 (by kernel_rfl) (by rw [hsz]; rfl)).trans (dep_at hd 0 2 (is (.pointer (some ⟨b2, 0, none⟩))) (by kernel_rfl) (by kernel_rfl))
          have c : Y4.cell? ⟨b2, 0, none⟩ = some (.int .i64 (conV d true)) := HB4.out.cell 0 (by simp)
          clear hF hd
          simp only [comes]
          go_simp
          first | exact ⟨Ext.refl _, rfl⟩ | exact Ext.refl _
      with_reducible refine xOps_cons ?_ ?_
      · with_reducible refine xop_un ?_ ?_
        · rfl
        · intro vs x F hF hd
          have e0 : F.tmps.getD 65 undef = .int .i64 (conV g true) := (hF.v 65 1 (by kernel_rfl) (by rw [hsz]; rfl)).trans (dep_at hd 0 1 (is (.int .i64 (conV g true))) (by kernel_rfl) (by kernel_rfl))
          have e1 : F.tmps.getD 67 undef = .int .i64 (conV d true) := (hF.v 67 3 (by kernel_rfl) (by rw [hsz]; rfl)).trans (dep_at hd 1 3 (is (.int .i64 (conV d true))) (by kernel_rfl) (by kernel_rfl))
          have q := HL.out.1
          clear hF hd
          simp only [comes]
          go_simp
          first | exact ⟨Ext.refl _, rfl⟩ | exact Ext.refl _
      with_reducible refine xOps_cons ?_ ?_
      · with_reducible refine xop_un ?_ ?_
        · rfl
        · intro vs x F hF hd
          have e1 : F.tmps.getD 68 undef = .bool true := (hF.v 68 4 (by kernel_rfl) (by rw [hsz]; rfl)).trans (dep_at hd 0 4 (is (.bool true)) (by kernel_rfl) (by kernel_rfl))
          clear hF hd
          simp only [comes]
          go_simp
          first | exact ⟨Ext.refl _, rfl⟩ | exact Ext.refl _
      with_reducible refine xOps_cons ?_ ?_
      · with_reducible refine xop_on 5 69 5 0 ?_ ?_ ?_ ?_ ?_ ?_ ?_
        · rfl
        · kernel_rfl
        · kernel_rfl
        · rw [hsz]; rfl
        · kernel_rfl
        · kernel_rfl
        · intro vs x F hF hd
          have e1 : F.tmps.getD 9 undef = .pointer (some ⟨b1, 0, none⟩) := (hF.a 9 (by kernel_rfl) (by rw [hsz]; rfl)).trans hA9
          clear hF hd
          simp only [comes]
          go_simp
          first | exact ⟨Ext.refl _, rfl⟩ | exact Ext.refl _
      with_reducible refine xOps_cons ?_ ?_
      · with_reducible refine xop_on 5 69 5 1 ?_ ?_ ?_ ?_ ?_ ?_ ?_
        · rfl
        · kernel_rfl
        · kernel_rfl
        · rw [hsz]; rfl
        · kernel_rfl
        · kernel_rfl
        · intro vs x F hF hd
          have e1 : F.tmps.getD 70 undef = .pointer (some ⟨b1, 1, none⟩) := (hF.v 70 6 (by kernel_rfl) (by rw [hsz]; rfl)).trans (dep_at hd 0 6 (is (.pointer (some ⟨b1, 1, none⟩))) (by kernel_rfl) (by kernel_rfl))
          have c : Y4.cell? ⟨b1, 1, none⟩ = some (.int .i64 (bytV g true)) := HB3.out.cell 1 (by simp)
          clear hF hd
          simp only [comes]
          go_simp
          first | exact ⟨Ext.refl _, rfl⟩ | exact Ext.refl _
      with_reducible refine xOps_cons ?_ ?_
      · with_reducible refine xop_on 5 69 5 0 ?_ ?_ ?_ ?_ ?_ ?_ ?_
        · rfl
        · kernel_rfl
        · kernel_rfl
        · rw [hsz]; rfl
        · kernel_rfl
        · kernel_rfl
        · intro vs x F hF hd
          have e1 : F.tmps.getD 10 undef = .pointer (some ⟨b2, 0, none⟩) := (hF.a 10 (by kernel_rfl) (by rw [hsz]; rfl)).trans hA10
          clear hF hd
          simp only [comes]
          go_simp
          first | exact ⟨Ext.refl _, rfl⟩ | exact Ext.refl _
      with_reducible refine xOps_cons ?_ ?_
      · with_reducible refine xop_on 5 69 5 1 ?_ ?_ ?_ ?_ ?_ ?_ ?_
        · rfl
        · kernel_rfl
        · kernel_rfl
        · rw [hsz]; rfl
        · kernel_rfl
        · kernel_rfl
        · intro vs x F hF hd
          have e1 : F.tmps.getD 72 undef = .pointer (some ⟨b2, 1, none⟩) := (hF.v 72 8 (by kernel_rfl) (by rw [hsz]; rfl)).trans (dep_at hd 0 8 (is (.pointer (some ⟨b2, 1, none⟩))) (by kernel_rfl) (by kernel_rfl))
          have c : Y4.cell? ⟨b2, 1, none⟩ = some (.int .i64 (bytV d true)) := HB4.out.cell 1 (by simp)
          clear hF hd
          simp only [comes]
          go_simp
          first | exact ⟨Ext.refl _, rfl⟩ | exact Ext.refl _
      with_reducible refine xOps_cons ?_ ?_
      · with_reducible refine xop_on 5 69 5 2 ?_ ?_ ?_ ?_ ?_ ?_ ?_
        · rfl
        · kernel_rfl
        · kernel_rfl
        · rw [hsz]; rfl
        · kernel_rfl
        · kernel_rfl
        · intro vs x F hF hd
          have e0 : F.tmps.getD 71 undef = .int .i64 (bytV g true) := (hF.v 71 7 (by kernel_rfl) (by rw [hsz]; rfl)).trans (dep_at hd 0 7 (is (.int .i64 (bytV g true))) (by kernel_rfl) (by kernel_rfl))
          have e1 : F.tmps.getD 73 undef = .int .i64 (bytV d true) := (hF.v 73 9 (by kernel_rfl) (by rw [hsz]; rfl)).trans (dep_at hd 1 9 (is (.int .i64 (bytV d true))) (by kernel_rfl) (by kernel_rfl))
          have q := HL.out.2.1
          clear hF hd
          simp only [comes]
          go_simp
          first | exact ⟨Ext.refl _, rfl⟩ | exact Ext.refl _
      with_reducible refine xOps_cons ?_ ?_
      · with_reducible refine xop_un ?_ ?_
        · rfl
        · intro vs x F hF hd
          have e1 : F.tmps.getD 69 undef = .bool true := (hF.v 69 5 (by kernel_rfl) (by rw [hsz]; rfl)).trans (dep_at hd 0 5 (is (.bool true)) (by kernel_rfl) (by kernel_rfl))
          have e2 : F.tmps.getD 74 undef = .bool true := (hF.v 74 10 (by kernel_rfl) (by rw [hsz]; rfl)).trans (dep_at hd 1 10 (is (.bool true)) (by kernel_rfl) (by kernel_rfl))
          clear hF hd
          simp only [comes]
          go_simp
          first | exact ⟨Ext.refl _, rfl⟩ | exact Ext.refl _
      with_reducible refine xOps_cons ?_ ?_
      · with_reducible refine xop_un ?_ ?_
        · rfl
        · intro vs x F hF hd
          have e1 : F.tmps.getD 75 undef = .bool true := (hF.v 75 11 (by kernel_rfl) (by rw [hsz]; rfl)).trans (dep_at hd 0 11 (is (.bool true)) (by kernel_rfl) (by kernel_rfl))
          clear hF hd
          simp only [comes]
          go_simp
          first | exact ⟨Ext.refl _, rfl⟩ | exact Ext.refl _
      with_reducible refine xOps_cons ?_ ?_
      · with_reducible refine xop_on 12 76 12 0 ?_ ?_ ?_ ?_ ?_ ?_ ?_
        · rfl
        · kernel_rfl
        · kernel_rfl
        · rw [hsz]; rfl
        · kernel_rfl
        · kernel_rfl
        · intro vs x F hF hd
          have e1 : F.tmps.getD 9 undef = .pointer (some ⟨b1, 0, none⟩) := (hF.a 9 (by kernel_rfl) (by rw [hsz]; rfl)).trans hA9
          clear hF hd
          simp only [comes]
          go_simp
          first | exact ⟨Ext.refl _, rfl⟩ | exact Ext.refl _
      with_reducible refine xOps_cons ?_ ?_
      · with_reducible refine xop_on 12 76 12 1 ?_ ?_ ?_ ?_ ?_ ?_ ?_
        · rfl
        · kernel_rfl
        · kernel_rfl
        · rw [hsz]; rfl
        · kernel_rfl
        · kernel_rfl
        · intro vs x F hF hd
          have e1 : F.tmps.getD 77 undef = .pointer (some ⟨b1, 2, none⟩) := (hF.v 77 13 (by kernel_rfl) (by rw [hsz]; rfl)).trans (dep_at hd 0 13 (is (.pointer (some ⟨b1, 2, none⟩))) (by kernel_rfl) (by kernel_rfl))
          have c : Y4.cell? ⟨b1, 2, none⟩ = some (.int .i64 (recV g true)) := HB3.out.cell 2 (by simp)
          clear hF hd
          simp only [comes]
          go_simp
          first | exact ⟨Ext.refl _, rfl⟩ | exact Ext.refl _
      with_reducible refine xOps_cons ?_ ?_
      · with_reducible refine xop_on 12 76 12 0 ?_ ?_ ?_ ?_ ?_ ?_ ?_
        · rfl
        · kernel_rfl
        · kernel_rfl
        · rw [hsz]; rfl
        · kernel_rfl
        · kernel_rfl
        · intro vs x F hF hd
          have e1 : F.tmps.getD 10 undef = .pointer (some ⟨b2, 0, none⟩) := (hF.a 10 (by kernel_rfl) (by rw [hsz]; rfl)).trans hA10
          clear hF hd
          simp only [comes]
          go_simp
          first | exact ⟨Ext.refl _, rfl⟩ | exact Ext.refl _
      with_reducible refine xOps_cons ?_ ?_
      · with_reducible refine xop_on 12 76 12 1 ?_ ?_ ?_ ?_ ?_ ?_ ?_
        · rfl
        · kernel_rfl
        · kernel_rfl
        · rw [hsz]; rfl
        · kernel_rfl
        · kernel_rfl
        · intro vs x F hF hd
          have e1 : F.tmps.getD 79 undef = .pointer (some ⟨b2, 2, none⟩) := (hF.v 79 15 (by kernel_rfl) (by rw [hsz]; rfl)).trans (dep_at hd 0 15 (is (.pointer (some ⟨b2, 2, none⟩))) (by kernel_rfl) (by kernel_rfl))
          have c : Y4.cell? ⟨b2, 2, none⟩ = some (.int .i64 (recV d true)) := HB4.out.cell 2 (by simp)
          clear hF hd
          simp only [comes]
          go_simp
          first | exact ⟨Ext.refl _, rfl⟩ | exact Ext.refl _
      with_reducible refine xOps_cons ?_ ?_
      · with_reducible refine xop_on 12 76 12 2 ?_ ?_ ?_ ?_ ?_ ?_ ?_
        · rfl
        · kernel_rfl
        · kernel_rfl
        · rw [hsz]; rfl
        · kernel_rfl
        · kernel_rfl
        · intro vs x F hF hd
          have e0 : F.tmps.getD 78 undef = .int .i64 (recV g true) := (hF.v 78 14 (by kernel_rfl) (by rw [hsz]; rfl)).trans (dep_at hd 0 14 (is (.int .i64 (recV g true))) (by kernel_rfl) (by kernel_rfl))
          have e1 : F.tmps.getD 80 undef = .int .i64 (recV d true) := (hF.v 80 16 (by kernel_rfl) (by rw [hsz]; rfl)).trans (dep_at hd 1 16 (is (.int .i64 (recV d true))) (by kernel_rfl) (by kernel_rfl))
          have q := HL.out.2.2.1
          clear hF hd
          simp only [comes]
          go_simp
          first | exact ⟨Ext.refl _, rfl⟩ | exact Ext.refl _
      with_reducible refine xOps_cons ?_ ?_
      · with_reducible refine xop_un ?_ ?_
        · rfl
        · intro vs x F hF hd
          have e1 : F.tmps.getD 76 undef = .bool true := (hF.v 76 12 (by kernel_rfl) (by rw [hsz]; rfl)).trans (dep_at hd 0 12 (is (.bool true)) (by kernel_rfl) (by kernel_rfl))
          have e2 : F.tmps.getD 81 undef = .bool true := (hF.v 81 17 (by kernel_rfl) (by rw [hsz]; rfl)).trans (dep_at hd 1 17 (is (.bool true)) (by kernel_rfl) (by kernel_rfl))
          clear hF hd
          simp only [comes]
          go_simp
          first | exact ⟨Ext.refl _, rfl⟩ | exact Ext.refl _
      with_reducible refine xOps_cons ?_ ?_
      · with_reducible refine xop_un ?_ ?_
        · rfl
        · intro vs x F hF hd
          have e1 : F.tmps.getD 82 undef = .bool true := (hF.v 82 18 (by kernel_rfl) (by rw [hsz]; rfl)).trans (dep_at hd 0 18 (is (.bool true)) (by kernel_rfl) (by kernel_rfl))
          clear hF hd
          simp only [comes]
          go_simp
          first | exact ⟨Ext.refl _, rfl⟩ | exact Ext.refl _
      with_reducible refine xOps_cons ?_ ?_
      · with_reducible refine xop_on 19 83 19 0 ?_ ?_ ?_ ?_ ?_ ?_ ?_
        · rfl
        · kernel_rfl
        · kernel_rfl
        · rw [hsz]; rfl
        · kernel_rfl
        · kernel_rfl
        · intro vs x F hF hd
          have e1 : F.tmps.getD 9 undef = .pointer (some ⟨b1, 0, none⟩) := (hF.a 9 (by kernel_rfl) (by rw [hsz]; rfl)).trans hA9
          clear hF hd
          simp only [comes]
          go_simp
          first | exact ⟨Ext.refl _, rfl⟩ | exact Ext.refl _
      with_reducible refine xOps_cons ?_ ?_
      · with_reducible refine xop_on 19 83 19 1 ?_ ?_ ?_ ?_ ?_ ?_ ?_
        · rfl
        · kernel_rfl
        · kernel_rfl
        · rw [hsz]; rfl
        · kernel_rfl
        · kernel_rfl
        · intro vs x F hF hd
          have e1 : F.tmps.getD 84 undef = .pointer (some ⟨b1, 1, none⟩) := (hF.v 84 20 (by kernel_rfl) (by rw [hsz]; rfl)).trans (dep_at hd 0 20 (is (.pointer (some ⟨b1, 1, none⟩))) (by kernel_rfl) (by kernel_rfl))
          have c : Y4.cell? ⟨b1, 1, none⟩ = some (.int .i64 (bytV g true)) := HB3.out.cell 1 (by simp)
          clear hF hd
          simp only [comes]
          go_simp
          first | exact ⟨Ext.refl _, rfl⟩ | exact Ext.refl _
      with_reducible refine xOps_cons ?_ ?_
      · with_reducible refine xop_on 19 83 19 1 ?_ ?_ ?_ ?_ ?_ ?_ ?_
        · rfl
        · kernel_rfl
        · kernel_rfl
        · rw [hsz]; rfl
        · kernel_rfl
        · kernel_rfl
        · intro vs x F hF hd
          have e0 : F.tmps.getD 85 undef = .int .i64 (bytV g true) := (hF.v 85 21 (by kernel_rfl) (by rw [hsz]; rfl)).trans (dep_at hd 0 21 (is (.int .i64 (bytV g true))) (by kernel_rfl) (by kernel_rfl))
          have q := HL.out.2.2.2
          clear hF hd
          simp only [comes]
          go_simp
          first | exact ⟨Ext.refl _, rfl⟩ | exact Ext.refl _
      with_reducible refine xOps_cons ?_ ?_
      · with_reducible refine xop_un ?_ ?_
        · rfl
        · intro vs x F hF hd
          have e1 : F.tmps.getD 83 undef = .bool true := (hF.v 83 19 (by kernel_rfl) (by rw [hsz]; rfl)).trans (dep_at hd 0 19 (is (.bool true)) (by kernel_rfl) (by kernel_rfl))
          have e2 : F.tmps.getD 86 undef = .bool true := (hF.v 86 22 (by kernel_rfl) (by rw [hsz]; rfl)).trans (dep_at hd 1 22 (is (.bool true)) (by kernel_rfl) (by kernel_rfl))
          clear hF hd
          simp only [comes]
          go_simp
          first | exact ⟨Ext.refl _, rfl⟩ | exact Ext.refl _
      with_reducible refine xOps_cons ?_ ?_
      · with_reducible refine xop_un ?_ ?_
        · rfl
        · intro vs x F hF hd
          have e1 : F.tmps.getD 87 undef = .bool true := (hF.v 87 23 (by kernel_rfl) (by rw [hsz]; rfl)).trans (dep_at hd 0 23 (is (.bool true)) (by kernel_rfl) (by kernel_rfl))
          clear hF hd
          simp only [comes]
          go_simp
          first | exact ⟨Ext.refl _, rfl⟩ | exact Ext.refl _
      with_reducible refine xOps_cons ?_ ?_
      · with_reducible refine xop_on 24 88 24 1 ?_ ?_ ?_ ?_ ?_ ?_ ?_
        · rfl
        · kernel_rfl
        · kernel_rfl
        · rw [hsz]; rfl
        · kernel_rfl
        · kernel_rfl
        · intro vs x F hF hd
          clear hF hd
          simp only [comes]
          go_simp
          refine ((awake_any _)).mono ?_
          rintro e w' ⟨rfl, hE⟩
          first | exact ⟨_, rfl, hE, rfl⟩ | exact ⟨_, rfl, hE⟩ | exact ⟨rfl, hE⟩ | exact ⟨_, hE⟩ | exact hE
      with_reducible refine xOps_cons ?_ ?_
      · with_reducible refine xop_un ?_ ?_
        · rfl
        · intro vs x F hF hd
          have e1 : F.tmps.getD 88 undef = .bool true := (hF.v 88 24 (by kernel_rfl) (by rw [hsz]; rfl)).trans (dep_at hd 0 24 (is (.bool true)) (by kernel_rfl) (by kernel_rfl))
          have e2 : F.tmps.getD 89 undef = .bool true := (hF.v 89 25 (by kernel_rfl) (by rw [hsz]; rfl)).trans (dep_at hd 1 25 (is (.bool true)) (by kernel_rfl) (by kernel_rfl))
          clear hF hd
          simp only [comes]
          go_simp
          first | exact ⟨Ext.refl _, rfl⟩ | exact Ext.refl _
      exact xOps_nil
    case hst => exact ⟨is.st _, is.st _, is.st _, is.st _, is.st _, is.st _, is.st _, is.st _, is.st _, is.st _, is.st _, is.st _, is.st _, is.st _, is.st _, is.st _, is.st _, is.st _, is.st _, is.st _, is.st _, is.st _, is.st _, is.st _, is.st _, is.st _, is.st _, trivial⟩
    case hfin =>
      intro vs x hf
      have f26 : vs 26 = .bool true := hf.2.2.2.2.2.2.2.2.2.2.2.2.2.2.2.2.2.2.2.2.2.2.2.2.2.2.1
      clear hf
      have hA0 := HA0.out
      subst hA0
      clear hsz hA9 hA10
      simp only [List.take_succ_cons, List.take_zero, List.drop_succ_cons, List.drop_zero, putAll, Act.put, List.setIfInBounds_toArray, List.set_cons_succ, List.set_cons_zero, Nat.zero_add, Nat.reduceAdd]
      clear HA0
      rw [f26]
      clear f26
      go_wp2
      go_ret
      exact ⟨rfl, HE4.out.trans (by repeat (first | exact Ext.refl _ | assumption | apply Ext.plus_ | apply Ext.alloc | apply Ext.drew))⟩
set_option maxRecDepth 100000 in
set_option maxHeartbeats 8000000 in
theorem rises_5 (B : Option Addr) (k d0 : Nat) (ll : List Int) (at_ more : Int) (w : World) (hB : Row w w.heap.size 1 B k (ints ll)) (hk : k ≤ 9223372036854775807) (hat : at_ % 6 = 5) :
    Calls Try.prog 5 #[.slice B k d0, .int .i64 at_, .int .i64 more] w fun e w' => e = .returned (.bool true) ∧ Ext w w' := by
  have CW := Lib.hid (fun w => within_any at_ 6 w (by decide) (by decide))
  rw [hat] at CW
  have CM := Lib.hid (fun w => within_any more 50 w (by decide) (by decide))
  obtain ⟨mo, hmo⟩ : ∃ mo, mo = more % 50 := ⟨_, rfl⟩
  rw [← hmo] at CM
  have hm0 : 0 ≤ mo := by omega
  have hm1 : mo ≤ 49 := by omega
  have HM := Lib.hid (And.intro hm0 hm1)
  clear hmo hat hm0 hm1
  go_enter Try.func5, Try.ntmps5
  go_wp2_with fail
  refine calls_at fun X0 hX => ?_
  obtain ⟨s, hs⟩ : ∃ s, s = w.heap.size := ⟨_, rfl⟩
  have hS : SSt X0 X0 s B k d0 ll := by
    rw [hX, hs]
    exact src_new hB (by repeat (first | exact Ext.refl _ | assumption | apply Ext.plus_ | apply Ext.alloc | apply Ext.drew)) hk
  have hE0 : Ext w X0 := by
    rw [hX]
    repeat' (first | with_reducible assumption | with_reducible exact Ext.refl _ | with_reducible apply Ext.alloc | with_reducible apply Ext.drew | with_reducible apply Ext.drewN | with_reducible apply Ext.plus_ | with_reducible refine Ext.put ?_ (by omega))
  rw [← hs]
  have hsw : w.heap.size ≤ s := by omega
  clear hX hs
  refine (srcConfig_any s B k d0 ll X0 hS).mono ?_
  rintro e X1 ⟨g, wl, ig, rfl, hg, hok, hss, -, -⟩
  have hE1 : Ext w X1 := ext_se hE0 hss.se hsw
  have H1 := Lib.hid (And.intro hE1 hok)
  have HG := Lib.hid hg
  clear hE1 hok hss hE0 hS hsw hg X0
  go_wp2_with (with_reducible show wpList _ _ _ (⟨none, _, _, _, _, _⟩ :: _) _ _; refine Lock.out ?_)
  refine ⟨?_, trivial⟩
  refine wl_at fun V hV => ?_
  obtain ⟨P, hP⟩ : ∃ P, P = X1.heap.size := ⟨_, rfl⟩
  have hB0 : Box 0 (.int .i64 0 :: zcells) P V := by
    rw [hV, hP]
    repeat' (first | with_reducible assumption | ((with_reducible refine Box.fresh ?fb ?fn ?fr); (case fb => first | omega | (simp <;> omega)); (case fn => first | omega | (simp <;> omega)); (case fr => rfl)) | with_reducible apply Box.up | with_reducible apply Box.drew_ | with_reducible apply Box.drewN_ | with_reducible apply Box.plus_ | with_reducible apply Box.put | with_reducible refine Box.off ?_ (by omega))
    all_goals first | rfl | (simp; done)
  have hE1 : Ext X1 V := by
    rw [hV]
    repeat' (first | with_reducible assumption | with_reducible exact Ext.refl _ | with_reducible apply Ext.alloc | with_reducible apply Ext.drew | with_reducible apply Ext.drewN | with_reducible apply Ext.plus_ | with_reducible refine Ext.put ?_ (by omega))
  have hPl : X1.heap.size ≤ P := by omega
  rw [← hP]
  clear hV hP
  refine wl_store rfl 27 (.tmp 7) (.tmp 14) rfl hB0 g.cells rfl rfl rfl (by kernel_rfl) rfl fun W1 hB hx => ?_
  have hE2 := hx.ext _ hE1 hPl
  clear hE1 hx hB0 V
  have hok := H1.out.2.lift hE2
  have hE := H1.out.1.trans hE2
  have H2 := Lib.hid (And.intro hE hok)
  clear hE2 hok hE H1 hPl
  go_wp2_with (with_reducible show wpList _ _ _ (⟨some 15, _, _, _, _, _⟩ :: _) _ _; refine Lock.out ?_)
  refine ⟨?_, trivial⟩
  refine wl_load rfl 27 (.tmp 7) rfl hB rfl Try.underlying27 rfl (by kernel_rfl) ?_
  have HP := Lib.hid hB
  clear hB
  go_wp2_with (with_reducible show wpList _ _ _ (⟨none, _, _, _, _, _⟩ :: _) _ _; refine Lock.out ?_)
  refine ⟨?_, trivial⟩
  refine wl_at fun V hV => ?_
  obtain ⟨Q, hQ⟩ : ∃ Q, Q = W1.heap.size := ⟨_, rfl⟩
  have hB0 : Box 0 (.int .i64 0 :: zcells) Q V := by
    rw [hV, hQ]
    repeat' (first | with_reducible assumption | ((with_reducible refine Box.fresh ?fb ?fn ?fr); (case fb => first | omega | (simp <;> omega)); (case fn => first | omega | (simp <;> omega)); (case fr => rfl)) | with_reducible apply Box.up | with_reducible apply Box.drew_ | with_reducible apply Box.drewN_ | with_reducible apply Box.plus_ | with_reducible apply Box.put | with_reducible refine Box.off ?_ (by omega))
    all_goals first | rfl | (simp; done)
  have hE1 : Ext W1 V := by
    rw [hV]
    repeat' (first | with_reducible assumption | with_reducible exact Ext.refl _ | with_reducible apply Ext.alloc | with_reducible apply Ext.drew | with_reducible apply Ext.drewN | with_reducible apply Ext.plus_ | with_reducible refine Ext.put ?_ (by omega))
  have hQl : W1.heap.size ≤ Q := by omega
  rw [← hQ]
  clear hV hQ
  refine wl_store rfl 27 (.tmp 8) (.tmp 15) rfl hB0 g.cells rfl rfl rfl (by kernel_rfl) rfl fun W2 hB hx => ?_
  have hE2 := hx.ext _ hE1 hQl
  clear hE1 hx hB0 V
  have c0 := (HP.out.ext hE2).cell 15 (by simp)
  have c3 := hB.cell 15 (by simp)
  simp only [List.getElem?_cons_zero, List.getElem?_cons_succ] at c0 c3
  have f := hB.free
  have HQ := Lib.hid hB
  clear hB
  have HF := Lib.hid (And.intro hE2 hQl)
  clear hE2 hQl
  go_wp2_with fail
  refine (CM.out _).mono ?_
  rintro e w' ⟨rfl, rfl⟩
  go_wp2_with fail
  refine (CW.out _).mono ?_
  rintro e w' ⟨rfl, rfl⟩
  have m0 := HM.out.1
  have m1 := HM.out.2
  have b1 := HG.out.rp.1
  have b2 := HG.out.rp.2
  clear CW CM
  go_upto_region 16 with fail
  refine wp_at fun Y hY => ?_
  obtain ⟨d, hd⟩ : ∃ d : Cf, d = { g with rp := g.rp + mo } := ⟨_, rfl⟩
  have hEY : Ext W1 Y := by
    rw [hY]
    exact Ext.put HF.out.1 HF.out.2
  have hBQ : Box 0 d.cells Q Y := by
    rw [hY, hd]
    exact Box.put HQ.out rfl (by simp)
  have hEw := H2.out.1.trans hEY
  have hok := H2.out.2.lift hEY
  have hokd : CfOK d Y wl ig := by
    rw [hd]
    exact ⟨hok.pr, hok.ir, hok.pn, hok.im, hok.pm, hok.ikm, hok.si, hok.ss, hok.cs⟩
  have hcd : cfB d true ig = true := HG.out.more_rp HM.out.1 HM.out.2 hd
  have hpd : PlanOK wl d.mi d.nu d.de d.ho d.wi := by
    rw [hd]
    exact HG.out.pl
  have CG := Gen.overB HG.out.pl HG.out.ok hok
  have CD := Gen.overB hpd hcd hokd
  have HL := Lib.hid (bounds_mono (d := d) (CfN.of HG.out.ok) (by rw [hd]; simp only; omega) (by rw [hd]; simp only; omega) (by rw [hd]; simp only; omega) (by rw [hd]; simp only; omega) (by rw [hd]; simp only; omega) (by rw [hd]; simp only; omega) (by rw [hd]; simp only; omega) (by rw [hd]; simp only; omega) (by rw [hd]; simp only; omega) (by rw [hd]; simp only; omega) (by rw [hd]; simp only; omega) (by rw [hd]; simp only; omega) (by rw [hd]; simp only; omega))
  replace HP := Lib.hid (HP.out.ext hEY)
  replace HQ := Lib.hid hBQ
  have HE := Lib.hid hEw
  clear hY hd hEY hBQ hEw hok hokd hcd hpd H2 HF HG c0 c3 f b1 b2 m0 m1
  refine act_at fun A0 hA0 => ?_
  have hsz : A0.tmps.size = 91 := by
    rw [hA0]
    rfl
  have hA7 : A0.tmps.getD 7 undef = .pointer (some ⟨P, 0, none⟩) := by
    rw [hA0]
    rfl
  have hA8 : A0.tmps.getD 8 undef = .pointer (some ⟨Q, 0, none⟩) := by
    rw [hA0]
    rfl
  have HA0 := Lib.hid hA0
  clear hA0
  apply wp_region_extd 6 [is (cv g), is (bv g true), is (cv d), is (bv d true), isBox w.heap.size [.int .i64 0, .int .i64 0, .int .i64 0], isBox w.heap.size [.int .i64 0, .int .i64 0, .int .i64 0]] (fun i => i == 4 || i == 5) (by kernel_rfl) (by kernel_rfl) rfl
  case hops =>
    simp only [List.take_succ_cons, List.take_zero]
    with_reducible refine xOps_cons ?_ ?_
    · with_reducible refine xop_un ?_ ?_
      · rfl
      · intro vs x F hF hd
        have e1 : F.tmps.getD 7 undef = .pointer (some ⟨P, 0, none⟩) := (hF.a 7 (by kernel_rfl) (by rw [hsz]; rfl)).trans hA7
        exact comes_load_box 27 (.tmp 7) rfl (HP.out.ext (by repeat (first | exact Ext.refl _ | assumption | apply Ext.plus_ | apply Ext.alloc | apply Ext.drew))) e1 Try.underlying27 rfl (by kernel_rfl)
    with_reducible refine xOps_cons ?_ ?_
    · with_reducible refine xop_un ?_ ?_
      · rfl
      · intro vs x F hF hd
        have e60 : F.tmps.getD 60 undef = cv g := (hF.v 60 0 (by kernel_rfl) (by rw [hsz]; rfl)).trans (dep_at hd 0 0 (is (cv g)) (by kernel_rfl) (by kernel_rfl))
        clear hF hd
        simp only [comes]
        go_simp
        refine ((CG.out _ (by repeat (first | exact Ext.refl _ | assumption | apply Ext.plus_ | apply Ext.alloc | apply Ext.drew)))).mono ?_
        rintro e w' ⟨rfl, hE⟩
        first | exact ⟨_, rfl, hE, rfl⟩ | exact ⟨_, rfl, hE⟩ | exact ⟨rfl, hE⟩ | exact ⟨_, hE⟩ | exact hE
    with_reducible refine xOps_cons ?_ ?_
    · with_reducible refine xop_un ?_ ?_
      · rfl
      · intro vs x F hF hd
        have e1 : F.tmps.getD 8 undef = .pointer (some ⟨Q, 0, none⟩) := (hF.a 8 (by kernel_rfl) (by rw [hsz]; rfl)).trans hA8
        exact comes_load_box 27 (.tmp 8) rfl (HQ.out.ext (by repeat (first | exact Ext.refl _ | assumption | apply Ext.plus_ | apply Ext.alloc | apply Ext.drew))) e1 Try.underlying27 rfl (by kernel_rfl)
    with_reducible refine xOps_cons ?_ ?_
    · with_reducible refine xop_un ?_ ?_
      · rfl
      · intro vs x F hF hd
        have e62 : F.tmps.getD 62 undef = cv d := (hF.v 62 2 (by kernel_rfl) (by rw [hsz]; rfl)).trans (dep_at hd 0 2 (is (cv d)) (by kernel_rfl) (by kernel_rfl))
        clear hF hd
        simp only [comes]
        go_simp
        refine ((CD.out _ (by repeat (first | exact Ext.refl _ | assumption | apply Ext.plus_ | apply Ext.alloc | apply Ext.drew)))).mono ?_
        rintro e w' ⟨rfl, hE⟩
        first | exact ⟨_, rfl, hE, rfl⟩ | exact ⟨_, rfl, hE⟩ | exact ⟨rfl, hE⟩ | exact ⟨_, hE⟩ | exact hE
    with_reducible refine xOps_cons ?_ ?_
    · with_reducible refine xop_un ?_ ?_
      · rfl
      · intro vs x F hF hd
        clear hF hd
        simp only [comes]
        go_simp
        exact ⟨(Ext.refl _).alloc _, _, rfl, Box.new _ _ _ _ (HE.out.trans (by repeat (first | exact Ext.refl _ | assumption | apply Ext.plus_ | apply Ext.alloc | apply Ext.drew))).size rfl⟩
    with_reducible refine xOps_cons ?_ ?_
    · with_reducible refine xop_un ?_ ?_
      · rfl
      · intro vs x F hF hd
        clear hF hd
        simp only [comes]
        go_simp
        exact ⟨(Ext.refl _).alloc _, _, rfl, Box.new _ _ _ _ (HE.out.trans (by repeat (first | exact Ext.refl _ | assumption | apply Ext.plus_ | apply Ext.alloc | apply Ext.drew))).size rfl⟩
    exact xOps_nil
  case hst => exact ⟨is.st _, is.st _, is.st _, is.st _, isBox.st _ _, isBox.st _ _, trivial⟩
  case hDT =>
    intro i T di hT v w' hv
    have di' : i = 4 ∨ i = 5 := by simpa using di
    rcases di' with rfl | rfl
    · injection hT with hT
      subst hT
      exact isBox.old hv
    · injection hT with hT
      subst hT
      exact isBox.old hv
  case hD =>
    intro i o di ho
    have di' : i = 4 ∨ i = 5 := by simpa using di
    rcases di' with rfl | rfl
    · simp only [List.take_succ_cons, List.take_zero, List.getElem?_cons_succ, List.getElem?_cons_zero, Option.some.injEq] at ho
      subst ho
      refine ⟨rfl, fun vs x => ?_⟩
      simp only [comes]
      go_simp
      exact ⟨(Ext.refl _).alloc _, ⟨_, rfl, Box.new _ _ _ _ (HE.out.trans (by repeat (first | exact Ext.refl _ | assumption | apply Ext.plus_ | apply Ext.alloc | apply Ext.drew))).size rfl⟩, _, rfl, Nat.le_refl _⟩
    · simp only [List.take_succ_cons, List.take_zero, List.getElem?_cons_succ, List.getElem?_cons_zero, Option.some.injEq] at ho
      subst ho
      refine ⟨rfl, fun vs x => ?_⟩
      simp only [comes]
      go_simp
      exact ⟨(Ext.refl _).alloc _, ⟨_, rfl, Box.new _ _ _ _ (HE.out.trans (by repeat (first | exact Ext.refl _ | assumption | apply Ext.plus_ | apply Ext.alloc | apply Ext.drew))).size rfl⟩, _, rfl, Nat.le_refl _⟩
  case hfin =>
    intro vs x hf hap
    have f1 : vs 1 = bv g true := hf.2.1
    have f3 : vs 3 = bv d true := hf.2.2.2.1
    obtain ⟨b1, f4, h1⟩ := hf.2.2.2.2.1
    obtain ⟨b2, f5, h2⟩ := hf.2.2.2.2.2.1
    have hne : b1 ≠ b2 := fun e => hap 4 5 (by decide) (by decide) (by decide) rfl rfl (by
      have g4 : vs 4 = _ := f4
      have g5 : vs 5 = _ := f5
      rw [g4, g5, e])
    clear hf hap
    have hA0 := HA0.out
    subst hA0
    clear hsz hA7 hA8
    simp only [List.take_succ_cons, List.take_zero, List.drop_succ_cons, List.drop_zero, putAll, Act.put, List.setIfInBounds_toArray, List.set_cons_succ, List.set_cons_zero, Nat.zero_add, Nat.reduceAdd]
    clear HA0
    have g4 : vs 4 = .pointer (some ⟨b1, 0, none⟩) := f4
    have g5 : vs 5 = .pointer (some ⟨b2, 0, none⟩) := f5
    rw [f1, f3, g4, g5]
    clear f1 f3 f4 f5 g4 g5
    refine wl_store rfl 40 (.tmp 9) (.tmp 61) rfl h1 [.int .i64 (conV g true), .int .i64 (bytV g true), .int .i64 (recV g true)] rfl rfl rfl (by kernel_rfl) rfl fun W3 hB3 hx => ?_
    have hE3 := hx.ext _ (HE.out.trans (by repeat (first | exact Ext.refl _ | assumption | apply Ext.plus_ | apply Ext.alloc | apply Ext.drew))) h1.base
    have hB2 := hx.box h2 (Ne.symm hne)
    refine wl_store rfl 40 (.tmp 10) (.tmp 63) rfl hB2 [.int .i64 (conV d true), .int .i64 (bytV d true), .int .i64 (recV d true)] rfl rfl rfl (by kernel_rfl) rfl fun W4 hB4 hy => ?_
    have HE4 := Lib.hid (hy.ext _ hE3 h2.base)
    have HB3 := Lib.hid (hy.box hB3 hne)
    have HB4 := Lib.hid hB4
    clear hx hE3 hB2 hB3 hB4 hy h1 h2 hne CG CD HP HQ HE
    go_upto_region 17 with fail
    refine wp_at fun Y4 hY4 => ?_
    rw [← hY4] at HE4 HB3 HB4
    clear hY4
    refine act_at fun A0 hA0 => ?_
    have hsz : A0.tmps.size = 91 := by
      rw [hA0]
      rfl
    have hA9 : A0.tmps.getD 9 undef = .pointer (some ⟨b1, 0, none⟩) := by
      rw [hA0]
      rfl
    have hA10 : A0.tmps.getD 10 undef = .pointer (some ⟨b2, 0, none⟩) := by
      rw [hA0]
      rfl
    have HA0 := Lib.hid hA0
    clear hA0
    apply wp_region_seq 27 [is (.pointer (some ⟨b1, 0, none⟩)), is (.int .i64 (conV g true)), is (.pointer (some ⟨b2, 0, none⟩)), is (.int .i64 (conV d true)), is (.bool true), is (.bool true), is (.pointer (some ⟨b1, 1, none⟩)), is (.int .i64 (bytV g true)), is (.pointer (some ⟨b2, 1, none⟩)), is (.int .i64 (bytV d true)), is (.bool true), is (.bool true), is (.bool true), is (.pointer (some ⟨b1, 2, none⟩)), is (.int .i64 (recV g true)), is (.pointer (some ⟨b2, 2, none⟩)), is (.int .i64 (recV d true)), is (.bool true), is (.bool true), is (.bool true), is (.pointer (some ⟨b1, 1, none⟩)), is (.int .i64 (bytV g true)), is (.bool true), is (.bool true), is (.bool true), is (.bool true), is (.bool true)] (by kernel_rfl) (by kernel_rfl) rfl
    case hops =>
      simp only [List.take_succ_cons, List.take_zero]
      with_reducible refine xOps_cons ?_ ?_
      · with_reducible refine xop_un ?_ ?_
        · rfl
        · intro vs x F hF hd
          have e1 : F.tmps.getD 9 undef = .pointer (some ⟨b1, 0, none⟩) := (hF.a 9 (by kernel_rfl) (by rw [hsz]; rfl)).trans hA9
          clear hF hd
          simp only [comes]
          go_simp
          first | exact ⟨Ext.refl _, rfl⟩ | exact Ext.refl _
      with_reducible refine xOps_cons ?_ ?_
      · with_reducible refine xop_un ?_ ?_
        · rfl
        · intro vs x F hF hd
          have e1 : F.tmps.getD 64 undef = .pointer (some ⟨b1, 0, none⟩) := (hF.v 64 0 (by kernel_rfl) (by rw [hsz]; rfl)).trans (dep_at hd 0 0 (is (.pointer (some ⟨b1, 0, none⟩))) (by kernel_rfl) (by kernel_rfl))
          have c : Y4.cell? ⟨b1, 0, none⟩ = some (.int .i64 (conV g true)) := HB3.out.cell 0 (by simp)
          clear hF hd
          simp only [comes]
          go_simp
          first | exact ⟨Ext.refl _, rfl⟩ | exact Ext.refl _
      with_reducible refine xOps_cons ?_ ?_
      · with_reducible refine xop_un ?_ ?_
        · rfl
        · intro vs x F hF hd
          have e1 : F.tmps.getD 10 undef = .pointer (some ⟨b2, 0, none⟩) := (hF.a 10 (by kernel_rfl) (by rw [hsz]; rfl)).trans hA10
          clear hF hd
          simp only [comes]
          go_simp
          first | exact ⟨Ext.refl _, rfl⟩ | exact Ext.refl _
      with_reducible refine xOps_cons ?_ ?_
      · with_reducible refine xop_un ?_ ?_
        · rfl
        · intro vs x F hF hd
          have e1 : F.tmps.getD 66 undef = .pointer (some ⟨b2, 0, none⟩) := (hF.v 66 2 (by kernel_rfl) (by rw [hsz]; rfl)).trans (dep_at hd 0 2 (is (.pointer (some ⟨b2, 0, none⟩))) (by kernel_rfl) (by kernel_rfl))
          have c : Y4.cell? ⟨b2, 0, none⟩ = some (.int .i64 (conV d true)) := HB4.out.cell 0 (by simp)
          clear hF hd
          simp only [comes]
          go_simp
          first | exact ⟨Ext.refl _, rfl⟩ | exact Ext.refl _
      with_reducible refine xOps_cons ?_ ?_
      · with_reducible refine xop_un ?_ ?_
        · rfl
        · intro vs x F hF hd
          have e0 : F.tmps.getD 65 undef = .int .i64 (conV g true) := (hF.v 65 1 (by kernel_rfl) (by rw [hsz]; rfl)).trans (dep_at hd 0 1 (is (.int .i64 (conV g true))) (by kernel_rfl) (by kernel_rfl))
          have e1 : F.tmps.getD 67 undef = .int .i64 (conV d true) := (hF.v 67 3 (by kernel_rfl) (by rw [hsz]; rfl)).trans (dep_at hd 1 3 (is (.int .i64 (conV d true))) (by kernel_rfl) (by kernel_rfl))
          have q := HL.out.1
          clear hF hd
          simp only [comes]
          go_simp
          first | exact ⟨Ext.refl _, rfl⟩ | exact Ext.refl _
      with_reducible refine xOps_cons ?_ ?_
      · with_reducible refine xop_un ?_ ?_
        · rfl
        · intro vs x F hF hd
          have e1 : F.tmps.getD 68 undef = .bool true := (hF.v 68 4 (by kernel_rfl) (by rw [hsz]; rfl)).trans (dep_at hd 0 4 (is (.bool true)) (by kernel_rfl) (by kernel_rfl))
          clear hF hd
          simp only [comes]
          go_simp
          first | exact ⟨Ext.refl _, rfl⟩ | exact Ext.refl _
      with_reducible refine xOps_cons ?_ ?_
      · with_reducible refine xop_on 5 69 5 0 ?_ ?_ ?_ ?_ ?_ ?_ ?_
        · rfl
        · kernel_rfl
        · kernel_rfl
        · rw [hsz]; rfl
        · kernel_rfl
        · kernel_rfl
        · intro vs x F hF hd
          have e1 : F.tmps.getD 9 undef = .pointer (some ⟨b1, 0, none⟩) := (hF.a 9 (by kernel_rfl) (by rw [hsz]; rfl)).trans hA9
          clear hF hd
          simp only [comes]
          go_simp
          first | exact ⟨Ext.refl _, rfl⟩ | exact Ext.refl _
      with_reducible refine xOps_cons ?_ ?_
      · with_reducible refine xop_on 5 69 5 1 ?_ ?_ ?_ ?_ ?_ ?_ ?_
        · rfl
        · kernel_rfl
        · kernel_rfl
        · rw [hsz]; rfl
        · kernel_rfl
        · kernel_rfl
        · intro vs x F hF hd
          have e1 : F.tmps.getD 70 undef = .pointer (some ⟨b1, 1, none⟩) := (hF.v 70 6 (by kernel_rfl) (by rw [hsz]; rfl)).trans (dep_at hd 0 6 (is (.pointer (some ⟨b1, 1, none⟩))) (by kernel_rfl) (by kernel_rfl))
          have c : Y4.cell? ⟨b1, 1, none⟩ = some (.int .i64 (bytV g true)) := HB3.out.cell 1 (by simp)
          clear hF hd
          simp only [comes]
          go_simp
          first | exact ⟨Ext.refl _, rfl⟩ | exact Ext.refl _
      with_reducible refine xOps_cons ?_ ?_
      · with_reducible refine xop_on 5 69 5 0 ?_ ?_ ?_ ?_ ?_ ?_ ?_
        · rfl
        · kernel_rfl
        · kernel_rfl
        · rw [hsz]; rfl
        · kernel_rfl
        · kernel_rfl
        · intro vs x F hF hd
          have e1 : F.tmps.getD 10 undef = .pointer (some ⟨b2, 0, none⟩) := (hF.a 10 (by kernel_rfl) (by rw [hsz]; rfl)).trans hA10
          clear hF hd
          simp only [comes]
          go_simp
          first | exact ⟨Ext.refl _, rfl⟩ | exact Ext.refl _
      with_reducible refine xOps_cons ?_ ?_
      · with_reducible refine xop_on 5 69 5 1 ?_ ?_ ?_ ?_ ?_ ?_ ?_
        · rfl
        · kernel_rfl
        · kernel_rfl
        · rw [hsz]; rfl
        · kernel_rfl
        · kernel_rfl
        · intro vs x F hF hd
          have e1 : F.tmps.getD 72 undef = .pointer (some ⟨b2, 1, none⟩) := (hF.v 72 8 (by kernel_rfl) (by rw [hsz]; rfl)).trans (dep_at hd 0 8 (is (.pointer (some ⟨b2, 1, none⟩))) (by kernel_rfl) (by kernel_rfl))
          have c : Y4.cell? ⟨b2, 1, none⟩ = some (.int .i64 (bytV d true)) := HB4.out.cell 1 (by simp)
          clear hF hd
          simp only [comes]
          go_simp
          first | exact ⟨Ext.refl _, rfl⟩ | exact Ext.refl _
      with_reducible refine xOps_cons ?_ ?_
      · with_reducible refine xop_on 5 69 5 2 ?_ ?_ ?_ ?_ ?_ ?_ ?_
        · rfl
        · kernel_rfl
        · kernel_rfl
        · rw [hsz]; rfl
        · kernel_rfl
        · kernel_rfl
        · intro vs x F hF hd
          have e0 : F.tmps.getD 71 undef = .int .i64 (bytV g true) := (hF.v 71 7 (by kernel_rfl) (by rw [hsz]; rfl)).trans (dep_at hd 0 7 (is (.int .i64 (bytV g true))) (by kernel_rfl) (by kernel_rfl))
          have e1 : F.tmps.getD 73 undef = .int .i64 (bytV d true) := (hF.v 73 9 (by kernel_rfl) (by rw [hsz]; rfl)).trans (dep_at hd 1 9 (is (.int .i64 (bytV d true))) (by kernel_rfl) (by kernel_rfl))
          have q := HL.out.2.1
          clear hF hd
          simp only [comes]
          go_simp
          first | exact ⟨Ext.refl _, rfl⟩ | exact Ext.refl _
      with_reducible refine xOps_cons ?_ ?_
      · with_reducible refine xop_un ?_ ?_
        · rfl
        · intro vs x F hF hd
          have e1 : F.tmps.getD 69 undef = .bool true := (hF.v 69 5 (by kernel_rfl) (by rw [hsz]; rfl)).trans (dep_at hd 0 5 (is (.bool true)) (by kernel_rfl) (by kernel_rfl))
          have e2 : F.tmps.getD 74 undef = .bool true := (hF.v 74 10 (by kernel_rfl) (by rw [hsz]; rfl)).trans (dep_at hd 1 10 (is (.bool true)) (by kernel_rfl) (by kernel_rfl))
          clear hF hd
          simp only [comes]
          go_simp
          first | exact ⟨Ext.refl _, rfl⟩ | exact Ext.refl _
      with_reducible refine xOps_cons ?_ ?_
      · with_reducible refine xop_un ?_ ?_
        · rfl
        · intro vs x F hF hd
          have e1 : F.tmps.getD 75 undef = .bool true := (hF.v 75 11 (by kernel_rfl) (by rw [hsz]; rfl)).trans (dep_at hd 0 11 (is (.bool true)) (by kernel_rfl) (by kernel_rfl))
          clear hF hd
          simp only [comes]
          go_simp
          first | exact ⟨Ext.refl _, rfl⟩ | exact Ext.refl _
      with_reducible refine xOps_cons ?_ ?_
      · with_reducible refine xop_on 12 76 12 0 ?_ ?_ ?_ ?_ ?_ ?_ ?_
        · rfl
        · kernel_rfl
        · kernel_rfl
        · rw [hsz]; rfl
        · kernel_rfl
        · kernel_rfl
        · intro vs x F hF hd
          have e1 : F.tmps.getD 9 undef = .pointer (some ⟨b1, 0, none⟩) := (hF.a 9 (by kernel_rfl) (by rw [hsz]; rfl)).trans hA9
          clear hF hd
          simp only [comes]
          go_simp
          first | exact ⟨Ext.refl _, rfl⟩ | exact Ext.refl _
      with_reducible refine xOps_cons ?_ ?_
      · with_reducible refine xop_on 12 76 12 1 ?_ ?_ ?_ ?_ ?_ ?_ ?_
        · rfl
        · kernel_rfl
        · kernel_rfl
        · rw [hsz]; rfl
        · kernel_rfl
        · kernel_rfl
        · intro vs x F hF hd
          have e1 : F.tmps.getD 77 undef = .pointer (some ⟨b1, 2, none⟩) := (hF.v 77 13 (by kernel_rfl) (by rw [hsz]; rfl)).trans (dep_at hd 0 13 (is (.pointer (some ⟨b1, 2, none⟩))) (by kernel_rfl) (by kernel_rfl))
          have c : Y4.cell? ⟨b1, 2, none⟩ = some (.int .i64 (recV g true)) := HB3.out.cell 2 (by simp)
          clear hF hd
          simp only [comes]
          go_simp
          first | exact ⟨Ext.refl _, rfl⟩ | exact Ext.refl _
      with_reducible refine xOps_cons ?_ ?_
      · with_reducible refine xop_on 12 76 12 0 ?_ ?_ ?_ ?_ ?_ ?_ ?_
        · rfl
        · kernel_rfl
        · kernel_rfl
        · rw [hsz]; rfl
        · kernel_rfl
        · kernel_rfl
        · intro vs x F hF hd
          have e1 : F.tmps.getD 10 undef = .pointer (some ⟨b2, 0, none⟩) := (hF.a 10 (by kernel_rfl) (by rw [hsz]; rfl)).trans hA10
          clear hF hd
          simp only [comes]
          go_simp
          first | exact ⟨Ext.refl _, rfl⟩ | exact Ext.refl _
      with_reducible refine xOps_cons ?_ ?_
      · with_reducible refine xop_on 12 76 12 1 ?_ ?_ ?_ ?_ ?_ ?_ ?_
        · rfl
        · kernel_rfl
        · kernel_rfl
        · rw [hsz]; rfl
        · kernel_rfl
        · kernel_rfl
        · intro vs x F hF hd
          have e1 : F.tmps.getD 79 undef = .pointer (some ⟨b2, 2, none⟩) := (hF.v 79 15 (by kernel_rfl) (by rw [hsz]; rfl)).trans (dep_at hd 0 15 (is (.pointer (some ⟨b2, 2, none⟩))) (by kernel_rfl) (by kernel_rfl))
          have c : Y4.cell? ⟨b2, 2, none⟩ = some (.int .i64 (recV d true)) := HB4.out.cell 2 (by simp)
          clear hF hd
          simp only [comes]
          go_simp
          first | exact ⟨Ext.refl _, rfl⟩ | exact Ext.refl _
      with_reducible refine xOps_cons ?_ ?_
      · with_reducible refine xop_on 12 76 12 2 ?_ ?_ ?_ ?_ ?_ ?_ ?_
        · rfl
        · kernel_rfl
        · kernel_rfl
        · rw [hsz]; rfl
        · kernel_rfl
        · kernel_rfl
        · intro vs x F hF hd
          have e0 : F.tmps.getD 78 undef = .int .i64 (recV g true) := (hF.v 78 14 (by kernel_rfl) (by rw [hsz]; rfl)).trans (dep_at hd 0 14 (is (.int .i64 (recV g true))) (by kernel_rfl) (by kernel_rfl))
          have e1 : F.tmps.getD 80 undef = .int .i64 (recV d true) := (hF.v 80 16 (by kernel_rfl) (by rw [hsz]; rfl)).trans (dep_at hd 1 16 (is (.int .i64 (recV d true))) (by kernel_rfl) (by kernel_rfl))
          have q := HL.out.2.2.1
          clear hF hd
          simp only [comes]
          go_simp
          first | exact ⟨Ext.refl _, rfl⟩ | exact Ext.refl _
      with_reducible refine xOps_cons ?_ ?_
      · with_reducible refine xop_un ?_ ?_
        · rfl
        · intro vs x F hF hd
          have e1 : F.tmps.getD 76 undef = .bool true := (hF.v 76 12 (by kernel_rfl) (by rw [hsz]; rfl)).trans (dep_at hd 0 12 (is (.bool true)) (by kernel_rfl) (by kernel_rfl))
          have e2 : F.tmps.getD 81 undef = .bool true := (hF.v 81 17 (by kernel_rfl) (by rw [hsz]; rfl)).trans (dep_at hd 1 17 (is (.bool true)) (by kernel_rfl) (by kernel_rfl))
          clear hF hd
          simp only [comes]
          go_simp
          first | exact ⟨Ext.refl _, rfl⟩ | exact Ext.refl _
      with_reducible refine xOps_cons ?_ ?_
      · with_reducible refine xop_un ?_ ?_
        · rfl
        · intro vs x F hF hd
          have e1 : F.tmps.getD 82 undef = .bool true := (hF.v 82 18 (by kernel_rfl) (by rw [hsz]; rfl)).trans (dep_at hd 0 18 (is (.bool true)) (by kernel_rfl) (by kernel_rfl))
          clear hF hd
          simp only [comes]
          go_simp
          first | exact ⟨Ext.refl _, rfl⟩ | exact Ext.refl _
      with_reducible refine xOps_cons ?_ ?_
      · with_reducible refine xop_on 19 83 19 0 ?_ ?_ ?_ ?_ ?_ ?_ ?_
        · rfl
        · kernel_rfl
        · kernel_rfl
        · rw [hsz]; rfl
        · kernel_rfl
        · kernel_rfl
        · intro vs x F hF hd
          have e1 : F.tmps.getD 9 undef = .pointer (some ⟨b1, 0, none⟩) := (hF.a 9 (by kernel_rfl) (by rw [hsz]; rfl)).trans hA9
          clear hF hd
          simp only [comes]
          go_simp
          first | exact ⟨Ext.refl _, rfl⟩ | exact Ext.refl _
      with_reducible refine xOps_cons ?_ ?_
      · with_reducible refine xop_on 19 83 19 1 ?_ ?_ ?_ ?_ ?_ ?_ ?_
        · rfl
        · kernel_rfl
        · kernel_rfl
        · rw [hsz]; rfl
        · kernel_rfl
        · kernel_rfl
        · intro vs x F hF hd
          have e1 : F.tmps.getD 84 undef = .pointer (some ⟨b1, 1, none⟩) := (hF.v 84 20 (by kernel_rfl) (by rw [hsz]; rfl)).trans (dep_at hd 0 20 (is (.pointer (some ⟨b1, 1, none⟩))) (by kernel_rfl) (by kernel_rfl))
          have c : Y4.cell? ⟨b1, 1, none⟩ = some (.int .i64 (bytV g true)) := HB3.out.cell 1 (by simp)
          clear hF hd
          simp only [comes]
          go_simp
          first | exact ⟨Ext.refl _, rfl⟩ | exact Ext.refl _
      with_reducible refine xOps_cons ?_ ?_
      · with_reducible refine xop_on 19 83 19 1 ?_ ?_ ?_ ?_ ?_ ?_ ?_
        · rfl
        · kernel_rfl
        · kernel_rfl
        · rw [hsz]; rfl
        · kernel_rfl
        · kernel_rfl
        · intro vs x F hF hd
          have e0 : F.tmps.getD 85 undef = .int .i64 (bytV g true) := (hF.v 85 21 (by kernel_rfl) (by rw [hsz]; rfl)).trans (dep_at hd 0 21 (is (.int .i64 (bytV g true))) (by kernel_rfl) (by kernel_rfl))
          have q := HL.out.2.2.2
          clear hF hd
          simp only [comes]
          go_simp
          first | exact ⟨Ext.refl _, rfl⟩ | exact Ext.refl _
      with_reducible refine xOps_cons ?_ ?_
      · with_reducible refine xop_un ?_ ?_
        · rfl
        · intro vs x F hF hd
          have e1 : F.tmps.getD 83 undef = .bool true := (hF.v 83 19 (by kernel_rfl) (by rw [hsz]; rfl)).trans (dep_at hd 0 19 (is (.bool true)) (by kernel_rfl) (by kernel_rfl))
          have e2 : F.tmps.getD 86 undef = .bool true := (hF.v 86 22 (by kernel_rfl) (by rw [hsz]; rfl)).trans (dep_at hd 1 22 (is (.bool true)) (by kernel_rfl) (by kernel_rfl))
          clear hF hd
          simp only [comes]
          go_simp
          first | exact ⟨Ext.refl _, rfl⟩ | exact Ext.refl _
      with_reducible refine xOps_cons ?_ ?_
      · with_reducible refine xop_un ?_ ?_
        · rfl
        · intro vs x F hF hd
          have e1 : F.tmps.getD 87 undef = .bool true := (hF.v 87 23 (by kernel_rfl) (by rw [hsz]; rfl)).trans (dep_at hd 0 23 (is (.bool true)) (by kernel_rfl) (by kernel_rfl))
          clear hF hd
          simp only [comes]
          go_simp
          first | exact ⟨Ext.refl _, rfl⟩ | exact Ext.refl _
      with_reducible refine xOps_cons ?_ ?_
      · with_reducible refine xop_on 24 88 24 1 ?_ ?_ ?_ ?_ ?_ ?_ ?_
        · rfl
        · kernel_rfl
        · kernel_rfl
        · rw [hsz]; rfl
        · kernel_rfl
        · kernel_rfl
        · intro vs x F hF hd
          clear hF hd
          simp only [comes]
          go_simp
          refine ((awake_any _)).mono ?_
          rintro e w' ⟨rfl, hE⟩
          first | exact ⟨_, rfl, hE, rfl⟩ | exact ⟨_, rfl, hE⟩ | exact ⟨rfl, hE⟩ | exact ⟨_, hE⟩ | exact hE
      with_reducible refine xOps_cons ?_ ?_
      · with_reducible refine xop_un ?_ ?_
        · rfl
        · intro vs x F hF hd
          have e1 : F.tmps.getD 88 undef = .bool true := (hF.v 88 24 (by kernel_rfl) (by rw [hsz]; rfl)).trans (dep_at hd 0 24 (is (.bool true)) (by kernel_rfl) (by kernel_rfl))
          have e2 : F.tmps.getD 89 undef = .bool true := (hF.v 89 25 (by kernel_rfl) (by rw [hsz]; rfl)).trans (dep_at hd 1 25 (is (.bool true)) (by kernel_rfl) (by kernel_rfl))
          clear hF hd
          simp only [comes]
          go_simp
          first | exact ⟨Ext.refl _, rfl⟩ | exact Ext.refl _
      exact xOps_nil
    case hst => exact ⟨is.st _, is.st _, is.st _, is.st _, is.st _, is.st _, is.st _, is.st _, is.st _, is.st _, is.st _, is.st _, is.st _, is.st _, is.st _, is.st _, is.st _, is.st _, is.st _, is.st _, is.st _, is.st _, is.st _, is.st _, is.st _, is.st _, is.st _, trivial⟩
    case hfin =>
      intro vs x hf
      have f26 : vs 26 = .bool true := hf.2.2.2.2.2.2.2.2.2.2.2.2.2.2.2.2.2.2.2.2.2.2.2.2.2.2.1
      clear hf
      have hA0 := HA0.out
      subst hA0
      clear hsz hA9 hA10
      simp only [List.take_succ_cons, List.take_zero, List.drop_succ_cons, List.drop_zero, putAll, Act.put, List.setIfInBounds_toArray, List.set_cons_succ, List.set_cons_zero, Nat.zero_add, Nat.reduceAdd]
      clear HA0
      rw [f26]
      clear f26
      go_wp2
      go_ret
      exact ⟨rfl, HE4.out.trans (by repeat (first | exact Ext.refl _ | assumption | apply Ext.plus_ | apply Ext.alloc | apply Ext.drew))⟩
theorem law_crises (v0 v1 v2 : Value) (w : World) (p0 : ∃ A n c, ∃ l : List Int, v0 = .slice A n c ∧ ArgRow w A n c (l.map (Value.int .i64)) ∧ ∀ x ∈ l, I64 x)
    (p1 : ∃ n, v1 = .int .i64 n ∧ I64 n) (p2 : ∃ n, v2 = .int .i64 n ∧ I64 n) :
    Calls Try.prog 5 #[v0, v1, v2] w fun ee w' => ee = .returned (.bool true) ∧ Ext w w' := by
  obtain ⟨B, k, d, ll, rfl, ⟨hB, hkd, hdm, _⟩, _⟩ := p0
  obtain ⟨t, rfl, _⟩ := p1
  obtain ⟨q, rfl, _⟩ := p2
  have hk : k ≤ 9223372036854775807 := by omega
  by_cases h0 : t % 6 = 0
  · exact rises_0 B k d ll t q w hB hk h0
  by_cases h1 : t % 6 = 1
  · exact rises_1 B k d ll t q w hB hk h1
  by_cases h2 : t % 6 = 2
  · exact rises_2 B k d ll t q w hB hk h2
  by_cases h3 : t % 6 = 3
  · exact rises_3 B k d ll t q w hB hk h3
  by_cases h4 : t % 6 = 4
  · exact rises_4 B k d ll t q w hB hk h4
  exact rises_5 B k d ll t q w hB hk (by omega)
end Go.Proofs.Ytlcopiepcpangaa
