/- awake. -/
import Derived.Test.YtlcopiepcpangaaCfg7
import Derived.Test.YtlcopiepcpangaaCfg8
import Derived.Test.YtlcopiepcpangaaCfg6
import Derived.Test.YtlcopiepcpangaaIv
set_option linter.unusedVariables false
namespace Go.Proofs.Ytlcopiepcpangaa
open Go.RowKit Go.Rg

theorem ignL_tok : ignL.all tokB = true := by decide +kernel
theorem Gen.ok {c : Cf} {wl : List Int} {ig : List ByteArray} (h : Gen c wl ig) : cfB c true ig = true := by
  have h1 := h.mh
  have h2 := h.mb
  have h3 := h.mr
  have h4 := h.ci
  have h5 := h.co
  have h6 := h.cl
  have h7 := h.ad
  have h8 := h.li
  have h9 := h.st
  have h10 := h.ca
  have h11 := h.sh
  have h12 := h.te
  have h13 := h.di
  have h14 := h.dr
  have h15 := h.ds
  have h16 := h.rp
  have hs : c.salt.size ≤ 64 := by rcases h.salt with e | e <;> rw [e] <;> decide
  have hc : c.cook.size ≤ 64 := by rw [h.cook]; decide
  have ht : tokB c.cook = true := by rw [h.cook]; decide +kernel
  have hi : ig.all tokB = true ∧ c.im ≤ 16 := by
    rcases h.ig with ⟨e, e2⟩ | ⟨e, e2⟩
    · rw [e, e2]
      exact ⟨rfl, by decide⟩
    · rw [e, e2]
      exact ⟨ignL_tok, by decide⟩
  simp only [cfB, szB, cnB, nmB, inn, Bool.and_eq_true, decide_eq_true_eq]
  refine ⟨⟨?_, ⟨?_, ?_⟩, ?_, ?_, ?_, ?_⟩, ⟨⟨?_, ?_, ?_⟩, ⟨?_, ?_, ?_⟩, ?_, ?_, ?_⟩, ⟨hi.1, hi.2, hs, hc, ht⟩, trivial⟩ <;> omega
theorem tt_iff {p : Prop} (h : p) : true = true ↔ p := ⟨fun _ => h, fun _ => rfl⟩
/-- The four contracts of a made configuration. -/
theorem Gen.overV {c : Cf} {wl : List Int} {ig : List ByteArray} {w : World} (h : Gen c wl ig) (k : CfOK c w wl ig) : Over 7 c w (.int .i64 0) := Lib.hid fun W e => by
  have := cvalidate_any c wl ig true (tt_iff h.pl) W (k.lift e)
  rw [h.ok] at this
  exact this
theorem overV_no {c : Cf} {wl : List Int} {ig : List ByteArray} {w : World} (pb : Bool) (hpb : pb = true ↔ PlanOK wl c.mi c.nu c.de c.ho c.wi) (h : cfB c pb ig = false) (k : CfOK c w wl ig) : Over 7 c w (.int .i64 8) := Lib.hid fun W e => by
  have := cvalidate_any c wl ig pb hpb W (k.lift e)
  rw [h] at this
  exact this
theorem Gen.overH {c : Cf} {wl : List Int} {ig : List ByteArray} {w : World} (h : Gen c wl ig) (k : CfOK c w wl ig) : Over 11 c w (.int .i64 (c.co + 2 * c.mh + c.mr + 2000)) := Lib.hid fun W e =>
  hard_any c true (fun _ => CfN.of h.ok) W ((h.overV k).at e)
theorem overH_no {c : Cf} {wl : List Int} {ig : List ByteArray} {w : World} (pb : Bool) (hpb : pb = true ↔ PlanOK wl c.mi c.nu c.de c.ho c.wi) (h : cfB c pb ig = false) (k : CfOK c w wl ig) : Over 11 c w (.int .i64 0) := Lib.hid fun W e =>
  hard_any c false (fun h => by cases h) W ((overV_no pb hpb h k).at e)
theorem src_new {w W : World} {B : Option Addr} {k d : Nat} {ll : List Int} {T : TypeId} (hB : Row w w.heap.size 1 B k (ints ll)) (hE : Ext w W) (hk : k ≤ 9223372036854775807) : SSt (W.alloc (.cells #[.slice B k d, .int .i64 0] T)) (W.alloc (.cells #[.slice B k d, .int .i64 0] T)) W.heap.size B k d ll := by
  have h := src_at (T := T) hB hE rfl hk (d := d)
  exact ⟨⟨_, h⟩, SE.start h.c1, by simp⟩
theorem ext_se {w W W' : World} {s : Nat} (h : Ext w W) (k : SE s W W') (hs : w.heap.size ≤ s) : Ext w W' := by
  obtain ⟨v, hv⟩ := k
  exact (h.put (k := 1) (v := v) hs).trans hv
theorem row_nil (w : World) (B : Nat) : Row w B 1 none 0 (ints []) := ⟨rfl, fun h => absurd h (by decide)⟩
set_option maxRecDepth 100000 in
set_option maxHeartbeats 8000000 in
theorem awake_any (w : World) : Calls Try.prog 10 #[] w fun e w' => e = .returned (.bool true) ∧ Ext w w' := by
  go_enter Try.func10, Try.ntmps10
  go_wp2_with fail
  refine calls_at fun X0 hX => ?_
  obtain ⟨s, hs⟩ : ∃ s, s = w.heap.size := ⟨_, rfl⟩
  have hS : SSt X0 X0 s none 0 0 [] := by
    rw [hX, hs]
    exact src_new (row_nil w _) (by repeat (first | exact Ext.refl _ | assumption | apply Ext.plus_ | apply Ext.alloc | apply Ext.drew)) (by decide)
  have hE0 : Ext w X0 := by
    rw [hX]
    repeat' (first | with_reducible assumption | with_reducible exact Ext.refl _ | with_reducible apply Ext.alloc | with_reducible apply Ext.drew | with_reducible apply Ext.drewN | with_reducible apply Ext.plus_ | with_reducible refine Ext.put ?_ (by omega))
  rw [← hs]
  have hsw : w.heap.size ≤ s := by omega
  clear hX hs
  refine (srcConfig_any s none 0 0 [] X0 hS).mono ?_
  rintro e X1 ⟨g, wl, ig, rfl, hg, hok, hss, -, -⟩
  have hE1 : Ext w X1 := ext_se hE0 hss.se hsw
  have H1 := Lib.hid (And.intro hE1 hok)
  have HG := Lib.hid hg
  clear hE1 hok hss hE0 hS hsw hg X0
  go_wp2_with (with_reducible show wpList _ _ _ (⟨none, _, _, _, _, _⟩ :: _) _ _; refine Lock.out ?_)
  refine ⟨?_, trivial⟩
  refine wl_at fun V hV => ?_
  obtain ⟨P, hP⟩ : ∃ P, P = X1.heap.size := ⟨_, rfl⟩
  have hB0 : Box 0 (.int .i64 0 :: zcells) P V := by
    rw [hV, hP]
    repeat' (first | with_reducible assumption | ((with_reducible refine Box.fresh ?fb ?fn ?fr); (case fb => first | omega | (simp <;> omega)); (case fn => first | omega | (simp <;> omega)); (case fr => rfl)) | with_reducible apply Box.up | with_reducible apply Box.drew_ | with_reducible apply Box.drewN_ | with_reducible apply Box.plus_ | with_reducible apply Box.put | with_reducible refine Box.off ?_ (by omega))
    all_goals first | rfl | (simp; done)
  have hE1 : Ext X1 V := by
    rw [hV]
    repeat' (first | with_reducible assumption | with_reducible exact Ext.refl _ | with_reducible apply Ext.alloc | with_reducible apply Ext.drew | with_reducible apply Ext.drewN | with_reducible apply Ext.plus_ | with_reducible refine Ext.put ?_ (by omega))
  have hPl : X1.heap.size ≤ P := by omega
  rw [← hP]
  clear hV hP
  refine wl_store rfl 27 (.tmp 1) (.tmp 5) rfl hB0 g.cells rfl rfl rfl (by kernel_rfl) rfl fun W1 hB hx => ?_
  have hE2 := hx.ext _ hE1 hPl
  clear hE1 hx hB0 V
  have hok := H1.out.2.lift hE2
  have hE := H1.out.1.trans hE2
  have H2 := Lib.hid (And.intro hE hok)
  clear hE2 hok hE H1 hPl
  go_wp2_with (with_reducible show wpList _ _ _ (⟨some 6, _, _, _, _, _⟩ :: _) _ _; refine Lock.out ?_)
  refine ⟨?_, trivial⟩
  refine wl_load rfl 27 (.tmp 1) rfl hB rfl Try.underlying27 rfl (by kernel_rfl) ?_
  have HP := Lib.hid hB
  clear hB
  go_wp2_with (with_reducible show wpList _ _ _ (⟨none, _, _, _, _, _⟩ :: _) _ _; refine Lock.out ?_)
  refine ⟨?_, trivial⟩
  refine wl_at fun V hV => ?_
  obtain ⟨Q, hQ⟩ : ∃ Q, Q = W1.heap.size := ⟨_, rfl⟩
  have hB0 : Box 0 (.int .i64 0 :: zcells) Q V := by
    rw [hV, hQ]
    repeat' (first | with_reducible assumption | ((with_reducible refine Box.fresh ?fb ?fn ?fr); (case fb => first | omega | (simp <;> omega)); (case fn => first | omega | (simp <;> omega)); (case fr => rfl)) | with_reducible apply Box.up | with_reducible apply Box.drew_ | with_reducible apply Box.drewN_ | with_reducible apply Box.plus_ | with_reducible apply Box.put | with_reducible refine Box.off ?_ (by omega))
    all_goals first | rfl | (simp; done)
  have hE1 : Ext W1 V := by
    rw [hV]
    repeat' (first | with_reducible assumption | with_reducible exact Ext.refl _ | with_reducible apply Ext.alloc | with_reducible apply Ext.drew | with_reducible apply Ext.drewN | with_reducible apply Ext.plus_ | with_reducible refine Ext.put ?_ (by omega))
  have hQl : W1.heap.size ≤ Q := by omega
  rw [← hQ]
  clear hV hQ
  refine wl_store rfl 27 (.tmp 2) (.tmp 6) rfl hB0 g.cells rfl rfl rfl (by kernel_rfl) rfl fun W2 hB hx => ?_
  have hE2 := hx.ext _ hE1 hQl
  clear hE1 hx hB0 V
  have c0 := hB.cell 0 (by simp)
  have c3 := hB.cell 3 (by simp)
  simp only [List.getElem?_cons_zero, List.getElem?_cons_succ] at c0 c3
  have f := hB.free
  have b1 := HG.out.mh.1
  have b2 := HG.out.mh.2
  have HQ := Lib.hid hB
  clear hB
  have HF := Lib.hid (And.intro hE2 hQl)
  clear hE2 hQl
  go_upto_region 4 with fail
  refine wp_at fun Y hY => ?_
  obtain ⟨d, hd⟩ : ∃ d : Cf, d = { g with ci := g.mh - 1 } := ⟨_, rfl⟩
  have hEY : Ext W1 Y := by
    rw [hY]
    exact Ext.put HF.out.1 HF.out.2
  have hBQ : Box 0 d.cells Q Y := by
    rw [hY, hd]
    exact Box.put HQ.out rfl (by simp)
  have hEw := H2.out.1.trans hEY
  have hok := H2.out.2.lift hEY
  have hokd : CfOK d Y wl ig := by
    rw [hd]
    exact ⟨hok.pr, hok.ir, hok.pn, hok.im, hok.pm, hok.ikm, hok.si, hok.ss, hok.cs⟩
  have hcd : cfB d true ig = false := by
    rw [hd]
    have : inn g.mh 100000 (g.mh - 1) = false := decide_eq_false (by omega)
    simp only [cfB, szB, this, Bool.and_false, Bool.false_and]
  have hpd : PlanOK wl d.mi d.nu d.de d.ho d.wi := by
    rw [hd]
    exact HG.out.pl
  have CV := HG.out.overV hok
  have CH := HG.out.overH hok
  have CW := overV_no true (tt_iff hpd) hcd hokd
  have CI := overH_no true (tt_iff hpd) hcd hokd
  have HN := Lib.hid (CfN.of HG.out.ok)
  replace HP := Lib.hid (HP.out.ext hEY)
  replace HQ := Lib.hid hBQ
  have HE := Lib.hid hEw
  clear hY hd hEY hBQ hEw hok hokd hcd hpd H2 HF HG c0 c3 f b1 b2
  refine act_at fun A0 hA0 => ?_
  have hsz : A0.tmps.size = 39 := by
    rw [hA0]
    rfl
  have hA1 : A0.tmps.getD 1 undef = .pointer (some ⟨P, 0, none⟩) := by
    rw [hA0]
    rfl
  have hA2 : A0.tmps.getD 2 undef = .pointer (some ⟨Q, 0, none⟩) := by
    rw [hA0]
    rfl
  have HA0 := Lib.hid hA0
  clear hA0
  apply wp_region_ext 28 [is (cv g), is (.int .i64 0), is (.bool true), is (.bool true), is (cv d), is (.int .i64 8), is (.bool true), is (.bool true), is (.bool true), is (cv g), is (.int .i64 (((g.co + (2 * g.mh)) + g.mr) + 2000)), is (.pointer (some ⟨P, 4, none⟩)), is (.int .i64 g.co), is (.pointer (some ⟨P, 0, none⟩)), is (.int .i64 g.mh), is (.int .i64 (2 * g.mh)), is (.int .i64 (g.co + (2 * g.mh))), is (.pointer (some ⟨P, 2, none⟩)), is (.int .i64 g.mr), is (.int .i64 ((g.co + (2 * g.mh)) + g.mr)), is (.int .i64 (((g.co + (2 * g.mh)) + g.mr) + 2000)), is (.bool true), is (.bool true), is (.bool true), is (cv d), is (.int .i64 0), is (.bool true), is (.bool true)] (by kernel_rfl) (by kernel_rfl) rfl
  case hops =>
    simp only [List.take_succ_cons, List.take_zero]
    with_reducible refine xOps_cons ?_ ?_
    · with_reducible refine xop_un ?_ ?_
      · rfl
      · intro vs x F hF hd
        have e1 : F.tmps.getD 1 undef = .pointer (some ⟨P, 0, none⟩) := (hF.a 1 (by kernel_rfl) (by rw [hsz]; rfl)).trans hA1
        exact comes_load_box 27 (.tmp 1) rfl (HP.out.ext (by repeat (first | exact Ext.refl _ | assumption | apply Ext.plus_ | apply Ext.alloc | apply Ext.drew))) e1 Try.underlying27 rfl (by kernel_rfl)
    with_reducible refine xOps_cons ?_ ?_
    · with_reducible refine xop_un ?_ ?_
      · rfl
      · intro vs x F hF hd
        have e11 : F.tmps.getD 11 undef = cv g := (hF.v 11 0 (by kernel_rfl) (by rw [hsz]; rfl)).trans (dep_at hd 0 0 (is (cv g)) (by kernel_rfl) (by kernel_rfl))
        clear hF hd
        simp only [comes]
        go_simp
        refine ((CV.out _ (by repeat (first | exact Ext.refl _ | assumption | apply Ext.plus_ | apply Ext.alloc | apply Ext.drew)))).mono ?_
        rintro e w' ⟨rfl, hE⟩
        first | exact ⟨_, rfl, hE, rfl⟩ | exact ⟨_, rfl, hE⟩ | exact ⟨rfl, hE⟩ | exact ⟨_, hE⟩ | exact hE
    with_reducible refine xOps_cons ?_ ?_
    · with_reducible refine xop_un ?_ ?_
      · rfl
      · intro vs x F hF hd
        have e0 : F.tmps.getD 12 undef = .int .i64 0 := (hF.v 12 1 (by kernel_rfl) (by rw [hsz]; rfl)).trans (dep_at hd 0 1 (is (.int .i64 0)) (by kernel_rfl) (by kernel_rfl))
        clear hF hd
        simp only [comes]
        go_simp
        first | exact ⟨Ext.refl _, rfl⟩ | exact Ext.refl _
    with_reducible refine xOps_cons ?_ ?_
    · with_reducible refine xop_un ?_ ?_
      · rfl
      · intro vs x F hF hd
        have e1 : F.tmps.getD 13 undef = .bool true := (hF.v 13 2 (by kernel_rfl) (by rw [hsz]; rfl)).trans (dep_at hd 0 2 (is (.bool true)) (by kernel_rfl) (by kernel_rfl))
        clear hF hd
        simp only [comes]
        go_simp
        first | exact ⟨Ext.refl _, rfl⟩ | exact Ext.refl _
    with_reducible refine xOps_cons ?_ ?_
    · with_reducible refine xop_on 3 14 3 0 ?_ ?_ ?_ ?_ ?_ ?_ ?_
      · rfl
      · kernel_rfl
      · kernel_rfl
      · rw [hsz]; rfl
      · kernel_rfl
      · kernel_rfl
      · intro vs x F hF hd
        have e1 : F.tmps.getD 2 undef = .pointer (some ⟨Q, 0, none⟩) := (hF.a 2 (by kernel_rfl) (by rw [hsz]; rfl)).trans hA2
        exact comes_load_box 27 (.tmp 2) rfl (HQ.out.ext (by repeat (first | exact Ext.refl _ | assumption | apply Ext.plus_ | apply Ext.alloc | apply Ext.drew))) e1 Try.underlying27 rfl (by kernel_rfl)
    with_reducible refine xOps_cons ?_ ?_
    · with_reducible refine xop_on 3 14 3 2 ?_ ?_ ?_ ?_ ?_ ?_ ?_
      · rfl
      · kernel_rfl
      · kernel_rfl
      · rw [hsz]; rfl
      · kernel_rfl
      · kernel_rfl
      · intro vs x F hF hd
        have e15 : F.tmps.getD 15 undef = cv d := (hF.v 15 4 (by kernel_rfl) (by rw [hsz]; rfl)).trans (dep_at hd 0 4 (is (cv d)) (by kernel_rfl) (by kernel_rfl))
        clear hF hd
        simp only [comes]
        go_simp
        refine ((CW.out _ (by repeat (first | exact Ext.refl _ | assumption | apply Ext.plus_ | apply Ext.alloc | apply Ext.drew)))).mono ?_
        rintro e w' ⟨rfl, hE⟩
        first | exact ⟨_, rfl, hE, rfl⟩ | exact ⟨_, rfl, hE⟩ | exact ⟨rfl, hE⟩ | exact ⟨_, hE⟩ | exact hE
    with_reducible refine xOps_cons ?_ ?_
    · with_reducible refine xop_on 3 14 3 1 ?_ ?_ ?_ ?_ ?_ ?_ ?_
      · rfl
      · kernel_rfl
      · kernel_rfl
      · rw [hsz]; rfl
      · kernel_rfl
      · kernel_rfl
      · intro vs x F hF hd
        have e0 : F.tmps.getD 16 undef = .int .i64 8 := (hF.v 16 5 (by kernel_rfl) (by rw [hsz]; rfl)).trans (dep_at hd 0 5 (is (.int .i64 8)) (by kernel_rfl) (by kernel_rfl))
        clear hF hd
        simp only [comes]
        go_simp
        first | exact ⟨Ext.refl _, rfl⟩ | exact Ext.refl _
    with_reducible refine xOps_cons ?_ ?_
    · with_reducible refine xop_un ?_ ?_
      · rfl
      · intro vs x F hF hd
        have e1 : F.tmps.getD 14 undef = .bool true := (hF.v 14 3 (by kernel_rfl) (by rw [hsz]; rfl)).trans (dep_at hd 0 3 (is (.bool true)) (by kernel_rfl) (by kernel_rfl))
        have e2 : F.tmps.getD 17 undef = .bool true := (hF.v 17 6 (by kernel_rfl) (by rw [hsz]; rfl)).trans (dep_at hd 1 6 (is (.bool true)) (by kernel_rfl) (by kernel_rfl))
        clear hF hd
        simp only [comes]
        go_simp
        first | exact ⟨Ext.refl _, rfl⟩ | exact Ext.refl _
    with_reducible refine xOps_cons ?_ ?_
    · with_reducible refine xop_un ?_ ?_
      · rfl
      · intro vs x F hF hd
        have e1 : F.tmps.getD 18 undef = .bool true := (hF.v 18 7 (by kernel_rfl) (by rw [hsz]; rfl)).trans (dep_at hd 0 7 (is (.bool true)) (by kernel_rfl) (by kernel_rfl))
        clear hF hd
        simp only [comes]
        go_simp
        first | exact ⟨Ext.refl _, rfl⟩ | exact Ext.refl _
    with_reducible refine xOps_cons ?_ ?_
    · with_reducible refine xop_on 8 19 8 0 ?_ ?_ ?_ ?_ ?_ ?_ ?_
      · rfl
      · kernel_rfl
      · kernel_rfl
      · rw [hsz]; rfl
      · kernel_rfl
      · kernel_rfl
      · intro vs x F hF hd
        have e1 : F.tmps.getD 1 undef = .pointer (some ⟨P, 0, none⟩) := (hF.a 1 (by kernel_rfl) (by rw [hsz]; rfl)).trans hA1
        exact comes_load_box 27 (.tmp 1) rfl (HP.out.ext (by repeat (first | exact Ext.refl _ | assumption | apply Ext.plus_ | apply Ext.alloc | apply Ext.drew))) e1 Try.underlying27 rfl (by kernel_rfl)
    with_reducible refine xOps_cons ?_ ?_
    · with_reducible refine xop_on 8 19 8 2 ?_ ?_ ?_ ?_ ?_ ?_ ?_
      · rfl
      · kernel_rfl
      · kernel_rfl
      · rw [hsz]; rfl
      · kernel_rfl
      · kernel_rfl
      · intro vs x F hF hd
        have e20 : F.tmps.getD 20 undef = cv g := (hF.v 20 9 (by kernel_rfl) (by rw [hsz]; rfl)).trans (dep_at hd 0 9 (is (cv g)) (by kernel_rfl) (by kernel_rfl))
        clear hF hd
        simp only [comes]
        go_simp
        refine ((CH.out _ (by repeat (first | exact Ext.refl _ | assumption | apply Ext.plus_ | apply Ext.alloc | apply Ext.drew)))).mono ?_
        rintro e w' ⟨rfl, hE⟩
        first | exact ⟨_, rfl, hE, rfl⟩ | exact ⟨_, rfl, hE⟩ | exact ⟨rfl, hE⟩ | exact ⟨_, hE⟩ | exact hE
    with_reducible refine xOps_cons ?_ ?_
    · with_reducible refine xop_on 8 19 8 0 ?_ ?_ ?_ ?_ ?_ ?_ ?_
      · rfl
      · kernel_rfl
      · kernel_rfl
      · rw [hsz]; rfl
      · kernel_rfl
      · kernel_rfl
      · intro vs x F hF hd
        have e1 : F.tmps.getD 1 undef = .pointer (some ⟨P, 0, none⟩) := (hF.a 1 (by kernel_rfl) (by rw [hsz]; rfl)).trans hA1
        clear hF hd
        simp only [comes]
        go_simp
        first | exact ⟨Ext.refl _, rfl⟩ | exact Ext.refl _
    with_reducible refine xOps_cons ?_ ?_
    · with_reducible refine xop_on 8 19 8 1 ?_ ?_ ?_ ?_ ?_ ?_ ?_
      · rfl
      · kernel_rfl
      · kernel_rfl
      · rw [hsz]; rfl
      · kernel_rfl
      · kernel_rfl
      · intro vs x F hF hd
        have e1 : F.tmps.getD 22 undef = .pointer (some ⟨P, 4, none⟩) := (hF.v 22 11 (by kernel_rfl) (by rw [hsz]; rfl)).trans (dep_at hd 0 11 (is (.pointer (some ⟨P, 4, none⟩))) (by kernel_rfl) (by kernel_rfl))
        have c : Y.cell? ⟨P, 4, none⟩ = some (.int .i64 g.co) := HP.out.cell 4 (by simp)
        clear hF hd
        simp only [comes]
        go_simp
        first | exact ⟨Ext.refl _, rfl⟩ | exact Ext.refl _
    with_reducible refine xOps_cons ?_ ?_
    · with_reducible refine xop_on 8 19 8 0 ?_ ?_ ?_ ?_ ?_ ?_ ?_
      · rfl
      · kernel_rfl
      · kernel_rfl
      · rw [hsz]; rfl
      · kernel_rfl
      · kernel_rfl
      · intro vs x F hF hd
        have e1 : F.tmps.getD 1 undef = .pointer (some ⟨P, 0, none⟩) := (hF.a 1 (by kernel_rfl) (by rw [hsz]; rfl)).trans hA1
        clear hF hd
        simp only [comes]
        go_simp
        first | exact ⟨Ext.refl _, rfl⟩ | exact Ext.refl _
    with_reducible refine xOps_cons ?_ ?_
    · with_reducible refine xop_on 8 19 8 1 ?_ ?_ ?_ ?_ ?_ ?_ ?_
      · rfl
      · kernel_rfl
      · kernel_rfl
      · rw [hsz]; rfl
      · kernel_rfl
      · kernel_rfl
      · intro vs x F hF hd
        have e1 : F.tmps.getD 24 undef = .pointer (some ⟨P, 0, none⟩) := (hF.v 24 13 (by kernel_rfl) (by rw [hsz]; rfl)).trans (dep_at hd 0 13 (is (.pointer (some ⟨P, 0, none⟩))) (by kernel_rfl) (by kernel_rfl))
        have c : Y.cell? ⟨P, 0, none⟩ = some (.int .i64 g.mh) := HP.out.cell 0 (by simp)
        clear hF hd
        simp only [comes]
        go_simp
        first | exact ⟨Ext.refl _, rfl⟩ | exact Ext.refl _
    with_reducible refine xOps_cons ?_ ?_
    · with_reducible refine xop_on 8 19 8 1 ?_ ?_ ?_ ?_ ?_ ?_ ?_
      · rfl
      · kernel_rfl
      · kernel_rfl
      · rw [hsz]; rfl
      · kernel_rfl
      · kernel_rfl
      · intro vs x F hF hd
        have e2 : F.tmps.getD 25 undef = .int .i64 g.mh := (hF.v 25 14 (by kernel_rfl) (by rw [hsz]; rfl)).trans (dep_at hd 0 14 (is (.int .i64 g.mh)) (by kernel_rfl) (by kernel_rfl))
        exact comes_mul rfl e2 (Iv.wrap (Iv.mul (by decide) (by decide) (Iv.con (2)) (HN.out.iv_mh)) (by decide) (by decide))
    with_reducible refine xOps_cons ?_ ?_
    · with_reducible refine xop_on 8 19 8 2 ?_ ?_ ?_ ?_ ?_ ?_ ?_
      · rfl
      · kernel_rfl
      · kernel_rfl
      · rw [hsz]; rfl
      · kernel_rfl
      · kernel_rfl
      · intro vs x F hF hd
        have e1 : F.tmps.getD 23 undef = .int .i64 g.co := (hF.v 23 12 (by kernel_rfl) (by rw [hsz]; rfl)).trans (dep_at hd 0 12 (is (.int .i64 g.co)) (by kernel_rfl) (by kernel_rfl))
        have e2 : F.tmps.getD 26 undef = .int .i64 (2 * g.mh) := (hF.v 26 15 (by kernel_rfl) (by rw [hsz]; rfl)).trans (dep_at hd 1 15 (is (.int .i64 (2 * g.mh))) (by kernel_rfl) (by kernel_rfl))
        exact comes_add e1 e2 (Iv.wrap (Iv.add (HN.out.iv_co) (Iv.mul (by decide) (by decide) (Iv.con (2)) (HN.out.iv_mh))) (by decide) (by decide))
    with_reducible refine xOps_cons ?_ ?_
    · with_reducible refine xop_on 8 19 8 0 ?_ ?_ ?_ ?_ ?_ ?_ ?_
      · rfl
      · kernel_rfl
      · kernel_rfl
      · rw [hsz]; rfl
      · kernel_rfl
      · kernel_rfl
      · intro vs x F hF hd
        have e1 : F.tmps.getD 1 undef = .pointer (some ⟨P, 0, none⟩) := (hF.a 1 (by kernel_rfl) (by rw [hsz]; rfl)).trans hA1
        clear hF hd
        simp only [comes]
        go_simp
        first | exact ⟨Ext.refl _, rfl⟩ | exact Ext.refl _
    with_reducible refine xOps_cons ?_ ?_
    · with_reducible refine xop_on 8 19 8 1 ?_ ?_ ?_ ?_ ?_ ?_ ?_
      · rfl
      · kernel_rfl
      · kernel_rfl
      · rw [hsz]; rfl
      · kernel_rfl
      · kernel_rfl
      · intro vs x F hF hd
        have e1 : F.tmps.getD 28 undef = .pointer (some ⟨P, 2, none⟩) := (hF.v 28 17 (by kernel_rfl) (by rw [hsz]; rfl)).trans (dep_at hd 0 17 (is (.pointer (some ⟨P, 2, none⟩))) (by kernel_rfl) (by kernel_rfl))
        have c : Y.cell? ⟨P, 2, none⟩ = some (.int .i64 g.mr) := HP.out.cell 2 (by simp)
        clear hF hd
        simp only [comes]
        go_simp
        first | exact ⟨Ext.refl _, rfl⟩ | exact Ext.refl _
    with_reducible refine xOps_cons ?_ ?_
    · with_reducible refine xop_on 8 19 8 2 ?_ ?_ ?_ ?_ ?_ ?_ ?_
      · rfl
      · kernel_rfl
      · kernel_rfl
      · rw [hsz]; rfl
      · kernel_rfl
      · kernel_rfl
      · intro vs x F hF hd
        have e1 : F.tmps.getD 27 undef = .int .i64 (g.co + (2 * g.mh)) := (hF.v 27 16 (by kernel_rfl) (by rw [hsz]; rfl)).trans (dep_at hd 0 16 (is (.int .i64 (g.co + (2 * g.mh)))) (by kernel_rfl) (by kernel_rfl))
        have e2 : F.tmps.getD 29 undef = .int .i64 g.mr := (hF.v 29 18 (by kernel_rfl) (by rw [hsz]; rfl)).trans (dep_at hd 1 18 (is (.int .i64 g.mr)) (by kernel_rfl) (by kernel_rfl))
        exact comes_add e1 e2 (Iv.wrap (Iv.add (Iv.add (HN.out.iv_co) (Iv.mul (by decide) (by decide) (Iv.con (2)) (HN.out.iv_mh))) (HN.out.iv_mr)) (by decide) (by decide))
    with_reducible refine xOps_cons ?_ ?_
    · with_reducible refine xop_on 8 19 8 1 ?_ ?_ ?_ ?_ ?_ ?_ ?_
      · rfl
      · kernel_rfl
      · kernel_rfl
      · rw [hsz]; rfl
      · kernel_rfl
      · kernel_rfl
      · intro vs x F hF hd
        have e1 : F.tmps.getD 30 undef = .int .i64 ((g.co + (2 * g.mh)) + g.mr) := (hF.v 30 19 (by kernel_rfl) (by rw [hsz]; rfl)).trans (dep_at hd 0 19 (is (.int .i64 ((g.co + (2 * g.mh)) + g.mr))) (by kernel_rfl) (by kernel_rfl))
        exact comes_add e1 rfl (Iv.wrap (Iv.add (Iv.add (Iv.add (HN.out.iv_co) (Iv.mul (by decide) (by decide) (Iv.con (2)) (HN.out.iv_mh))) (HN.out.iv_mr)) (Iv.con (2000))) (by decide) (by decide))
    with_reducible refine xOps_cons ?_ ?_
    · with_reducible refine xop_on 8 19 8 2 ?_ ?_ ?_ ?_ ?_ ?_ ?_
      · rfl
      · kernel_rfl
      · kernel_rfl
      · rw [hsz]; rfl
      · kernel_rfl
      · kernel_rfl
      · intro vs x F hF hd
        have e0 : F.tmps.getD 21 undef = .int .i64 (((g.co + (2 * g.mh)) + g.mr) + 2000) := (hF.v 21 10 (by kernel_rfl) (by rw [hsz]; rfl)).trans (dep_at hd 0 10 (is (.int .i64 (((g.co + (2 * g.mh)) + g.mr) + 2000))) (by kernel_rfl) (by kernel_rfl))
        have e1 : F.tmps.getD 31 undef = .int .i64 (((g.co + (2 * g.mh)) + g.mr) + 2000) := (hF.v 31 20 (by kernel_rfl) (by rw [hsz]; rfl)).trans (dep_at hd 1 20 (is (.int .i64 (((g.co + (2 * g.mh)) + g.mr) + 2000))) (by kernel_rfl) (by kernel_rfl))
        clear hF hd
        simp only [comes]
        go_simp
        first | exact ⟨Ext.refl _, rfl⟩ | exact Ext.refl _
    with_reducible refine xOps_cons ?_ ?_
    · with_reducible refine xop_un ?_ ?_
      · rfl
      · intro vs x F hF hd
        have e1 : F.tmps.getD 19 undef = .bool true := (hF.v 19 8 (by kernel_rfl) (by rw [hsz]; rfl)).trans (dep_at hd 0 8 (is (.bool true)) (by kernel_rfl) (by kernel_rfl))
        have e2 : F.tmps.getD 32 undef = .bool true := (hF.v 32 21 (by kernel_rfl) (by rw [hsz]; rfl)).trans (dep_at hd 1 21 (is (.bool true)) (by kernel_rfl) (by kernel_rfl))
        clear hF hd
        simp only [comes]
        go_simp
        first | exact ⟨Ext.refl _, rfl⟩ | exact Ext.refl _
    with_reducible refine xOps_cons ?_ ?_
    · with_reducible refine xop_un ?_ ?_
      · rfl
      · intro vs x F hF hd
        have e1 : F.tmps.getD 33 undef = .bool true := (hF.v 33 22 (by kernel_rfl) (by rw [hsz]; rfl)).trans (dep_at hd 0 22 (is (.bool true)) (by kernel_rfl) (by kernel_rfl))
        clear hF hd
        simp only [comes]
        go_simp
        first | exact ⟨Ext.refl _, rfl⟩ | exact Ext.refl _
    with_reducible refine xOps_cons ?_ ?_
    · with_reducible refine xop_on 23 34 23 0 ?_ ?_ ?_ ?_ ?_ ?_ ?_
      · rfl
      · kernel_rfl
      · kernel_rfl
      · rw [hsz]; rfl
      · kernel_rfl
      · kernel_rfl
      · intro vs x F hF hd
        have e1 : F.tmps.getD 2 undef = .pointer (some ⟨Q, 0, none⟩) := (hF.a 2 (by kernel_rfl) (by rw [hsz]; rfl)).trans hA2
        exact comes_load_box 27 (.tmp 2) rfl (HQ.out.ext (by repeat (first | exact Ext.refl _ | assumption | apply Ext.plus_ | apply Ext.alloc | apply Ext.drew))) e1 Try.underlying27 rfl (by kernel_rfl)
    with_reducible refine xOps_cons ?_ ?_
    · with_reducible refine xop_on 23 34 23 2 ?_ ?_ ?_ ?_ ?_ ?_ ?_
      · rfl
      · kernel_rfl
      · kernel_rfl
      · rw [hsz]; rfl
      · kernel_rfl
      · kernel_rfl
      · intro vs x F hF hd
        have e35 : F.tmps.getD 35 undef = cv d := (hF.v 35 24 (by kernel_rfl) (by rw [hsz]; rfl)).trans (dep_at hd 0 24 (is (cv d)) (by kernel_rfl) (by kernel_rfl))
        clear hF hd
        simp only [comes]
        go_simp
        refine ((CI.out _ (by repeat (first | exact Ext.refl _ | assumption | apply Ext.plus_ | apply Ext.alloc | apply Ext.drew)))).mono ?_
        rintro e w' ⟨rfl, hE⟩
        first | exact ⟨_, rfl, hE, rfl⟩ | exact ⟨_, rfl, hE⟩ | exact ⟨rfl, hE⟩ | exact ⟨_, hE⟩ | exact hE
    with_reducible refine xOps_cons ?_ ?_
    · with_reducible refine xop_on 23 34 23 1 ?_ ?_ ?_ ?_ ?_ ?_ ?_
      · rfl
      · kernel_rfl
      · kernel_rfl
      · rw [hsz]; rfl
      · kernel_rfl
      · kernel_rfl
      · intro vs x F hF hd
        have e0 : F.tmps.getD 36 undef = .int .i64 0 := (hF.v 36 25 (by kernel_rfl) (by rw [hsz]; rfl)).trans (dep_at hd 0 25 (is (.int .i64 0)) (by kernel_rfl) (by kernel_rfl))
        clear hF hd
        simp only [comes]
        go_simp
        first | exact ⟨Ext.refl _, rfl⟩ | exact Ext.refl _
    with_reducible refine xOps_cons ?_ ?_
    · with_reducible refine xop_un ?_ ?_
      · rfl
      · intro vs x F hF hd
        have e1 : F.tmps.getD 34 undef = .bool true := (hF.v 34 23 (by kernel_rfl) (by rw [hsz]; rfl)).trans (dep_at hd 0 23 (is (.bool true)) (by kernel_rfl) (by kernel_rfl))
        have e2 : F.tmps.getD 37 undef = .bool true := (hF.v 37 26 (by kernel_rfl) (by rw [hsz]; rfl)).trans (dep_at hd 1 26 (is (.bool true)) (by kernel_rfl) (by kernel_rfl))
        clear hF hd
        simp only [comes]
        go_simp
        first | exact ⟨Ext.refl _, rfl⟩ | exact Ext.refl _
    exact xOps_nil
  case hst => exact ⟨is.st _, is.st _, is.st _, is.st _, is.st _, is.st _, is.st _, is.st _, is.st _, is.st _, is.st _, is.st _, is.st _, is.st _, is.st _, is.st _, is.st _, is.st _, is.st _, is.st _, is.st _, is.st _, is.st _, is.st _, is.st _, is.st _, is.st _, is.st _, trivial⟩
  case hfin =>
    intro vs x hf
    have f27 : vs 27 = .bool true := hf.2.2.2.2.2.2.2.2.2.2.2.2.2.2.2.2.2.2.2.2.2.2.2.2.2.2.2.1
    clear hf
    have hA0 := HA0.out
    subst hA0
    clear hsz hA1 hA2
    simp only [List.take_succ_cons, List.take_zero, List.drop_succ_cons, List.drop_zero, putAll, Act.put, List.setIfInBounds_toArray, List.set_cons_succ, List.set_cons_zero, Nat.zero_add, Nat.reduceAdd]
    clear HA0
    rw [f27]
    clear f27
    go_wp2
    go_ret
    exact ⟨rfl, HE.out.trans (by repeat (first | exact Ext.refl _ | assumption | apply Ext.plus_ | apply Ext.alloc | apply Ext.drew))⟩
end Go.Proofs.Ytlcopiepcpangaa
