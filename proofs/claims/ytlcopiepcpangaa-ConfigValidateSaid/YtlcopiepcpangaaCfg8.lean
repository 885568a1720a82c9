/- Bound. -/
import Derived.Test.YtlcopiepcpangaaCfg7
import Derived.Test.YtlcopiepcpangaaIv
set_option linter.unusedVariables false
namespace Go.Proofs.Ytlcopiepcpangaa
open Go.RowKit Go.Rg

theorem CfN.iv_mh {c : Cf} (h : CfN c) : Iv c.mh 64 16384 := h.mh
theorem CfN.iv_mb {c : Cf} (h : CfN c) : Iv c.mb 0 100000 := h.mb
theorem CfN.iv_mr {c : Cf} (h : CfN c) : Iv c.mr 0 100000 := h.mr
theorem CfN.iv_ci {c : Cf} (h : CfN c) : Iv c.ci 64 100000 := ⟨Int.le_trans h.mh.1 h.ci.1, h.ci.2⟩
theorem CfN.iv_co {c : Cf} (h : CfN c) : Iv c.co 1 100000 := h.co
theorem CfN.iv_cl {c : Cf} (h : CfN c) : Iv c.cl 1 100 := h.cl
theorem CfN.iv_ad {c : Cf} (h : CfN c) : Iv c.ad 1 100 := h.ad
theorem CfN.iv_li {c : Cf} (h : CfN c) : Iv c.li 1 100 := h.li
theorem CfN.iv_st {c : Cf} (h : CfN c) : Iv c.st 0 100 := h.st
theorem CfN.iv_ca {c : Cf} (h : CfN c) : Iv c.ca 0 100 := h.ca
theorem CfN.iv_sh {c : Cf} (h : CfN c) : Iv c.sh 0 100 := h.sh
theorem CfN.iv_te {c : Cf} (h : CfN c) : Iv c.te 0 500000 := h.te
theorem CfN.iv_rp {c : Cf} (h : CfN c) : Iv c.rp 0 10000 := h.rp
theorem CfN.iv_hard {c : Cf} (h : CfN c) : Iv (hardV c true) 0 400000 := by
  obtain ⟨b0, b1, b2, -, b4, -⟩ := h
  simp only [hardV, if_true]
  constructor <;> omega
theorem CfN.iv_up {c : Cf} (h : CfN c) : Iv (upV c true) 0 400000 := by
  obtain ⟨b0, b1, -⟩ := h
  simp only [upV, if_true]
  constructor <;> omega
def conV (c : Cf) (b : Bool) : Int := if b then c.cl + c.ad + c.li + c.st + c.ca + c.sh else 0
def bytV (c : Cf) (b : Bool) : Int := if b then (c.cl + c.ad) * (c.ci + hardV c true + c.mb + c.mr) + c.li * (c.ci + 1000000 + c.mb) + (c.st + c.ca) * (c.ci + upV c true) + c.sh * c.ci + c.te else 0
def recV (c : Cf) (b : Bool) : Int := if b then c.rp else 0
abbrev bv (c : Cf) (b : Bool) : Value := .agg #[.int .i64 (conV c b), .int .i64 (bytV c b), .int .i64 (recV c b)]

set_option maxRecDepth 100000 in
set_option maxHeartbeats 8000000 in
theorem refBound_any (c : Cf) (b : Bool) (hb : b = true → CfN c) (w : World) (CV : Over 9 c w (.int .i64 (if b then 0 else 8))) (CH : Over 12 c w (.int .i64 (hardV c b))) (CU : Over 14 c w (.int .i64 (upV c b))) :
    Calls Try.prog 16 #[cv c] w fun e w' => e = .returned (bv c b) ∧ Ext w w' := by
  go_enter Try.func16, Try.ntmps16
  go_wp2_with (with_reducible show wpList _ _ _ (⟨some 3, _, _, _, _, _⟩ :: _) _ _; refine Lock.out ?_)
  refine ⟨?_, trivial⟩
  refine wl_at fun U hU => ?_
  have hA : Box 0 c.cells w.heap.size U := by
    rw [hU]
    repeat' (first | with_reducible assumption | ((with_reducible refine Box.fresh ?fb ?fn ?fr); (case fb => first | omega | (simp <;> omega)); (case fn => first | omega | (simp <;> omega)); (case fr => rfl)) | with_reducible apply Box.up | with_reducible apply Box.drew_ | with_reducible apply Box.drewN_ | with_reducible apply Box.plus_ | with_reducible apply Box.put | with_reducible refine Box.off ?_ (by omega))
    all_goals first | rfl | (simp; done)
  have hR : Box 0 [.int .i64 0, .int .i64 0, .int .i64 0] (w.heap.size + 1) U := by
    rw [hU]
    repeat' (first | with_reducible assumption | ((with_reducible refine Box.fresh ?fb ?fn ?fr); (case fb => first | omega | (simp <;> omega)); (case fn => first | omega | (simp <;> omega)); (case fr => rfl)) | with_reducible apply Box.up | with_reducible apply Box.drew_ | with_reducible apply Box.drewN_ | with_reducible apply Box.plus_ | with_reducible apply Box.put | with_reducible refine Box.off ?_ (by omega))
    all_goals first | rfl | (simp; done)
  have hE : Ext w U := by
    rw [hU]
    repeat' (first | with_reducible assumption | with_reducible exact Ext.refl _ | with_reducible apply Ext.alloc | with_reducible apply Ext.drew | with_reducible apply Ext.drewN | with_reducible apply Ext.plus_ | with_reducible refine Ext.put ?_ (by omega))
  obtain ⟨N, hN⟩ : ∃ N, N = w.heap.size := ⟨_, rfl⟩
  rw [← hN] at hA hR
  have hwM : w.heap.size ≤ N + 1 := by omega
  rw [← hN]
  obtain ⟨M, hM⟩ : ∃ M, M = N + 1 := ⟨_, rfl⟩
  have hne : N ≠ M := by omega
  rw [← hM] at hR hwM ⊢
  clear hU hN hM
  refine wl_load rfl 27 (.tmp 1) rfl hA rfl Try.underlying27 rfl (by kernel_rfl) ?_
  have HA := Lib.hid hA
  have HR := Lib.hid hR
  have HE := Lib.hid hE
  have HW := Lib.hid (And.intro hwM hne)
  clear hA hE hR hwM hne
  have HB := Lib.hid hb
  clear hb
  go_wp2_with fail
  refine (CV.out _ HE.out).mono ?_
  rintro e Y ⟨rfl, hX⟩
  replace HA := Lib.hid (HA.out.ext hX)
  replace HR := Lib.hid (HR.out.ext hX)
  replace HE := Lib.hid (HE.out.trans hX)
  clear hX CV
  cases b
  · clear HA HB CH CU
    go_wp2_with (with_reducible show wpList _ _ _ (⟨none, _, _, _, _, _⟩ :: _) _ _; refine Lock.out ?_)
    refine ⟨?_, trivial⟩
    refine wl_at fun Z hZ => ?_
    have hRZ : Box 0 [.int .i64 0, .int .i64 0, .int .i64 0] M Z := by
      rw [hZ]
      exact HR.out.ext (by repeat (first | exact Ext.refl _ | assumption | apply Ext.plus_ | apply Ext.alloc | apply Ext.drew))
    have hEZ : Ext w Z := by
      rw [hZ]
      exact HE.out.trans (by repeat (first | exact Ext.refl _ | assumption | apply Ext.plus_ | apply Ext.alloc | apply Ext.drew))
    clear hZ HR HE
    refine wl_store rfl 40 (.tmp 2) (.tmp 6) rfl hRZ [.int .i64 (conV c false), .int .i64 (bytV c false), .int .i64 (recV c false)] rfl rfl rfl (by kernel_rfl) rfl fun W hW hx => ?_
    have HX := Lib.hid (hx.ext _ hEZ HW.out.1)
    have HR := Lib.hid hW
    clear hW hx hRZ hEZ HW
    go_wp2
    refine bodyPost_ret (results_cell Try.results16 HR.out rfl Try.underlying40 rfl (by kernel_rfl)) rfl ?_
    exact ⟨rfl, HX.out⟩
  · have HN := Lib.hid (HB.out rfl)
    clear HB
    go_upto_region 3 with fail
    try simp only [List.append_eq, List.cons_append, List.nil_append]
    refine act_at fun A0 hA0 => ?_
    have hsz : A0.tmps.size = 75 := by
      rw [hA0]
      rfl
    have hA1 : A0.tmps.getD 1 undef = .pointer (some ⟨N, 0, none⟩) := by
      rw [hA0]
      rfl
    have HA0 := Lib.hid hA0
    clear hA0
    apply wp_region_ext 68 [is (.pointer (some ⟨N, 5, none⟩)), is (.int .i64 c.cl), is (.pointer (some ⟨N, 6, none⟩)), is (.int .i64 c.ad), is (.int .i64 (c.cl + c.ad)), is (.pointer (some ⟨N, 7, none⟩)), is (.int .i64 c.li), is (.int .i64 ((c.cl + c.ad) + c.li)), is (.pointer (some ⟨N, 8, none⟩)), is (.int .i64 c.st), is (.int .i64 (((c.cl + c.ad) + c.li) + c.st)), is (.pointer (some ⟨N, 9, none⟩)), is (.int .i64 c.ca), is (.int .i64 ((((c.cl + c.ad) + c.li) + c.st) + c.ca)), is (.pointer (some ⟨N, 10, none⟩)), is (.int .i64 c.sh), is (.int .i64 (((((c.cl + c.ad) + c.li) + c.st) + c.ca) + c.sh)), is (.pointer (some ⟨N, 5, none⟩)), is (.int .i64 c.cl), is (.pointer (some ⟨N, 6, none⟩)), is (.int .i64 c.ad), is (.int .i64 (c.cl + c.ad)), is (.pointer (some ⟨N, 3, none⟩)), is (.int .i64 c.ci), is (cv c), is (.int .i64 (hardV c true)), is (.int .i64 (c.ci + (hardV c true))), is (.pointer (some ⟨N, 1, none⟩)), is (.int .i64 c.mb), is (.int .i64 ((c.ci + (hardV c true)) + c.mb)), is (.pointer (some ⟨N, 2, none⟩)), is (.int .i64 c.mr), is (.int .i64 (((c.ci + (hardV c true)) + c.mb) + c.mr)), is (.int .i64 ((c.cl + c.ad) * (((c.ci + (hardV c true)) + c.mb) + c.mr))), is (.pointer (some ⟨N, 7, none⟩)), is (.int .i64 c.li), is (.pointer (some ⟨N, 3, none⟩)), is (.int .i64 c.ci), is (.int .i64 (c.ci + 1000000)), is (.pointer (some ⟨N, 1, none⟩)), is (.int .i64 c.mb), is (.int .i64 ((c.ci + 1000000) + c.mb)), is (.int .i64 (c.li * ((c.ci + 1000000) + c.mb))), is (.int .i64 (((c.cl + c.ad) * (((c.ci + (hardV c true)) + c.mb) + c.mr)) + (c.li * ((c.ci + 1000000) + c.mb)))), is (.pointer (some ⟨N, 8, none⟩)), is (.int .i64 c.st), is (.pointer (some ⟨N, 9, none⟩)), is (.int .i64 c.ca), is (.int .i64 (c.st + c.ca)), is (.pointer (some ⟨N, 3, none⟩)), is (.int .i64 c.ci), is (cv c), is (.int .i64 (upV c true)), is (.int .i64 (c.ci + (upV c true))), is (.int .i64 ((c.st + c.ca) * (c.ci + (upV c true)))), is (.int .i64 ((((c.cl + c.ad) * (((c.ci + (hardV c true)) + c.mb) + c.mr)) + (c.li * ((c.ci + 1000000) + c.mb))) + ((c.st + c.ca) * (c.ci + (upV c true))))), is (.pointer (some ⟨N, 10, none⟩)), is (.int .i64 c.sh), is (.pointer (some ⟨N, 3, none⟩)), is (.int .i64 c.ci), is (.int .i64 (c.sh * c.ci)), is (.int .i64 (((((c.cl + c.ad) * (((c.ci + (hardV c true)) + c.mb) + c.mr)) + (c.li * ((c.ci + 1000000) + c.mb))) + ((c.st + c.ca) * (c.ci + (upV c true)))) + (c.sh * c.ci))), is (.pointer (some ⟨N, 11, none⟩)), is (.int .i64 c.te), is (.int .i64 ((((((c.cl + c.ad) * (((c.ci + (hardV c true)) + c.mb) + c.mr)) + (c.li * ((c.ci + 1000000) + c.mb))) + ((c.st + c.ca) * (c.ci + (upV c true)))) + (c.sh * c.ci)) + c.te)), is (.pointer (some ⟨N, 15, none⟩)), is (.int .i64 c.rp), is (bv c true)] (by kernel_rfl) (by kernel_rfl) rfl
    case hops =>
      simp only [List.take_succ_cons, List.take_zero]
      with_reducible refine xOps_cons ?_ ?_
      · with_reducible refine xop_un ?_ ?_
        · rfl
        · intro vs x F hF hd
          have e1 : F.tmps.getD 1 undef = .pointer (some ⟨N, 0, none⟩) := (hF.a 1 (by kernel_rfl) (by rw [hsz]; rfl)).trans hA1
          clear hF hd
          simp only [comes]
          go_simp
          first | exact ⟨Ext.refl _, rfl⟩ | exact Ext.refl _
      with_reducible refine xOps_cons ?_ ?_
      · with_reducible refine xop_un ?_ ?_
        · rfl
        · intro vs x F hF hd
          have e1 : F.tmps.getD 7 undef = .pointer (some ⟨N, 5, none⟩) := (hF.v 7 0 (by kernel_rfl) (by rw [hsz]; rfl)).trans (dep_at hd 0 0 (is (.pointer (some ⟨N, 5, none⟩))) (by kernel_rfl) (by kernel_rfl))
          have c : Y.cell? ⟨N, 5, none⟩ = some (.int .i64 c.cl) := HA.out.cell 5 (by simp)
          clear hF hd
          simp only [comes]
          go_simp
          first | exact ⟨Ext.refl _, rfl⟩ | exact Ext.refl _
      with_reducible refine xOps_cons ?_ ?_
      · with_reducible refine xop_un ?_ ?_
        · rfl
        · intro vs x F hF hd
          have e1 : F.tmps.getD 1 undef = .pointer (some ⟨N, 0, none⟩) := (hF.a 1 (by kernel_rfl) (by rw [hsz]; rfl)).trans hA1
          clear hF hd
          simp only [comes]
          go_simp
          first | exact ⟨Ext.refl _, rfl⟩ | exact Ext.refl _
      with_reducible refine xOps_cons ?_ ?_
      · with_reducible refine xop_un ?_ ?_
        · rfl
        · intro vs x F hF hd
          have e1 : F.tmps.getD 9 undef = .pointer (some ⟨N, 6, none⟩) := (hF.v 9 2 (by kernel_rfl) (by rw [hsz]; rfl)).trans (dep_at hd 0 2 (is (.pointer (some ⟨N, 6, none⟩))) (by kernel_rfl) (by kernel_rfl))
          have c : Y.cell? ⟨N, 6, none⟩ = some (.int .i64 c.ad) := HA.out.cell 6 (by simp)
          clear hF hd
          simp only [comes]
          go_simp
          first | exact ⟨Ext.refl _, rfl⟩ | exact Ext.refl _
      with_reducible refine xOps_cons ?_ ?_
      · with_reducible refine xop_un ?_ ?_
        · rfl
        · intro vs x F hF hd
          have e1 : F.tmps.getD 8 undef = .int .i64 c.cl := (hF.v 8 1 (by kernel_rfl) (by rw [hsz]; rfl)).trans (dep_at hd 0 1 (is (.int .i64 c.cl)) (by kernel_rfl) (by kernel_rfl))
          have e2 : F.tmps.getD 10 undef = .int .i64 c.ad := (hF.v 10 3 (by kernel_rfl) (by rw [hsz]; rfl)).trans (dep_at hd 1 3 (is (.int .i64 c.ad)) (by kernel_rfl) (by kernel_rfl))
          exact comes_add e1 e2 (Iv.wrap (Iv.add (HN.out.iv_cl) (HN.out.iv_ad)) (by decide) (by decide))
      with_reducible refine xOps_cons ?_ ?_
      · with_reducible refine xop_un ?_ ?_
        · rfl
        · intro vs x F hF hd
          have e1 : F.tmps.getD 1 undef = .pointer (some ⟨N, 0, none⟩) := (hF.a 1 (by kernel_rfl) (by rw [hsz]; rfl)).trans hA1
          clear hF hd
          simp only [comes]
          go_simp
          first | exact ⟨Ext.refl _, rfl⟩ | exact Ext.refl _
      with_reducible refine xOps_cons ?_ ?_
      · with_reducible refine xop_un ?_ ?_
        · rfl
        · intro vs x F hF hd
          have e1 : F.tmps.getD 12 undef = .pointer (some ⟨N, 7, none⟩) := (hF.v 12 5 (by kernel_rfl) (by rw [hsz]; rfl)).trans (dep_at hd 0 5 (is (.pointer (some ⟨N, 7, none⟩))) (by kernel_rfl) (by kernel_rfl))
          have c : Y.cell? ⟨N, 7, none⟩ = some (.int .i64 c.li) := HA.out.cell 7 (by simp)
          clear hF hd
          simp only [comes]
          go_simp
          first | exact ⟨Ext.refl _, rfl⟩ | exact Ext.refl _
      with_reducible refine xOps_cons ?_ ?_
      · with_reducible refine xop_un ?_ ?_
        · rfl
        · intro vs x F hF hd
          have e1 : F.tmps.getD 11 undef = .int .i64 (c.cl + c.ad) := (hF.v 11 4 (by kernel_rfl) (by rw [hsz]; rfl)).trans (dep_at hd 0 4 (is (.int .i64 (c.cl + c.ad))) (by kernel_rfl) (by kernel_rfl))
          have e2 : F.tmps.getD 13 undef = .int .i64 c.li := (hF.v 13 6 (by kernel_rfl) (by rw [hsz]; rfl)).trans (dep_at hd 1 6 (is (.int .i64 c.li)) (by kernel_rfl) (by kernel_rfl))
          exact comes_add e1 e2 (Iv.wrap (Iv.add (Iv.add (HN.out.iv_cl) (HN.out.iv_ad)) (HN.out.iv_li)) (by decide) (by decide))
      with_reducible refine xOps_cons ?_ ?_
      · with_reducible refine xop_un ?_ ?_
        · rfl
        · intro vs x F hF hd
          have e1 : F.tmps.getD 1 undef = .pointer (some ⟨N, 0, none⟩) := (hF.a 1 (by kernel_rfl) (by rw [hsz]; rfl)).trans hA1
          clear hF hd
          simp only [comes]
          go_simp
          first | exact ⟨Ext.refl _, rfl⟩ | exact Ext.refl _
      with_reducible refine xOps_cons ?_ ?_
      · with_reducible refine xop_un ?_ ?_
        · rfl
        · intro vs x F hF hd
          have e1 : F.tmps.getD 15 undef = .pointer (some ⟨N, 8, none⟩) := (hF.v 15 8 (by kernel_rfl) (by rw [hsz]; rfl)).trans (dep_at hd 0 8 (is (.pointer (some ⟨N, 8, none⟩))) (by kernel_rfl) (by kernel_rfl))
          have c : Y.cell? ⟨N, 8, none⟩ = some (.int .i64 c.st) := HA.out.cell 8 (by simp)
          clear hF hd
          simp only [comes]
          go_simp
          first | exact ⟨Ext.refl _, rfl⟩ | exact Ext.refl _
      with_reducible refine xOps_cons ?_ ?_
      · with_reducible refine xop_un ?_ ?_
        · rfl
        · intro vs x F hF hd
          have e1 : F.tmps.getD 14 undef = .int .i64 ((c.cl + c.ad) + c.li) := (hF.v 14 7 (by kernel_rfl) (by rw [hsz]; rfl)).trans (dep_at hd 0 7 (is (.int .i64 ((c.cl + c.ad) + c.li))) (by kernel_rfl) (by kernel_rfl))
          have e2 : F.tmps.getD 16 undef = .int .i64 c.st := (hF.v 16 9 (by kernel_rfl) (by rw [hsz]; rfl)).trans (dep_at hd 1 9 (is (.int .i64 c.st)) (by kernel_rfl) (by kernel_rfl))
          exact comes_add e1 e2 (Iv.wrap (Iv.add (Iv.add (Iv.add (HN.out.iv_cl) (HN.out.iv_ad)) (HN.out.iv_li)) (HN.out.iv_st)) (by decide) (by decide))
      with_reducible refine xOps_cons ?_ ?_
      · with_reducible refine xop_un ?_ ?_
        · rfl
        · intro vs x F hF hd
          have e1 : F.tmps.getD 1 undef = .pointer (some ⟨N, 0, none⟩) := (hF.a 1 (by kernel_rfl) (by rw [hsz]; rfl)).trans hA1
          clear hF hd
          simp only [comes]
          go_simp
          first | exact ⟨Ext.refl _, rfl⟩ | exact Ext.refl _
      with_reducible refine xOps_cons ?_ ?_
      · with_reducible refine xop_un ?_ ?_
        · rfl
        · intro vs x F hF hd
          have e1 : F.tmps.getD 18 undef = .pointer (some ⟨N, 9, none⟩) := (hF.v 18 11 (by kernel_rfl) (by rw [hsz]; rfl)).trans (dep_at hd 0 11 (is (.pointer (some ⟨N, 9, none⟩))) (by kernel_rfl) (by kernel_rfl))
          have c : Y.cell? ⟨N, 9, none⟩ = some (.int .i64 c.ca) := HA.out.cell 9 (by simp)
          clear hF hd
          simp only [comes]
          go_simp
          first | exact ⟨Ext.refl _, rfl⟩ | exact Ext.refl _
      with_reducible refine xOps_cons ?_ ?_
      · with_reducible refine xop_un ?_ ?_
        · rfl
        · intro vs x F hF hd
          have e1 : F.tmps.getD 17 undef = .int .i64 (((c.cl + c.ad) + c.li) + c.st) := (hF.v 17 10 (by kernel_rfl) (by rw [hsz]; rfl)).trans (dep_at hd 0 10 (is (.int .i64 (((c.cl + c.ad) + c.li) + c.st))) (by kernel_rfl) (by kernel_rfl))
          have e2 : F.tmps.getD 19 undef = .int .i64 c.ca := (hF.v 19 12 (by kernel_rfl) (by rw [hsz]; rfl)).trans (dep_at hd 1 12 (is (.int .i64 c.ca)) (by kernel_rfl) (by kernel_rfl))
          exact comes_add e1 e2 (Iv.wrap (Iv.add (Iv.add (Iv.add (Iv.add (HN.out.iv_cl) (HN.out.iv_ad)) (HN.out.iv_li)) (HN.out.iv_st)) (HN.out.iv_ca)) (by decide) (by decide))
      with_reducible refine xOps_cons ?_ ?_
      · with_reducible refine xop_un ?_ ?_
        · rfl
        · intro vs x F hF hd
          have e1 : F.tmps.getD 1 undef = .pointer (some ⟨N, 0, none⟩) := (hF.a 1 (by kernel_rfl) (by rw [hsz]; rfl)).trans hA1
          clear hF hd
          simp only [comes]
          go_simp
          first | exact ⟨Ext.refl _, rfl⟩ | exact Ext.refl _
      with_reducible refine xOps_cons ?_ ?_
      · with_reducible refine xop_un ?_ ?_
        · rfl
        · intro vs x F hF hd
          have e1 : F.tmps.getD 21 undef = .pointer (some ⟨N, 10, none⟩) := (hF.v 21 14 (by kernel_rfl) (by rw [hsz]; rfl)).trans (dep_at hd 0 14 (is (.pointer (some ⟨N, 10, none⟩))) (by kernel_rfl) (by kernel_rfl))
          have c : Y.cell? ⟨N, 10, none⟩ = some (.int .i64 c.sh) := HA.out.cell 10 (by simp)
          clear hF hd
          simp only [comes]
          go_simp
          first | exact ⟨Ext.refl _, rfl⟩ | exact Ext.refl _
      with_reducible refine xOps_cons ?_ ?_
      · with_reducible refine xop_un ?_ ?_
        · rfl
        · intro vs x F hF hd
          have e1 : F.tmps.getD 20 undef = .int .i64 ((((c.cl + c.ad) + c.li) + c.st) + c.ca) := (hF.v 20 13 (by kernel_rfl) (by rw [hsz]; rfl)).trans (dep_at hd 0 13 (is (.int .i64 ((((c.cl + c.ad) + c.li) + c.st) + c.ca))) (by kernel_rfl) (by kernel_rfl))
          have e2 : F.tmps.getD 22 undef = .int .i64 c.sh := (hF.v 22 15 (by kernel_rfl) (by rw [hsz]; rfl)).trans (dep_at hd 1 15 (is (.int .i64 c.sh)) (by kernel_rfl) (by kernel_rfl))
          exact comes_add e1 e2 (Iv.wrap (Iv.add (Iv.add (Iv.add (Iv.add (Iv.add (HN.out.iv_cl) (HN.out.iv_ad)) (HN.out.iv_li)) (HN.out.iv_st)) (HN.out.iv_ca)) (HN.out.iv_sh)) (by decide) (by decide))
      with_reducible refine xOps_cons ?_ ?_
      · with_reducible refine xop_un ?_ ?_
        · rfl
        · intro vs x F hF hd
          have e1 : F.tmps.getD 1 undef = .pointer (some ⟨N, 0, none⟩) := (hF.a 1 (by kernel_rfl) (by rw [hsz]; rfl)).trans hA1
          clear hF hd
          simp only [comes]
          go_simp
          first | exact ⟨Ext.refl _, rfl⟩ | exact Ext.refl _
      with_reducible refine xOps_cons ?_ ?_
      · with_reducible refine xop_un ?_ ?_
        · rfl
        · intro vs x F hF hd
          have e1 : F.tmps.getD 24 undef = .pointer (some ⟨N, 5, none⟩) := (hF.v 24 17 (by kernel_rfl) (by rw [hsz]; rfl)).trans (dep_at hd 0 17 (is (.pointer (some ⟨N, 5, none⟩))) (by kernel_rfl) (by kernel_rfl))
          have c : Y.cell? ⟨N, 5, none⟩ = some (.int .i64 c.cl) := HA.out.cell 5 (by simp)
          clear hF hd
          simp only [comes]
          go_simp
          first | exact ⟨Ext.refl _, rfl⟩ | exact Ext.refl _
      with_reducible refine xOps_cons ?_ ?_
      · with_reducible refine xop_un ?_ ?_
        · rfl
        · intro vs x F hF hd
          have e1 : F.tmps.getD 1 undef = .pointer (some ⟨N, 0, none⟩) := (hF.a 1 (by kernel_rfl) (by rw [hsz]; rfl)).trans hA1
          clear hF hd
          simp only [comes]
          go_simp
          first | exact ⟨Ext.refl _, rfl⟩ | exact Ext.refl _
      with_reducible refine xOps_cons ?_ ?_
      · with_reducible refine xop_un ?_ ?_
        · rfl
        · intro vs x F hF hd
          have e1 : F.tmps.getD 26 undef = .pointer (some ⟨N, 6, none⟩) := (hF.v 26 19 (by kernel_rfl) (by rw [hsz]; rfl)).trans (dep_at hd 0 19 (is (.pointer (some ⟨N, 6, none⟩))) (by kernel_rfl) (by kernel_rfl))
          have c : Y.cell? ⟨N, 6, none⟩ = some (.int .i64 c.ad) := HA.out.cell 6 (by simp)
          clear hF hd
          simp only [comes]
          go_simp
          first | exact ⟨Ext.refl _, rfl⟩ | exact Ext.refl _
      with_reducible refine xOps_cons ?_ ?_
      · with_reducible refine xop_un ?_ ?_
        · rfl
        · intro vs x F hF hd
          have e1 : F.tmps.getD 25 undef = .int .i64 c.cl := (hF.v 25 18 (by kernel_rfl) (by rw [hsz]; rfl)).trans (dep_at hd 0 18 (is (.int .i64 c.cl)) (by kernel_rfl) (by kernel_rfl))
          have e2 : F.tmps.getD 27 undef = .int .i64 c.ad := (hF.v 27 20 (by kernel_rfl) (by rw [hsz]; rfl)).trans (dep_at hd 1 20 (is (.int .i64 c.ad)) (by kernel_rfl) (by kernel_rfl))
          exact comes_add e1 e2 (Iv.wrap (Iv.add (HN.out.iv_cl) (HN.out.iv_ad)) (by decide) (by decide))
      with_reducible refine xOps_cons ?_ ?_
      · with_reducible refine xop_un ?_ ?_
        · rfl
        · intro vs x F hF hd
          have e1 : F.tmps.getD 1 undef = .pointer (some ⟨N, 0, none⟩) := (hF.a 1 (by kernel_rfl) (by rw [hsz]; rfl)).trans hA1
          clear hF hd
          simp only [comes]
          go_simp
          first | exact ⟨Ext.refl _, rfl⟩ | exact Ext.refl _
      with_reducible refine xOps_cons ?_ ?_
      · with_reducible refine xop_un ?_ ?_
        · rfl
        · intro vs x F hF hd
          have e1 : F.tmps.getD 29 undef = .pointer (some ⟨N, 3, none⟩) := (hF.v 29 22 (by kernel_rfl) (by rw [hsz]; rfl)).trans (dep_at hd 0 22 (is (.pointer (some ⟨N, 3, none⟩))) (by kernel_rfl) (by kernel_rfl))
          have c : Y.cell? ⟨N, 3, none⟩ = some (.int .i64 c.ci) := HA.out.cell 3 (by simp)
          clear hF hd
          simp only [comes]
          go_simp
          first | exact ⟨Ext.refl _, rfl⟩ | exact Ext.refl _
      with_reducible refine xOps_cons ?_ ?_
      · with_reducible refine xop_un ?_ ?_
        · rfl
        · intro vs x F hF hd
          have e1 : F.tmps.getD 1 undef = .pointer (some ⟨N, 0, none⟩) := (hF.a 1 (by kernel_rfl) (by rw [hsz]; rfl)).trans hA1
          exact comes_load_box 27 (.tmp 1) rfl (HA.out.ext (by repeat (first | exact Ext.refl _ | assumption | apply Ext.plus_ | apply Ext.alloc | apply Ext.drew))) e1 Try.underlying27 rfl (by kernel_rfl)
      with_reducible refine xOps_cons ?_ ?_
      · with_reducible refine xop_un ?_ ?_
        · rfl
        · intro vs x F hF hd
          have e31 : F.tmps.getD 31 undef = cv c := (hF.v 31 24 (by kernel_rfl) (by rw [hsz]; rfl)).trans (dep_at hd 0 24 (is (cv c)) (by kernel_rfl) (by kernel_rfl))
          clear hF hd
          simp only [comes]
          go_simp
          refine ((CH.out _ (HE.out.trans (by repeat (first | exact Ext.refl _ | assumption | apply Ext.plus_ | apply Ext.alloc | apply Ext.drew))))).mono ?_
          rintro e w' ⟨rfl, hE⟩
          first | exact ⟨_, rfl, hE, rfl⟩ | exact ⟨_, rfl, hE⟩ | exact ⟨rfl, hE⟩ | exact ⟨_, hE⟩ | exact hE
      with_reducible refine xOps_cons ?_ ?_
      · with_reducible refine xop_un ?_ ?_
        · rfl
        · intro vs x F hF hd
          have e1 : F.tmps.getD 30 undef = .int .i64 c.ci := (hF.v 30 23 (by kernel_rfl) (by rw [hsz]; rfl)).trans (dep_at hd 0 23 (is (.int .i64 c.ci)) (by kernel_rfl) (by kernel_rfl))
          have e2 : F.tmps.getD 32 undef = .int .i64 (hardV c true) := (hF.v 32 25 (by kernel_rfl) (by rw [hsz]; rfl)).trans (dep_at hd 1 25 (is (.int .i64 (hardV c true))) (by kernel_rfl) (by kernel_rfl))
          exact comes_add e1 e2 (Iv.wrap (Iv.add (HN.out.iv_ci) (HN.out.iv_hard)) (by decide) (by decide))
      with_reducible refine xOps_cons ?_ ?_
      · with_reducible refine xop_un ?_ ?_
        · rfl
        · intro vs x F hF hd
          have e1 : F.tmps.getD 1 undef = .pointer (some ⟨N, 0, none⟩) := (hF.a 1 (by kernel_rfl) (by rw [hsz]; rfl)).trans hA1
          clear hF hd
          simp only [comes]
          go_simp
          first | exact ⟨Ext.refl _, rfl⟩ | exact Ext.refl _
      with_reducible refine xOps_cons ?_ ?_
      · with_reducible refine xop_un ?_ ?_
        · rfl
        · intro vs x F hF hd
          have e1 : F.tmps.getD 34 undef = .pointer (some ⟨N, 1, none⟩) := (hF.v 34 27 (by kernel_rfl) (by rw [hsz]; rfl)).trans (dep_at hd 0 27 (is (.pointer (some ⟨N, 1, none⟩))) (by kernel_rfl) (by kernel_rfl))
          have c : Y.cell? ⟨N, 1, none⟩ = some (.int .i64 c.mb) := HA.out.cell 1 (by simp)
          clear hF hd
          simp only [comes]
          go_simp
          first | exact ⟨Ext.refl _, rfl⟩ | exact Ext.refl _
      with_reducible refine xOps_cons ?_ ?_
      · with_reducible refine xop_un ?_ ?_
        · rfl
        · intro vs x F hF hd
          have e1 : F.tmps.getD 33 undef = .int .i64 (c.ci + (hardV c true)) := (hF.v 33 26 (by kernel_rfl) (by rw [hsz]; rfl)).trans (dep_at hd 0 26 (is (.int .i64 (c.ci + (hardV c true)))) (by kernel_rfl) (by kernel_rfl))
          have e2 : F.tmps.getD 35 undef = .int .i64 c.mb := (hF.v 35 28 (by kernel_rfl) (by rw [hsz]; rfl)).trans (dep_at hd 1 28 (is (.int .i64 c.mb)) (by kernel_rfl) (by kernel_rfl))
          exact comes_add e1 e2 (Iv.wrap (Iv.add (Iv.add (HN.out.iv_ci) (HN.out.iv_hard)) (HN.out.iv_mb)) (by decide) (by decide))
      with_reducible refine xOps_cons ?_ ?_
      · with_reducible refine xop_un ?_ ?_
        · rfl
        · intro vs x F hF hd
          have e1 : F.tmps.getD 1 undef = .pointer (some ⟨N, 0, none⟩) := (hF.a 1 (by kernel_rfl) (by rw [hsz]; rfl)).trans hA1
          clear hF hd
          simp only [comes]
          go_simp
          first | exact ⟨Ext.refl _, rfl⟩ | exact Ext.refl _
      with_reducible refine xOps_cons ?_ ?_
      · with_reducible refine xop_un ?_ ?_
        · rfl
        · intro vs x F hF hd
          have e1 : F.tmps.getD 37 undef = .pointer (some ⟨N, 2, none⟩) := (hF.v 37 30 (by kernel_rfl) (by rw [hsz]; rfl)).trans (dep_at hd 0 30 (is (.pointer (some ⟨N, 2, none⟩))) (by kernel_rfl) (by kernel_rfl))
          have c : Y.cell? ⟨N, 2, none⟩ = some (.int .i64 c.mr) := HA.out.cell 2 (by simp)
          clear hF hd
          simp only [comes]
          go_simp
          first | exact ⟨Ext.refl _, rfl⟩ | exact Ext.refl _
      with_reducible refine xOps_cons ?_ ?_
      · with_reducible refine xop_un ?_ ?_
        · rfl
        · intro vs x F hF hd
          have e1 : F.tmps.getD 36 undef = .int .i64 ((c.ci + (hardV c true)) + c.mb) := (hF.v 36 29 (by kernel_rfl) (by rw [hsz]; rfl)).trans (dep_at hd 0 29 (is (.int .i64 ((c.ci + (hardV c true)) + c.mb))) (by kernel_rfl) (by kernel_rfl))
          have e2 : F.tmps.getD 38 undef = .int .i64 c.mr := (hF.v 38 31 (by kernel_rfl) (by rw [hsz]; rfl)).trans (dep_at hd 1 31 (is (.int .i64 c.mr)) (by kernel_rfl) (by kernel_rfl))
          exact comes_add e1 e2 (Iv.wrap (Iv.add (Iv.add (Iv.add (HN.out.iv_ci) (HN.out.iv_hard)) (HN.out.iv_mb)) (HN.out.iv_mr)) (by decide) (by decide))
      with_reducible refine xOps_cons ?_ ?_
      · with_reducible refine xop_un ?_ ?_
        · rfl
        · intro vs x F hF hd
          have e1 : F.tmps.getD 28 undef = .int .i64 (c.cl + c.ad) := (hF.v 28 21 (by kernel_rfl) (by rw [hsz]; rfl)).trans (dep_at hd 0 21 (is (.int .i64 (c.cl + c.ad))) (by kernel_rfl) (by kernel_rfl))
          have e2 : F.tmps.getD 39 undef = .int .i64 (((c.ci + (hardV c true)) + c.mb) + c.mr) := (hF.v 39 32 (by kernel_rfl) (by rw [hsz]; rfl)).trans (dep_at hd 1 32 (is (.int .i64 (((c.ci + (hardV c true)) + c.mb) + c.mr))) (by kernel_rfl) (by kernel_rfl))
          exact comes_mul e1 e2 (Iv.wrap (Iv.mul (by decide) (by decide) (Iv.add (HN.out.iv_cl) (HN.out.iv_ad)) (Iv.add (Iv.add (Iv.add (HN.out.iv_ci) (HN.out.iv_hard)) (HN.out.iv_mb)) (HN.out.iv_mr))) (by decide) (by decide))
      with_reducible refine xOps_cons ?_ ?_
      · with_reducible refine xop_un ?_ ?_
        · rfl
        · intro vs x F hF hd
          have e1 : F.tmps.getD 1 undef = .pointer (some ⟨N, 0, none⟩) := (hF.a 1 (by kernel_rfl) (by rw [hsz]; rfl)).trans hA1
          clear hF hd
          simp only [comes]
          go_simp
          first | exact ⟨Ext.refl _, rfl⟩ | exact Ext.refl _
      with_reducible refine xOps_cons ?_ ?_
      · with_reducible refine xop_un ?_ ?_
        · rfl
        · intro vs x F hF hd
          have e1 : F.tmps.getD 41 undef = .pointer (some ⟨N, 7, none⟩) := (hF.v 41 34 (by kernel_rfl) (by rw [hsz]; rfl)).trans (dep_at hd 0 34 (is (.pointer (some ⟨N, 7, none⟩))) (by kernel_rfl) (by kernel_rfl))
          have c : Y.cell? ⟨N, 7, none⟩ = some (.int .i64 c.li) := HA.out.cell 7 (by simp)
          clear hF hd
          simp only [comes]
          go_simp
          first | exact ⟨Ext.refl _, rfl⟩ | exact Ext.refl _
      with_reducible refine xOps_cons ?_ ?_
      · with_reducible refine xop_un ?_ ?_
        · rfl
        · intro vs x F hF hd
          have e1 : F.tmps.getD 1 undef = .pointer (some ⟨N, 0, none⟩) := (hF.a 1 (by kernel_rfl) (by rw [hsz]; rfl)).trans hA1
          clear hF hd
          simp only [comes]
          go_simp
          first | exact ⟨Ext.refl _, rfl⟩ | exact Ext.refl _
      with_reducible refine xOps_cons ?_ ?_
      · with_reducible refine xop_un ?_ ?_
        · rfl
        · intro vs x F hF hd
          have e1 : F.tmps.getD 43 undef = .pointer (some ⟨N, 3, none⟩) := (hF.v 43 36 (by kernel_rfl) (by rw [hsz]; rfl)).trans (dep_at hd 0 36 (is (.pointer (some ⟨N, 3, none⟩))) (by kernel_rfl) (by kernel_rfl))
          have c : Y.cell? ⟨N, 3, none⟩ = some (.int .i64 c.ci) := HA.out.cell 3 (by simp)
          clear hF hd
          simp only [comes]
          go_simp
          first | exact ⟨Ext.refl _, rfl⟩ | exact Ext.refl _
      with_reducible refine xOps_cons ?_ ?_
      · with_reducible refine xop_un ?_ ?_
        · rfl
        · intro vs x F hF hd
          have e1 : F.tmps.getD 44 undef = .int .i64 c.ci := (hF.v 44 37 (by kernel_rfl) (by rw [hsz]; rfl)).trans (dep_at hd 0 37 (is (.int .i64 c.ci)) (by kernel_rfl) (by kernel_rfl))
          exact comes_add e1 rfl (Iv.wrap (Iv.add (HN.out.iv_ci) (Iv.con (1000000))) (by decide) (by decide))
      with_reducible refine xOps_cons ?_ ?_
      · with_reducible refine xop_un ?_ ?_
        · rfl
        · intro vs x F hF hd
          have e1 : F.tmps.getD 1 undef = .pointer (some ⟨N, 0, none⟩) := (hF.a 1 (by kernel_rfl) (by rw [hsz]; rfl)).trans hA1
          clear hF hd
          simp only [comes]
          go_simp
          first | exact ⟨Ext.refl _, rfl⟩ | exact Ext.refl _
      with_reducible refine xOps_cons ?_ ?_
      · with_reducible refine xop_un ?_ ?_
        · rfl
        · intro vs x F hF hd
          have e1 : F.tmps.getD 46 undef = .pointer (some ⟨N, 1, none⟩) := (hF.v 46 39 (by kernel_rfl) (by rw [hsz]; rfl)).trans (dep_at hd 0 39 (is (.pointer (some ⟨N, 1, none⟩))) (by kernel_rfl) (by kernel_rfl))
          have c : Y.cell? ⟨N, 1, none⟩ = some (.int .i64 c.mb) := HA.out.cell 1 (by simp)
          clear hF hd
          simp only [comes]
          go_simp
          first | exact ⟨Ext.refl _, rfl⟩ | exact Ext.refl _
      with_reducible refine xOps_cons ?_ ?_
      · with_reducible refine xop_un ?_ ?_
        · rfl
        · intro vs x F hF hd
          have e1 : F.tmps.getD 45 undef = .int .i64 (c.ci + 1000000) := (hF.v 45 38 (by kernel_rfl) (by rw [hsz]; rfl)).trans (dep_at hd 0 38 (is (.int .i64 (c.ci + 1000000))) (by kernel_rfl) (by kernel_rfl))
          have e2 : F.tmps.getD 47 undef = .int .i64 c.mb := (hF.v 47 40 (by kernel_rfl) (by rw [hsz]; rfl)).trans (dep_at hd 1 40 (is (.int .i64 c.mb)) (by kernel_rfl) (by kernel_rfl))
          exact comes_add e1 e2 (Iv.wrap (Iv.add (Iv.add (HN.out.iv_ci) (Iv.con (1000000))) (HN.out.iv_mb)) (by decide) (by decide))
      with_reducible refine xOps_cons ?_ ?_
      · with_reducible refine xop_un ?_ ?_
        · rfl
        · intro vs x F hF hd
          have e1 : F.tmps.getD 42 undef = .int .i64 c.li := (hF.v 42 35 (by kernel_rfl) (by rw [hsz]; rfl)).trans (dep_at hd 0 35 (is (.int .i64 c.li)) (by kernel_rfl) (by kernel_rfl))
          have e2 : F.tmps.getD 48 undef = .int .i64 ((c.ci + 1000000) + c.mb) := (hF.v 48 41 (by kernel_rfl) (by rw [hsz]; rfl)).trans (dep_at hd 1 41 (is (.int .i64 ((c.ci + 1000000) + c.mb))) (by kernel_rfl) (by kernel_rfl))
          exact comes_mul e1 e2 (Iv.wrap (Iv.mul (by decide) (by decide) (HN.out.iv_li) (Iv.add (Iv.add (HN.out.iv_ci) (Iv.con (1000000))) (HN.out.iv_mb))) (by decide) (by decide))
      with_reducible refine xOps_cons ?_ ?_
      · with_reducible refine xop_un ?_ ?_
        · rfl
        · intro vs x F hF hd
          have e1 : F.tmps.getD 40 undef = .int .i64 ((c.cl + c.ad) * (((c.ci + (hardV c true)) + c.mb) + c.mr)) := (hF.v 40 33 (by kernel_rfl) (by rw [hsz]; rfl)).trans (dep_at hd 0 33 (is (.int .i64 ((c.cl + c.ad) * (((c.ci + (hardV c true)) + c.mb) + c.mr)))) (by kernel_rfl) (by kernel_rfl))
          have e2 : F.tmps.getD 49 undef = .int .i64 (c.li * ((c.ci + 1000000) + c.mb)) := (hF.v 49 42 (by kernel_rfl) (by rw [hsz]; rfl)).trans (dep_at hd 1 42 (is (.int .i64 (c.li * ((c.ci + 1000000) + c.mb)))) (by kernel_rfl) (by kernel_rfl))
          exact comes_add e1 e2 (Iv.wrap (Iv.add (Iv.mul (by decide) (by decide) (Iv.add (HN.out.iv_cl) (HN.out.iv_ad)) (Iv.add (Iv.add (Iv.add (HN.out.iv_ci) (HN.out.iv_hard)) (HN.out.iv_mb)) (HN.out.iv_mr))) (Iv.mul (by decide) (by decide) (HN.out.iv_li) (Iv.add (Iv.add (HN.out.iv_ci) (Iv.con (1000000))) (HN.out.iv_mb)))) (by decide) (by decide))
      with_reducible refine xOps_cons ?_ ?_
      · with_reducible refine xop_un ?_ ?_
        · rfl
        · intro vs x F hF hd
          have e1 : F.tmps.getD 1 undef = .pointer (some ⟨N, 0, none⟩) := (hF.a 1 (by kernel_rfl) (by rw [hsz]; rfl)).trans hA1
          clear hF hd
          simp only [comes]
          go_simp
          first | exact ⟨Ext.refl _, rfl⟩ | exact Ext.refl _
      with_reducible refine xOps_cons ?_ ?_
      · with_reducible refine xop_un ?_ ?_
        · rfl
        · intro vs x F hF hd
          have e1 : F.tmps.getD 51 undef = .pointer (some ⟨N, 8, none⟩) := (hF.v 51 44 (by kernel_rfl) (by rw [hsz]; rfl)).trans (dep_at hd 0 44 (is (.pointer (some ⟨N, 8, none⟩))) (by kernel_rfl) (by kernel_rfl))
          have c : Y.cell? ⟨N, 8, none⟩ = some (.int .i64 c.st) := HA.out.cell 8 (by simp)
          clear hF hd
          simp only [comes]
          go_simp
          first | exact ⟨Ext.refl _, rfl⟩ | exact Ext.refl _
      with_reducible refine xOps_cons ?_ ?_
      · with_reducible refine xop_un ?_ ?_
        · rfl
        · intro vs x F hF hd
          have e1 : F.tmps.getD 1 undef = .pointer (some ⟨N, 0, none⟩) := (hF.a 1 (by kernel_rfl) (by rw [hsz]; rfl)).trans hA1
          clear hF hd
          simp only [comes]
          go_simp
          first | exact ⟨Ext.refl _, rfl⟩ | exact Ext.refl _
      with_reducible refine xOps_cons ?_ ?_
      · with_reducible refine xop_un ?_ ?_
        · rfl
        · intro vs x F hF hd
          have e1 : F.tmps.getD 53 undef = .pointer (some ⟨N, 9, none⟩) := (hF.v 53 46 (by kernel_rfl) (by rw [hsz]; rfl)).trans (dep_at hd 0 46 (is (.pointer (some ⟨N, 9, none⟩))) (by kernel_rfl) (by kernel_rfl))
          have c : Y.cell? ⟨N, 9, none⟩ = some (.int .i64 c.ca) := HA.out.cell 9 (by simp)
          clear hF hd
          simp only [comes]
          go_simp
          first | exact ⟨Ext.refl _, rfl⟩ | exact Ext.refl _
      with_reducible refine xOps_cons ?_ ?_
      · with_reducible refine xop_un ?_ ?_
        · rfl
        · intro vs x F hF hd
          have e1 : F.tmps.getD 52 undef = .int .i64 c.st := (hF.v 52 45 (by kernel_rfl) (by rw [hsz]; rfl)).trans (dep_at hd 0 45 (is (.int .i64 c.st)) (by kernel_rfl) (by kernel_rfl))
          have e2 : F.tmps.getD 54 undef = .int .i64 c.ca := (hF.v 54 47 (by kernel_rfl) (by rw [hsz]; rfl)).trans (dep_at hd 1 47 (is (.int .i64 c.ca)) (by kernel_rfl) (by kernel_rfl))
          exact comes_add e1 e2 (Iv.wrap (Iv.add (HN.out.iv_st) (HN.out.iv_ca)) (by decide) (by decide))
      with_reducible refine xOps_cons ?_ ?_
      · with_reducible refine xop_un ?_ ?_
        · rfl
        · intro vs x F hF hd
          have e1 : F.tmps.getD 1 undef = .pointer (some ⟨N, 0, none⟩) := (hF.a 1 (by kernel_rfl) (by rw [hsz]; rfl)).trans hA1
          clear hF hd
          simp only [comes]
          go_simp
          first | exact ⟨Ext.refl _, rfl⟩ | exact Ext.refl _
      with_reducible refine xOps_cons ?_ ?_
      · with_reducible refine xop_un ?_ ?_
        · rfl
        · intro vs x F hF hd
          have e1 : F.tmps.getD 56 undef = .pointer (some ⟨N, 3, none⟩) := (hF.v 56 49 (by kernel_rfl) (by rw [hsz]; rfl)).trans (dep_at hd 0 49 (is (.pointer (some ⟨N, 3, none⟩))) (by kernel_rfl) (by kernel_rfl))
          have c : Y.cell? ⟨N, 3, none⟩ = some (.int .i64 c.ci) := HA.out.cell 3 (by simp)
          clear hF hd
          simp only [comes]
          go_simp
          first | exact ⟨Ext.refl _, rfl⟩ | exact Ext.refl _
      with_reducible refine xOps_cons ?_ ?_
      · with_reducible refine xop_un ?_ ?_
        · rfl
        · intro vs x F hF hd
          have e1 : F.tmps.getD 1 undef = .pointer (some ⟨N, 0, none⟩) := (hF.a 1 (by kernel_rfl) (by rw [hsz]; rfl)).trans hA1
          exact comes_load_box 27 (.tmp 1) rfl (HA.out.ext (by repeat (first | exact Ext.refl _ | assumption | apply Ext.plus_ | apply Ext.alloc | apply Ext.drew))) e1 Try.underlying27 rfl (by kernel_rfl)
      with_reducible refine xOps_cons ?_ ?_
      · with_reducible refine xop_un ?_ ?_
        · rfl
        · intro vs x F hF hd
          have e58 : F.tmps.getD 58 undef = cv c := (hF.v 58 51 (by kernel_rfl) (by rw [hsz]; rfl)).trans (dep_at hd 0 51 (is (cv c)) (by kernel_rfl) (by kernel_rfl))
          clear hF hd
          simp only [comes]
          go_simp
          refine ((CU.out _ (HE.out.trans (by repeat (first | exact Ext.refl _ | assumption | apply Ext.plus_ | apply Ext.alloc | apply Ext.drew))))).mono ?_
          rintro e w' ⟨rfl, hE⟩
          first | exact ⟨_, rfl, hE, rfl⟩ | exact ⟨_, rfl, hE⟩ | exact ⟨rfl, hE⟩ | exact ⟨_, hE⟩ | exact hE
      with_reducible refine xOps_cons ?_ ?_
      · with_reducible refine xop_un ?_ ?_
        · rfl
        · intro vs x F hF hd
          have e1 : F.tmps.getD 57 undef = .int .i64 c.ci := (hF.v 57 50 (by kernel_rfl) (by rw [hsz]; rfl)).trans (dep_at hd 0 50 (is (.int .i64 c.ci)) (by kernel_rfl) (by kernel_rfl))
          have e2 : F.tmps.getD 59 undef = .int .i64 (upV c true) := (hF.v 59 52 (by kernel_rfl) (by rw [hsz]; rfl)).trans (dep_at hd 1 52 (is (.int .i64 (upV c true))) (by kernel_rfl) (by kernel_rfl))
          exact comes_add e1 e2 (Iv.wrap (Iv.add (HN.out.iv_ci) (HN.out.iv_up)) (by decide) (by decide))
      with_reducible refine xOps_cons ?_ ?_
      · with_reducible refine xop_un ?_ ?_
        · rfl
        · intro vs x F hF hd
          have e1 : F.tmps.getD 55 undef = .int .i64 (c.st + c.ca) := (hF.v 55 48 (by kernel_rfl) (by rw [hsz]; rfl)).trans (dep_at hd 0 48 (is (.int .i64 (c.st + c.ca))) (by kernel_rfl) (by kernel_rfl))
          have e2 : F.tmps.getD 60 undef = .int .i64 (c.ci + (upV c true)) := (hF.v 60 53 (by kernel_rfl) (by rw [hsz]; rfl)).trans (dep_at hd 1 53 (is (.int .i64 (c.ci + (upV c true)))) (by kernel_rfl) (by kernel_rfl))
          exact comes_mul e1 e2 (Iv.wrap (Iv.mul (by decide) (by decide) (Iv.add (HN.out.iv_st) (HN.out.iv_ca)) (Iv.add (HN.out.iv_ci) (HN.out.iv_up))) (by decide) (by decide))
      with_reducible refine xOps_cons ?_ ?_
      · with_reducible refine xop_un ?_ ?_
        · rfl
        · intro vs x F hF hd
          have e1 : F.tmps.getD 50 undef = .int .i64 (((c.cl + c.ad) * (((c.ci + (hardV c true)) + c.mb) + c.mr)) + (c.li * ((c.ci + 1000000) + c.mb))) := (hF.v 50 43 (by kernel_rfl) (by rw [hsz]; rfl)).trans (dep_at hd 0 43 (is (.int .i64 (((c.cl + c.ad) * (((c.ci + (hardV c true)) + c.mb) + c.mr)) + (c.li * ((c.ci + 1000000) + c.mb))))) (by kernel_rfl) (by kernel_rfl))
          have e2 : F.tmps.getD 61 undef = .int .i64 ((c.st + c.ca) * (c.ci + (upV c true))) := (hF.v 61 54 (by kernel_rfl) (by rw [hsz]; rfl)).trans (dep_at hd 1 54 (is (.int .i64 ((c.st + c.ca) * (c.ci + (upV c true))))) (by kernel_rfl) (by kernel_rfl))
          exact comes_add e1 e2 (Iv.wrap (Iv.add (Iv.add (Iv.mul (by decide) (by decide) (Iv.add (HN.out.iv_cl) (HN.out.iv_ad)) (Iv.add (Iv.add (Iv.add (HN.out.iv_ci) (HN.out.iv_hard)) (HN.out.iv_mb)) (HN.out.iv_mr))) (Iv.mul (by decide) (by decide) (HN.out.iv_li) (Iv.add (Iv.add (HN.out.iv_ci) (Iv.con (1000000))) (HN.out.iv_mb)))) (Iv.mul (by decide) (by decide) (Iv.add (HN.out.iv_st) (HN.out.iv_ca)) (Iv.add (HN.out.iv_ci) (HN.out.iv_up)))) (by decide) (by decide))
      with_reducible refine xOps_cons ?_ ?_
      · with_reducible refine xop_un ?_ ?_
        · rfl
        · intro vs x F hF hd
          have e1 : F.tmps.getD 1 undef = .pointer (some ⟨N, 0, none⟩) := (hF.a 1 (by kernel_rfl) (by rw [hsz]; rfl)).trans hA1
          clear hF hd
          simp only [comes]
          go_simp
          first | exact ⟨Ext.refl _, rfl⟩ | exact Ext.refl _
      with_reducible refine xOps_cons ?_ ?_
      · with_reducible refine xop_un ?_ ?_
        · rfl
        · intro vs x F hF hd
          have e1 : F.tmps.getD 63 undef = .pointer (some ⟨N, 10, none⟩) := (hF.v 63 56 (by kernel_rfl) (by rw [hsz]; rfl)).trans (dep_at hd 0 56 (is (.pointer (some ⟨N, 10, none⟩))) (by kernel_rfl) (by kernel_rfl))
          have c : Y.cell? ⟨N, 10, none⟩ = some (.int .i64 c.sh) := HA.out.cell 10 (by simp)
          clear hF hd
          simp only [comes]
          go_simp
          first | exact ⟨Ext.refl _, rfl⟩ | exact Ext.refl _
      with_reducible refine xOps_cons ?_ ?_
      · with_reducible refine xop_un ?_ ?_
        · rfl
        · intro vs x F hF hd
          have e1 : F.tmps.getD 1 undef = .pointer (some ⟨N, 0, none⟩) := (hF.a 1 (by kernel_rfl) (by rw [hsz]; rfl)).trans hA1
          clear hF hd
          simp only [comes]
          go_simp
          first | exact ⟨Ext.refl _, rfl⟩ | exact Ext.refl _
      with_reducible refine xOps_cons ?_ ?_
      · with_reducible refine xop_un ?_ ?_
        · rfl
        · intro vs x F hF hd
          have e1 : F.tmps.getD 65 undef = .pointer (some ⟨N, 3, none⟩) := (hF.v 65 58 (by kernel_rfl) (by rw [hsz]; rfl)).trans (dep_at hd 0 58 (is (.pointer (some ⟨N, 3, none⟩))) (by kernel_rfl) (by kernel_rfl))
          have c : Y.cell? ⟨N, 3, none⟩ = some (.int .i64 c.ci) := HA.out.cell 3 (by simp)
          clear hF hd
          simp only [comes]
          go_simp
          first | exact ⟨Ext.refl _, rfl⟩ | exact Ext.refl _
      with_reducible refine xOps_cons ?_ ?_
      · with_reducible refine xop_un ?_ ?_
        · rfl
        · intro vs x F hF hd
          have e1 : F.tmps.getD 64 undef = .int .i64 c.sh := (hF.v 64 57 (by kernel_rfl) (by rw [hsz]; rfl)).trans (dep_at hd 0 57 (is (.int .i64 c.sh)) (by kernel_rfl) (by kernel_rfl))
          have e2 : F.tmps.getD 66 undef = .int .i64 c.ci := (hF.v 66 59 (by kernel_rfl) (by rw [hsz]; rfl)).trans (dep_at hd 1 59 (is (.int .i64 c.ci)) (by kernel_rfl) (by kernel_rfl))
          exact comes_mul e1 e2 (Iv.wrap (Iv.mul (by decide) (by decide) (HN.out.iv_sh) (HN.out.iv_ci)) (by decide) (by decide))
      with_reducible refine xOps_cons ?_ ?_
      · with_reducible refine xop_un ?_ ?_
        · rfl
        · intro vs x F hF hd
          have e1 : F.tmps.getD 62 undef = .int .i64 ((((c.cl + c.ad) * (((c.ci + (hardV c true)) + c.mb) + c.mr)) + (c.li * ((c.ci + 1000000) + c.mb))) + ((c.st + c.ca) * (c.ci + (upV c true)))) := (hF.v 62 55 (by kernel_rfl) (by rw [hsz]; rfl)).trans (dep_at hd 0 55 (is (.int .i64 ((((c.cl + c.ad) * (((c.ci + (hardV c true)) + c.mb) + c.mr)) + (c.li * ((c.ci + 1000000) + c.mb))) + ((c.st + c.ca) * (c.ci + (upV c true)))))) (by kernel_rfl) (by kernel_rfl))
          have e2 : F.tmps.getD 67 undef = .int .i64 (c.sh * c.ci) := (hF.v 67 60 (by kernel_rfl) (by rw [hsz]; rfl)).trans (dep_at hd 1 60 (is (.int .i64 (c.sh * c.ci))) (by kernel_rfl) (by kernel_rfl))
          exact comes_add e1 e2 (Iv.wrap (Iv.add (Iv.add (Iv.add (Iv.mul (by decide) (by decide) (Iv.add (HN.out.iv_cl) (HN.out.iv_ad)) (Iv.add (Iv.add (Iv.add (HN.out.iv_ci) (HN.out.iv_hard)) (HN.out.iv_mb)) (HN.out.iv_mr))) (Iv.mul (by decide) (by decide) (HN.out.iv_li) (Iv.add (Iv.add (HN.out.iv_ci) (Iv.con (1000000))) (HN.out.iv_mb)))) (Iv.mul (by decide) (by decide) (Iv.add (HN.out.iv_st) (HN.out.iv_ca)) (Iv.add (HN.out.iv_ci) (HN.out.iv_up)))) (Iv.mul (by decide) (by decide) (HN.out.iv_sh) (HN.out.iv_ci))) (by decide) (by decide))
      with_reducible refine xOps_cons ?_ ?_
      · with_reducible refine xop_un ?_ ?_
        · rfl
        · intro vs x F hF hd
          have e1 : F.tmps.getD 1 undef = .pointer (some ⟨N, 0, none⟩) := (hF.a 1 (by kernel_rfl) (by rw [hsz]; rfl)).trans hA1
          clear hF hd
          simp only [comes]
          go_simp
          first | exact ⟨Ext.refl _, rfl⟩ | exact Ext.refl _
      with_reducible refine xOps_cons ?_ ?_
      · with_reducible refine xop_un ?_ ?_
        · rfl
        · intro vs x F hF hd
          have e1 : F.tmps.getD 69 undef = .pointer (some ⟨N, 11, none⟩) := (hF.v 69 62 (by kernel_rfl) (by rw [hsz]; rfl)).trans (dep_at hd 0 62 (is (.pointer (some ⟨N, 11, none⟩))) (by kernel_rfl) (by kernel_rfl))
          have c : Y.cell? ⟨N, 11, none⟩ = some (.int .i64 c.te) := HA.out.cell 11 (by simp)
          clear hF hd
          simp only [comes]
          go_simp
          first | exact ⟨Ext.refl _, rfl⟩ | exact Ext.refl _
      with_reducible refine xOps_cons ?_ ?_
      · with_reducible refine xop_un ?_ ?_
        · rfl
        · intro vs x F hF hd
          have e1 : F.tmps.getD 68 undef = .int .i64 (((((c.cl + c.ad) * (((c.ci + (hardV c true)) + c.mb) + c.mr)) + (c.li * ((c.ci + 1000000) + c.mb))) + ((c.st + c.ca) * (c.ci + (upV c true)))) + (c.sh * c.ci)) := (hF.v 68 61 (by kernel_rfl) (by rw [hsz]; rfl)).trans (dep_at hd 0 61 (is (.int .i64 (((((c.cl + c.ad) * (((c.ci + (hardV c true)) + c.mb) + c.mr)) + (c.li * ((c.ci + 1000000) + c.mb))) + ((c.st + c.ca) * (c.ci + (upV c true)))) + (c.sh * c.ci)))) (by kernel_rfl) (by kernel_rfl))
          have e2 : F.tmps.getD 70 undef = .int .i64 c.te := (hF.v 70 63 (by kernel_rfl) (by rw [hsz]; rfl)).trans (dep_at hd 1 63 (is (.int .i64 c.te)) (by kernel_rfl) (by kernel_rfl))
          exact comes_add e1 e2 (Iv.wrap (Iv.add (Iv.add (Iv.add (Iv.add (Iv.mul (by decide) (by decide) (Iv.add (HN.out.iv_cl) (HN.out.iv_ad)) (Iv.add (Iv.add (Iv.add (HN.out.iv_ci) (HN.out.iv_hard)) (HN.out.iv_mb)) (HN.out.iv_mr))) (Iv.mul (by decide) (by decide) (HN.out.iv_li) (Iv.add (Iv.add (HN.out.iv_ci) (Iv.con (1000000))) (HN.out.iv_mb)))) (Iv.mul (by decide) (by decide) (Iv.add (HN.out.iv_st) (HN.out.iv_ca)) (Iv.add (HN.out.iv_ci) (HN.out.iv_up)))) (Iv.mul (by decide) (by decide) (HN.out.iv_sh) (HN.out.iv_ci))) (HN.out.iv_te)) (by decide) (by decide))
      with_reducible refine xOps_cons ?_ ?_
      · with_reducible refine xop_un ?_ ?_
        · rfl
        · intro vs x F hF hd
          have e1 : F.tmps.getD 1 undef = .pointer (some ⟨N, 0, none⟩) := (hF.a 1 (by kernel_rfl) (by rw [hsz]; rfl)).trans hA1
          clear hF hd
          simp only [comes]
          go_simp
          first | exact ⟨Ext.refl _, rfl⟩ | exact Ext.refl _
      with_reducible refine xOps_cons ?_ ?_
      · with_reducible refine xop_un ?_ ?_
        · rfl
        · intro vs x F hF hd
          have e1 : F.tmps.getD 72 undef = .pointer (some ⟨N, 15, none⟩) := (hF.v 72 65 (by kernel_rfl) (by rw [hsz]; rfl)).trans (dep_at hd 0 65 (is (.pointer (some ⟨N, 15, none⟩))) (by kernel_rfl) (by kernel_rfl))
          have c : Y.cell? ⟨N, 15, none⟩ = some (.int .i64 c.rp) := HA.out.cell 15 (by simp)
          clear hF hd
          simp only [comes]
          go_simp
          first | exact ⟨Ext.refl _, rfl⟩ | exact Ext.refl _
      with_reducible refine xOps_cons ?_ ?_
      · with_reducible refine xop_un ?_ ?_
        · rfl
        · intro vs x F hF hd
          have e23 : F.tmps.getD 23 undef = .int .i64 (((((c.cl + c.ad) + c.li) + c.st) + c.ca) + c.sh) := (hF.v 23 16 (by kernel_rfl) (by rw [hsz]; rfl)).trans (dep_at hd 0 16 (is (.int .i64 (((((c.cl + c.ad) + c.li) + c.st) + c.ca) + c.sh))) (by kernel_rfl) (by kernel_rfl))
          have e71 : F.tmps.getD 71 undef = .int .i64 ((((((c.cl + c.ad) * (((c.ci + (hardV c true)) + c.mb) + c.mr)) + (c.li * ((c.ci + 1000000) + c.mb))) + ((c.st + c.ca) * (c.ci + (upV c true)))) + (c.sh * c.ci)) + c.te) := (hF.v 71 64 (by kernel_rfl) (by rw [hsz]; rfl)).trans (dep_at hd 1 64 (is (.int .i64 ((((((c.cl + c.ad) * (((c.ci + (hardV c true)) + c.mb) + c.mr)) + (c.li * ((c.ci + 1000000) + c.mb))) + ((c.st + c.ca) * (c.ci + (upV c true)))) + (c.sh * c.ci)) + c.te))) (by kernel_rfl) (by kernel_rfl))
          have e73 : F.tmps.getD 73 undef = .int .i64 c.rp := (hF.v 73 66 (by kernel_rfl) (by rw [hsz]; rfl)).trans (dep_at hd 2 66 (is (.int .i64 c.rp)) (by kernel_rfl) (by kernel_rfl))
          rw [Array.getD_eq_getD_getElem?] at e23 e71 e73
          clear hF hd
          simp only [comes]
          go_simp
          first | exact ⟨Ext.refl _, rfl⟩ | exact Ext.refl _
      exact xOps_nil
    case hst => exact ⟨is.st _, is.st _, is.st _, is.st _, is.st _, is.st _, is.st _, is.st _, is.st _, is.st _, is.st _, is.st _, is.st _, is.st _, is.st _, is.st _, is.st _, is.st _, is.st _, is.st _, is.st _, is.st _, is.st _, is.st _, is.st _, is.st _, is.st _, is.st _, is.st _, is.st _, is.st _, is.st _, is.st _, is.st _, is.st _, is.st _, is.st _, is.st _, is.st _, is.st _, is.st _, is.st _, is.st _, is.st _, is.st _, is.st _, is.st _, is.st _, is.st _, is.st _, is.st _, is.st _, is.st _, is.st _, is.st _, is.st _, is.st _, is.st _, is.st _, is.st _, is.st _, is.st _, is.st _, is.st _, is.st _, is.st _, is.st _, is.st _, trivial⟩
    case hfin =>
      intro vs x hf
      have f67 : vs 67 = bv c true := hf.2.2.2.2.2.2.2.2.2.2.2.2.2.2.2.2.2.2.2.2.2.2.2.2.2.2.2.2.2.2.2.2.2.2.2.2.2.2.2.2.2.2.2.2.2.2.2.2.2.2.2.2.2.2.2.2.2.2.2.2.2.2.2.2.2.2.2.1
      clear hf
      have hA0 := HA0.out
      subst hA0
      clear hsz hA1
      simp only [List.take_succ_cons, List.take_zero, List.drop_succ_cons, List.drop_zero, putAll, Act.put, List.setIfInBounds_toArray, List.set_cons_succ, List.set_cons_zero, Nat.zero_add, Nat.reduceAdd]
      clear HA0
      rw [f67]
      clear f67
      refine wl_at fun Z hZ => ?_
      have hRZ : Box 0 [.int .i64 0, .int .i64 0, .int .i64 0] M Z := by
        rw [hZ]
        exact HR.out.ext (by repeat (first | exact Ext.refl _ | assumption | apply Ext.plus_ | apply Ext.alloc | apply Ext.drew))
      have hEZ : Ext w Z := by
        rw [hZ]
        exact HE.out.trans (by repeat (first | exact Ext.refl _ | assumption | apply Ext.plus_ | apply Ext.alloc | apply Ext.drew))
      clear hZ HR HE
      refine wl_store rfl 40 (.tmp 2) (.tmp 74) rfl hRZ [.int .i64 (conV c true), .int .i64 (bytV c true), .int .i64 (recV c true)] rfl rfl rfl (by kernel_rfl) rfl fun W hW hx => ?_
      have HX := Lib.hid (hx.ext _ hEZ HW.out.1)
      have HR := Lib.hid hW
      clear hW hx hRZ hEZ HW
      go_wp2
      refine bodyPost_ret (results_cell Try.results16 HR.out rfl Try.underlying40 rfl (by kernel_rfl)) rfl ?_
      exact ⟨rfl, HX.out⟩
set_option maxRecDepth 100000 in
set_option maxHeartbeats 8000000 in
theorem bound_any (c : Cf) (b : Bool) (hb : b = true → CfN c) (w : World) (CV : Over 7 c w (.int .i64 (if b then 0 else 8))) (CH : Over 11 c w (.int .i64 (hardV c b))) (CU : Over 13 c w (.int .i64 (upV c b))) :
    Calls Try.prog 15 #[cv c] w fun e w' => e = .returned (bv c b) ∧ Ext w w' := by
  go_enter Try.func15, Try.ntmps15
  go_wp2_with (with_reducible show wpList _ _ _ (⟨some 6, _, _, _, _, _⟩ :: _) _ _; refine Lock.out ?_)
  refine ⟨?_, trivial⟩
  refine wl_at fun U hU => ?_
  have hA : Box 0 c.cells w.heap.size U := by
    rw [hU]
    repeat' (first | with_reducible assumption | ((with_reducible refine Box.fresh ?fb ?fn ?fr); (case fb => first | omega | (simp <;> omega)); (case fn => first | omega | (simp <;> omega)); (case fr => rfl)) | with_reducible apply Box.up | with_reducible apply Box.drew_ | with_reducible apply Box.drewN_ | with_reducible apply Box.plus_ | with_reducible apply Box.put | with_reducible refine Box.off ?_ (by omega))
    all_goals first | rfl | (simp; done)
  have hR : Box 0 [.int .i64 0, .int .i64 0, .int .i64 0] (w.heap.size + 1) U := by
    rw [hU]
    repeat' (first | with_reducible assumption | ((with_reducible refine Box.fresh ?fb ?fn ?fr); (case fb => first | omega | (simp <;> omega)); (case fn => first | omega | (simp <;> omega)); (case fr => rfl)) | with_reducible apply Box.up | with_reducible apply Box.drew_ | with_reducible apply Box.drewN_ | with_reducible apply Box.plus_ | with_reducible apply Box.put | with_reducible refine Box.off ?_ (by omega))
    all_goals first | rfl | (simp; done)
  have hE : Ext w U := by
    rw [hU]
    repeat' (first | with_reducible assumption | with_reducible exact Ext.refl _ | with_reducible apply Ext.alloc | with_reducible apply Ext.drew | with_reducible apply Ext.drewN | with_reducible apply Ext.plus_ | with_reducible refine Ext.put ?_ (by omega))
  obtain ⟨N, hN⟩ : ∃ N, N = w.heap.size := ⟨_, rfl⟩
  rw [← hN] at hA hR
  have hwM : w.heap.size ≤ N + 1 := by omega
  rw [← hN]
  obtain ⟨M, hM⟩ : ∃ M, M = N + 1 := ⟨_, rfl⟩
  have hne : N ≠ M := by omega
  rw [← hM] at hR hwM ⊢
  clear hU hN hM
  refine wl_load rfl 27 (.tmp 1) rfl hA rfl Try.underlying27 rfl (by kernel_rfl) ?_
  have HA := Lib.hid hA
  have HR := Lib.hid hR
  have HE := Lib.hid hE
  have HW := Lib.hid (And.intro hwM hne)
  clear hA hE hR hwM hne
  have HB := Lib.hid hb
  clear hb
  go_wp2_with fail
  refine (CV.out _ HE.out).mono ?_
  rintro e Y ⟨rfl, hX⟩
  replace HA := Lib.hid (HA.out.ext hX)
  replace HR := Lib.hid (HR.out.ext hX)
  replace HE := Lib.hid (HE.out.trans hX)
  clear hX CV
  cases b
  · clear HA HB CH CU
    go_wp2_with (with_reducible show wpList _ _ _ (⟨none, _, _, _, _, _⟩ :: _) _ _; refine Lock.out ?_)
    refine ⟨?_, trivial⟩
    refine wl_at fun Z hZ => ?_
    have hRZ : Box 0 [.int .i64 0, .int .i64 0, .int .i64 0] M Z := by
      rw [hZ]
      exact HR.out.ext (by repeat (first | exact Ext.refl _ | assumption | apply Ext.plus_ | apply Ext.alloc | apply Ext.drew))
    have hEZ : Ext w Z := by
      rw [hZ]
      exact HE.out.trans (by repeat (first | exact Ext.refl _ | assumption | apply Ext.plus_ | apply Ext.alloc | apply Ext.drew))
    clear hZ HR HE
    refine wl_store rfl 40 (.tmp 2) (.tmp 9) rfl hRZ [.int .i64 (conV c false), .int .i64 (bytV c false), .int .i64 (recV c false)] rfl rfl rfl (by kernel_rfl) rfl fun W hW hx => ?_
    have HX := Lib.hid (hx.ext _ hEZ HW.out.1)
    have HR := Lib.hid hW
    clear hW hx hRZ hEZ HW
    go_wp2
    refine bodyPost_ret (results_cell Try.results15 HR.out rfl Try.underlying40 rfl (by kernel_rfl)) rfl ?_
    exact ⟨rfl, HX.out⟩
  · have HN := Lib.hid (HB.out rfl)
    clear HB
    go_upto_region 3 with fail
    refine act_at fun A0 hA0 => ?_
    have hsz : A0.tmps.size = 81 := by
      rw [hA0]
      rfl
    have hA1 : A0.tmps.getD 1 undef = .pointer (some ⟨N, 0, none⟩) := by
      rw [hA0]
      rfl
    have HA0 := Lib.hid hA0
    clear hA0
    apply wp_region_ext 17 [is (.pointer (some ⟨N, 5, none⟩)), is (.int .i64 c.cl), is (.pointer (some ⟨N, 6, none⟩)), is (.int .i64 c.ad), is (.int .i64 (c.cl + c.ad)), is (.pointer (some ⟨N, 3, none⟩)), is (.int .i64 c.ci), is (cv c), is (.int .i64 (hardV c true)), is (.int .i64 (c.ci + (hardV c true))), is (.pointer (some ⟨N, 1, none⟩)), is (.int .i64 c.mb), is (.int .i64 ((c.ci + (hardV c true)) + c.mb)), is (.pointer (some ⟨N, 2, none⟩)), is (.int .i64 c.mr), is (.int .i64 (((c.ci + (hardV c true)) + c.mb) + c.mr)), is (.int .i64 ((c.cl + c.ad) * (((c.ci + (hardV c true)) + c.mb) + c.mr)))] (by kernel_rfl) (by kernel_rfl) rfl
    case hops =>
      simp only [List.take_succ_cons, List.take_zero]
      with_reducible refine xOps_cons ?_ ?_
      · with_reducible refine xop_un ?_ ?_
        · rfl
        · intro vs x F hF hd
          have e1 : F.tmps.getD 1 undef = .pointer (some ⟨N, 0, none⟩) := (hF.a 1 (by kernel_rfl) (by rw [hsz]; rfl)).trans hA1
          clear hF hd
          simp only [comes]
          go_simp
          first | exact ⟨Ext.refl _, rfl⟩ | exact Ext.refl _
      with_reducible refine xOps_cons ?_ ?_
      · with_reducible refine xop_un ?_ ?_
        · rfl
        · intro vs x F hF hd
          have e1 : F.tmps.getD 10 undef = .pointer (some ⟨N, 5, none⟩) := (hF.v 10 0 (by kernel_rfl) (by rw [hsz]; rfl)).trans (dep_at hd 0 0 (is (.pointer (some ⟨N, 5, none⟩))) (by kernel_rfl) (by kernel_rfl))
          have c : Y.cell? ⟨N, 5, none⟩ = some (.int .i64 c.cl) := HA.out.cell 5 (by simp)
          clear hF hd
          simp only [comes]
          go_simp
          first | exact ⟨Ext.refl _, rfl⟩ | exact Ext.refl _
      with_reducible refine xOps_cons ?_ ?_
      · with_reducible refine xop_un ?_ ?_
        · rfl
        · intro vs x F hF hd
          have e1 : F.tmps.getD 1 undef = .pointer (some ⟨N, 0, none⟩) := (hF.a 1 (by kernel_rfl) (by rw [hsz]; rfl)).trans hA1
          clear hF hd
          simp only [comes]
          go_simp
          first | exact ⟨Ext.refl _, rfl⟩ | exact Ext.refl _
      with_reducible refine xOps_cons ?_ ?_
      · with_reducible refine xop_un ?_ ?_
        · rfl
        · intro vs x F hF hd
          have e1 : F.tmps.getD 12 undef = .pointer (some ⟨N, 6, none⟩) := (hF.v 12 2 (by kernel_rfl) (by rw [hsz]; rfl)).trans (dep_at hd 0 2 (is (.pointer (some ⟨N, 6, none⟩))) (by kernel_rfl) (by kernel_rfl))
          have c : Y.cell? ⟨N, 6, none⟩ = some (.int .i64 c.ad) := HA.out.cell 6 (by simp)
          clear hF hd
          simp only [comes]
          go_simp
          first | exact ⟨Ext.refl _, rfl⟩ | exact Ext.refl _
      with_reducible refine xOps_cons ?_ ?_
      · with_reducible refine xop_un ?_ ?_
        · rfl
        · intro vs x F hF hd
          have e1 : F.tmps.getD 11 undef = .int .i64 c.cl := (hF.v 11 1 (by kernel_rfl) (by rw [hsz]; rfl)).trans (dep_at hd 0 1 (is (.int .i64 c.cl)) (by kernel_rfl) (by kernel_rfl))
          have e2 : F.tmps.getD 13 undef = .int .i64 c.ad := (hF.v 13 3 (by kernel_rfl) (by rw [hsz]; rfl)).trans (dep_at hd 1 3 (is (.int .i64 c.ad)) (by kernel_rfl) (by kernel_rfl))
          exact comes_add e1 e2 (Iv.wrap (Iv.add (HN.out.iv_cl) (HN.out.iv_ad)) (by decide) (by decide))
      with_reducible refine xOps_cons ?_ ?_
      · with_reducible refine xop_un ?_ ?_
        · rfl
        · intro vs x F hF hd
          have e1 : F.tmps.getD 1 undef = .pointer (some ⟨N, 0, none⟩) := (hF.a 1 (by kernel_rfl) (by rw [hsz]; rfl)).trans hA1
          clear hF hd
          simp only [comes]
          go_simp
          first | exact ⟨Ext.refl _, rfl⟩ | exact Ext.refl _
      with_reducible refine xOps_cons ?_ ?_
      · with_reducible refine xop_un ?_ ?_
        · rfl
        · intro vs x F hF hd
          have e1 : F.tmps.getD 15 undef = .pointer (some ⟨N, 3, none⟩) := (hF.v 15 5 (by kernel_rfl) (by rw [hsz]; rfl)).trans (dep_at hd 0 5 (is (.pointer (some ⟨N, 3, none⟩))) (by kernel_rfl) (by kernel_rfl))
          have c : Y.cell? ⟨N, 3, none⟩ = some (.int .i64 c.ci) := HA.out.cell 3 (by simp)
          clear hF hd
          simp only [comes]
          go_simp
          first | exact ⟨Ext.refl _, rfl⟩ | exact Ext.refl _
      with_reducible refine xOps_cons ?_ ?_
      · with_reducible refine xop_un ?_ ?_
        · rfl
        · intro vs x F hF hd
          have e1 : F.tmps.getD 1 undef = .pointer (some ⟨N, 0, none⟩) := (hF.a 1 (by kernel_rfl) (by rw [hsz]; rfl)).trans hA1
          exact comes_load_box 27 (.tmp 1) rfl (HA.out.ext (by repeat (first | exact Ext.refl _ | assumption | apply Ext.plus_ | apply Ext.alloc | apply Ext.drew))) e1 Try.underlying27 rfl (by kernel_rfl)
      with_reducible refine xOps_cons ?_ ?_
      · with_reducible refine xop_un ?_ ?_
        · rfl
        · intro vs x F hF hd
          have e17 : F.tmps.getD 17 undef = cv c := (hF.v 17 7 (by kernel_rfl) (by rw [hsz]; rfl)).trans (dep_at hd 0 7 (is (cv c)) (by kernel_rfl) (by kernel_rfl))
          clear hF hd
          simp only [comes]
          go_simp
          refine ((CH.out _ (HE.out.trans (by repeat (first | exact Ext.refl _ | assumption | apply Ext.plus_ | apply Ext.alloc | apply Ext.drew))))).mono ?_
          rintro e w' ⟨rfl, hE⟩
          first | exact ⟨_, rfl, hE, rfl⟩ | exact ⟨_, rfl, hE⟩ | exact ⟨rfl, hE⟩ | exact ⟨_, hE⟩ | exact hE
      with_reducible refine xOps_cons ?_ ?_
      · with_reducible refine xop_un ?_ ?_
        · rfl
        · intro vs x F hF hd
          have e1 : F.tmps.getD 16 undef = .int .i64 c.ci := (hF.v 16 6 (by kernel_rfl) (by rw [hsz]; rfl)).trans (dep_at hd 0 6 (is (.int .i64 c.ci)) (by kernel_rfl) (by kernel_rfl))
          have e2 : F.tmps.getD 18 undef = .int .i64 (hardV c true) := (hF.v 18 8 (by kernel_rfl) (by rw [hsz]; rfl)).trans (dep_at hd 1 8 (is (.int .i64 (hardV c true))) (by kernel_rfl) (by kernel_rfl))
          exact comes_add e1 e2 (Iv.wrap (Iv.add (HN.out.iv_ci) (HN.out.iv_hard)) (by decide) (by decide))
      with_reducible refine xOps_cons ?_ ?_
      · with_reducible refine xop_un ?_ ?_
        · rfl
        · intro vs x F hF hd
          have e1 : F.tmps.getD 1 undef = .pointer (some ⟨N, 0, none⟩) := (hF.a 1 (by kernel_rfl) (by rw [hsz]; rfl)).trans hA1
          clear hF hd
          simp only [comes]
          go_simp
          first | exact ⟨Ext.refl _, rfl⟩ | exact Ext.refl _
      with_reducible refine xOps_cons ?_ ?_
      · with_reducible refine xop_un ?_ ?_
        · rfl
        · intro vs x F hF hd
          have e1 : F.tmps.getD 20 undef = .pointer (some ⟨N, 1, none⟩) := (hF.v 20 10 (by kernel_rfl) (by rw [hsz]; rfl)).trans (dep_at hd 0 10 (is (.pointer (some ⟨N, 1, none⟩))) (by kernel_rfl) (by kernel_rfl))
          have c : Y.cell? ⟨N, 1, none⟩ = some (.int .i64 c.mb) := HA.out.cell 1 (by simp)
          clear hF hd
          simp only [comes]
          go_simp
          first | exact ⟨Ext.refl _, rfl⟩ | exact Ext.refl _
      with_reducible refine xOps_cons ?_ ?_
      · with_reducible refine xop_un ?_ ?_
        · rfl
        · intro vs x F hF hd
          have e1 : F.tmps.getD 19 undef = .int .i64 (c.ci + (hardV c true)) := (hF.v 19 9 (by kernel_rfl) (by rw [hsz]; rfl)).trans (dep_at hd 0 9 (is (.int .i64 (c.ci + (hardV c true)))) (by kernel_rfl) (by kernel_rfl))
          have e2 : F.tmps.getD 21 undef = .int .i64 c.mb := (hF.v 21 11 (by kernel_rfl) (by rw [hsz]; rfl)).trans (dep_at hd 1 11 (is (.int .i64 c.mb)) (by kernel_rfl) (by kernel_rfl))
          exact comes_add e1 e2 (Iv.wrap (Iv.add (Iv.add (HN.out.iv_ci) (HN.out.iv_hard)) (HN.out.iv_mb)) (by decide) (by decide))
      with_reducible refine xOps_cons ?_ ?_
      · with_reducible refine xop_un ?_ ?_
        · rfl
        · intro vs x F hF hd
          have e1 : F.tmps.getD 1 undef = .pointer (some ⟨N, 0, none⟩) := (hF.a 1 (by kernel_rfl) (by rw [hsz]; rfl)).trans hA1
          clear hF hd
          simp only [comes]
          go_simp
          first | exact ⟨Ext.refl _, rfl⟩ | exact Ext.refl _
      with_reducible refine xOps_cons ?_ ?_
      · with_reducible refine xop_un ?_ ?_
        · rfl
        · intro vs x F hF hd
          have e1 : F.tmps.getD 23 undef = .pointer (some ⟨N, 2, none⟩) := (hF.v 23 13 (by kernel_rfl) (by rw [hsz]; rfl)).trans (dep_at hd 0 13 (is (.pointer (some ⟨N, 2, none⟩))) (by kernel_rfl) (by kernel_rfl))
          have c : Y.cell? ⟨N, 2, none⟩ = some (.int .i64 c.mr) := HA.out.cell 2 (by simp)
          clear hF hd
          simp only [comes]
          go_simp
          first | exact ⟨Ext.refl _, rfl⟩ | exact Ext.refl _
      with_reducible refine xOps_cons ?_ ?_
      · with_reducible refine xop_un ?_ ?_
        · rfl
        · intro vs x F hF hd
          have e1 : F.tmps.getD 22 undef = .int .i64 ((c.ci + (hardV c true)) + c.mb) := (hF.v 22 12 (by kernel_rfl) (by rw [hsz]; rfl)).trans (dep_at hd 0 12 (is (.int .i64 ((c.ci + (hardV c true)) + c.mb))) (by kernel_rfl) (by kernel_rfl))
          have e2 : F.tmps.getD 24 undef = .int .i64 c.mr := (hF.v 24 14 (by kernel_rfl) (by rw [hsz]; rfl)).trans (dep_at hd 1 14 (is (.int .i64 c.mr)) (by kernel_rfl) (by kernel_rfl))
          exact comes_add e1 e2 (Iv.wrap (Iv.add (Iv.add (Iv.add (HN.out.iv_ci) (HN.out.iv_hard)) (HN.out.iv_mb)) (HN.out.iv_mr)) (by decide) (by decide))
      with_reducible refine xOps_cons ?_ ?_
      · with_reducible refine xop_un ?_ ?_
        · rfl
        · intro vs x F hF hd
          have e1 : F.tmps.getD 14 undef = .int .i64 (c.cl + c.ad) := (hF.v 14 4 (by kernel_rfl) (by rw [hsz]; rfl)).trans (dep_at hd 0 4 (is (.int .i64 (c.cl + c.ad))) (by kernel_rfl) (by kernel_rfl))
          have e2 : F.tmps.getD 25 undef = .int .i64 (((c.ci + (hardV c true)) + c.mb) + c.mr) := (hF.v 25 15 (by kernel_rfl) (by rw [hsz]; rfl)).trans (dep_at hd 1 15 (is (.int .i64 (((c.ci + (hardV c true)) + c.mb) + c.mr))) (by kernel_rfl) (by kernel_rfl))
          exact comes_mul e1 e2 (Iv.wrap (Iv.mul (by decide) (by decide) (Iv.add (HN.out.iv_cl) (HN.out.iv_ad)) (Iv.add (Iv.add (Iv.add (HN.out.iv_ci) (HN.out.iv_hard)) (HN.out.iv_mb)) (HN.out.iv_mr))) (by decide) (by decide))
      exact xOps_nil
    case hst => exact ⟨is.st _, is.st _, is.st _, is.st _, is.st _, is.st _, is.st _, is.st _, is.st _, is.st _, is.st _, is.st _, is.st _, is.st _, is.st _, is.st _, is.st _, trivial⟩
    case hfin =>
      intro vs x hf
      have f16 : vs 16 = .int .i64 ((c.cl + c.ad) * (((c.ci + (hardV c true)) + c.mb) + c.mr)) := hf.2.2.2.2.2.2.2.2.2.2.2.2.2.2.2.2.1
      clear hf
      have hA0 := HA0.out
      subst hA0
      clear hsz hA1
      simp only [List.take_succ_cons, List.take_zero, List.drop_succ_cons, List.drop_zero, putAll, Act.put, List.setIfInBounds_toArray, List.set_cons_succ, List.set_cons_zero, Nat.zero_add, Nat.reduceAdd]
      clear HA0
      rw [f16]
      clear f16
      go_upto_region 4 with fail
      refine wp_at fun Y3 hY3 => ?_
      have hAY3 : Box 0 c.cells N Y3 := by
        rw [hY3]
        exact HA.out.ext (by repeat (first | exact Ext.refl _ | assumption | apply Ext.plus_ | apply Ext.alloc | apply Ext.drew))
      have hRY3 : Box 0 [.int .i64 0, .int .i64 0, .int .i64 0] M Y3 := by
        rw [hY3]
        exact HR.out.ext (by repeat (first | exact Ext.refl _ | assumption | apply Ext.plus_ | apply Ext.alloc | apply Ext.drew))
      have hEY3 : Ext w Y3 := by
        rw [hY3]
        exact HE.out.trans (by repeat (first | exact Ext.refl _ | assumption | apply Ext.plus_ | apply Ext.alloc | apply Ext.drew))
      clear hY3 HA HR HE
      have HA := Lib.hid hAY3
      have HR := Lib.hid hRY3
      have HE := Lib.hid hEY3
      clear hAY3 hRY3 hEY3
      clear x Y
      refine act_at fun A0 hA0 => ?_
      have hsz : A0.tmps.size = 81 := by
        rw [hA0]
        rfl
      have hA1 : A0.tmps.getD 1 undef = .pointer (some ⟨N, 0, none⟩) := by
        rw [hA0]
        rfl
      have HA0 := Lib.hid hA0
      clear hA0
      apply wp_region_seq 9 [is (.pointer (some ⟨N, 7, none⟩)), is (.int .i64 c.li), is (.pointer (some ⟨N, 3, none⟩)), is (.int .i64 c.ci), is (.int .i64 (c.ci + 1000000)), is (.pointer (some ⟨N, 1, none⟩)), is (.int .i64 c.mb), is (.int .i64 ((c.ci + 1000000) + c.mb)), is (.int .i64 (c.li * ((c.ci + 1000000) + c.mb)))] (by kernel_rfl) (by kernel_rfl) rfl
      case hops =>
        simp only [List.take_succ_cons, List.take_zero]
        with_reducible refine xOps_cons ?_ ?_
        · with_reducible refine xop_un ?_ ?_
          · rfl
          · intro vs x F hF hd
            have e1 : F.tmps.getD 1 undef = .pointer (some ⟨N, 0, none⟩) := (hF.a 1 (by kernel_rfl) (by rw [hsz]; rfl)).trans hA1
            clear hF hd
            simp only [comes]
            go_simp
            first | exact ⟨Ext.refl _, rfl⟩ | exact Ext.refl _
        with_reducible refine xOps_cons ?_ ?_
        · with_reducible refine xop_un ?_ ?_
          · rfl
          · intro vs x F hF hd
            have e1 : F.tmps.getD 27 undef = .pointer (some ⟨N, 7, none⟩) := (hF.v 27 0 (by kernel_rfl) (by rw [hsz]; rfl)).trans (dep_at hd 0 0 (is (.pointer (some ⟨N, 7, none⟩))) (by kernel_rfl) (by kernel_rfl))
            have c : Y3.cell? ⟨N, 7, none⟩ = some (.int .i64 c.li) := HA.out.cell 7 (by simp)
            clear hF hd
            simp only [comes]
            go_simp
            first | exact ⟨Ext.refl _, rfl⟩ | exact Ext.refl _
        with_reducible refine xOps_cons ?_ ?_
        · with_reducible refine xop_un ?_ ?_
          · rfl
          · intro vs x F hF hd
            have e1 : F.tmps.getD 1 undef = .pointer (some ⟨N, 0, none⟩) := (hF.a 1 (by kernel_rfl) (by rw [hsz]; rfl)).trans hA1
            clear hF hd
            simp only [comes]
            go_simp
            first | exact ⟨Ext.refl _, rfl⟩ | exact Ext.refl _
        with_reducible refine xOps_cons ?_ ?_
        · with_reducible refine xop_un ?_ ?_
          · rfl
          · intro vs x F hF hd
            have e1 : F.tmps.getD 29 undef = .pointer (some ⟨N, 3, none⟩) := (hF.v 29 2 (by kernel_rfl) (by rw [hsz]; rfl)).trans (dep_at hd 0 2 (is (.pointer (some ⟨N, 3, none⟩))) (by kernel_rfl) (by kernel_rfl))
            have c : Y3.cell? ⟨N, 3, none⟩ = some (.int .i64 c.ci) := HA.out.cell 3 (by simp)
            clear hF hd
            simp only [comes]
            go_simp
            first | exact ⟨Ext.refl _, rfl⟩ | exact Ext.refl _
        with_reducible refine xOps_cons ?_ ?_
        · with_reducible refine xop_un ?_ ?_
          · rfl
          · intro vs x F hF hd
            have e1 : F.tmps.getD 30 undef = .int .i64 c.ci := (hF.v 30 3 (by kernel_rfl) (by rw [hsz]; rfl)).trans (dep_at hd 0 3 (is (.int .i64 c.ci)) (by kernel_rfl) (by kernel_rfl))
            exact comes_add e1 rfl (Iv.wrap (Iv.add (HN.out.iv_ci) (Iv.con (1000000))) (by decide) (by decide))
        with_reducible refine xOps_cons ?_ ?_
        · with_reducible refine xop_un ?_ ?_
          · rfl
          · intro vs x F hF hd
            have e1 : F.tmps.getD 1 undef = .pointer (some ⟨N, 0, none⟩) := (hF.a 1 (by kernel_rfl) (by rw [hsz]; rfl)).trans hA1
            clear hF hd
            simp only [comes]
            go_simp
            first | exact ⟨Ext.refl _, rfl⟩ | exact Ext.refl _
        with_reducible refine xOps_cons ?_ ?_
        · with_reducible refine xop_un ?_ ?_
          · rfl
          · intro vs x F hF hd
            have e1 : F.tmps.getD 32 undef = .pointer (some ⟨N, 1, none⟩) := (hF.v 32 5 (by kernel_rfl) (by rw [hsz]; rfl)).trans (dep_at hd 0 5 (is (.pointer (some ⟨N, 1, none⟩))) (by kernel_rfl) (by kernel_rfl))
            have c : Y3.cell? ⟨N, 1, none⟩ = some (.int .i64 c.mb) := HA.out.cell 1 (by simp)
            clear hF hd
            simp only [comes]
            go_simp
            first | exact ⟨Ext.refl _, rfl⟩ | exact Ext.refl _
        with_reducible refine xOps_cons ?_ ?_
        · with_reducible refine xop_un ?_ ?_
          · rfl
          · intro vs x F hF hd
            have e1 : F.tmps.getD 31 undef = .int .i64 (c.ci + 1000000) := (hF.v 31 4 (by kernel_rfl) (by rw [hsz]; rfl)).trans (dep_at hd 0 4 (is (.int .i64 (c.ci + 1000000))) (by kernel_rfl) (by kernel_rfl))
            have e2 : F.tmps.getD 33 undef = .int .i64 c.mb := (hF.v 33 6 (by kernel_rfl) (by rw [hsz]; rfl)).trans (dep_at hd 1 6 (is (.int .i64 c.mb)) (by kernel_rfl) (by kernel_rfl))
            exact comes_add e1 e2 (Iv.wrap (Iv.add (Iv.add (HN.out.iv_ci) (Iv.con (1000000))) (HN.out.iv_mb)) (by decide) (by decide))
        with_reducible refine xOps_cons ?_ ?_
        · with_reducible refine xop_un ?_ ?_
          · rfl
          · intro vs x F hF hd
            have e1 : F.tmps.getD 28 undef = .int .i64 c.li := (hF.v 28 1 (by kernel_rfl) (by rw [hsz]; rfl)).trans (dep_at hd 0 1 (is (.int .i64 c.li)) (by kernel_rfl) (by kernel_rfl))
            have e2 : F.tmps.getD 34 undef = .int .i64 ((c.ci + 1000000) + c.mb) := (hF.v 34 7 (by kernel_rfl) (by rw [hsz]; rfl)).trans (dep_at hd 1 7 (is (.int .i64 ((c.ci + 1000000) + c.mb))) (by kernel_rfl) (by kernel_rfl))
            exact comes_mul e1 e2 (Iv.wrap (Iv.mul (by decide) (by decide) (HN.out.iv_li) (Iv.add (Iv.add (HN.out.iv_ci) (Iv.con (1000000))) (HN.out.iv_mb))) (by decide) (by decide))
        exact xOps_nil
      case hst => exact ⟨is.st _, is.st _, is.st _, is.st _, is.st _, is.st _, is.st _, is.st _, is.st _, trivial⟩
      case hfin =>
        intro vs x hf
        have f8 : vs 8 = .int .i64 (c.li * ((c.ci + 1000000) + c.mb)) := hf.2.2.2.2.2.2.2.2.1
        clear hf
        have hA0 := HA0.out
        subst hA0
        clear hsz hA1
        simp only [List.take_succ_cons, List.take_zero, List.drop_succ_cons, List.drop_zero, putAll, Act.put, List.setIfInBounds_toArray, List.set_cons_succ, List.set_cons_zero, Nat.zero_add, Nat.reduceAdd]
        clear HA0
        rw [f8]
        clear f8
        go_upto_region 5 with fail
        refine wp_at fun Y4 hY4 => ?_
        have hAY4 : Box 0 c.cells N Y4 := by
          rw [hY4]
          exact HA.out.ext (by repeat (first | exact Ext.refl _ | assumption | apply Ext.plus_ | apply Ext.alloc | apply Ext.drew))
        have hRY4 : Box 0 [.int .i64 0, .int .i64 0, .int .i64 0] M Y4 := by
          rw [hY4]
          exact HR.out.ext (by repeat (first | exact Ext.refl _ | assumption | apply Ext.plus_ | apply Ext.alloc | apply Ext.drew))
        have hEY4 : Ext w Y4 := by
          rw [hY4]
          exact HE.out.trans (by repeat (first | exact Ext.refl _ | assumption | apply Ext.plus_ | apply Ext.alloc | apply Ext.drew))
        clear hY4 HA HR HE
        have HA := Lib.hid hAY4
        have HR := Lib.hid hRY4
        have HE := Lib.hid hEY4
        clear hAY4 hRY4 hEY4
        clear x Y3
        refine act_at fun A0 hA0 => ?_
        have hsz : A0.tmps.size = 81 := by
          rw [hA0]
          rfl
        have hA1 : A0.tmps.getD 1 undef = .pointer (some ⟨N, 0, none⟩) := by
          rw [hA0]
          rfl
        have HA0 := Lib.hid hA0
        clear hA0
        apply wp_region_ext 11 [is (.pointer (some ⟨N, 8, none⟩)), is (.int .i64 c.st), is (.pointer (some ⟨N, 9, none⟩)), is (.int .i64 c.ca), is (.int .i64 (c.st + c.ca)), is (.pointer (some ⟨N, 3, none⟩)), is (.int .i64 c.ci), is (cv c), is (.int .i64 (upV c true)), is (.int .i64 (c.ci + (upV c true))), is (.int .i64 ((c.st + c.ca) * (c.ci + (upV c true))))] (by kernel_rfl) (by kernel_rfl) rfl
        case hops =>
          simp only [List.take_succ_cons, List.take_zero]
          with_reducible refine xOps_cons ?_ ?_
          · with_reducible refine xop_un ?_ ?_
            · rfl
            · intro vs x F hF hd
              have e1 : F.tmps.getD 1 undef = .pointer (some ⟨N, 0, none⟩) := (hF.a 1 (by kernel_rfl) (by rw [hsz]; rfl)).trans hA1
              clear hF hd
              simp only [comes]
              go_simp
              first | exact ⟨Ext.refl _, rfl⟩ | exact Ext.refl _
          with_reducible refine xOps_cons ?_ ?_
          · with_reducible refine xop_un ?_ ?_
            · rfl
            · intro vs x F hF hd
              have e1 : F.tmps.getD 36 undef = .pointer (some ⟨N, 8, none⟩) := (hF.v 36 0 (by kernel_rfl) (by rw [hsz]; rfl)).trans (dep_at hd 0 0 (is (.pointer (some ⟨N, 8, none⟩))) (by kernel_rfl) (by kernel_rfl))
              have c : Y4.cell? ⟨N, 8, none⟩ = some (.int .i64 c.st) := HA.out.cell 8 (by simp)
              clear hF hd
              simp only [comes]
              go_simp
              first | exact ⟨Ext.refl _, rfl⟩ | exact Ext.refl _
          with_reducible refine xOps_cons ?_ ?_
          · with_reducible refine xop_un ?_ ?_
            · rfl
            · intro vs x F hF hd
              have e1 : F.tmps.getD 1 undef = .pointer (some ⟨N, 0, none⟩) := (hF.a 1 (by kernel_rfl) (by rw [hsz]; rfl)).trans hA1
              clear hF hd
              simp only [comes]
              go_simp
              first | exact ⟨Ext.refl _, rfl⟩ | exact Ext.refl _
          with_reducible refine xOps_cons ?_ ?_
          · with_reducible refine xop_un ?_ ?_
            · rfl
            · intro vs x F hF hd
              have e1 : F.tmps.getD 38 undef = .pointer (some ⟨N, 9, none⟩) := (hF.v 38 2 (by kernel_rfl) (by rw [hsz]; rfl)).trans (dep_at hd 0 2 (is (.pointer (some ⟨N, 9, none⟩))) (by kernel_rfl) (by kernel_rfl))
              have c : Y4.cell? ⟨N, 9, none⟩ = some (.int .i64 c.ca) := HA.out.cell 9 (by simp)
              clear hF hd
              simp only [comes]
              go_simp
              first | exact ⟨Ext.refl _, rfl⟩ | exact Ext.refl _
          with_reducible refine xOps_cons ?_ ?_
          · with_reducible refine xop_un ?_ ?_
            · rfl
            · intro vs x F hF hd
              have e1 : F.tmps.getD 37 undef = .int .i64 c.st := (hF.v 37 1 (by kernel_rfl) (by rw [hsz]; rfl)).trans (dep_at hd 0 1 (is (.int .i64 c.st)) (by kernel_rfl) (by kernel_rfl))
              have e2 : F.tmps.getD 39 undef = .int .i64 c.ca := (hF.v 39 3 (by kernel_rfl) (by rw [hsz]; rfl)).trans (dep_at hd 1 3 (is (.int .i64 c.ca)) (by kernel_rfl) (by kernel_rfl))
              exact comes_add e1 e2 (Iv.wrap (Iv.add (HN.out.iv_st) (HN.out.iv_ca)) (by decide) (by decide))
          with_reducible refine xOps_cons ?_ ?_
          · with_reducible refine xop_un ?_ ?_
            · rfl
            · intro vs x F hF hd
              have e1 : F.tmps.getD 1 undef = .pointer (some ⟨N, 0, none⟩) := (hF.a 1 (by kernel_rfl) (by rw [hsz]; rfl)).trans hA1
              clear hF hd
              simp only [comes]
              go_simp
              first | exact ⟨Ext.refl _, rfl⟩ | exact Ext.refl _
          with_reducible refine xOps_cons ?_ ?_
          · with_reducible refine xop_un ?_ ?_
            · rfl
            · intro vs x F hF hd
              have e1 : F.tmps.getD 41 undef = .pointer (some ⟨N, 3, none⟩) := (hF.v 41 5 (by kernel_rfl) (by rw [hsz]; rfl)).trans (dep_at hd 0 5 (is (.pointer (some ⟨N, 3, none⟩))) (by kernel_rfl) (by kernel_rfl))
              have c : Y4.cell? ⟨N, 3, none⟩ = some (.int .i64 c.ci) := HA.out.cell 3 (by simp)
              clear hF hd
              simp only [comes]
              go_simp
              first | exact ⟨Ext.refl _, rfl⟩ | exact Ext.refl _
          with_reducible refine xOps_cons ?_ ?_
          · with_reducible refine xop_un ?_ ?_
            · rfl
            · intro vs x F hF hd
              have e1 : F.tmps.getD 1 undef = .pointer (some ⟨N, 0, none⟩) := (hF.a 1 (by kernel_rfl) (by rw [hsz]; rfl)).trans hA1
              exact comes_load_box 27 (.tmp 1) rfl (HA.out.ext (by repeat (first | exact Ext.refl _ | assumption | apply Ext.plus_ | apply Ext.alloc | apply Ext.drew))) e1 Try.underlying27 rfl (by kernel_rfl)
          with_reducible refine xOps_cons ?_ ?_
          · with_reducible refine xop_un ?_ ?_
            · rfl
            · intro vs x F hF hd
              have e43 : F.tmps.getD 43 undef = cv c := (hF.v 43 7 (by kernel_rfl) (by rw [hsz]; rfl)).trans (dep_at hd 0 7 (is (cv c)) (by kernel_rfl) (by kernel_rfl))
              clear hF hd
              simp only [comes]
              go_simp
              refine ((CU.out _ (HE.out.trans (by repeat (first | exact Ext.refl _ | assumption | apply Ext.plus_ | apply Ext.alloc | apply Ext.drew))))).mono ?_
              rintro e w' ⟨rfl, hE⟩
              first | exact ⟨_, rfl, hE, rfl⟩ | exact ⟨_, rfl, hE⟩ | exact ⟨rfl, hE⟩ | exact ⟨_, hE⟩ | exact hE
          with_reducible refine xOps_cons ?_ ?_
          · with_reducible refine xop_un ?_ ?_
            · rfl
            · intro vs x F hF hd
              have e1 : F.tmps.getD 42 undef = .int .i64 c.ci := (hF.v 42 6 (by kernel_rfl) (by rw [hsz]; rfl)).trans (dep_at hd 0 6 (is (.int .i64 c.ci)) (by kernel_rfl) (by kernel_rfl))
              have e2 : F.tmps.getD 44 undef = .int .i64 (upV c true) := (hF.v 44 8 (by kernel_rfl) (by rw [hsz]; rfl)).trans (dep_at hd 1 8 (is (.int .i64 (upV c true))) (by kernel_rfl) (by kernel_rfl))
              exact comes_add e1 e2 (Iv.wrap (Iv.add (HN.out.iv_ci) (HN.out.iv_up)) (by decide) (by decide))
          with_reducible refine xOps_cons ?_ ?_
          · with_reducible refine xop_un ?_ ?_
            · rfl
            · intro vs x F hF hd
              have e1 : F.tmps.getD 40 undef = .int .i64 (c.st + c.ca) := (hF.v 40 4 (by kernel_rfl) (by rw [hsz]; rfl)).trans (dep_at hd 0 4 (is (.int .i64 (c.st + c.ca))) (by kernel_rfl) (by kernel_rfl))
              have e2 : F.tmps.getD 45 undef = .int .i64 (c.ci + (upV c true)) := (hF.v 45 9 (by kernel_rfl) (by rw [hsz]; rfl)).trans (dep_at hd 1 9 (is (.int .i64 (c.ci + (upV c true)))) (by kernel_rfl) (by kernel_rfl))
              exact comes_mul e1 e2 (Iv.wrap (Iv.mul (by decide) (by decide) (Iv.add (HN.out.iv_st) (HN.out.iv_ca)) (Iv.add (HN.out.iv_ci) (HN.out.iv_up))) (by decide) (by decide))
          exact xOps_nil
        case hst => exact ⟨is.st _, is.st _, is.st _, is.st _, is.st _, is.st _, is.st _, is.st _, is.st _, is.st _, is.st _, trivial⟩
        case hfin =>
          intro vs x hf
          have f10 : vs 10 = .int .i64 ((c.st + c.ca) * (c.ci + (upV c true))) := hf.2.2.2.2.2.2.2.2.2.2.1
          clear hf
          have hA0 := HA0.out
          subst hA0
          clear hsz hA1
          simp only [List.take_succ_cons, List.take_zero, List.drop_succ_cons, List.drop_zero, putAll, Act.put, List.setIfInBounds_toArray, List.set_cons_succ, List.set_cons_zero, Nat.zero_add, Nat.reduceAdd]
          clear HA0
          rw [f10]
          clear f10
          go_upto_region 6 with fail
          refine wp_at fun Y5 hY5 => ?_
          have hAY5 : Box 0 c.cells N Y5 := by
            rw [hY5]
            exact HA.out.ext (by repeat (first | exact Ext.refl _ | assumption | apply Ext.plus_ | apply Ext.alloc | apply Ext.drew))
          have hRY5 : Box 0 [.int .i64 0, .int .i64 0, .int .i64 0] M Y5 := by
            rw [hY5]
            exact HR.out.ext (by repeat (first | exact Ext.refl _ | assumption | apply Ext.plus_ | apply Ext.alloc | apply Ext.drew))
          have hEY5 : Ext w Y5 := by
            rw [hY5]
            exact HE.out.trans (by repeat (first | exact Ext.refl _ | assumption | apply Ext.plus_ | apply Ext.alloc | apply Ext.drew))
          clear hY5 HA HR HE
          have HA := Lib.hid hAY5
          have HR := Lib.hid hRY5
          have HE := Lib.hid hEY5
          clear hAY5 hRY5 hEY5
          clear x Y4
          refine act_at fun A0 hA0 => ?_
          have hsz : A0.tmps.size = 81 := by
            rw [hA0]
            rfl
          have hA1 : A0.tmps.getD 1 undef = .pointer (some ⟨N, 0, none⟩) := by
            rw [hA0]
            rfl
          have hA3 : A0.tmps.getD 3 undef = .int .i64 ((c.cl + c.ad) * (((c.ci + (hardV c true)) + c.mb) + c.mr)) := by
            rw [hA0]
            rfl
          have hA4 : A0.tmps.getD 4 undef = .int .i64 (c.li * ((c.ci + 1000000) + c.mb)) := by
            rw [hA0]
            rfl
          have hA5 : A0.tmps.getD 5 undef = .int .i64 ((c.st + c.ca) * (c.ci + (upV c true))) := by
            rw [hA0]
            rfl
          have HA0 := Lib.hid hA0
          clear hA0
          apply wp_region_seq 34 [is (.pointer (some ⟨N, 5, none⟩)), is (.int .i64 c.cl), is (.pointer (some ⟨N, 6, none⟩)), is (.int .i64 c.ad), is (.int .i64 (c.cl + c.ad)), is (.pointer (some ⟨N, 7, none⟩)), is (.int .i64 c.li), is (.int .i64 ((c.cl + c.ad) + c.li)), is (.pointer (some ⟨N, 8, none⟩)), is (.int .i64 c.st), is (.int .i64 (((c.cl + c.ad) + c.li) + c.st)), is (.pointer (some ⟨N, 9, none⟩)), is (.int .i64 c.ca), is (.int .i64 ((((c.cl + c.ad) + c.li) + c.st) + c.ca)), is (.pointer (some ⟨N, 10, none⟩)), is (.int .i64 c.sh), is (.int .i64 (((((c.cl + c.ad) + c.li) + c.st) + c.ca) + c.sh)), is (.int .i64 ((c.cl + c.ad) * (((c.ci + (hardV c true)) + c.mb) + c.mr))), is (.int .i64 (c.li * ((c.ci + 1000000) + c.mb))), is (.int .i64 (((c.cl + c.ad) * (((c.ci + (hardV c true)) + c.mb) + c.mr)) + (c.li * ((c.ci + 1000000) + c.mb)))), is (.int .i64 ((c.st + c.ca) * (c.ci + (upV c true)))), is (.int .i64 ((((c.cl + c.ad) * (((c.ci + (hardV c true)) + c.mb) + c.mr)) + (c.li * ((c.ci + 1000000) + c.mb))) + ((c.st + c.ca) * (c.ci + (upV c true))))), is (.pointer (some ⟨N, 10, none⟩)), is (.int .i64 c.sh), is (.pointer (some ⟨N, 3, none⟩)), is (.int .i64 c.ci), is (.int .i64 (c.sh * c.ci)), is (.int .i64 (((((c.cl + c.ad) * (((c.ci + (hardV c true)) + c.mb) + c.mr)) + (c.li * ((c.ci + 1000000) + c.mb))) + ((c.st + c.ca) * (c.ci + (upV c true)))) + (c.sh * c.ci))), is (.pointer (some ⟨N, 11, none⟩)), is (.int .i64 c.te), is (.int .i64 ((((((c.cl + c.ad) * (((c.ci + (hardV c true)) + c.mb) + c.mr)) + (c.li * ((c.ci + 1000000) + c.mb))) + ((c.st + c.ca) * (c.ci + (upV c true)))) + (c.sh * c.ci)) + c.te)), is (.pointer (some ⟨N, 15, none⟩)), is (.int .i64 c.rp), is (bv c true)] (by kernel_rfl) (by kernel_rfl) rfl
          case hops =>
            simp only [List.take_succ_cons, List.take_zero]
            with_reducible refine xOps_cons ?_ ?_
            · with_reducible refine xop_un ?_ ?_
              · rfl
              · intro vs x F hF hd
                have e1 : F.tmps.getD 1 undef = .pointer (some ⟨N, 0, none⟩) := (hF.a 1 (by kernel_rfl) (by rw [hsz]; rfl)).trans hA1
                clear hF hd
                simp only [comes]
                go_simp
                first | exact ⟨Ext.refl _, rfl⟩ | exact Ext.refl _
            with_reducible refine xOps_cons ?_ ?_
            · with_reducible refine xop_un ?_ ?_
              · rfl
              · intro vs x F hF hd
                have e1 : F.tmps.getD 47 undef = .pointer (some ⟨N, 5, none⟩) := (hF.v 47 0 (by kernel_rfl) (by rw [hsz]; rfl)).trans (dep_at hd 0 0 (is (.pointer (some ⟨N, 5, none⟩))) (by kernel_rfl) (by kernel_rfl))
                have c : Y5.cell? ⟨N, 5, none⟩ = some (.int .i64 c.cl) := HA.out.cell 5 (by simp)
                clear hF hd
                simp only [comes]
                go_simp
                first | exact ⟨Ext.refl _, rfl⟩ | exact Ext.refl _
            with_reducible refine xOps_cons ?_ ?_
            · with_reducible refine xop_un ?_ ?_
              · rfl
              · intro vs x F hF hd
                have e1 : F.tmps.getD 1 undef = .pointer (some ⟨N, 0, none⟩) := (hF.a 1 (by kernel_rfl) (by rw [hsz]; rfl)).trans hA1
                clear hF hd
                simp only [comes]
                go_simp
                first | exact ⟨Ext.refl _, rfl⟩ | exact Ext.refl _
            with_reducible refine xOps_cons ?_ ?_
            · with_reducible refine xop_un ?_ ?_
              · rfl
              · intro vs x F hF hd
                have e1 : F.tmps.getD 49 undef = .pointer (some ⟨N, 6, none⟩) := (hF.v 49 2 (by kernel_rfl) (by rw [hsz]; rfl)).trans (dep_at hd 0 2 (is (.pointer (some ⟨N, 6, none⟩))) (by kernel_rfl) (by kernel_rfl))
                have c : Y5.cell? ⟨N, 6, none⟩ = some (.int .i64 c.ad) := HA.out.cell 6 (by simp)
                clear hF hd
                simp only [comes]
                go_simp
                first | exact ⟨Ext.refl _, rfl⟩ | exact Ext.refl _
            with_reducible refine xOps_cons ?_ ?_
            · with_reducible refine xop_un ?_ ?_
              · rfl
              · intro vs x F hF hd
                have e1 : F.tmps.getD 48 undef = .int .i64 c.cl := (hF.v 48 1 (by kernel_rfl) (by rw [hsz]; rfl)).trans (dep_at hd 0 1 (is (.int .i64 c.cl)) (by kernel_rfl) (by kernel_rfl))
                have e2 : F.tmps.getD 50 undef = .int .i64 c.ad := (hF.v 50 3 (by kernel_rfl) (by rw [hsz]; rfl)).trans (dep_at hd 1 3 (is (.int .i64 c.ad)) (by kernel_rfl) (by kernel_rfl))
                exact comes_add e1 e2 (Iv.wrap (Iv.add (HN.out.iv_cl) (HN.out.iv_ad)) (by decide) (by decide))
            with_reducible refine xOps_cons ?_ ?_
            · with_reducible refine xop_un ?_ ?_
              · rfl
              · intro vs x F hF hd
                have e1 : F.tmps.getD 1 undef = .pointer (some ⟨N, 0, none⟩) := (hF.a 1 (by kernel_rfl) (by rw [hsz]; rfl)).trans hA1
                clear hF hd
                simp only [comes]
                go_simp
                first | exact ⟨Ext.refl _, rfl⟩ | exact Ext.refl _
            with_reducible refine xOps_cons ?_ ?_
            · with_reducible refine xop_un ?_ ?_
              · rfl
              · intro vs x F hF hd
                have e1 : F.tmps.getD 52 undef = .pointer (some ⟨N, 7, none⟩) := (hF.v 52 5 (by kernel_rfl) (by rw [hsz]; rfl)).trans (dep_at hd 0 5 (is (.pointer (some ⟨N, 7, none⟩))) (by kernel_rfl) (by kernel_rfl))
                have c : Y5.cell? ⟨N, 7, none⟩ = some (.int .i64 c.li) := HA.out.cell 7 (by simp)
                clear hF hd
                simp only [comes]
                go_simp
                first | exact ⟨Ext.refl _, rfl⟩ | exact Ext.refl _
            with_reducible refine xOps_cons ?_ ?_
            · with_reducible refine xop_un ?_ ?_
              · rfl
              · intro vs x F hF hd
                have e1 : F.tmps.getD 51 undef = .int .i64 (c.cl + c.ad) := (hF.v 51 4 (by kernel_rfl) (by rw [hsz]; rfl)).trans (dep_at hd 0 4 (is (.int .i64 (c.cl + c.ad))) (by kernel_rfl) (by kernel_rfl))
                have e2 : F.tmps.getD 53 undef = .int .i64 c.li := (hF.v 53 6 (by kernel_rfl) (by rw [hsz]; rfl)).trans (dep_at hd 1 6 (is (.int .i64 c.li)) (by kernel_rfl) (by kernel_rfl))
                exact comes_add e1 e2 (Iv.wrap (Iv.add (Iv.add (HN.out.iv_cl) (HN.out.iv_ad)) (HN.out.iv_li)) (by decide) (by decide))
            with_reducible refine xOps_cons ?_ ?_
            · with_reducible refine xop_un ?_ ?_
              · rfl
              · intro vs x F hF hd
                have e1 : F.tmps.getD 1 undef = .pointer (some ⟨N, 0, none⟩) := (hF.a 1 (by kernel_rfl) (by rw [hsz]; rfl)).trans hA1
                clear hF hd
                simp only [comes]
                go_simp
                first | exact ⟨Ext.refl _, rfl⟩ | exact Ext.refl _
            with_reducible refine xOps_cons ?_ ?_
            · with_reducible refine xop_un ?_ ?_
              · rfl
              · intro vs x F hF hd
                have e1 : F.tmps.getD 55 undef = .pointer (some ⟨N, 8, none⟩) := (hF.v 55 8 (by kernel_rfl) (by rw [hsz]; rfl)).trans (dep_at hd 0 8 (is (.pointer (some ⟨N, 8, none⟩))) (by kernel_rfl) (by kernel_rfl))
                have c : Y5.cell? ⟨N, 8, none⟩ = some (.int .i64 c.st) := HA.out.cell 8 (by simp)
                clear hF hd
                simp only [comes]
                go_simp
                first | exact ⟨Ext.refl _, rfl⟩ | exact Ext.refl _
            with_reducible refine xOps_cons ?_ ?_
            · with_reducible refine xop_un ?_ ?_
              · rfl
              · intro vs x F hF hd
                have e1 : F.tmps.getD 54 undef = .int .i64 ((c.cl + c.ad) + c.li) := (hF.v 54 7 (by kernel_rfl) (by rw [hsz]; rfl)).trans (dep_at hd 0 7 (is (.int .i64 ((c.cl + c.ad) + c.li))) (by kernel_rfl) (by kernel_rfl))
                have e2 : F.tmps.getD 56 undef = .int .i64 c.st := (hF.v 56 9 (by kernel_rfl) (by rw [hsz]; rfl)).trans (dep_at hd 1 9 (is (.int .i64 c.st)) (by kernel_rfl) (by kernel_rfl))
                exact comes_add e1 e2 (Iv.wrap (Iv.add (Iv.add (Iv.add (HN.out.iv_cl) (HN.out.iv_ad)) (HN.out.iv_li)) (HN.out.iv_st)) (by decide) (by decide))
            with_reducible refine xOps_cons ?_ ?_
            · with_reducible refine xop_un ?_ ?_
              · rfl
              · intro vs x F hF hd
                have e1 : F.tmps.getD 1 undef = .pointer (some ⟨N, 0, none⟩) := (hF.a 1 (by kernel_rfl) (by rw [hsz]; rfl)).trans hA1
                clear hF hd
                simp only [comes]
                go_simp
                first | exact ⟨Ext.refl _, rfl⟩ | exact Ext.refl _
            with_reducible refine xOps_cons ?_ ?_
            · with_reducible refine xop_un ?_ ?_
              · rfl
              · intro vs x F hF hd
                have e1 : F.tmps.getD 58 undef = .pointer (some ⟨N, 9, none⟩) := (hF.v 58 11 (by kernel_rfl) (by rw [hsz]; rfl)).trans (dep_at hd 0 11 (is (.pointer (some ⟨N, 9, none⟩))) (by kernel_rfl) (by kernel_rfl))
                have c : Y5.cell? ⟨N, 9, none⟩ = some (.int .i64 c.ca) := HA.out.cell 9 (by simp)
                clear hF hd
                simp only [comes]
                go_simp
                first | exact ⟨Ext.refl _, rfl⟩ | exact Ext.refl _
            with_reducible refine xOps_cons ?_ ?_
            · with_reducible refine xop_un ?_ ?_
              · rfl
              · intro vs x F hF hd
                have e1 : F.tmps.getD 57 undef = .int .i64 (((c.cl + c.ad) + c.li) + c.st) := (hF.v 57 10 (by kernel_rfl) (by rw [hsz]; rfl)).trans (dep_at hd 0 10 (is (.int .i64 (((c.cl + c.ad) + c.li) + c.st))) (by kernel_rfl) (by kernel_rfl))
                have e2 : F.tmps.getD 59 undef = .int .i64 c.ca := (hF.v 59 12 (by kernel_rfl) (by rw [hsz]; rfl)).trans (dep_at hd 1 12 (is (.int .i64 c.ca)) (by kernel_rfl) (by kernel_rfl))
                exact comes_add e1 e2 (Iv.wrap (Iv.add (Iv.add (Iv.add (Iv.add (HN.out.iv_cl) (HN.out.iv_ad)) (HN.out.iv_li)) (HN.out.iv_st)) (HN.out.iv_ca)) (by decide) (by decide))
            with_reducible refine xOps_cons ?_ ?_
            · with_reducible refine xop_un ?_ ?_
              · rfl
              · intro vs x F hF hd
                have e1 : F.tmps.getD 1 undef = .pointer (some ⟨N, 0, none⟩) := (hF.a 1 (by kernel_rfl) (by rw [hsz]; rfl)).trans hA1
                clear hF hd
                simp only [comes]
                go_simp
                first | exact ⟨Ext.refl _, rfl⟩ | exact Ext.refl _
            with_reducible refine xOps_cons ?_ ?_
            · with_reducible refine xop_un ?_ ?_
              · rfl
              · intro vs x F hF hd
                have e1 : F.tmps.getD 61 undef = .pointer (some ⟨N, 10, none⟩) := (hF.v 61 14 (by kernel_rfl) (by rw [hsz]; rfl)).trans (dep_at hd 0 14 (is (.pointer (some ⟨N, 10, none⟩))) (by kernel_rfl) (by kernel_rfl))
                have c : Y5.cell? ⟨N, 10, none⟩ = some (.int .i64 c.sh) := HA.out.cell 10 (by simp)
                clear hF hd
                simp only [comes]
                go_simp
                first | exact ⟨Ext.refl _, rfl⟩ | exact Ext.refl _
            with_reducible refine xOps_cons ?_ ?_
            · with_reducible refine xop_un ?_ ?_
              · rfl
              · intro vs x F hF hd
                have e1 : F.tmps.getD 60 undef = .int .i64 ((((c.cl + c.ad) + c.li) + c.st) + c.ca) := (hF.v 60 13 (by kernel_rfl) (by rw [hsz]; rfl)).trans (dep_at hd 0 13 (is (.int .i64 ((((c.cl + c.ad) + c.li) + c.st) + c.ca))) (by kernel_rfl) (by kernel_rfl))
                have e2 : F.tmps.getD 62 undef = .int .i64 c.sh := (hF.v 62 15 (by kernel_rfl) (by rw [hsz]; rfl)).trans (dep_at hd 1 15 (is (.int .i64 c.sh)) (by kernel_rfl) (by kernel_rfl))
                exact comes_add e1 e2 (Iv.wrap (Iv.add (Iv.add (Iv.add (Iv.add (Iv.add (HN.out.iv_cl) (HN.out.iv_ad)) (HN.out.iv_li)) (HN.out.iv_st)) (HN.out.iv_ca)) (HN.out.iv_sh)) (by decide) (by decide))
            with_reducible refine xOps_cons ?_ ?_
            · with_reducible refine xop_un ?_ ?_
              · rfl
              · intro vs x F hF hd
                have e1 : F.tmps.getD 3 undef = .int .i64 ((c.cl + c.ad) * (((c.ci + (hardV c true)) + c.mb) + c.mr)) := (hF.a 3 (by kernel_rfl) (by rw [hsz]; rfl)).trans hA3
                clear hF hd
                simp only [comes]
                go_simp
                first | exact ⟨Ext.refl _, rfl⟩ | exact Ext.refl _
            with_reducible refine xOps_cons ?_ ?_
            · with_reducible refine xop_un ?_ ?_
              · rfl
              · intro vs x F hF hd
                have e1 : F.tmps.getD 4 undef = .int .i64 (c.li * ((c.ci + 1000000) + c.mb)) := (hF.a 4 (by kernel_rfl) (by rw [hsz]; rfl)).trans hA4
                clear hF hd
                simp only [comes]
                go_simp
                first | exact ⟨Ext.refl _, rfl⟩ | exact Ext.refl _
            with_reducible refine xOps_cons ?_ ?_
            · with_reducible refine xop_un ?_ ?_
              · rfl
              · intro vs x F hF hd
                have e1 : F.tmps.getD 64 undef = .int .i64 ((c.cl + c.ad) * (((c.ci + (hardV c true)) + c.mb) + c.mr)) := (hF.v 64 17 (by kernel_rfl) (by rw [hsz]; rfl)).trans (dep_at hd 0 17 (is (.int .i64 ((c.cl + c.ad) * (((c.ci + (hardV c true)) + c.mb) + c.mr)))) (by kernel_rfl) (by kernel_rfl))
                have e2 : F.tmps.getD 65 undef = .int .i64 (c.li * ((c.ci + 1000000) + c.mb)) := (hF.v 65 18 (by kernel_rfl) (by rw [hsz]; rfl)).trans (dep_at hd 1 18 (is (.int .i64 (c.li * ((c.ci + 1000000) + c.mb)))) (by kernel_rfl) (by kernel_rfl))
                exact comes_add e1 e2 (Iv.wrap (Iv.add (Iv.mul (by decide) (by decide) (Iv.add (HN.out.iv_cl) (HN.out.iv_ad)) (Iv.add (Iv.add (Iv.add (HN.out.iv_ci) (HN.out.iv_hard)) (HN.out.iv_mb)) (HN.out.iv_mr))) (Iv.mul (by decide) (by decide) (HN.out.iv_li) (Iv.add (Iv.add (HN.out.iv_ci) (Iv.con (1000000))) (HN.out.iv_mb)))) (by decide) (by decide))
            with_reducible refine xOps_cons ?_ ?_
            · with_reducible refine xop_un ?_ ?_
              · rfl
              · intro vs x F hF hd
                have e1 : F.tmps.getD 5 undef = .int .i64 ((c.st + c.ca) * (c.ci + (upV c true))) := (hF.a 5 (by kernel_rfl) (by rw [hsz]; rfl)).trans hA5
                clear hF hd
                simp only [comes]
                go_simp
                first | exact ⟨Ext.refl _, rfl⟩ | exact Ext.refl _
            with_reducible refine xOps_cons ?_ ?_
            · with_reducible refine xop_un ?_ ?_
              · rfl
              · intro vs x F hF hd
                have e1 : F.tmps.getD 66 undef = .int .i64 (((c.cl + c.ad) * (((c.ci + (hardV c true)) + c.mb) + c.mr)) + (c.li * ((c.ci + 1000000) + c.mb))) := (hF.v 66 19 (by kernel_rfl) (by rw [hsz]; rfl)).trans (dep_at hd 0 19 (is (.int .i64 (((c.cl + c.ad) * (((c.ci + (hardV c true)) + c.mb) + c.mr)) + (c.li * ((c.ci + 1000000) + c.mb))))) (by kernel_rfl) (by kernel_rfl))
                have e2 : F.tmps.getD 67 undef = .int .i64 ((c.st + c.ca) * (c.ci + (upV c true))) := (hF.v 67 20 (by kernel_rfl) (by rw [hsz]; rfl)).trans (dep_at hd 1 20 (is (.int .i64 ((c.st + c.ca) * (c.ci + (upV c true))))) (by kernel_rfl) (by kernel_rfl))
                exact comes_add e1 e2 (Iv.wrap (Iv.add (Iv.add (Iv.mul (by decide) (by decide) (Iv.add (HN.out.iv_cl) (HN.out.iv_ad)) (Iv.add (Iv.add (Iv.add (HN.out.iv_ci) (HN.out.iv_hard)) (HN.out.iv_mb)) (HN.out.iv_mr))) (Iv.mul (by decide) (by decide) (HN.out.iv_li) (Iv.add (Iv.add (HN.out.iv_ci) (Iv.con (1000000))) (HN.out.iv_mb)))) (Iv.mul (by decide) (by decide) (Iv.add (HN.out.iv_st) (HN.out.iv_ca)) (Iv.add (HN.out.iv_ci) (HN.out.iv_up)))) (by decide) (by decide))
            with_reducible refine xOps_cons ?_ ?_
            · with_reducible refine xop_un ?_ ?_
              · rfl
              · intro vs x F hF hd
                have e1 : F.tmps.getD 1 undef = .pointer (some ⟨N, 0, none⟩) := (hF.a 1 (by kernel_rfl) (by rw [hsz]; rfl)).trans hA1
                clear hF hd
                simp only [comes]
                go_simp
                first | exact ⟨Ext.refl _, rfl⟩ | exact Ext.refl _
            with_reducible refine xOps_cons ?_ ?_
            · with_reducible refine xop_un ?_ ?_
              · rfl
              · intro vs x F hF hd
                have e1 : F.tmps.getD 69 undef = .pointer (some ⟨N, 10, none⟩) := (hF.v 69 22 (by kernel_rfl) (by rw [hsz]; rfl)).trans (dep_at hd 0 22 (is (.pointer (some ⟨N, 10, none⟩))) (by kernel_rfl) (by kernel_rfl))
                have c : Y5.cell? ⟨N, 10, none⟩ = some (.int .i64 c.sh) := HA.out.cell 10 (by simp)
                clear hF hd
                simp only [comes]
                go_simp
                first | exact ⟨Ext.refl _, rfl⟩ | exact Ext.refl _
            with_reducible refine xOps_cons ?_ ?_
            · with_reducible refine xop_un ?_ ?_
              · rfl
              · intro vs x F hF hd
                have e1 : F.tmps.getD 1 undef = .pointer (some ⟨N, 0, none⟩) := (hF.a 1 (by kernel_rfl) (by rw [hsz]; rfl)).trans hA1
                clear hF hd
                simp only [comes]
                go_simp
                first | exact ⟨Ext.refl _, rfl⟩ | exact Ext.refl _
            with_reducible refine xOps_cons ?_ ?_
            · with_reducible refine xop_un ?_ ?_
              · rfl
              · intro vs x F hF hd
                have e1 : F.tmps.getD 71 undef = .pointer (some ⟨N, 3, none⟩) := (hF.v 71 24 (by kernel_rfl) (by rw [hsz]; rfl)).trans (dep_at hd 0 24 (is (.pointer (some ⟨N, 3, none⟩))) (by kernel_rfl) (by kernel_rfl))
                have c : Y5.cell? ⟨N, 3, none⟩ = some (.int .i64 c.ci) := HA.out.cell 3 (by simp)
                clear hF hd
                simp only [comes]
                go_simp
                first | exact ⟨Ext.refl _, rfl⟩ | exact Ext.refl _
            with_reducible refine xOps_cons ?_ ?_
            · with_reducible refine xop_un ?_ ?_
              · rfl
              · intro vs x F hF hd
                have e1 : F.tmps.getD 70 undef = .int .i64 c.sh := (hF.v 70 23 (by kernel_rfl) (by rw [hsz]; rfl)).trans (dep_at hd 0 23 (is (.int .i64 c.sh)) (by kernel_rfl) (by kernel_rfl))
                have e2 : F.tmps.getD 72 undef = .int .i64 c.ci := (hF.v 72 25 (by kernel_rfl) (by rw [hsz]; rfl)).trans (dep_at hd 1 25 (is (.int .i64 c.ci)) (by kernel_rfl) (by kernel_rfl))
                exact comes_mul e1 e2 (Iv.wrap (Iv.mul (by decide) (by decide) (HN.out.iv_sh) (HN.out.iv_ci)) (by decide) (by decide))
            with_reducible refine xOps_cons ?_ ?_
            · with_reducible refine xop_un ?_ ?_
              · rfl
              · intro vs x F hF hd
                have e1 : F.tmps.getD 68 undef = .int .i64 ((((c.cl + c.ad) * (((c.ci + (hardV c true)) + c.mb) + c.mr)) + (c.li * ((c.ci + 1000000) + c.mb))) + ((c.st + c.ca) * (c.ci + (upV c true)))) := (hF.v 68 21 (by kernel_rfl) (by rw [hsz]; rfl)).trans (dep_at hd 0 21 (is (.int .i64 ((((c.cl + c.ad) * (((c.ci + (hardV c true)) + c.mb) + c.mr)) + (c.li * ((c.ci + 1000000) + c.mb))) + ((c.st + c.ca) * (c.ci + (upV c true)))))) (by kernel_rfl) (by kernel_rfl))
                have e2 : F.tmps.getD 73 undef = .int .i64 (c.sh * c.ci) := (hF.v 73 26 (by kernel_rfl) (by rw [hsz]; rfl)).trans (dep_at hd 1 26 (is (.int .i64 (c.sh * c.ci))) (by kernel_rfl) (by kernel_rfl))
                exact comes_add e1 e2 (Iv.wrap (Iv.add (Iv.add (Iv.add (Iv.mul (by decide) (by decide) (Iv.add (HN.out.iv_cl) (HN.out.iv_ad)) (Iv.add (Iv.add (Iv.add (HN.out.iv_ci) (HN.out.iv_hard)) (HN.out.iv_mb)) (HN.out.iv_mr))) (Iv.mul (by decide) (by decide) (HN.out.iv_li) (Iv.add (Iv.add (HN.out.iv_ci) (Iv.con (1000000))) (HN.out.iv_mb)))) (Iv.mul (by decide) (by decide) (Iv.add (HN.out.iv_st) (HN.out.iv_ca)) (Iv.add (HN.out.iv_ci) (HN.out.iv_up)))) (Iv.mul (by decide) (by decide) (HN.out.iv_sh) (HN.out.iv_ci))) (by decide) (by decide))
            with_reducible refine xOps_cons ?_ ?_
            · with_reducible refine xop_un ?_ ?_
              · rfl
              · intro vs x F hF hd
                have e1 : F.tmps.getD 1 undef = .pointer (some ⟨N, 0, none⟩) := (hF.a 1 (by kernel_rfl) (by rw [hsz]; rfl)).trans hA1
                clear hF hd
                simp only [comes]
                go_simp
                first | exact ⟨Ext.refl _, rfl⟩ | exact Ext.refl _
            with_reducible refine xOps_cons ?_ ?_
            · with_reducible refine xop_un ?_ ?_
              · rfl
              · intro vs x F hF hd
                have e1 : F.tmps.getD 75 undef = .pointer (some ⟨N, 11, none⟩) := (hF.v 75 28 (by kernel_rfl) (by rw [hsz]; rfl)).trans (dep_at hd 0 28 (is (.pointer (some ⟨N, 11, none⟩))) (by kernel_rfl) (by kernel_rfl))
                have c : Y5.cell? ⟨N, 11, none⟩ = some (.int .i64 c.te) := HA.out.cell 11 (by simp)
                clear hF hd
                simp only [comes]
                go_simp
                first | exact ⟨Ext.refl _, rfl⟩ | exact Ext.refl _
            with_reducible refine xOps_cons ?_ ?_
            · with_reducible refine xop_un ?_ ?_
              · rfl
              · intro vs x F hF hd
                have e1 : F.tmps.getD 74 undef = .int .i64 (((((c.cl + c.ad) * (((c.ci + (hardV c true)) + c.mb) + c.mr)) + (c.li * ((c.ci + 1000000) + c.mb))) + ((c.st + c.ca) * (c.ci + (upV c true)))) + (c.sh * c.ci)) := (hF.v 74 27 (by kernel_rfl) (by rw [hsz]; rfl)).trans (dep_at hd 0 27 (is (.int .i64 (((((c.cl + c.ad) * (((c.ci + (hardV c true)) + c.mb) + c.mr)) + (c.li * ((c.ci + 1000000) + c.mb))) + ((c.st + c.ca) * (c.ci + (upV c true)))) + (c.sh * c.ci)))) (by kernel_rfl) (by kernel_rfl))
                have e2 : F.tmps.getD 76 undef = .int .i64 c.te := (hF.v 76 29 (by kernel_rfl) (by rw [hsz]; rfl)).trans (dep_at hd 1 29 (is (.int .i64 c.te)) (by kernel_rfl) (by kernel_rfl))
                exact comes_add e1 e2 (Iv.wrap (Iv.add (Iv.add (Iv.add (Iv.add (Iv.mul (by decide) (by decide) (Iv.add (HN.out.iv_cl) (HN.out.iv_ad)) (Iv.add (Iv.add (Iv.add (HN.out.iv_ci) (HN.out.iv_hard)) (HN.out.iv_mb)) (HN.out.iv_mr))) (Iv.mul (by decide) (by decide) (HN.out.iv_li) (Iv.add (Iv.add (HN.out.iv_ci) (Iv.con (1000000))) (HN.out.iv_mb)))) (Iv.mul (by decide) (by decide) (Iv.add (HN.out.iv_st) (HN.out.iv_ca)) (Iv.add (HN.out.iv_ci) (HN.out.iv_up)))) (Iv.mul (by decide) (by decide) (HN.out.iv_sh) (HN.out.iv_ci))) (HN.out.iv_te)) (by decide) (by decide))
            with_reducible refine xOps_cons ?_ ?_
            · with_reducible refine xop_un ?_ ?_
              · rfl
              · intro vs x F hF hd
                have e1 : F.tmps.getD 1 undef = .pointer (some ⟨N, 0, none⟩) := (hF.a 1 (by kernel_rfl) (by rw [hsz]; rfl)).trans hA1
                clear hF hd
                simp only [comes]
                go_simp
                first | exact ⟨Ext.refl _, rfl⟩ | exact Ext.refl _
            with_reducible refine xOps_cons ?_ ?_
            · with_reducible refine xop_un ?_ ?_
              · rfl
              · intro vs x F hF hd
                have e1 : F.tmps.getD 78 undef = .pointer (some ⟨N, 15, none⟩) := (hF.v 78 31 (by kernel_rfl) (by rw [hsz]; rfl)).trans (dep_at hd 0 31 (is (.pointer (some ⟨N, 15, none⟩))) (by kernel_rfl) (by kernel_rfl))
                have c : Y5.cell? ⟨N, 15, none⟩ = some (.int .i64 c.rp) := HA.out.cell 15 (by simp)
                clear hF hd
                simp only [comes]
                go_simp
                first | exact ⟨Ext.refl _, rfl⟩ | exact Ext.refl _
            with_reducible refine xOps_cons ?_ ?_
            · with_reducible refine xop_un ?_ ?_
              · rfl
              · intro vs x F hF hd
                have e63 : F.tmps.getD 63 undef = .int .i64 (((((c.cl + c.ad) + c.li) + c.st) + c.ca) + c.sh) := (hF.v 63 16 (by kernel_rfl) (by rw [hsz]; rfl)).trans (dep_at hd 0 16 (is (.int .i64 (((((c.cl + c.ad) + c.li) + c.st) + c.ca) + c.sh))) (by kernel_rfl) (by kernel_rfl))
                have e77 : F.tmps.getD 77 undef = .int .i64 ((((((c.cl + c.ad) * (((c.ci + (hardV c true)) + c.mb) + c.mr)) + (c.li * ((c.ci + 1000000) + c.mb))) + ((c.st + c.ca) * (c.ci + (upV c true)))) + (c.sh * c.ci)) + c.te) := (hF.v 77 30 (by kernel_rfl) (by rw [hsz]; rfl)).trans (dep_at hd 1 30 (is (.int .i64 ((((((c.cl + c.ad) * (((c.ci + (hardV c true)) + c.mb) + c.mr)) + (c.li * ((c.ci + 1000000) + c.mb))) + ((c.st + c.ca) * (c.ci + (upV c true)))) + (c.sh * c.ci)) + c.te))) (by kernel_rfl) (by kernel_rfl))
                have e79 : F.tmps.getD 79 undef = .int .i64 c.rp := (hF.v 79 32 (by kernel_rfl) (by rw [hsz]; rfl)).trans (dep_at hd 2 32 (is (.int .i64 c.rp)) (by kernel_rfl) (by kernel_rfl))
                rw [Array.getD_eq_getD_getElem?] at e63 e77 e79
                clear hF hd
                simp only [comes]
                go_simp
                first | exact ⟨Ext.refl _, rfl⟩ | exact Ext.refl _
            exact xOps_nil
          case hst => exact ⟨is.st _, is.st _, is.st _, is.st _, is.st _, is.st _, is.st _, is.st _, is.st _, is.st _, is.st _, is.st _, is.st _, is.st _, is.st _, is.st _, is.st _, is.st _, is.st _, is.st _, is.st _, is.st _, is.st _, is.st _, is.st _, is.st _, is.st _, is.st _, is.st _, is.st _, is.st _, is.st _, is.st _, is.st _, trivial⟩
          case hfin =>
            intro vs x hf
            have f33 : vs 33 = bv c true := hf.2.2.2.2.2.2.2.2.2.2.2.2.2.2.2.2.2.2.2.2.2.2.2.2.2.2.2.2.2.2.2.2.2.1
            clear hf
            have hA0 := HA0.out
            subst hA0
            clear hsz hA1 hA3 hA4 hA5
            simp only [List.take_succ_cons, List.take_zero, List.drop_succ_cons, List.drop_zero, putAll, Act.put, List.setIfInBounds_toArray, List.set_cons_succ, List.set_cons_zero, Nat.zero_add, Nat.reduceAdd]
            clear HA0
            rw [f33]
            clear f33
            refine wl_at fun Z hZ => ?_
            have hRZ : Box 0 [.int .i64 0, .int .i64 0, .int .i64 0] M Z := by
              rw [hZ]
              exact HR.out.ext (by repeat (first | exact Ext.refl _ | assumption | apply Ext.plus_ | apply Ext.alloc | apply Ext.drew))
            have hEZ : Ext w Z := by
              rw [hZ]
              exact HE.out.trans (by repeat (first | exact Ext.refl _ | assumption | apply Ext.plus_ | apply Ext.alloc | apply Ext.drew))
            clear hZ HR HE
            refine wl_store rfl 40 (.tmp 2) (.tmp 80) rfl hRZ [.int .i64 (conV c true), .int .i64 (bytV c true), .int .i64 (recV c true)] rfl rfl rfl (by kernel_rfl) rfl fun W hW hx => ?_
            have HX := Lib.hid (hx.ext _ hEZ HW.out.1)
            have HR := Lib.hid hW
            clear hW hx hRZ hEZ HW
            go_wp2
            refine bodyPost_ret (results_cell Try.results15 HR.out rfl Try.underlying40 rfl (by kernel_rfl)) rfl ?_
            exact ⟨rfl, HX.out⟩
end Go.Proofs.Ytlcopiepcpangaa
