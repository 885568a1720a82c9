/- PortUse: the walk. -/
import Derived.Test.YtphbmibgnnobcaaPortM
import Derived.Test.YtphbmibgnnobcaaPortU
import Derived.Test.YtphbmibgnnobcaaQueueA
set_option linter.unusedVariables false
namespace Go.Proofs.Ytphbmibgnnobcaa
open Go.RowKit Go.Rg

theorem short_any (A : Option Addr) (n c : Nat) (m : Nat) (w : World) (hc : n ≤ c) (hcm : c ≤ 9223372036854775807) (hm : m ≤ 1000) :
    Calls Try.prog 22 #[.slice A n c, .int .i64 (m : Nat)] w fun e w' => e = .returned (.slice A (min n m) c) ∧ w = w' := by
  rcases Nat.lt_or_ge m n with h | h
  · rw [show min n m = m by omega]
    have h1 : (m : Int) ≤ (c : Int) := by omega
    have h2 : (m : Int) < (n : Int) := by omega
    go_enter Try.func22, Try.ntmps22
    go_wp2
    go_ret
    exact ⟨rfl, rfl⟩
  · rw [show min n m = n by omega]
    go_enter Try.func22, Try.ntmps22
    go_wp2
    go_ret
    exact ⟨rfl, rfl⟩
theorem RB.take {w : World} {A : Option Addr} {n c : Nat} {l : List Int} (h : RB w A n c l) (m : Nat) (hm : m ≤ n) : RB w A m c (l.take m) := by
  refine ⟨?_, by have := h.le; omega, h.most, fun e => ?_⟩
  · have := h.row.take m hm
    simpa using this
  · have := h.nil e
    omega
/-- A port in a box of the call's own. -/
structure PX (Q : Nat) (id cl ic : Int) (A : Option Addr) (n c : Nat) (l : List Int) (oc : Int) (B : Option Addr) (m d : Nat) (k : List Int) (bu : Int) (en cg : Bool) (W : World) : Prop where
  box : Box 0 [.int .i64 id, .int .i64 cl, .int .i64 ic, .slice A n c, .int .i64 oc, .slice B m d, .int .i64 bu, .bool en, .bool cg] Q W
  ra : RB W A n c l
  rb : RB W B m d k
theorem PX.ext {Q : Nat} {id cl ic : Int} {A : Option Addr} {n c : Nat} {l : List Int} {oc : Int} {B : Option Addr} {m d : Nat} {k : List Int} {bu : Int} {en cg : Bool} {W W' : World} (h : PX Q id cl ic A n c l oc B m d k bu en cg W) (e : Ext W W') : PX Q id cl ic A n c l oc B m d k bu en cg W' := ⟨h.box.ext e, h.ra.lift e, h.rb.lift e⟩
def UsRel (Y : World) (s3 s4 : Value) (wx : World) : Prop :=
  ∃ (V : Option Addr) (vn vc : Nat) (bl : List Int) (g : Int), s3 = .slice V vn vc ∧ s4 = .int .i64 g ∧ vn ≤ 140737488355328 ∧ Hid (RB wx V vn vc bl) ∧ Hid (Ext Y wx)
set_option maxRecDepth 100000 in
set_option maxHeartbeats 8000000 in
theorem puse_go (A : Option Addr) (n c : Nat) (l : List Int) (inn out : Int) (V : Option Addr) (vn vc : Nat) (bl : List Int) (g : Int) (en cg raw : Bool) (w : World) (hr : Row w w.heap.size 1 A n (ints l)) (hn : n ≤ 9223372036854775807) (hc : n ≤ c)
    (hV : RB w V vn vc bl) (hv : vn ≤ 140737488355328) :
    Calls Try.prog 5 #[.slice A n c, .int .i64 inn, .int .i64 out, .slice V vn vc, .int .i64 g, .bool en, .bool cg, .bool raw] w fun e w' => e = .returned (.bool true) ∧ Ext w w' := by
  have HV := Lib.hid hV
  have C := Lib.hid (fun W (h : Ext w W) => made_go A n c l inn out W (hr.lift h) hn hc)
  obtain ⟨ic, hic⟩ : ∃ z, z = inn % 20 := ⟨_, rfl⟩
  obtain ⟨oc, hoc⟩ : ∃ z, z = out % 20 := ⟨_, rfl⟩
  rw [← hic, ← hoc] at C
  clear hic hoc hV hr hn hc
  go_enter Try.func5, Try.ntmps5
  go_wp2_with fail
  refine calls_at fun W hW => ?_
  have hE : Ext w W := by
    rw [hW]
    repeat' (first | with_reducible assumption | with_reducible exact Ext.refl _ | with_reducible apply Ext.alloc | with_reducible apply Ext.drew | with_reducible apply Ext.drewN | with_reducible apply Ext.plus_ | with_reducible refine Ext.put ?_ (by omega))
  clear hW
  refine (C.out W hE).mono ?_
  clear C
  rintro e X ⟨v, lp, kp, bu, rfl, ⟨A1, n1, c1, B1, m1, d1, rfl, h1, h2⟩, hl, hk, hb0, hb1, hEX⟩
  have hn1 : n1 ≤ 1000 := by
    have := h1.len
    omega
  have hm1 : m1 ≤ 1000 := by
    have := h2.len
    omega
  have H := Lib.hid (And.intro (hE.trans hEX) (And.intro h1 h2))
  clear hE hEX h1 h2 hl hk
  go_upto_if 41 with fail
  refine wp_at fun Y hY => ?_
  obtain ⟨hE, h1, h2⟩ := H.out
  obtain ⟨P, hP⟩ : ∃ N, N = X.heap.size := ⟨_, rfl⟩
  have hXY : Ext X Y := by
    rw [hY]
    repeat' (first | with_reducible assumption | with_reducible exact Ext.refl _ | with_reducible apply Ext.alloc | with_reducible apply Ext.drew | with_reducible apply Ext.drewN | with_reducible apply Ext.plus_ | with_reducible refine Ext.put ?_ (by omega))
  have hB : Box 0 [.int .i64 7, .int .i64 1, .int .i64 ic, .slice A1 n1 c1, .int .i64 oc, .slice B1 m1 d1, .int .i64 bu, .bool en, .bool cg] P Y := by
    rw [hY]
    repeat' (first | with_reducible assumption | ((with_reducible refine Box.fresh ?fb ?fn ?fr); (case fb => first | omega | (simp <;> omega)); (case fn => first | omega | (simp <;> omega)); (case fr => rfl)) | with_reducible apply Box.up | with_reducible apply Box.drew_ | with_reducible apply Box.drewN_ | with_reducible apply Box.plus_ | with_reducible apply Box.put | with_reducible refine Box.off ?_ (by omega))
    all_goals first | rfl | (simp; done)
  have HP0 := Lib.hid (PX.mk hB (h1.lift hXY) (h2.lift hXY))
  have HE0 := Lib.hid (hE.trans hXY)
  have HV0 := Lib.hid (HV.out.lift HE0.out)
  rw [← hP]
  clear hY hP H hE h1 h2 hXY hB HV
  go_cut [3, 4] from 42 to 46 (fun s3 s4 wx => UsRel Y s3 s4 wx)
  case first =>
    cases raw
    · have CW := Lib.hid (fun w => within_any g 30 w (by decide) (by decide))
      obtain ⟨z, hz⟩ : ∃ z, z = g % 30 := ⟨_, rfl⟩
      have hz1 : 0 ≤ z := by omega
      have hz2 : z < 30 := by omega
      rw [← hz] at CW
      clear hz
      have CS := Lib.hid (fun w => short_any V vn vc 25 w HV0.out.le HV0.out.most (by decide))
      obtain ⟨q, hq⟩ : ∃ q, q = min vn 25 := ⟨_, rfl⟩
      have hq1 : q ≤ vn := by omega
      have hq2 : q ≤ 25 := by omega
      rw [← hq] at CS
      clear hq
      go_wp2_with fail
      refine (CW.out _).mono ?_
      rintro e w' ⟨rfl, rfl⟩
      go_wp2_with fail
      refine (CS.out _).mono ?_
      rintro e w' ⟨rfl, rfl⟩
      go_wp2_with fail
      go_meet
      case rel =>
        refine ⟨V, q, vc, bl.take q, z - 2, rfl, rfl, by omega, Lib.hid ((HV0.out.take q hq1).lift ?_), Lib.hid ?_⟩
        · repeat' (first | with_reducible assumption | with_reducible exact Ext.refl _ | with_reducible apply Ext.alloc | with_reducible apply Ext.drew | with_reducible apply Ext.drewN | with_reducible apply Ext.plus_ | with_reducible refine Ext.put ?_ (by omega))
        · repeat' (first | with_reducible assumption | with_reducible exact Ext.refl _ | with_reducible apply Ext.alloc | with_reducible apply Ext.drew | with_reducible apply Ext.drewN | with_reducible apply Ext.plus_ | with_reducible refine Ext.put ?_ (by omega))
    · go_wp2_with fail
      go_meet
      case rel =>
        refine ⟨V, vn, vc, bl, g, rfl, rfl, hv, Lib.hid (HV0.out.lift ?_), Lib.hid ?_⟩
        · repeat' (first | with_reducible assumption | with_reducible exact Ext.refl _ | with_reducible apply Ext.alloc | with_reducible apply Ext.drew | with_reducible apply Ext.drewN | with_reducible apply Ext.plus_ | with_reducible refine Ext.put ?_ (by omega))
        · repeat' (first | with_reducible assumption | with_reducible exact Ext.refl _ | with_reducible apply Ext.alloc | with_reducible apply Ext.drew | with_reducible apply Ext.drewN | with_reducible apply Ext.plus_ | with_reducible refine Ext.put ?_ (by omega))
  case rest =>
  clear HV0 hv
  obtain ⟨V2, vn2, vc2, bl2, g2, rfl, rfl, hv, HV, hE⟩ := hcut
  have HP := Lib.hid (HP0.out.ext hE.out)
  have HE := Lib.hid (HE0.out.trans hE.out)
  clear HP0 HE0 hE
  obtain ⟨L1, qi, CO1, CO2⟩ := offs_both (Y := wc) (id := 7) (cl := 1) (ic := ic) (oc := oc) (bu := bu) (en := en) (cg := cg) HP.out.ra hn1 HP.out.rb hm1 HV.out hv
  obtain ⟨i3, c3, q3, L3, o3, K3, b3, e3, g3, x3, er, CP1, CP2⟩ := puts_both (Y := wc) (id := 7) (cl := 1) (ic := ic) (oc := oc) (bu := bu) (en := en) (cg := cg) HP.out.ra hn1 HP.out.rb hm1 HV.out hv hb0 hb1
  obtain ⟨K4, b4, x4, CG1, CG2⟩ := grts_both (Y := wc) (id := 7) (cl := 1) (ic := ic) (oc := oc) (bu := bu) (en := en) (cg := cg) g2 HP.out.ra hn1 HP.out.rb hm1
  obtain ⟨L5, CE1, CE2⟩ := eats_both (Y := wc) (id := 7) (cl := 1) (ic := ic) (oc := oc) (bu := bu) (en := en) (cg := cg) g2 HP.out.ra hn1 HP.out.rb hm1
  have CR1 := fun W => proom_any 7 1 ic A1 n1 c1 oc B1 m1 d1 bu en cg W (by omega) hb0 hb1
  have CR2 := fun W => refProom_any 7 1 ic A1 n1 c1 oc B1 m1 d1 bu en cg W (by omega) hb0 hb1
  obtain ⟨rm, hrm⟩ : ∃ z, z = prm oc m1 bu := ⟨_, rfl⟩
  rw [← hrm] at CR1 CR2
  clear hrm
  have KO1 := Lib.hid CO1
  have KO2 := Lib.hid CO2
  have KP1 := Lib.hid CP1
  have KP2 := Lib.hid CP2
  have KG1 := Lib.hid CG1
  have KG2 := Lib.hid CG2
  have KE1 := Lib.hid CE1
  have KE2 := Lib.hid CE2
  have KR1 := Lib.hid CR1
  have KR2 := Lib.hid CR2
  clear CO1 CO2 CP1 CP2 CG1 CG2 CE1 CE2 CR1 CR2 hb0 hb1 hn1 hm1 hv HV
  have HZ := Lib.hid (Ext.refl wc)
  have hb := HP.out.box
  have p0 := hb.cell 0 (by simp)
  have p1 := hb.cell 1 (by simp)
  have p2 := hb.cell 2 (by simp)
  have p3 := hb.cell 3 (by simp)
  have p4 := hb.cell 4 (by simp)
  have p5 := hb.cell 5 (by simp)
  have p6 := hb.cell 6 (by simp)
  have p7 := hb.cell 7 (by simp)
  have p8 := hb.cell 8 (by simp)
  simp only [List.getElem?_cons_zero, List.getElem?_cons_succ] at p0 p1 p2 p3 p4 p5 p6 p7 p8
  have pF := hb.free
  have pL := hb.lt
  have pB := hb.base
  clear hb
  go_wp2_with fail
  clear p0 p1 p2 p3 p4 p5 p6 p7 p8 pF pL pB
  refine calls_at fun W1 hW => ?_
  have hE1 : Ext wc W1 := by
    rw [hW]
    repeat' (first | with_reducible assumption | with_reducible exact Ext.refl _ | with_reducible apply Ext.alloc | with_reducible apply Ext.drew | with_reducible apply Ext.drewN | with_reducible apply Ext.plus_ | with_reducible refine Ext.put ?_ (by omega))
  clear hW
  replace HP := Lib.hid (HP.out.ext hE1)
  replace HZ := Lib.hid (HZ.out.trans hE1)
  clear hE1
  refine (KO1.out W1 HZ.out).mono ?_
  rintro e X1 ⟨Aa, na, ca, Ba, ma, da, rfl, h1, h2, hE2⟩
  replace HP := Lib.hid (HP.out.ext hE2)
  replace HZ := Lib.hid (HZ.out.trans hE2)
  clear hE2
  clear KO1
  have HA1 := Lib.hid h1
  have HA2 := Lib.hid h2
  clear h1 h2
  have hb := HP.out.box
  have p0 := hb.cell 0 (by simp)
  have p1 := hb.cell 1 (by simp)
  have p2 := hb.cell 2 (by simp)
  have p3 := hb.cell 3 (by simp)
  have p4 := hb.cell 4 (by simp)
  have p5 := hb.cell 5 (by simp)
  have p6 := hb.cell 6 (by simp)
  have p7 := hb.cell 7 (by simp)
  have p8 := hb.cell 8 (by simp)
  simp only [List.getElem?_cons_zero, List.getElem?_cons_succ] at p0 p1 p2 p3 p4 p5 p6 p7 p8
  have pF := hb.free
  have pL := hb.lt
  have pB := hb.base
  clear hb
  go_wp2_with fail
  clear p0 p1 p2 p3 p4 p5 p6 p7 p8 pF pL pB
  refine calls_at fun W2 hW => ?_
  obtain ⟨QHA, hQHA⟩ : ∃ N, N = X1.heap.size := ⟨_, rfl⟩
  have hE1 : Ext X1 W2 := by
    rw [hW]
    repeat' (first | with_reducible assumption | with_reducible exact Ext.refl _ | with_reducible apply Ext.alloc | with_reducible apply Ext.drew | with_reducible apply Ext.drewN | with_reducible apply Ext.plus_ | with_reducible refine Ext.put ?_ (by omega))
  have hb : Box 0 [.int .i64 7, .int .i64 1, .int .i64 ic, .slice Aa na ca, .int .i64 oc, .slice Ba ma da, .int .i64 bu, .bool en, .bool cg] QHA W2 := by
    rw [hW]
    repeat' (first | with_reducible assumption | ((with_reducible refine Box.fresh ?fb ?fn ?fr); (case fb => first | omega | (simp <;> omega)); (case fn => first | omega | (simp <;> omega)); (case fr => rfl)) | with_reducible apply Box.up | with_reducible apply Box.drew_ | with_reducible apply Box.drewN_ | with_reducible apply Box.plus_ | with_reducible apply Box.put | with_reducible refine Box.off ?_ (by omega))
    all_goals first | rfl | (simp; done)
  have HA := Lib.hid (PX.mk hb (HA1.out.lift hE1) (HA2.out.lift hE1))
  rw [← hQHA]
  clear hQHA hb HA1 HA2
  clear hW
  replace HP := Lib.hid (HP.out.ext hE1)
  replace HZ := Lib.hid (HZ.out.trans hE1)
  clear hE1
  refine (KO2.out W2 HZ.out).mono ?_
  rintro e X2 ⟨Ac, nc, cc, Bc, mc, dc, rfl, h1, h2, hE2⟩
  replace HA := Lib.hid (HA.out.ext hE2)
  replace HP := Lib.hid (HP.out.ext hE2)
  replace HZ := Lib.hid (HZ.out.trans hE2)
  clear hE2
  clear KO2
  have HC1 := Lib.hid h1
  have HC2 := Lib.hid h2
  clear h1 h2
  have hb := HP.out.box
  have p0 := hb.cell 0 (by simp)
  have p1 := hb.cell 1 (by simp)
  have p2 := hb.cell 2 (by simp)
  have p3 := hb.cell 3 (by simp)
  have p4 := hb.cell 4 (by simp)
  have p5 := hb.cell 5 (by simp)
  have p6 := hb.cell 6 (by simp)
  have p7 := hb.cell 7 (by simp)
  have p8 := hb.cell 8 (by simp)
  simp only [List.getElem?_cons_zero, List.getElem?_cons_succ] at p0 p1 p2 p3 p4 p5 p6 p7 p8
  have pF := hb.free
  have pL := hb.lt
  have pB := hb.base
  clear hb
  go_wp2_with fail
  clear p0 p1 p2 p3 p4 p5 p6 p7 p8 pF pL pB
  refine calls_at fun W3 hW => ?_
  obtain ⟨QHC, hQHC⟩ : ∃ N, N = X2.heap.size := ⟨_, rfl⟩
  have hE1 : Ext X2 W3 := by
    rw [hW]
    repeat' (first | with_reducible assumption | with_reducible exact Ext.refl _ | with_reducible apply Ext.alloc | with_reducible apply Ext.drew | with_reducible apply Ext.drewN | with_reducible apply Ext.plus_ | with_reducible refine Ext.put ?_ (by omega))
  have hb : Box 0 [.int .i64 7, .int .i64 1, .int .i64 ic, .slice Ac nc cc, .int .i64 oc, .slice Bc mc dc, .int .i64 bu, .bool en, .bool cg] QHC W3 := by
    rw [hW]
    repeat' (first | with_reducible assumption | ((with_reducible refine Box.fresh ?fb ?fn ?fr); (case fb => first | omega | (simp <;> omega)); (case fn => first | omega | (simp <;> omega)); (case fr => rfl)) | with_reducible apply Box.up | with_reducible apply Box.drew_ | with_reducible apply Box.drewN_ | with_reducible apply Box.plus_ | with_reducible apply Box.put | with_reducible refine Box.off ?_ (by omega))
    all_goals first | rfl | (simp; done)
  have HC := Lib.hid (PX.mk hb (HC1.out.lift hE1) (HC2.out.lift hE1))
  rw [← hQHC]
  clear hQHC hb HC1 HC2
  clear hW
  replace HA := Lib.hid (HA.out.ext hE1)
  replace HP := Lib.hid (HP.out.ext hE1)
  replace HZ := Lib.hid (HZ.out.trans hE1)
  clear hE1
  refine (KP1.out W3 HZ.out).mono ?_
  rintro e X3 ⟨Ad, nd, cd, Bd, md, dd, Ax, nx_, cx, rfl, h1, h2, h3, hE2⟩
  replace HA := Lib.hid (HA.out.ext hE2)
  replace HC := Lib.hid (HC.out.ext hE2)
  replace HP := Lib.hid (HP.out.ext hE2)
  replace HZ := Lib.hid (HZ.out.trans hE2)
  clear hE2
  have HX := Lib.hid h3
  clear h3
  clear KP1
  have HD1 := Lib.hid h1
  have HD2 := Lib.hid h2
  clear h1 h2
  have hb := HP.out.box
  have p0 := hb.cell 0 (by simp)
  have p1 := hb.cell 1 (by simp)
  have p2 := hb.cell 2 (by simp)
  have p3 := hb.cell 3 (by simp)
  have p4 := hb.cell 4 (by simp)
  have p5 := hb.cell 5 (by simp)
  have p6 := hb.cell 6 (by simp)
  have p7 := hb.cell 7 (by simp)
  have p8 := hb.cell 8 (by simp)
  simp only [List.getElem?_cons_zero, List.getElem?_cons_succ] at p0 p1 p2 p3 p4 p5 p6 p7 p8
  have pF := hb.free
  have pL := hb.lt
  have pB := hb.base
  clear hb
  go_wp2_with fail
  clear p0 p1 p2 p3 p4 p5 p6 p7 p8 pF pL pB
  refine calls_at fun W4 hW => ?_
  obtain ⟨QHD, hQHD⟩ : ∃ N, N = X3.heap.size := ⟨_, rfl⟩
  have hE1 : Ext X3 W4 := by
    rw [hW]
    repeat' (first | with_reducible assumption | with_reducible exact Ext.refl _ | with_reducible apply Ext.alloc | with_reducible apply Ext.drew | with_reducible apply Ext.drewN | with_reducible apply Ext.plus_ | with_reducible refine Ext.put ?_ (by omega))
  have hb : Box 0 [.int .i64 i3, .int .i64 c3, .int .i64 q3, .slice Ad nd cd, .int .i64 o3, .slice Bd md dd, .int .i64 b3, .bool e3, .bool g3] QHD W4 := by
    rw [hW]
    repeat' (first | with_reducible assumption | ((with_reducible refine Box.fresh ?fb ?fn ?fr); (case fb => first | omega | (simp <;> omega)); (case fn => first | omega | (simp <;> omega)); (case fr => rfl)) | with_reducible apply Box.up | with_reducible apply Box.drew_ | with_reducible apply Box.drewN_ | with_reducible apply Box.plus_ | with_reducible apply Box.put | with_reducible refine Box.off ?_ (by omega))
    all_goals first | rfl | (simp; done)
  have HD := Lib.hid (PX.mk hb (HD1.out.lift hE1) (HD2.out.lift hE1))
  rw [← hQHD]
  clear hQHD hb HD1 HD2
  clear hW
  replace HA := Lib.hid (HA.out.ext hE1)
  replace HC := Lib.hid (HC.out.ext hE1)
  replace HX := Lib.hid (HX.out.lift hE1)
  replace HP := Lib.hid (HP.out.ext hE1)
  replace HZ := Lib.hid (HZ.out.trans hE1)
  clear hE1
  refine (KP2.out W4 HZ.out).mono ?_
  rintro e X4 ⟨Af, nf, cf, Bf, mf, df, Ay, ny, cy, rfl, h1, h2, h3, hE2⟩
  replace HA := Lib.hid (HA.out.ext hE2)
  replace HC := Lib.hid (HC.out.ext hE2)
  replace HX := Lib.hid (HX.out.lift hE2)
  replace HD := Lib.hid (HD.out.ext hE2)
  replace HP := Lib.hid (HP.out.ext hE2)
  replace HZ := Lib.hid (HZ.out.trans hE2)
  clear hE2
  have HY := Lib.hid h3
  clear h3
  clear KP2
  have HF1 := Lib.hid h1
  have HF2 := Lib.hid h2
  clear h1 h2
  have hb := HP.out.box
  have p0 := hb.cell 0 (by simp)
  have p1 := hb.cell 1 (by simp)
  have p2 := hb.cell 2 (by simp)
  have p3 := hb.cell 3 (by simp)
  have p4 := hb.cell 4 (by simp)
  have p5 := hb.cell 5 (by simp)
  have p6 := hb.cell 6 (by simp)
  have p7 := hb.cell 7 (by simp)
  have p8 := hb.cell 8 (by simp)
  simp only [List.getElem?_cons_zero, List.getElem?_cons_succ] at p0 p1 p2 p3 p4 p5 p6 p7 p8
  have pF := hb.free
  have pL := hb.lt
  have pB := hb.base
  clear hb
  go_wp2_with fail
  clear p0 p1 p2 p3 p4 p5 p6 p7 p8 pF pL pB
  refine calls_at fun W5 hW => ?_
  obtain ⟨QHF, hQHF⟩ : ∃ N, N = X4.heap.size := ⟨_, rfl⟩
  have hE1 : Ext X4 W5 := by
    rw [hW]
    repeat' (first | with_reducible assumption | with_reducible exact Ext.refl _ | with_reducible apply Ext.alloc | with_reducible apply Ext.drew | with_reducible apply Ext.drewN | with_reducible apply Ext.plus_ | with_reducible refine Ext.put ?_ (by omega))
  have hb : Box 0 [.int .i64 i3, .int .i64 c3, .int .i64 q3, .slice Af nf cf, .int .i64 o3, .slice Bf mf df, .int .i64 b3, .bool e3, .bool g3] QHF W5 := by
    rw [hW]
    repeat' (first | with_reducible assumption | ((with_reducible refine Box.fresh ?fb ?fn ?fr); (case fb => first | omega | (simp <;> omega)); (case fn => first | omega | (simp <;> omega)); (case fr => rfl)) | with_reducible apply Box.up | with_reducible apply Box.drew_ | with_reducible apply Box.drewN_ | with_reducible apply Box.plus_ | with_reducible apply Box.put | with_reducible refine Box.off ?_ (by omega))
    all_goals first | rfl | (simp; done)
  have HF := Lib.hid (PX.mk hb (HF1.out.lift hE1) (HF2.out.lift hE1))
  rw [← hQHF]
  clear hQHF hb HF1 HF2
  clear hW
  replace HA := Lib.hid (HA.out.ext hE1)
  replace HC := Lib.hid (HC.out.ext hE1)
  replace HX := Lib.hid (HX.out.lift hE1)
  replace HD := Lib.hid (HD.out.ext hE1)
  replace HY := Lib.hid (HY.out.lift hE1)
  replace HP := Lib.hid (HP.out.ext hE1)
  replace HZ := Lib.hid (HZ.out.trans hE1)
  clear hE1
  refine (KG1.out W5 HZ.out).mono ?_
  rintro e X5 ⟨Ah, nh, ch, Bh, mh, dh, Au, nu, cu, rfl, h1, h2, h3, hE2⟩
  replace HA := Lib.hid (HA.out.ext hE2)
  replace HC := Lib.hid (HC.out.ext hE2)
  replace HX := Lib.hid (HX.out.lift hE2)
  replace HD := Lib.hid (HD.out.ext hE2)
  replace HY := Lib.hid (HY.out.lift hE2)
  replace HF := Lib.hid (HF.out.ext hE2)
  replace HP := Lib.hid (HP.out.ext hE2)
  replace HZ := Lib.hid (HZ.out.trans hE2)
  clear hE2
  have HU := Lib.hid h3
  clear h3
  clear KG1
  have HH1 := Lib.hid h1
  have HH2 := Lib.hid h2
  clear h1 h2
  have hb := HP.out.box
  have p0 := hb.cell 0 (by simp)
  have p1 := hb.cell 1 (by simp)
  have p2 := hb.cell 2 (by simp)
  have p3 := hb.cell 3 (by simp)
  have p4 := hb.cell 4 (by simp)
  have p5 := hb.cell 5 (by simp)
  have p6 := hb.cell 6 (by simp)
  have p7 := hb.cell 7 (by simp)
  have p8 := hb.cell 8 (by simp)
  simp only [List.getElem?_cons_zero, List.getElem?_cons_succ] at p0 p1 p2 p3 p4 p5 p6 p7 p8
  have pF := hb.free
  have pL := hb.lt
  have pB := hb.base
  clear hb
  go_wp2_with fail
  clear p0 p1 p2 p3 p4 p5 p6 p7 p8 pF pL pB
  refine calls_at fun W6 hW => ?_
  obtain ⟨QHH, hQHH⟩ : ∃ N, N = X5.heap.size := ⟨_, rfl⟩
  have hE1 : Ext X5 W6 := by
    rw [hW]
    repeat' (first | with_reducible assumption | with_reducible exact Ext.refl _ | with_reducible apply Ext.alloc | with_reducible apply Ext.drew | with_reducible apply Ext.drewN | with_reducible apply Ext.plus_ | with_reducible refine Ext.put ?_ (by omega))
  have hb : Box 0 [.int .i64 7, .int .i64 1, .int .i64 ic, .slice Ah nh ch, .int .i64 oc, .slice Bh mh dh, .int .i64 b4, .bool en, .bool cg] QHH W6 := by
    rw [hW]
    repeat' (first | with_reducible assumption | ((with_reducible refine Box.fresh ?fb ?fn ?fr); (case fb => first | omega | (simp <;> omega)); (case fn => first | omega | (simp <;> omega)); (case fr => rfl)) | with_reducible apply Box.up | with_reducible apply Box.drew_ | with_reducible apply Box.drewN_ | with_reducible apply Box.plus_ | with_reducible apply Box.put | with_reducible refine Box.off ?_ (by omega))
    all_goals first | rfl | (simp; done)
  have HH := Lib.hid (PX.mk hb (HH1.out.lift hE1) (HH2.out.lift hE1))
  rw [← hQHH]
  clear hQHH hb HH1 HH2
  clear hW
  replace HA := Lib.hid (HA.out.ext hE1)
  replace HC := Lib.hid (HC.out.ext hE1)
  replace HX := Lib.hid (HX.out.lift hE1)
  replace HD := Lib.hid (HD.out.ext hE1)
  replace HY := Lib.hid (HY.out.lift hE1)
  replace HF := Lib.hid (HF.out.ext hE1)
  replace HU := Lib.hid (HU.out.lift hE1)
  replace HP := Lib.hid (HP.out.ext hE1)
  replace HZ := Lib.hid (HZ.out.trans hE1)
  clear hE1
  refine (KG2.out W6 HZ.out).mono ?_
  rintro e X6 ⟨Ak, nk, ck, Bk, mk, dk, Aw, nw, cw, rfl, h1, h2, h3, hE2⟩
  replace HA := Lib.hid (HA.out.ext hE2)
  replace HC := Lib.hid (HC.out.ext hE2)
  replace HX := Lib.hid (HX.out.lift hE2)
  replace HD := Lib.hid (HD.out.ext hE2)
  replace HY := Lib.hid (HY.out.lift hE2)
  replace HF := Lib.hid (HF.out.ext hE2)
  replace HU := Lib.hid (HU.out.lift hE2)
  replace HH := Lib.hid (HH.out.ext hE2)
  replace HP := Lib.hid (HP.out.ext hE2)
  replace HZ := Lib.hid (HZ.out.trans hE2)
  clear hE2
  have HW := Lib.hid h3
  clear h3
  clear KG2
  have HK1 := Lib.hid h1
  have HK2 := Lib.hid h2
  clear h1 h2
  go_wp2_with fail
  refine wp_at fun W7 hW => ?_
  obtain ⟨QHK, hQHK⟩ : ∃ N, N = X6.heap.size := ⟨_, rfl⟩
  have hE1 : Ext X6 W7 := by
    rw [hW]
    repeat' (first | with_reducible assumption | with_reducible exact Ext.refl _ | with_reducible apply Ext.alloc | with_reducible apply Ext.drew | with_reducible apply Ext.drewN | with_reducible apply Ext.plus_ | with_reducible refine Ext.put ?_ (by omega))
  have hb : Box 0 [.int .i64 7, .int .i64 1, .int .i64 ic, .slice Ak nk ck, .int .i64 oc, .slice Bk mk dk, .int .i64 b4, .bool en, .bool cg] QHK W7 := by
    rw [hW]
    repeat' (first | with_reducible assumption | ((with_reducible refine Box.fresh ?fb ?fn ?fr); (case fb => first | omega | (simp <;> omega)); (case fn => first | omega | (simp <;> omega)); (case fr => rfl)) | with_reducible apply Box.up | with_reducible apply Box.drew_ | with_reducible apply Box.drewN_ | with_reducible apply Box.plus_ | with_reducible apply Box.put | with_reducible refine Box.off ?_ (by omega))
    all_goals first | rfl | (simp; done)
  have HK := Lib.hid (PX.mk hb (HK1.out.lift hE1) (HK2.out.lift hE1))
  rw [← hQHK]
  clear hQHK hb HK1 HK2
  clear hW
  replace HA := Lib.hid (HA.out.ext hE1)
  replace HC := Lib.hid (HC.out.ext hE1)
  replace HX := Lib.hid (HX.out.lift hE1)
  replace HD := Lib.hid (HD.out.ext hE1)
  replace HY := Lib.hid (HY.out.lift hE1)
  replace HF := Lib.hid (HF.out.ext hE1)
  replace HU := Lib.hid (HU.out.lift hE1)
  replace HH := Lib.hid (HH.out.ext hE1)
  replace HW := Lib.hid (HW.out.lift hE1)
  replace HP := Lib.hid (HP.out.ext hE1)
  replace HZ := Lib.hid (HZ.out.trans hE1)
  clear hE1
  have HF9 := Lib.hid (HE.out.trans HZ.out)
  have HZ2 := Lib.hid HZ.out
  clear HE HZ
  obtain ⟨tx, htx⟩ : ∃ z, z = strOfNums x3 := ⟨_, rfl⟩
  obtain ⟨tz, htz⟩ : ∃ z, z = strOfNums x4 := ⟨_, rfl⟩
  obtain ⟨dz, hdz⟩ : ∃ z, z = decide (m1 = 0) := ⟨_, rfl⟩
  have KD := Lib.hid (fun W => drained_any 7 1 ic A1 n1 c1 oc B1 m1 d1 bu en cg W)
  rw [← hdz] at KD
  have HT := Lib.hid (And.intro htx htz)
  have hd0 : ((m1 : Int) == 0) = dz := by
    rw [hdz]
    by_cases h : m1 = 0 <;> simp [h]
  clear htx htz hdz
  simp only [List.append_eq, List.cons_append, List.nil_append]
  apply wp_region_ext 66 [is (.int .i64 qi), is (.int .i64 qi), is (.bool true), is (.bool true), is (pv 7 1 ic Aa na ca oc Ba ma da bu en cg), is (pv 7 1 ic Ac nc cc oc Bc mc dc bu en cg), is (.bool true), is (.bool true), is (.bool true), is (pv 7 1 ic A1 n1 c1 oc B1 m1 d1 bu en cg), is (.int .i64 g2), isPR 7 1 ic L5 oc kp bu en cg, is (pv 7 1 ic A1 n1 c1 oc B1 m1 d1 bu en cg), is (.int .i64 g2), isPR 7 1 ic L5 oc kp bu en cg, is (.bool true), is (.bool true), is (.bool true), is (pv 7 1 ic A1 n1 c1 oc B1 m1 d1 bu en cg), is (.int .i64 rm), is (pv 7 1 ic A1 n1 c1 oc B1 m1 d1 bu en cg), is (.int .i64 rm), is (.bool true), is (.bool true), is (.bool true), is (.int .i64 er), is (.int .i64 er), is (.bool true), is (.bool true), is (.bool true), is (pv i3 c3 q3 Ad nd cd o3 Bd md dd b3 e3 g3), is (pv i3 c3 q3 Af nf cf o3 Bf mf df b3 e3 g3), is (.bool true), is (.bool true), is (.bool true), is (.slice Ax nx_ cx), is (.string tx), is (.slice Ay ny cy), is (.string tx), is (.bool true), is (.bool true), is (.bool true), is (pv 7 1 ic Ah nh ch oc Bh mh dh b4 en cg), is (pv 7 1 ic Ak nk ck oc Bk mk dk b4 en cg), is (.bool true), is (.bool true), is (.bool true), is (.slice Au nu cu), is (.string tz), is (.slice Aw nw cw), is (.string tz), is (.bool true), is (.bool true), is (.bool true), is (pv 7 1 ic A1 n1 c1 oc B1 m1 d1 bu en cg), is (.bool dz), is (.pointer (some ⟨P, 4, none⟩)), is (.pointer (some ⟨P, 5, none⟩)), is (.slice B1 m1 d1), is (.int .i64 m1), is (.bool dz), is (.bool true), is (.bool true), is (.bool true), is (.bool true), is (.bool true)] (by kernel_rfl) (by kernel_rfl) rfl
  case hops =>
    simp only [List.take_succ_cons, List.take_zero]
    refine ⟨?_, ?_, ?_, ?_, ?_, ?_, ?_, ?_, ?_, ?_, ?_, ?_, ?_, ?_, ?_, ?_, ?_, ?_, ?_, ?_, ?_, ?_, ?_, ?_, ?_, ?_, ?_, ?_, ?_, ?_, ?_, ?_, ?_, ?_, ?_, ?_, ?_, ?_, ?_, ?_, ?_, ?_, ?_, ?_, ?_, ?_, ?_, ?_, ?_, ?_, ?_, ?_, ?_, ?_, ?_, ?_, ?_, ?_, ?_, ?_, ?_, ?_, ?_, ?_, ?_, ?_, trivial⟩
    all_goals
      intro vs x hd
      simp only [putAll, Act.put, List.setIfInBounds_toArray, List.set_cons_succ, List.set_cons_zero, Nat.zero_add, Nat.reduceAdd]
      simp [depFacts, is, isRow, isRowN, isBox, dataE] at hd
      try simp only [World.plus_plus] at hd
      simp only [Region.wanted, if_true]
      try simp [yielded, hd]
    rotate_left 4
    refine Lock.out ?_
    rotate_left 1
    refine Lock.out ?_
    rotate_left 1
    refine Lock.out ?_
    rotate_left 3
    refine Lock.out ?_
    rotate_left 2
    refine Lock.out ?_
    rotate_left 1
    refine Lock.out ?_
    rotate_left 2
    refine Lock.out ?_
    rotate_left 1
    refine Lock.out ?_
    rotate_left 3
    refine Lock.out ?_
    rotate_left 1
    refine Lock.out ?_
    rotate_left 1
    refine Lock.out ?_
    rotate_left 1
    refine Lock.out ?_
    rotate_left 9
    refine Lock.out ?_
    rotate_left 1
    refine Lock.out ?_
    rotate_left 1
    refine Lock.out ?_
    rotate_left 4
    refine Lock.out ?_
    rotate_left 2
    refine Lock.out ?_
    rotate_left 4
    refine Lock.out ?_
    rotate_left 1
    refine Lock.out ?_
    rotate_left 1
    refine Lock.out ?_
    rotate_left 4
    refine Lock.out ?_
    rotate_left 2
    refine Lock.out ?_
    rotate_left 4
    refine Lock.out ?_
    rotate_left 1
    refine Lock.out ?_
    rotate_left 3
    refine Lock.out ?_
    rotate_left 6
    refine Lock.out ?_
    rotate_left 2
    all_goals
      try (
      with_reducible show comes _ _ _ _ _
      simp only [comes]
      try simp [yielded, hd, comes]
      go_simp
      try go_bits
      first
        | exact ⟨Ext.refl _, rfl⟩
        | exact rfl
        | exact ⟨(Ext.refl _).alloc _, _, rfl, Cells.new _ _ _ _ rfl⟩
        | exact ⟨(Ext.refl _).alloc _, _, rfl, Box.new _ _ _ _ (by simp [World.le_plus]) rfl⟩
      )
    · refine ⟨?_, trivial⟩
      (obtain ⟨c0, c1_, c2, c3_, c4, c5, c6, c7, c8⟩ := Box.cells9 (HA.out.box.ext (by repeat (first | exact Ext.refl _ | assumption | apply Ext.plus_ | apply Ext.alloc | apply Ext.drew))); simp only [comes]; go_simp; first | exact ⟨Ext.refl _, rfl⟩ | exact Ext.refl _)
    · refine ⟨?_, trivial⟩
      (obtain ⟨c0, c1_, c2, c3_, c4, c5, c6, c7, c8⟩ := Box.cells9 (HC.out.box.ext (by repeat (first | exact Ext.refl _ | assumption | apply Ext.plus_ | apply Ext.alloc | apply Ext.drew))); simp only [comes]; go_simp; first | exact ⟨Ext.refl _, rfl⟩ | exact Ext.refl _)
    · refine ⟨?_, trivial⟩
      (simp only [comes]; go_simp; go_at_call 9; refine (samePort_any _ _ _ _ _ _ _ _ _ _ _ _ _ _ _ _ _ _ _ _ _ _ (HA.out.ra.lift (by repeat (first | exact Ext.refl _ | assumption | apply Ext.plus_ | apply Ext.alloc | apply Ext.drew))).row (HA.out.rb.lift (by repeat (first | exact Ext.refl _ | assumption | apply Ext.plus_ | apply Ext.alloc | apply Ext.drew))).row (HC.out.ra.lift (by repeat (first | exact Ext.refl _ | assumption | apply Ext.plus_ | apply Ext.alloc | apply Ext.drew))).row (HC.out.rb.lift (by repeat (first | exact Ext.refl _ | assumption | apply Ext.plus_ | apply Ext.alloc | apply Ext.drew))).row).mono ?_; rintro e w' ⟨rfl, hE⟩; first | exact ⟨_, rfl, hE, rfl⟩ | exact ⟨_, rfl, hE⟩)
    · refine ⟨?_, trivial⟩
      (obtain ⟨c0, c1_, c2, c3_, c4, c5, c6, c7, c8⟩ := Box.cells9 (HP.out.box.ext (by repeat (first | exact Ext.refl _ | assumption | apply Ext.plus_ | apply Ext.alloc | apply Ext.drew))); simp only [comes]; go_simp; first | exact ⟨Ext.refl _, rfl⟩ | exact Ext.refl _)
    · refine ⟨?_, trivial⟩
      (simp only [comes]; go_simp; go_at_call 27; refine (KE1.out _ (Ext.trans HZ2.out (by repeat (first | exact Ext.refl _ | assumption | apply Ext.plus_ | apply Ext.alloc | apply Ext.drew)))).mono ?_; rintro e w' ⟨Ai, ni, ci, Bi, mi, di, rfl, h1, h2, hE⟩; exact ⟨_, rfl, hE, Ai, ni, ci, Bi, mi, di, rfl, h1, h2⟩)
    · refine ⟨?_, trivial⟩
      (obtain ⟨c0, c1_, c2, c3_, c4, c5, c6, c7, c8⟩ := Box.cells9 (HP.out.box.ext (by repeat (first | exact Ext.refl _ | assumption | apply Ext.plus_ | apply Ext.alloc | apply Ext.drew))); simp only [comes]; go_simp; first | exact ⟨Ext.refl _, rfl⟩ | exact Ext.refl _)
    · refine ⟨?_, trivial⟩
      (simp only [comes]; go_simp; go_at_call 28; refine (KE2.out _ (Ext.trans HZ2.out (by repeat (first | exact Ext.refl _ | assumption | apply Ext.plus_ | apply Ext.alloc | apply Ext.drew)))).mono ?_; rintro e w' ⟨Ai, ni, ci, Bi, mi, di, rfl, h1, h2, hE⟩; exact ⟨_, rfl, hE, Ai, ni, ci, Bi, mi, di, rfl, h1, h2⟩)
    · refine ⟨?_, trivial⟩
      (have hq1 := hd.1; have hq2 := hd.2.1; obtain ⟨Ai, ni, ci, Bi, mi, di, e1, r1, r2⟩ := hq1; obtain ⟨Aj, nj, cj, Bj, mj, dj, e2, u1, u2⟩ := hq2; rw [e1, e2]; simp only [comes]; go_simp; go_at_call 9; refine (samePort_any _ _ _ _ _ _ _ _ _ _ _ _ _ _ _ _ _ _ _ _ _ _ r1.row r2.row u1.row u2.row).mono ?_; rintro e w' ⟨rfl, hE⟩; first | exact ⟨_, rfl, hE, rfl⟩ | exact ⟨_, rfl, hE⟩)
    · refine ⟨?_, trivial⟩
      (obtain ⟨c0, c1_, c2, c3_, c4, c5, c6, c7, c8⟩ := Box.cells9 (HP.out.box.ext (by repeat (first | exact Ext.refl _ | assumption | apply Ext.plus_ | apply Ext.alloc | apply Ext.drew))); simp only [comes]; go_simp; first | exact ⟨Ext.refl _, rfl⟩ | exact Ext.refl _)
    · refine ⟨?_, trivial⟩
      (simp only [comes]; go_simp; go_at_call 19; refine (KR1.out _).mono ?_; rintro e w' ⟨rfl, hE⟩; first | exact ⟨_, rfl, hE, rfl⟩ | exact ⟨_, rfl, hE⟩)
    · refine ⟨?_, trivial⟩
      (obtain ⟨c0, c1_, c2, c3_, c4, c5, c6, c7, c8⟩ := Box.cells9 (HP.out.box.ext (by repeat (first | exact Ext.refl _ | assumption | apply Ext.plus_ | apply Ext.alloc | apply Ext.drew))); simp only [comes]; go_simp; first | exact ⟨Ext.refl _, rfl⟩ | exact Ext.refl _)
    · refine ⟨?_, trivial⟩
      (simp only [comes]; go_simp; go_at_call 29; refine (KR2.out _).mono ?_; rintro e w' ⟨rfl, hE⟩; first | exact ⟨_, rfl, hE, rfl⟩ | exact ⟨_, rfl, hE⟩)
    · refine ⟨?_, trivial⟩
      (obtain ⟨c0, c1_, c2, c3_, c4, c5, c6, c7, c8⟩ := Box.cells9 (HD.out.box.ext (by repeat (first | exact Ext.refl _ | assumption | apply Ext.plus_ | apply Ext.alloc | apply Ext.drew))); simp only [comes]; go_simp; first | exact ⟨Ext.refl _, rfl⟩ | exact Ext.refl _)
    · refine ⟨?_, trivial⟩
      (obtain ⟨c0, c1_, c2, c3_, c4, c5, c6, c7, c8⟩ := Box.cells9 (HF.out.box.ext (by repeat (first | exact Ext.refl _ | assumption | apply Ext.plus_ | apply Ext.alloc | apply Ext.drew))); simp only [comes]; go_simp; first | exact ⟨Ext.refl _, rfl⟩ | exact Ext.refl _)
    · refine ⟨?_, trivial⟩
      (simp only [comes]; go_simp; go_at_call 9; refine (samePort_any _ _ _ _ _ _ _ _ _ _ _ _ _ _ _ _ _ _ _ _ _ _ (HD.out.ra.lift (by repeat (first | exact Ext.refl _ | assumption | apply Ext.plus_ | apply Ext.alloc | apply Ext.drew))).row (HD.out.rb.lift (by repeat (first | exact Ext.refl _ | assumption | apply Ext.plus_ | apply Ext.alloc | apply Ext.drew))).row (HF.out.ra.lift (by repeat (first | exact Ext.refl _ | assumption | apply Ext.plus_ | apply Ext.alloc | apply Ext.drew))).row (HF.out.rb.lift (by repeat (first | exact Ext.refl _ | assumption | apply Ext.plus_ | apply Ext.alloc | apply Ext.drew))).row).mono ?_; rintro e w' ⟨rfl, hE⟩; first | exact ⟨_, rfl, hE, rfl⟩ | exact ⟨_, rfl, hE⟩)
    · refine ⟨?_, trivial⟩
      (have s := bs_str (w := W7.plus x) (c := cx) (HX.out.lift (by repeat (first | exact Ext.refl _ | assumption | apply Ext.plus_ | apply Ext.alloc | apply Ext.drew))).row; rw [← HT.out.1] at s; simp only [comes]; go_simp; first | exact ⟨Ext.refl _, rfl⟩ | exact Ext.refl _)
    · refine ⟨?_, trivial⟩
      (have s := bs_str (w := W7.plus x) (c := cy) (HY.out.lift (by repeat (first | exact Ext.refl _ | assumption | apply Ext.plus_ | apply Ext.alloc | apply Ext.drew))).row; rw [← HT.out.1] at s; simp only [comes]; go_simp; first | exact ⟨Ext.refl _, rfl⟩ | exact Ext.refl _)
    · refine ⟨?_, trivial⟩
      (obtain ⟨c0, c1_, c2, c3_, c4, c5, c6, c7, c8⟩ := Box.cells9 (HH.out.box.ext (by repeat (first | exact Ext.refl _ | assumption | apply Ext.plus_ | apply Ext.alloc | apply Ext.drew))); simp only [comes]; go_simp; first | exact ⟨Ext.refl _, rfl⟩ | exact Ext.refl _)
    · refine ⟨?_, trivial⟩
      (obtain ⟨c0, c1_, c2, c3_, c4, c5, c6, c7, c8⟩ := Box.cells9 (HK.out.box.ext (by repeat (first | exact Ext.refl _ | assumption | apply Ext.plus_ | apply Ext.alloc | apply Ext.drew))); simp only [comes]; go_simp; first | exact ⟨Ext.refl _, rfl⟩ | exact Ext.refl _)
    · refine ⟨?_, trivial⟩
      (simp only [comes]; go_simp; go_at_call 9; refine (samePort_any _ _ _ _ _ _ _ _ _ _ _ _ _ _ _ _ _ _ _ _ _ _ (HH.out.ra.lift (by repeat (first | exact Ext.refl _ | assumption | apply Ext.plus_ | apply Ext.alloc | apply Ext.drew))).row (HH.out.rb.lift (by repeat (first | exact Ext.refl _ | assumption | apply Ext.plus_ | apply Ext.alloc | apply Ext.drew))).row (HK.out.ra.lift (by repeat (first | exact Ext.refl _ | assumption | apply Ext.plus_ | apply Ext.alloc | apply Ext.drew))).row (HK.out.rb.lift (by repeat (first | exact Ext.refl _ | assumption | apply Ext.plus_ | apply Ext.alloc | apply Ext.drew))).row).mono ?_; rintro e w' ⟨rfl, hE⟩; first | exact ⟨_, rfl, hE, rfl⟩ | exact ⟨_, rfl, hE⟩)
    · refine ⟨?_, trivial⟩
      (have s := bs_str (w := W7.plus x) (c := cu) (HU.out.lift (by repeat (first | exact Ext.refl _ | assumption | apply Ext.plus_ | apply Ext.alloc | apply Ext.drew))).row; rw [← HT.out.2] at s; simp only [comes]; go_simp; first | exact ⟨Ext.refl _, rfl⟩ | exact Ext.refl _)
    · refine ⟨?_, trivial⟩
      (have s := bs_str (w := W7.plus x) (c := cw) (HW.out.lift (by repeat (first | exact Ext.refl _ | assumption | apply Ext.plus_ | apply Ext.alloc | apply Ext.drew))).row; rw [← HT.out.2] at s; simp only [comes]; go_simp; first | exact ⟨Ext.refl _, rfl⟩ | exact Ext.refl _)
    · refine ⟨?_, trivial⟩
      (obtain ⟨c0, c1_, c2, c3_, c4, c5, c6, c7, c8⟩ := Box.cells9 (HP.out.box.ext (by repeat (first | exact Ext.refl _ | assumption | apply Ext.plus_ | apply Ext.alloc | apply Ext.drew))); simp only [comes]; go_simp; first | exact ⟨Ext.refl _, rfl⟩ | exact Ext.refl _)
    · refine ⟨?_, trivial⟩
      (simp only [comes]; go_simp; go_at_call 30; refine (KD.out _).mono ?_; rintro e w' ⟨rfl, hE⟩; first | exact ⟨_, rfl, hE, rfl⟩ | exact ⟨_, rfl, hE⟩)
    · refine ⟨?_, trivial⟩
      (obtain ⟨c0, c1_, c2, c3_, c4, c5, c6, c7, c8⟩ := Box.cells9 (HP.out.box.ext (by repeat (first | exact Ext.refl _ | assumption | apply Ext.plus_ | apply Ext.alloc | apply Ext.drew))); simp only [comes]; go_simp; first | exact ⟨Ext.refl _, rfl⟩ | exact Ext.refl _)
    · refine ⟨?_, trivial⟩
      (simp only [comes]; go_simp; go_at_call 12; refine (awake_any _).mono ?_; rintro e w' ⟨rfl, hE⟩; first | exact ⟨_, rfl, hE, rfl⟩ | exact ⟨_, rfl, hE⟩)
  case hst => exact ⟨(by apply is.st), (by apply is.st), (by apply is.st), (by apply is.st), (by apply is.st), (by apply is.st), (by apply is.st), (by apply is.st), (by apply is.st), (by apply is.st), (by apply is.st), (by apply isPR.st), (by apply is.st), (by apply is.st), (by apply isPR.st), (by apply is.st), (by apply is.st), (by apply is.st), (by apply is.st), (by apply is.st), (by apply is.st), (by apply is.st), (by apply is.st), (by apply is.st), (by apply is.st), (by apply is.st), (by apply is.st), (by apply is.st), (by apply is.st), (by apply is.st), (by apply is.st), (by apply is.st), (by apply is.st), (by apply is.st), (by apply is.st), (by apply is.st), (by apply is.st), (by apply is.st), (by apply is.st), (by apply is.st), (by apply is.st), (by apply is.st), (by apply is.st), (by apply is.st), (by apply is.st), (by apply is.st), (by apply is.st), (by apply is.st), (by apply is.st), (by apply is.st), (by apply is.st), (by apply is.st), (by apply is.st), (by apply is.st), (by apply is.st), (by apply is.st), (by apply is.st), (by apply is.st), (by apply is.st), (by apply is.st), (by apply is.st), (by apply is.st), (by apply is.st), (by apply is.st), (by apply is.st), (by apply is.st), trivial⟩
  case hfin =>
    intro vs x hf
    try simp only [World.plus_plus] at hf ⊢
    simp only [List.take_succ_cons, List.take_zero, List.drop_succ_cons, List.drop_zero, putAll, Act.put, List.setIfInBounds_toArray, List.set_cons_succ, List.set_cons_zero]
    simp only [facts, is, Nat.zero_add, Nat.reduceAdd] at hf
    simp only [Nat.zero_add, Nat.reduceAdd, hf]
    clear hf
    go_wp2
    go_ret
    refine ⟨rfl, HF9.out.trans ?_⟩
    repeat' (first | with_reducible assumption | with_reducible exact Ext.refl _ | with_reducible apply Ext.alloc | with_reducible apply Ext.drew | with_reducible apply Ext.drewN | with_reducible apply Ext.plus_ | with_reducible refine Ext.put ?_ (by omega))
theorem law_puse (v0 v1 v2 v3 v4 v5 v6 v7 : Value) (w : World) (p0 : ∃ A n c, ∃ l : List Int, v0 = .slice A n c ∧ ArgRow w A n c (l.map (Value.int .i64)) ∧ ∀ x ∈ l, I64 x) (p1 : ∃ n, v1 = .int .i64 n ∧ I64 n) (p2 : ∃ n, v2 = .int .i64 n ∧ I64 n)
    (p3 : ∃ l : List Int, BS w v3 l ∧ l.length ≤ 140737488355328) (p4 : ∃ n, v4 = .int .i64 n ∧ I64 n) (p5 : ∃ b, v5 = .bool b) (p6 : ∃ b, v6 = .bool b) (p7 : ∃ b, v7 = .bool b) :
    Calls Try.prog 5 #[v0, v1, v2, v3, v4, v5, v6, v7] w fun e w' => e = .returned (.bool true) ∧ Ext w w' := by
  obtain ⟨A, n, c, l, rfl, ⟨hA, hnc, hcm, _⟩, _⟩ := p0
  obtain ⟨i, rfl, _⟩ := p1
  obtain ⟨o, rfl, _⟩ := p2
  obtain ⟨bl, ⟨V, vn, vc, rfl, h1, h2, h3, h4⟩, hb⟩ := p3
  obtain ⟨g, rfl, _⟩ := p4
  obtain ⟨en, rfl⟩ := p5
  obtain ⟨cg, rfl⟩ := p6
  obtain ⟨raw, rfl⟩ := p7
  have hl : bl.length = vn := by
    have := h1.len
    simpa using this
  exact puse_go A n c l i o V vn vc bl g en cg raw w hA (by omega) hnc ⟨h1, h2, h3, h4⟩ (by omega)
end Go.Proofs.Ytphbmibgnnobcaa
