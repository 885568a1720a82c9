/- Sources: Config. -/
import Derived.Test.YtlcopiepcpangaaCfg5
import Derived.Test.YtlcopiepcpangaaCfg3
import Derived.Deep.RegionWith
set_option linter.unusedVariables false
namespace Go.Proofs.Ytlcopiepcpangaa
open Go.RowKit Go.Rg

def ignL : List ByteArray := [⟨#[69, 84, 97, 103]⟩, ⟨#[120, 45, 98]⟩]
/-- What a source's configuration is. -/
structure Gen (c : Cf) (wl : List Int) (ig : List ByteArray) : Prop where
  mh : 100 ≤ c.mh ∧ c.mh ≤ 299
  mb : 0 ≤ c.mb ∧ c.mb ≤ 49
  mr : 0 ≤ c.mr ∧ c.mr ≤ 79
  ci : c.mh ≤ c.ci ∧ c.ci ≤ c.mh + 59
  co : 1 ≤ c.co ∧ c.co ≤ 100
  cl : 1 ≤ c.cl ∧ c.cl ≤ 3
  ad : 1 ≤ c.ad ∧ c.ad ≤ 2
  li : 1 ≤ c.li ∧ c.li ≤ 2
  st : 0 ≤ c.st ∧ c.st ≤ 3
  ca : 0 ≤ c.ca ∧ c.ca ≤ 3
  sh : 0 ≤ c.sh ∧ c.sh ≤ 3
  te : 0 ≤ c.te ∧ c.te ≤ 1199
  di : 1 ≤ c.di ∧ c.di ≤ 9
  dr : 1 ≤ c.dr ∧ c.dr ≤ 9
  ds : 1 ≤ c.ds ∧ c.ds ≤ 9
  rp : 0 ≤ c.rp ∧ c.rp ≤ 5
  pl : PlanOK wl c.mi c.nu c.de c.ho c.wi
  salt : c.salt = ⟨#[]⟩ ∨ c.salt = ⟨#[115]⟩
  cook : c.cook = ⟨#[99, 111, 104, 111, 114, 116]⟩
  ig : ig = [] ∧ c.im = 0 ∨ ig = ignL ∧ c.im = 2
def CgPost (s : Nat) (A : Option Addr) (m c : Nat) (l : List Int) (w : World) (e : Ending) (w' : World) : Prop :=
  ∃ (g : Cf) (wl : List Int) (ig : List ByteArray), e = .returned (cv g) ∧ Gen g wl ig ∧ CfOK g w' wl ig ∧ SSt w w' s A m c l ∧ (∀ a, g.pA = some a → s < a.block) ∧ (∀ a, g.iA = some a → s < a.block)
theorem RwF.row0 {s P : Nat} {A : Option Addr} {n : Nat} {xs : List Value} {W : World} (h : RwF s P A n xs W) : Row W W.heap.size 1 A n xs := h.row
set_option maxRecDepth 100000 in
set_option maxHeartbeats 4000000 in
theorem srcConfig_any (s : Nat) (A : Option Addr) (m c : Nat) (l : List Int) (w : World) (h : SSt w w s A m c l) :
    Calls Try.prog 6 #[.pointer (some ⟨s, 0, none⟩)] w (CgPost s A m c l w) := by
  have hsw := h.lt
  have HS := Lib.hid h
  clear h
  go_enter Try.func6, Try.ntmps6
  go_wp2_with fail
  refine calls_at fun X0 hX => ?_
  obtain ⟨N, hN⟩ : ∃ N, N = w.heap.size := ⟨_, rfl⟩
  have hs0 : SSt w X0 s A m c l := by
    rw [hX]
    exact HS.out.ext ((Ext.refl w).alloc _)
  have hR : Box 0 (.int .i64 0 :: zcells) N X0 := by
    rw [hX]
    repeat' (first | with_reducible assumption | ((with_reducible refine Box.fresh ?fb ?fn ?fr); (case fb => first | omega | (simp <;> omega)); (case fn => first | omega | (simp <;> omega)); (case fr => rfl)) | with_reducible apply Box.up | with_reducible apply Box.drew_ | with_reducible apply Box.drewN_ | with_reducible apply Box.plus_ | with_reducible apply Box.put | with_reducible refine Box.off ?_ (by omega))
    all_goals first | rfl | (simp; done)
  rw [← hN]
  have HN := Lib.hid hN
  have hsN : s < N := by omega
  have HS := Lib.hid hs0
  have HR := Lib.hid hR
  clear hX hN hs0 hR hsw
  refine (snext HS.out 200 (by decide) (by decide)).mono ?_
  rintro e X1 ⟨y0, rfl, h0, h1, hse, hs⟩
  replace HS := Lib.hid hs
  replace HR := Lib.hid (hse.boxx HR.out (by omega))
  clear hse hs
  go_wp2_with fail
  have G0 := Lib.hid (And.intro h0 h1)
  clear h0 h1
  refine (snext HS.out 50 (by decide) (by decide)).mono ?_
  rintro e X2 ⟨y1, rfl, h0, h1, hse, hs⟩
  replace HS := Lib.hid hs
  replace HR := Lib.hid (hse.boxx HR.out (by omega))
  clear hse hs
  have G1 := Lib.hid (And.intro h0 h1)
  clear h0 h1
  go_wp2_with fail
  refine (snext HS.out 80 (by decide) (by decide)).mono ?_
  rintro e X3 ⟨y2, rfl, h0, h1, hse, hs⟩
  replace HS := Lib.hid hs
  replace HR := Lib.hid (hse.boxx HR.out (by omega))
  clear hse hs
  have G2 := Lib.hid (And.intro h0 h1)
  clear h0 h1
  go_wp2_with fail
  refine (snext HS.out 100 (by decide) (by decide)).mono ?_
  rintro e X4 ⟨y3, rfl, h0, h1, hse, hs⟩
  replace HS := Lib.hid hs
  replace HR := Lib.hid (hse.boxx HR.out (by omega))
  clear hse hs
  go_wp2_with fail
  have G3 := Lib.hid (And.intro h0 h1)
  clear h0 h1
  refine (snext HS.out 3 (by decide) (by decide)).mono ?_
  rintro e X5 ⟨y4, rfl, h0, h1, hse, hs⟩
  replace HS := Lib.hid hs
  replace HR := Lib.hid (hse.boxx HR.out (by omega))
  clear hse hs
  go_wp2_with fail
  have G4 := Lib.hid (And.intro h0 h1)
  clear h0 h1
  refine (snext HS.out 2 (by decide) (by decide)).mono ?_
  rintro e X6 ⟨y5, rfl, h0, h1, hse, hs⟩
  replace HS := Lib.hid hs
  replace HR := Lib.hid (hse.boxx HR.out (by omega))
  clear hse hs
  go_wp2_with fail
  have G5 := Lib.hid (And.intro h0 h1)
  clear h0 h1
  refine (snext HS.out 2 (by decide) (by decide)).mono ?_
  rintro e X7 ⟨y6, rfl, h0, h1, hse, hs⟩
  replace HS := Lib.hid hs
  replace HR := Lib.hid (hse.boxx HR.out (by omega))
  clear hse hs
  go_wp2_with fail
  have G6 := Lib.hid (And.intro h0 h1)
  clear h0 h1
  refine (snext HS.out 4 (by decide) (by decide)).mono ?_
  rintro e X8 ⟨y7, rfl, h0, h1, hse, hs⟩
  replace HS := Lib.hid hs
  replace HR := Lib.hid (hse.boxx HR.out (by omega))
  clear hse hs
  have G7 := Lib.hid (And.intro h0 h1)
  clear h0 h1
  go_wp2_with fail
  refine (snext HS.out 4 (by decide) (by decide)).mono ?_
  rintro e X9 ⟨y8, rfl, h0, h1, hse, hs⟩
  replace HS := Lib.hid hs
  replace HR := Lib.hid (hse.boxx HR.out (by omega))
  clear hse hs
  have G8 := Lib.hid (And.intro h0 h1)
  clear h0 h1
  go_wp2_with fail
  refine (snext HS.out 4 (by decide) (by decide)).mono ?_
  rintro e X10 ⟨y9, rfl, h0, h1, hse, hs⟩
  replace HS := Lib.hid hs
  replace HR := Lib.hid (hse.boxx HR.out (by omega))
  clear hse hs
  have G9 := Lib.hid (And.intro h0 h1)
  clear h0 h1
  go_wp2_with fail
  refine (snext HS.out 1200 (by decide) (by decide)).mono ?_
  rintro e X11 ⟨y10, rfl, h0, h1, hse, hs⟩
  replace HS := Lib.hid hs
  replace HR := Lib.hid (hse.boxx HR.out (by omega))
  clear hse hs
  have G10 := Lib.hid (And.intro h0 h1)
  clear h0 h1
  go_wp2_with fail
  refine (snext HS.out 9 (by decide) (by decide)).mono ?_
  rintro e X12 ⟨y11, rfl, h0, h1, hse, hs⟩
  replace HS := Lib.hid hs
  replace HR := Lib.hid (hse.boxx HR.out (by omega))
  clear hse hs
  go_wp2_with fail
  have G11 := Lib.hid (And.intro h0 h1)
  clear h0 h1
  refine (snext HS.out 9 (by decide) (by decide)).mono ?_
  rintro e X13 ⟨y12, rfl, h0, h1, hse, hs⟩
  replace HS := Lib.hid hs
  replace HR := Lib.hid (hse.boxx HR.out (by omega))
  clear hse hs
  go_wp2_with fail
  have G12 := Lib.hid (And.intro h0 h1)
  clear h0 h1
  refine (snext HS.out 9 (by decide) (by decide)).mono ?_
  rintro e X14 ⟨y13, rfl, h0, h1, hse, hs⟩
  replace HS := Lib.hid hs
  replace HR := Lib.hid (hse.boxx HR.out (by omega))
  clear hse hs
  go_wp2_with fail
  have G13 := Lib.hid (And.intro h0 h1)
  clear h0 h1
  refine (snext HS.out 6 (by decide) (by decide)).mono ?_
  rintro e X15 ⟨y14, rfl, h0, h1, hse, hs⟩
  replace HS := Lib.hid hs
  replace HR := Lib.hid (hse.boxx HR.out (by omega))
  clear hse hs
  have G14 := Lib.hid (And.intro h0 h1)
  clear h0 h1
  go_wp2_with fail
  refine (splan HS.out).mono ?_
  rintro e X16 ⟨pA, pc, wl, mi, nu, de, ho, wi, rfl, hsm, hrw, hlow, hc1, hc2, hse, hs⟩
  have hsz : N < X15.heap.size := HR.out.lt
  have hpN : ∀ a, pA = some a → N < a.block := fun a ha => by have := hlow a ha; omega
  replace HS := Lib.hid hs
  replace HR := Lib.hid (hse.boxx HR.out (by omega))
  obtain ⟨P0, hP0⟩ : ∃ P, P = X16.heap.size := ⟨_, rfl⟩
  rw [← hP0] at hrw
  have HP0 := Lib.hid hP0
  have HW := Lib.hid hrw
  have HK := Lib.hid (And.intro hsm (And.intro hpN (And.intro hc1 hc2)))
  obtain ⟨pn, hpn⟩ : ∃ n, n = wl.length := ⟨_, rfl⟩
  rw [← hpn] at HW ⊢
  have HPN := Lib.hid hpn
  clear hsm hrw hlow hc1 hc2 hse hs hsz hpN hP0 hpn
  go_wp2_with fail
  refine calls_at fun W hW => ?_
  obtain ⟨Q, hQ⟩ : ∃ Q, Q = X16.heap.size := ⟨_, rfl⟩
  have hE : Ext X16 W := by
    rw [hW]
    repeat' (first | with_reducible assumption | with_reducible exact Ext.refl _ | with_reducible apply Ext.alloc | with_reducible apply Ext.drew | with_reducible apply Ext.drewN | with_reducible apply Ext.plus_ | with_reducible refine Ext.put ?_ (by omega))
  have hB : Box 0 [.string ⟨#[]⟩, .string ⟨#[115]⟩] Q W := by
    rw [hW]
    repeat' (first | with_reducible assumption | ((with_reducible refine Box.fresh ?fb ?fn ?fr); (case fb => first | omega | (simp <;> omega)); (case fn => first | omega | (simp <;> omega)); (case fr => rfl)) | with_reducible apply Box.up | with_reducible apply Box.drew_ | with_reducible apply Box.drewN_ | with_reducible apply Box.plus_ | with_reducible apply Box.put | with_reducible refine Box.off ?_ (by omega))
    all_goals first | rfl | (simp; done)
  have hQs : Q ≠ s := by
    have := HR.out.lt
    omega
  rw [← hQ]
  replace HS := Lib.hid (HS.out.ext hE)
  replace HR := Lib.hid (HR.out.ext hE)
  replace HW := Lib.hid (HW.out.ext hE)
  have hz : P0 ≤ W.heap.size := by
    have := HP0.out
    have := hE.size
    omega
  clear hW hQ hE
  refine (sof2 HS.out Q _ _ hB hQs).mono ?_
  rintro e Z0 ⟨zs, rfl, hzs, hse, hs⟩
  replace HS := Lib.hid hs
  replace HR := Lib.hid (hse.boxx HR.out (by omega))
  replace HW := Lib.hid (HW.out.se hse)
  have HZ := Lib.hid hzs
  replace hz := Nat.le_trans hz hse.size
  clear hse hs hzs hB hQs
  go_wp2_with fail
  refine (snext HS.out 5 (by decide) (by decide)).mono ?_
  rintro e Z1 ⟨y15, rfl, h0, h1, hse, hs⟩
  replace HS := Lib.hid hs
  replace HR := Lib.hid (hse.boxx HR.out (by omega))
  replace HW := Lib.hid (HW.out.se hse)
  replace hz := Nat.le_trans hz hse.size
  clear hse hs h0 h1
  obtain ⟨mir, hmir⟩ : ∃ b, b = decide (0 < y15) := ⟨_, rfl⟩
  have hmir2 : decide (0 < y15) = mir := hmir.symm
  clear hmir
  go_wp2_with (with_reducible show wpList _ _ _ (⟨none, _, _, _, _, _⟩ :: _) _ _; refine Lock.out ?_)
  refine ⟨?_, trivial⟩
  clear hmir2
  refine wl_at fun U hU => ?_
  obtain ⟨P, hP⟩ : ∃ P, P = Z1.heap.size := ⟨_, rfl⟩
  have hE : Ext Z1 U := by
    rw [hU]
    repeat' (first | with_reducible assumption | with_reducible exact Ext.refl _ | with_reducible apply Ext.alloc | with_reducible apply Ext.drew | with_reducible apply Ext.drewN | with_reducible apply Ext.plus_ | with_reducible refine Ext.put ?_ (by omega))
  have hB0 : Box 0 (.int .i64 0 :: zcells) P U := by
    rw [hU]
    repeat' (first | with_reducible assumption | ((with_reducible refine Box.fresh ?fb ?fn ?fr); (case fb => first | omega | (simp <;> omega)); (case fn => first | omega | (simp <;> omega)); (case fr => rfl)) | with_reducible apply Box.up | with_reducible apply Box.drew_ | with_reducible apply Box.drewN_ | with_reducible apply Box.plus_ | with_reducible apply Box.put | with_reducible refine Box.off ?_ (by omega))
    all_goals first | rfl | (simp; done)
  have hNP : N < P := by
    have := HR.out.lt
    omega
  have hwP : w.heap.size ≤ P := by
    have := HN.out
    omega
  have hP0P : P0 ≤ P := by omega
  clear hz
  rw [← hP]
  replace HS := Lib.hid (HS.out.ext hE)
  replace HR := Lib.hid (HR.out.ext hE)
  replace HW := Lib.hid (HW.out.ext hE)
  clear hU hE hP
  refine wl_store rfl 27 (.tmp 3) (.tmp 50) rfl hB0 _ rfl rfl rfl (by kernel_rfl) rfl fun W1 hB hx => ?_
  replace HS := Lib.hid (HS.out.stb hx hwP)
  replace HR := Lib.hid (hx.box HR.out (by omega))
  replace HW := Lib.hid (HW.out.stb hx (.inl hP0P))
  have c0 := hB.cell 0 (by simp)
  have c3 := hB.cell 3 (by simp)
  simp only [List.getElem?_cons_zero, List.getElem?_cons_succ] at c0 c3
  have pF := hB.free
  have pL := hB.lt
  have HB := Lib.hid hB
  clear hB hx hB0
  have hh := G0.out
  have hsP : s ≠ P := by omega
  go_wp2_with fail
  go_region_with (go_at_call 17; (refine calls_at fun V hV => ?_); (have hE : Ext W1 V := (by (rw [hV]; (repeat' (first | with_reducible assumption | with_reducible exact Ext.refl _ | with_reducible apply Ext.alloc | with_reducible apply Ext.drew | with_reducible apply Ext.drewN | with_reducible apply Ext.plus_))))); clear hV; (refine (snext (HS.out.ext hE) 60 (by decide) (by decide)).mono ?_); (rintro e Z2 ⟨y16, rfl, h0, h1, hse, hs⟩); (have hB := hse.boxx (HB.out.ext hE) (by omega)); (have hR := hse.boxx (HR.out.ext hE) (by omega)); (have hW := (HW.out.ext hE).se hse); (have d0 := hB.cell 0 (by simp)); (have d3 := hB.cell 3 (by simp)); (simp only [List.getElem?_cons_zero, List.getElem?_cons_succ] at d0 d3); (have dF := hB.free); (have dL := hB.lt); (have H2 := Lib.hid (And.intro hs (And.intro hB (And.intro hR hW)))); clear hs hB hR hW hse hE)
  all_goals
    have g0 : 0 ≤ y0 := hh.1
    have g1 : y0 < 200 := hh.2
    go_wp2_with fail
    refine calls_at fun V2 hV2 => ?_
    obtain ⟨hs, hB, hR, hW⟩ := H2.out
    have hSP : w.heap.size ≤ P := hwP
    have hsP2 : P ≠ s := by omega
    have hs3 : SSt w V2 s A m c l := by
      rw [hV2]
      exact hs.put hwP
    have hR3 : Box 0 (.int .i64 0 :: zcells) N V2 := by
      rw [hV2]
      exact Box.off hR (by omega)
    have hW3 : RwF s P0 pA pn (ints wl) V2 := by
      rw [hV2]
      exact hW.put hP0P
    have hB3 := (Box.put (k := 3) (v := .int .i64 (100 + y0 + y16)) hB rfl (by simp)).ext (show Ext _ V2 by rw [hV2]; exact Ext.refl _)
    simp only [List.set_cons_zero, List.set_cons_succ] at hB3
    clear hV2 hs hB hR hW H2 d0 d3 dF dL c0 c3 pF pL hh
    have GG := Lib.hid (And.intro h0 h1)
    clear h0 h1 g0 g1 HS HR HW HB
    have HB := Lib.hid hB3
    have HR := Lib.hid hR3
    have HW := Lib.hid hW3
    clear hB3 hR3 hW3
    refine (snext hs3 2 (by decide) (by decide)).mono ?_
    clear hs3
    rintro e Z3 ⟨y17, rfl, h0, h1, hse, hs⟩
    replace HB := Lib.hid (hse.boxx HB.out (by omega))
    replace HR := Lib.hid (hse.boxx HR.out (by omega))
    replace HW := Lib.hid (HW.out.se hse)
    have HS := Lib.hid hs
    clear hse hs
    have GH := Lib.hid (And.intro h0 h1)
    have hwN : w.heap.size ≤ N := by
      have := HN.out
      omega
    obtain rfl | rfl : y17 = 0 ∨ y17 = 1 := by omega
    · clear h0 h1
      have hb := HB.out
      have d25 := hb.cell 25 (by simp)
      simp only [List.getElem?_cons_zero, List.getElem?_cons_succ] at d25
      have dF := hb.free
      have dL := hb.lt
      clear hb
      go_wp2_with (with_reducible show wpList _ _ _ (⟨some 62, _, _, _, _, _⟩ :: _) _ _; refine Lock.out ?_)
      refine ⟨?_, trivial⟩
      refine wl_at fun V3 hV3 => ?_
      obtain ⟨Q2, hQ2⟩ : ∃ Q, Q = Z3.heap.size := ⟨_, rfl⟩
      have hPQ : P < Q2 := by omega
      have hb := HB.out
      have hr := HR.out
      have hB4 : Box 0 [.int .i64 (100 + y0), .int .i64 y1, .int .i64 y2, .int .i64 (100 + y0 + y16), .int .i64 (1 + y3), .int .i64 (1 + y4), .int .i64 (1 + y5), .int .i64 (1 + y6), .int .i64 y7, .int .i64 y8, .int .i64 y9, .int .i64 y10, .int .i64 (1 + y11), .int .i64 (1 + y12), .int .i64 (1 + y13), .int .i64 y14, .slice pA pn pc, .int .i64 mi, .int .i64 nu, .int .i64 de, .int .i64 ho, .int .i64 wi, .string zs, .string ⟨#[99, 111, 104, 111, 114, 116]⟩, .bool mir, .slice (some ⟨Q2, 0, none⟩) 2 2] P V3 := by
        rw [hV3]
        repeat' (first | with_reducible assumption | ((with_reducible refine Box.fresh ?fb ?fn ?fr); (case fb => first | omega | (simp <;> omega)); (case fn => first | omega | (simp <;> omega)); (case fr => rfl)) | with_reducible apply Box.up | with_reducible apply Box.drew_ | with_reducible apply Box.drewN_ | with_reducible apply Box.plus_ | with_reducible apply Box.put | with_reducible refine Box.off ?_ (by omega))
        all_goals first | rfl | (simp; done)
      have hR4 : Box 0 (.int .i64 0 :: zcells) N V3 := by
        rw [hV3]
        repeat' (first | with_reducible assumption | ((with_reducible refine Box.fresh ?fb ?fn ?fr); (case fb => first | omega | (simp <;> omega)); (case fn => first | omega | (simp <;> omega)); (case fr => rfl)) | with_reducible apply Box.up | with_reducible apply Box.drew_ | with_reducible apply Box.drewN_ | with_reducible apply Box.plus_ | with_reducible apply Box.put | with_reducible refine Box.off ?_ (by omega))
        all_goals first | rfl | (simp; done)
      have hI4 : Box 0 [.string ⟨#[69, 84, 97, 103]⟩, .string ⟨#[120, 45, 98]⟩] Q2 V3 := by
        rw [hV3]
        repeat' (first | with_reducible assumption | ((with_reducible refine Box.fresh ?fb ?fn ?fr); (case fb => first | omega | (simp <;> omega)); (case fn => first | omega | (simp <;> omega)); (case fr => rfl)) | with_reducible apply Box.up | with_reducible apply Box.drew_ | with_reducible apply Box.drewN_ | with_reducible apply Box.plus_ | with_reducible apply Box.put | with_reducible refine Box.off ?_ (by omega))
        all_goals first | rfl | (simp; done)
      have hS4 : SSt w V3 s A m c l := by
        rw [hV3]
        exact (HS.out.put hwP).ext ((Ext.refl _).alloc _)
      have hW4 : RwF s P0 pA pn (ints wl) V3 := by
        rw [hV3]
        exact (HW.out.put hP0P).ext ((Ext.refl _).alloc _)
      rw [← hQ2]
      clear hV3 hQ2 hb hr d25 dF dL HB HR HS HW
      refine wl_load rfl 27 (.tmp 3) rfl hB4 rfl Try.underlying27 rfl (by kernel_rfl) ?_
      go_wp2_with (with_reducible show wpList _ _ _ (⟨none, _, _, _, _, _⟩ :: _) _ _; refine Lock.out ?_)
      refine ⟨?_, trivial⟩
      refine wl_store rfl 27 (.tmp 2) (.tmp 62) rfl hR4 _ rfl rfl rfl (by kernel_rfl) rfl fun W5 hR5 hx => ?_
      have hI5 := hx.box hI4 (by omega)
      have hw5 := hx.row hW4.row (fun a ha => by have := HK.out.2.1 a ha; omega)
      rw [← hx.size] at hw5
      have hs5 := hS4.stb hx hwN
      have H9 := Lib.hid (And.intro hI5 (And.intro hw5 hs5))
      have HR := Lib.hid hR5
      clear hI5 hw5 hs5 hR5 hx hI4 hW4 hS4 hR4 hB4
      go_wp2
      refine bodyPost_ret (results_cell Try.results6 HR.out rfl Try.underlying27 rfl (by kernel_rfl)) rfl ?_
      obtain ⟨hI5, hw5, hs5⟩ := H9.out
      obtain ⟨hsm, hpN, hc1, hc2⟩ := HK.out
      have hpn := HPN.out
      refine ⟨⟨(100 + y0), y1, y2, (100 + y0 + y16), (1 + y3), (1 + y4), (1 + y5), (1 + y6), y7, y8, y9, y10, (1 + y11), (1 + y12), (1 + y13), y14, pA, pn, pc, mi, nu, de, ho, wi, zs, ⟨#[99, 111, 104, 111, 114, 116]⟩, mir, some ⟨Q2, 0, none⟩, 2, 2⟩, wl, ignL, rfl, ?_, ?_, hs5, fun a ha => (by have := hpN a ha; omega), fun a ha => (by injection ha with ha; rw [← ha]; show s < Q2; omega)⟩
      · have g0 := G0.out
        have g1 := G1.out
        have g2 := G2.out
        have g3 := G3.out
        have g4 := G4.out
        have g5 := G5.out
        have g6 := G6.out
        have g7 := G7.out
        have g8 := G8.out
        have g9 := G9.out
        have g10 := G10.out
        have g11 := G11.out
        have g12 := G12.out
        have g13 := G13.out
        have g14 := G14.out
        have g16 := GG.out
        constructor <;> first | exact HZ.out | exact hsm.ok | exact .inr ⟨rfl, rfl⟩ | rfl | (simp only; omega)
      refine ⟨hw5, ⟨rfl, fun _ => ⟨Q2, 0, rfl, hI5.lt, fun j u hu => ?_⟩⟩, by simp only; omega, by simp only; omega, hc2, by simp only; omega, ?_, ?_, by show (6 : Nat) ≤ _; decide⟩
      · have hj : j < 2 := by
          have := (List.getElem?_eq_some_iff.1 hu).1
          simpa [ignL] using this
        have := hI5.cell j hj
        rw [Nat.zero_add, this, ← hu]
        rfl
      · intro q hq
        simp [ignL] at hq
        rcases hq with rfl | rfl <;> decide
      · rcases HZ.out with e | e <;> (simp only; rw [e]; decide)
    · clear h0 h1
      go_wp2_with (with_reducible show wpList _ _ _ (⟨some 62, _, _, _, _, _⟩ :: _) _ _; refine Lock.out ?_)
      refine ⟨?_, trivial⟩
      refine wl_at fun V3 hV3 => ?_
      have hb := HB.out
      have hr := HR.out
      have hB4 : Box 0 [.int .i64 (100 + y0), .int .i64 y1, .int .i64 y2, .int .i64 (100 + y0 + y16), .int .i64 (1 + y3), .int .i64 (1 + y4), .int .i64 (1 + y5), .int .i64 (1 + y6), .int .i64 y7, .int .i64 y8, .int .i64 y9, .int .i64 y10, .int .i64 (1 + y11), .int .i64 (1 + y12), .int .i64 (1 + y13), .int .i64 y14, .slice pA pn pc, .int .i64 mi, .int .i64 nu, .int .i64 de, .int .i64 ho, .int .i64 wi, .string zs, .string ⟨#[99, 111, 104, 111, 114, 116]⟩, .bool mir, .slice none 0 0] P V3 := by
        rw [hV3]
        repeat' (first | with_reducible assumption | ((with_reducible refine Box.fresh ?fb ?fn ?fr); (case fb => first | omega | (simp <;> omega)); (case fn => first | omega | (simp <;> omega)); (case fr => rfl)) | with_reducible apply Box.up | with_reducible apply Box.drew_ | with_reducible apply Box.drewN_ | with_reducible apply Box.plus_ | with_reducible apply Box.put | with_reducible refine Box.off ?_ (by omega))
        all_goals first | rfl | (simp; done)
      have hR4 : Box 0 (.int .i64 0 :: zcells) N V3 := by
        rw [hV3]
        repeat' (first | with_reducible assumption | ((with_reducible refine Box.fresh ?fb ?fn ?fr); (case fb => first | omega | (simp <;> omega)); (case fn => first | omega | (simp <;> omega)); (case fr => rfl)) | with_reducible apply Box.up | with_reducible apply Box.drew_ | with_reducible apply Box.drewN_ | with_reducible apply Box.plus_ | with_reducible apply Box.put | with_reducible refine Box.off ?_ (by omega))
        all_goals first | rfl | (simp; done)
      have hS4 : SSt w V3 s A m c l := by
        rw [hV3]
        exact HS.out
      have hW4 : RwF s P0 pA pn (ints wl) V3 := by
        rw [hV3]
        exact HW.out
      clear hV3 hb hr HB HR HS HW
      refine wl_load rfl 27 (.tmp 3) rfl hB4 rfl Try.underlying27 rfl (by kernel_rfl) ?_
      go_wp2_with (with_reducible show wpList _ _ _ (⟨none, _, _, _, _, _⟩ :: _) _ _; refine Lock.out ?_)
      refine ⟨?_, trivial⟩
      refine wl_store rfl 27 (.tmp 2) (.tmp 62) rfl hR4 _ rfl rfl rfl (by kernel_rfl) rfl fun W5 hR5 hx => ?_
      have hw5 := hx.row hW4.row (fun a ha => by have := HK.out.2.1 a ha; omega)
      rw [← hx.size] at hw5
      have hs5 := hS4.stb hx hwN
      have H9 := Lib.hid (And.intro hw5 hs5)
      have HR := Lib.hid hR5
      clear hw5 hs5 hR5 hx hW4 hS4 hR4 hB4
      go_wp2
      refine bodyPost_ret (results_cell Try.results6 HR.out rfl Try.underlying27 rfl (by kernel_rfl)) rfl ?_
      obtain ⟨hw5, hs5⟩ := H9.out
      obtain ⟨hsm, hpN, hc1, hc2⟩ := HK.out
      have hpn := HPN.out
      refine ⟨⟨(100 + y0), y1, y2, (100 + y0 + y16), (1 + y3), (1 + y4), (1 + y5), (1 + y6), y7, y8, y9, y10, (1 + y11), (1 + y12), (1 + y13), y14, pA, pn, pc, mi, nu, de, ho, wi, zs, ⟨#[99, 111, 104, 111, 114, 116]⟩, mir, none, 0, 0⟩, wl, [], rfl, ?_, ?_, hs5, fun a ha => (by have := hpN a ha; omega), fun a ha => (by cases ha)⟩
      · have g0 := G0.out
        have g1 := G1.out
        have g2 := G2.out
        have g3 := G3.out
        have g4 := G4.out
        have g5 := G5.out
        have g6 := G6.out
        have g7 := G7.out
        have g8 := G8.out
        have g9 := G9.out
        have g10 := G10.out
        have g11 := G11.out
        have g12 := G12.out
        have g13 := G13.out
        have g14 := G14.out
        have g16 := GG.out
        constructor <;> first | exact HZ.out | exact hsm.ok | exact .inl ⟨rfl, rfl⟩ | rfl | (simp only; omega)
      refine ⟨hw5, Row.nil, by simp only; omega, by simp only; omega, hc2, by simp only; omega, fun q hq => (by cases hq), ?_, by show (6 : Nat) ≤ _; decide⟩
      · rcases HZ.out with e | e <;> (simp only; rw [e]; decide)
end Go.Proofs.Ytlcopiepcpangaa
