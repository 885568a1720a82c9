/- PortUse: the walk of made. -/
import Derived.Test.YtphbmibgnnobcaaPortM0
set_option linter.unusedVariables false
namespace Go.Proofs.Ytphbmibgnnobcaa
open Go.RowKit Go.Rg

theorem with_ {a b : Prop} (h : a) (k : a → b) : b := k h
set_option maxRecDepth 100000 in
set_option maxHeartbeats 4000000 in
theorem made_go (A : Option Addr) (n c : Nat) (l : List Int) (inn out : Int) (w : World) (hr : Row w w.heap.size 1 A n (ints l)) (hn : n ≤ 9223372036854775807) (hc : n ≤ c) :
    Calls Try.prog 21 #[.slice A n c, .int .i64 inn, .int .i64 out] w (MdPost w (inn % 20) (out % 20)) := by
  have C := Lib.hid (fun W => cut_any A n c 40 W hn hc (by omega))
  obtain ⟨m, hm⟩ : ∃ m, m = min n 40 := ⟨_, rfl⟩
  have hm1 : m ≤ 40 := by omega
  rw [← hm] at C
  have hr2 := hr.take m (by omega)
  rw [show ((ints l).take m) = ints (l.take m) by simp] at hr2
  obtain ⟨lm, hlm⟩ : ∃ lm, lm = l.take m := ⟨_, rfl⟩
  rw [← hlm] at hr2
  have HR := Lib.hid hr2
  have CI := Lib.hid (fun w => within_any inn 20 w (by decide) (by decide))
  have CO := Lib.hid (fun w => within_any out 20 w (by decide) (by decide))
  obtain ⟨ic, hic⟩ : ∃ z, z = inn % 20 := ⟨_, rfl⟩
  have hi1 : 0 ≤ ic := by omega
  have hi2 : ic < 20 := by omega
  obtain ⟨oc, hoc⟩ : ∃ z, z = out % 20 := ⟨_, rfl⟩
  have ho1 : 0 ≤ oc := by omega
  have ho2 : oc < 20 := by omega
  rw [← hic] at CI
  rw [← hoc] at CO
  rw [← hic, ← hoc]
  have CN := Lib.hid (fun w => refPnew_any 7 ic oc w)
  rw [show clsF 7 = 1 by decide, show qcap ic = ic by unfold qcap; rw [if_neg (by omega), if_pos (by omega)], show qcap oc = oc by unfold qcap; rw [if_neg (by omega), if_pos (by omega)]] at CN
  clear hr hr2 hlm hm hn hc hoc hic
  go_enter Try.func21, Try.ntmps21
  go_wp2_with fail
  refine (C.out _).mono ?_
  rintro e w' ⟨rfl, rfl⟩
  go_wp2_with fail
  refine (CI.out _).mono ?_
  rintro e w' ⟨rfl, rfl⟩
  go_wp2_with fail
  refine (CO.out _).mono ?_
  rintro e w' ⟨rfl, rfl⟩
  go_wp2_with fail
  refine calls_at fun W hW => ?_
  obtain ⟨N, hN⟩ : ∃ N, N = w.heap.size := ⟨_, rfl⟩
  have hS0 : SrcAt W (N + 1) A m c lm 0 := by
    rw [hW]
    exact src_at HR.out ((Ext.refl w).alloc _) (by rw [hN]; simp) (by omega)
  have hE : Ext w W := by
    rw [hW]
    repeat' (first | with_reducible assumption | with_reducible exact Ext.refl _ | with_reducible apply Ext.alloc | with_reducible apply Ext.drew | with_reducible apply Ext.drewN | with_reducible apply Ext.plus_ | with_reducible refine Ext.put ?_ (by omega))
  have hB : Box N pz N W := by
    rw [hW]
    repeat' (first | with_reducible assumption | ((with_reducible refine Box.fresh ?fb ?fn ?fr); (case fb => first | omega | (simp <;> omega)); (case fn => first | omega | (simp <;> omega)); (case fr => rfl)) | with_reducible apply Box.up | with_reducible apply Box.drew_ | with_reducible apply Box.drewN_ | with_reducible apply Box.plus_ | with_reducible apply Box.put | with_reducible refine Box.off ?_ (by omega))
    all_goals first | rfl | (simp; done)
  rw [← hN]
  have HN := Lib.hid hN
  clear hW hN
  refine (CN.out W).mono ?_
  rintro e X ⟨rfl, hEX⟩
  have H := Lib.hid (And.intro (hS0.ext hEX) (And.intro (hE.trans hEX) (hB.ext hEX)))
  clear hS0 hE hEX hB C CI CO CN HR
  go_wp2
  refine wp_at fun Y hY => ?_
  obtain ⟨hS0, hE, hB0⟩ := H.out
  obtain ⟨s, hs⟩ : ∃ s, s = N + 1 := ⟨_, rfl⟩
  rw [← hs] at hS0 ⊢
  obtain ⟨P, hP⟩ : ∃ N, N = X.heap.size := ⟨_, rfl⟩
  have hsP : s < P := by rw [hP]; exact Ext.lt hS0.c0
  have hEY : Ext X Y := by
    rw [hY]
    repeat' (first | with_reducible assumption | with_reducible exact Ext.refl _ | with_reducible apply Ext.alloc | with_reducible apply Ext.drew | with_reducible apply Ext.drewN | with_reducible apply Ext.plus_ | with_reducible refine Ext.put ?_ (by omega))
  have hB : Box s (mcells ic none 0 0 oc none 0 0 0) P Y := by
    rw [hY]
    repeat' (first | with_reducible assumption | ((with_reducible refine Box.fresh ?fb ?fn ?fr); (case fb => first | omega | (simp <;> omega)); (case fn => first | omega | (simp <;> omega)); (case fr => rfl)) | with_reducible apply Box.up | with_reducible apply Box.drew_ | with_reducible apply Box.drewN_ | with_reducible apply Box.plus_ | with_reducible apply Box.put | with_reducible refine Box.off ?_ (by omega))
    all_goals first | rfl | (simp; done)
  have hwn : w.heap.size ≤ N := by rw [HN.out]; exact Nat.le_refl _
  have hst : MSt w Y N s P A m c lm 0 ic [] oc [] 0 none 0 0 none 0 0 :=
    ⟨hE.trans hEY, hsP, by omega, hwn, hS0.ext hEY, hB, hB0.ext hEY, RB.zero _, RB.zero _⟩
  rw [← hP]
  clear hY hP H hS0 hE hEY hB hB0 hs HN
  go_loopg [] m (fun gk wr => MRel w N s P A m c lm ic oc gk wr)
  case atStart => exact ⟨0, [], [], 0, none, 0, 0, none, 0, 0, rfl, Nat.zero_le _, Lib.hid hst, Lib.hid ⟨by simp, by simp, by omega, by omega⟩⟩
  case round =>
    clear hst
    obtain ⟨i, l, k, bu, A0, n0, c0, B0, m0, d0, hgk, him, hst, har⟩ := hrel
    have HG := Lib.hid hgk
    clear hgk
    go_wp2_with fail
    refine (left_any s A m c lm i _ hst.out.src).mono ?_
    rintro e w1 ⟨rfl, hE1⟩
    have HT1 := Lib.hid (hst.out.ext hE1)
    have HAR := Lib.hid har.out
    clear hst hE1 har
    by_cases hlt : i < m
    · rw [decide_eq_true hlt]
      go_wp2_with fail
      refine (next_m 4 HT1.out (by decide) (by decide)).mono ?_
      rintro e w2 ⟨z, j, rfl, hz0, hz1, hij, hjm, hup, -, hT⟩
      have hij2 := hup hlt
      have HT2 := Lib.hid hT
      obtain ⟨q0, q1, q2, q3, q4, q5, q6, q7, q8⟩ := Box.cells9 hT.box
      have HA := Lib.hid (And.intro (HAR.out.hl) (HAR.out.hk))
      have hb0 := HAR.out.b0
      have hb1 := HAR.out.b1
      clear hup hT HT1
      obtain rfl | rfl | rfl | rfl : z = 0 ∨ z = 1 ∨ z = 2 ∨ z = 3 := by omega
      · go_wp2_with fail
        go_region_with (first | (go_at_call 17; (refine calls_at fun W3 hW3 => ?_); (have hE3 : Ext w2 W3 := (by (rw [hW3]; (repeat' (first | with_reducible assumption | with_reducible exact Ext.refl _ | with_reducible apply Ext.alloc | with_reducible apply Ext.drew | with_reducible apply Ext.drewN | with_reducible apply Ext.plus_))))); (have hT3 := HT2.out.ext hE3); clear hW3 hE3; (refine (bytes_m 9 hT3 (by decide) (by decide)).mono ?_); (rintro e w3 ⟨V, vn, vc, bl, j2, rfl, hV, hvl, hv9, hjj, hjm2, -, hT⟩); (obtain ⟨x0, x1, x2, x3, x4, x5, x6, x7, x8⟩ := Box.cells9 hT.box); (have HT3 := Lib.hid (And.intro hT (And.intro hV hvl))); clear hT hV hvl hT3 q0 q1 q2 q3 q4 q5 q6 q7 q8) | (go_at_call 24; (refine calls_at fun W4 hW4 => ?_); (have hE4 : Ext w3 W4 := (by (rw [hW4]; (repeat' (first | with_reducible assumption | with_reducible exact Ext.refl _ | with_reducible apply Ext.alloc | with_reducible apply Ext.drew | with_reducible apply Ext.drewN | with_reducible apply Ext.plus_))))); clear hW4; (refine (refOffer_m ic A0 n0 c0 l oc B0 m0 d0 k bu V vn vc bl W4 (HT3.out.1.ra.lift hE4) (by have := HT3.out.1.ra.len; have := HA.out.1; omega) (HT3.out.1.rb.lift hE4) (by have := HT3.out.1.rb.len; have := HA.out.2; omega) (HT3.out.2.1.lift hE4) hv9).mono ?_); (rintro e w4 ⟨A1, n1, c1, B1, m1, d1, qq, rfl, h1, h2, hE5⟩); (have hT4 := HT3.out.1.ext (hE4.trans hE5)); (obtain ⟨y0, y1, y2, y3, y4, y5, y6, y7, y8⟩ := Box.cells9 (hT4.box)); (have yF := hT4.box.free); (have yL := hT4.box.lt); (have HT4 := Lib.hid (And.intro hT4 (And.intro h1 h2))); clear hT4 h1 h2 hE4 hE5 x0 x1 x2 x3 x4 x5 x6 x7 x8))
        all_goals
          go_wp2_with fail
          go_roundg (m - j2)
          case measure =>
            have := HG.out
            omega
          case rel =>
            obtain ⟨hT4, h1, h2⟩ := HT4.out
            have hE := hT4.e
            have hS := hT4.src
            have hBx := hT4.box
            have hR := hT4.res
            have hsp := hT4.sp
            have hws := hT4.ws
            have hwn := hT4.wn
            obtain ⟨y0, y1, y2, y3, y4, y5, y6, y7, y8⟩ := Box.cells9 hBx
            clear hT4 HT2 HT4
            skip
            refine ⟨j2, _, _, _, A1, n1, c1, B1, m1, d1, rfl, hjm2, Lib.hid ⟨?_, hsp, hws, hwn, ?_, ?_, ?_, h1.u8 ?_, h2.u8 ?_⟩, Lib.hid (HAR.out.offer (by omega) (by have := HT3.out.2.2; omega))⟩
            · repeat' (first | with_reducible assumption | with_reducible exact Ext.refl _ | with_reducible apply Ext.alloc | with_reducible apply Ext.drew | with_reducible apply Ext.drewN | with_reducible apply Ext.plus_ | with_reducible refine Ext.put ?_ (by omega))
            · repeat' (first | with_reducible assumption | with_reducible apply SrcAt.up | with_reducible apply SrcAt.drew_ | with_reducible apply SrcAt.drewN_ | with_reducible refine SrcAt.put ?_ (by omega))
            · repeat' (first | with_reducible assumption | ((with_reducible refine Box.fresh ?fb ?fn ?fr); (case fb => first | omega | (simp <;> omega)); (case fn => first | omega | (simp <;> omega)); (case fr => rfl)) | with_reducible apply Box.up | with_reducible apply Box.drew_ | with_reducible apply Box.drewN_ | with_reducible apply Box.plus_ | with_reducible apply Box.put | with_reducible refine Box.off ?_ (by omega))
              all_goals first | rfl | (simp; done)
            · repeat' (first | with_reducible assumption | ((with_reducible refine Box.fresh ?fb ?fn ?fr); (case fb => first | omega | (simp <;> omega)); (case fn => first | omega | (simp <;> omega)); (case fr => rfl)) | with_reducible apply Box.up | with_reducible apply Box.drew_ | with_reducible apply Box.drewN_ | with_reducible apply Box.plus_ | with_reducible apply Box.put | with_reducible refine Box.off ?_ (by omega))
              all_goals first | rfl | (simp; done)
            · repeat' (first | with_reducible exact U8.refl _ | with_reducible assumption | with_reducible apply U8.up | with_reducible apply U8.drew | ((with_reducible refine U8.putE ?_ ?_); rotate_left; (refine ⟨_, by assumption, ?_⟩); intro _ h; cases h) | ((with_reducible refine U8.new ?_ ?_); rotate_left; first | omega | (simp <;> omega)))
            · repeat' (first | with_reducible exact U8.refl _ | with_reducible assumption | with_reducible apply U8.up | with_reducible apply U8.drew | ((with_reducible refine U8.putE ?_ ?_); rotate_left; (refine ⟨_, by assumption, ?_⟩); intro _ h; cases h) | ((with_reducible refine U8.new ?_ ?_); rotate_left; first | omega | (simp <;> omega)))
      · go_wp2_with fail
        go_region_with (first | (go_at_call 15; (refine calls_at fun W3 hW3 => ?_); (have hE3 : Ext w2 W3 := (by (rw [hW3]; (repeat' (first | with_reducible assumption | with_reducible exact Ext.refl _ | with_reducible apply Ext.alloc | with_reducible apply Ext.drew | with_reducible apply Ext.drewN | with_reducible apply Ext.plus_))))); (have hT3 := HT2.out.ext hE3); clear hW3 hE3; (refine (next_m 9 hT3 (by decide) (by decide)).mono ?_); (rintro e w3 ⟨g, j2, rfl, hg0, hg1, hjj, hjm2, -, -, hT⟩); (obtain ⟨x0, x1, x2, x3, x4, x5, x6, x7, x8⟩ := Box.cells9 hT.box); (have HT3 := Lib.hid (And.intro hT trivial)); clear hT hT3 q0 q1 q2 q3 q4 q5 q6 q7 q8) | (go_at_call 28; (refine calls_at fun W4 hW4 => ?_); (have hE4 : Ext w3 W4 := (by (rw [hW4]; (repeat' (first | with_reducible assumption | with_reducible exact Ext.refl _ | with_reducible apply Ext.alloc | with_reducible apply Ext.drew | with_reducible apply Ext.drewN | with_reducible apply Ext.plus_))))); clear hW4; (refine (refEat_m ic A0 n0 c0 l oc B0 m0 d0 k bu g W4 (HT3.out.1.ra.lift hE4) (by have := HT3.out.1.ra.len; have := HA.out.1; omega) (HT3.out.1.rb.lift hE4) (by have := HT3.out.1.rb.len; have := HA.out.2; omega)).mono ?_); (rintro e w4 ⟨A1, n1, c1, B1, m1, d1, rfl, h1, h2, hE5⟩); (have hT4 := HT3.out.1.ext (hE4.trans hE5)); (obtain ⟨y0, y1, y2, y3, y4, y5, y6, y7, y8⟩ := Box.cells9 (hT4.box)); (have yF := hT4.box.free); (have yL := hT4.box.lt); (have HT4 := Lib.hid (And.intro hT4 (And.intro h1 h2))); clear hT4 h1 h2 hE4 hE5 x0 x1 x2 x3 x4 x5 x6 x7 x8))
        all_goals
          go_wp2_with fail
          go_roundg (m - j2)
          case measure =>
            have := HG.out
            omega
          case rel =>
            obtain ⟨hT4, h1, h2⟩ := HT4.out
            have hE := hT4.e
            have hS := hT4.src
            have hBx := hT4.box
            have hR := hT4.res
            have hsp := hT4.sp
            have hws := hT4.ws
            have hwn := hT4.wn
            obtain ⟨y0, y1, y2, y3, y4, y5, y6, y7, y8⟩ := Box.cells9 hBx
            clear hT4 HT2 HT4
            skip
            refine ⟨j2, _, _, _, A1, n1, c1, B1, m1, d1, rfl, hjm2, Lib.hid ⟨?_, hsp, hws, hwn, ?_, ?_, ?_, h1.u8 ?_, h2.u8 ?_⟩, Lib.hid (HAR.out.eat (by omega))⟩
            · repeat' (first | with_reducible assumption | with_reducible exact Ext.refl _ | with_reducible apply Ext.alloc | with_reducible apply Ext.drew | with_reducible apply Ext.drewN | with_reducible apply Ext.plus_ | with_reducible refine Ext.put ?_ (by omega))
            · repeat' (first | with_reducible assumption | with_reducible apply SrcAt.up | with_reducible apply SrcAt.drew_ | with_reducible apply SrcAt.drewN_ | with_reducible refine SrcAt.put ?_ (by omega))
            · repeat' (first | with_reducible assumption | ((with_reducible refine Box.fresh ?fb ?fn ?fr); (case fb => first | omega | (simp <;> omega)); (case fn => first | omega | (simp <;> omega)); (case fr => rfl)) | with_reducible apply Box.up | with_reducible apply Box.drew_ | with_reducible apply Box.drewN_ | with_reducible apply Box.plus_ | with_reducible apply Box.put | with_reducible refine Box.off ?_ (by omega))
              all_goals first | rfl | (simp; done)
            · repeat' (first | with_reducible assumption | ((with_reducible refine Box.fresh ?fb ?fn ?fr); (case fb => first | omega | (simp <;> omega)); (case fn => first | omega | (simp <;> omega)); (case fr => rfl)) | with_reducible apply Box.up | with_reducible apply Box.drew_ | with_reducible apply Box.drewN_ | with_reducible apply Box.plus_ | with_reducible apply Box.put | with_reducible refine Box.off ?_ (by omega))
              all_goals first | rfl | (simp; done)
            · repeat' (first | with_reducible exact U8.refl _ | with_reducible assumption | with_reducible apply U8.up | with_reducible apply U8.drew | ((with_reducible refine U8.putE ?_ ?_); rotate_left; (refine ⟨_, by assumption, ?_⟩); intro _ h; cases h) | ((with_reducible refine U8.new ?_ ?_); rotate_left; first | omega | (simp <;> omega)))
            · repeat' (first | with_reducible exact U8.refl _ | with_reducible assumption | with_reducible apply U8.up | with_reducible apply U8.drew | ((with_reducible refine U8.putE ?_ ?_); rotate_left; (refine ⟨_, by assumption, ?_⟩); intro _ h; cases h) | ((with_reducible refine U8.new ?_ ?_); rotate_left; first | omega | (simp <;> omega)))
      · have hPX : P < w2.heap.size := HT2.out.box.lt
        go_wp2_with fail
        go_cut [9, 10, 11] from 21 to 59 (fun s9 s10 s11 wx => PutCut w N s P A m c lm j ic l oc k bu A0 n0 c0 B0 m0 d0 s9 s11 wx)
        case first =>
          go_region_with (first | (go_at_call 17; (refine calls_at fun W3 hW3 => ?_); (have hE3 : Ext w2 W3 := (by (rw [hW3]; (repeat' (first | with_reducible assumption | with_reducible exact Ext.refl _ | with_reducible apply Ext.alloc | with_reducible apply Ext.drew | with_reducible apply Ext.drewN | with_reducible apply Ext.plus_))))); (try ((refine with_ (a := Box s pz w2.heap.size W3) ?_ ?_); (focus ((rw [hW3]); (repeat' (first | with_reducible assumption | with_reducible refine Box.fresh ?_ ?_ ?_ | with_reducible apply Box.up | with_reducible apply Box.drew_ | with_reducible apply Box.drewN_ | with_reducible apply Box.plus_ | with_reducible rfl | omega | (simp; omega) | rfl)); done)); intro hz)); (have hT3 := HT2.out.ext hE3); clear hW3 hE3; (refine (bytes_m 9 hT3 (by decide) (by decide)).mono ?_); (rintro e w3 ⟨V, vn, vc, bl, j2, rfl, hV, hvl, hv9, hjj, hjm2, hse, hT⟩); (try replace hz := SE.box hz hse (by omega)); (obtain ⟨x0, x1, x2, x3, x4, x5, x6, x7, x8⟩ := Box.cells9 hT.box); (have hPX3 := hT.box.lt); (have HT3 := Lib.hid (And.intro hT (And.intro hV hvl))); clear hT hV hvl hT3 hse q0 q1 q2 q3 q4 q5 q6 q7 q8) | (go_at_call 25; (refine calls_at fun W4 hW4 => ?_); (have hE4 : Ext w3 W4 := (by (rw [hW4]; (repeat' (first | with_reducible assumption | with_reducible exact Ext.refl _ | with_reducible apply Ext.alloc | with_reducible apply Ext.drew | with_reducible apply Ext.drewN | with_reducible apply Ext.plus_))))); (first | (replace hz := hz.ext hE4) | ((refine with_ (a := Box s pz w3.heap.size W4) ?_ ?_); (focus ((rw [hW4]); (repeat' (first | with_reducible assumption | with_reducible refine Box.fresh ?_ ?_ ?_ | with_reducible apply Box.up | with_reducible apply Box.drew_ | with_reducible apply Box.drewN_ | with_reducible apply Box.plus_ | with_reducible rfl | omega | (simp; omega) | rfl)); done)); intro hz) | skip); clear hW4; (refine (refPput_m ic A0 n0 c0 l oc B0 m0 d0 k bu V vn vc bl W4 (HT3.out.1.ra.lift hE4) (HT3.out.1.rb.lift hE4) (by have := HT3.out.1.rb.len; have := HA.out.2; omega) (HT3.out.2.1.lift hE4) hb0 hb1).mono ?_); (rintro e w4 ⟨id1, cl1, ic1, A1, n1, c1, oc1, B1, m1, d1, bu1, A2, n2, c2, er, rfl, hor, hE5⟩); (have hT4 := HT3.out.1.ext (hE4.trans hE5)); (obtain ⟨y0, y1, y2, y3, y4, y5, y6, y7, y8⟩ := Box.cells9 (hT4.box)); (have yF := hT4.box.free); (have yL := hT4.box.lt); (have HT4 := Lib.hid hT4); (try ((replace hz := hz.ext hE5); (obtain ⟨z0, z1, z2, z3, z4, z5, z6, z7, z8⟩ := Box.cells9 hz); (have zF := hz.free); (have zL := hz.lt); (have HZ := Lib.hid hz); clear hz)); clear hT4 hE4 hE5 x0 x1 x2 x3 x4 x5 x6 x7 x8))
          all_goals
            go_wp2_with fail
            go_meet
            case rel =>
              have hT4 := HT4.out
              try have hz := HZ.out
              have hE := hT4.e
              have hS := hT4.src
              have hBx := hT4.box
              have hR := hT4.res
              have hsp := hT4.sp
              have hws := hT4.ws
              have hwn := hT4.wn
              clear HAR HA HG
              refine PutCut.mk hT4 hor.out hjj hjm2 (by have := HT3.out.2.2; omega) (by first | omega | (simp; omega)) ?_ ?_ ?_ ?_ ?_ ?_
              · repeat' (first | with_reducible assumption | with_reducible exact Ext.refl _ | with_reducible apply Ext.alloc | with_reducible apply Ext.drew | with_reducible apply Ext.drewN | with_reducible apply Ext.plus_ | with_reducible refine Ext.put ?_ (by omega))
              · repeat' (first | with_reducible assumption | with_reducible apply SrcAt.up | with_reducible apply SrcAt.drew_ | with_reducible apply SrcAt.drewN_ | with_reducible refine SrcAt.put ?_ (by omega))
              · repeat' (first | with_reducible assumption | ((with_reducible refine Box.fresh ?fb ?fn ?fr); (case fb => first | omega | (simp <;> omega)); (case fn => first | omega | (simp <;> omega)); (case fr => rfl)) | with_reducible apply Box.up | with_reducible apply Box.drew_ | with_reducible apply Box.drewN_ | with_reducible apply Box.plus_ | with_reducible apply Box.put | with_reducible refine Box.off ?_ (by omega))
                all_goals first | rfl | (simp; done)
              · repeat' (first | with_reducible assumption | ((with_reducible refine Box.fresh ?fb ?fn ?fr); (case fb => first | omega | (simp <;> omega)); (case fn => first | omega | (simp <;> omega)); (case fr => rfl)) | with_reducible apply Box.up | with_reducible apply Box.drew_ | with_reducible apply Box.drewN_ | with_reducible apply Box.plus_ | with_reducible apply Box.put | with_reducible refine Box.off ?_ (by omega))
                all_goals first | rfl | (simp; done)
              · repeat' (first | with_reducible assumption | ((with_reducible refine Box.fresh ?fb ?fn ?fr); (case fb => first | omega | (simp <;> omega)); (case fn => first | omega | (simp <;> omega)); (case fr => rfl)) | with_reducible apply Box.up | with_reducible apply Box.drew_ | with_reducible apply Box.drewN_ | with_reducible apply Box.plus_ | with_reducible apply Box.put | with_reducible refine Box.off ?_ (by omega))
                all_goals first | rfl | (simp; done)
              · repeat' (first | with_reducible exact U8.refl _ | with_reducible assumption | with_reducible apply U8.up | with_reducible apply U8.drew | ((with_reducible refine U8.putE ?_ ?_); rotate_left; (refine ⟨_, by assumption, ?_⟩); intro _ h; cases h) | ((with_reducible refine U8.new ?_ ?_); rotate_left; first | omega | (simp <;> omega)))
        case rest =>
          clear HT2
          obtain ⟨j2, bl, id1, cl1, ic1, A1, n1, c1, oc1, B1, m1, d1, bu1, er, Q, rfl, rfl, hjj, hjm2, hPQ, hbl, hT4, hBQ, hor⟩ := hcut
          have HT4 := Lib.hid hT4.out
          have hb := hBQ.out
          have z0 := hb.cell 0 (by simp)
          have z1 := hb.cell 1 (by simp)
          have z2 := hb.cell 2 (by simp)
          have z3 := hb.cell 3 (by simp)
          have z4 := hb.cell 4 (by simp)
          have z5 := hb.cell 5 (by simp)
          have z6 := hb.cell 6 (by simp)
          have z7 := hb.cell 7 (by simp)
          have z8 := hb.cell 8 (by simp)
          simp only [List.getElem?_cons_zero, List.getElem?_cons_succ] at z0 z1 z2 z3 z4 z5 z6 z7 z8
          have zF := hb.free
          have zL := hb.lt
          have zB := hb.base
          clear hb
          have hb := hT4.out.box
          have y0 := hb.cell 0 (by simp)
          have y1 := hb.cell 1 (by simp)
          have y2 := hb.cell 2 (by simp)
          have y3 := hb.cell 3 (by simp)
          have y4 := hb.cell 4 (by simp)
          have y5 := hb.cell 5 (by simp)
          have y6 := hb.cell 6 (by simp)
          have y7 := hb.cell 7 (by simp)
          have y8 := hb.cell 8 (by simp)
          simp only [List.getElem?_cons_zero, List.getElem?_cons_succ] at y0 y1 y2 y3 y4 y5 y6 y7 y8
          have yF := hb.free
          have yL := hb.lt
          have yB := hb.base
          clear hb hT4
          have hor2 := hor.out
          clear hor
          rcases hor2 with ⟨rfl, rfl, rfl, rfl, rfl, hbu, h1, h2⟩ | rfl
          · have HX := Lib.hid (And.intro hbu (And.intro h1 h2))
            clear hbu h1 h2
            go_wp2_with fail
            go_roundg (m - j2)
            case measure =>
              have := HG.out
              omega
            case rel =>
              have hT4 := HT4.out
              obtain ⟨hbu, h1, h2⟩ := HX.out
              have hE := hT4.e
              have hS := hT4.src
              have hBx := hT4.box
              have hR := hT4.res
              have hsp := hT4.sp
              have hws := hT4.ws
              have hwn := hT4.wn
              refine ⟨j2, _, _, _, A1, n1, c1, B1, m1, d1, rfl, hjm2, Lib.hid ⟨?_, hsp, hws, hwn, ?_, ?_, ?_, h1.u8 ?_, h2.u8 ?_⟩, Lib.hid (hbu ▸ HAR.out.put (by omega) hbl)⟩
              · repeat' (first | with_reducible assumption | with_reducible exact Ext.refl _ | with_reducible apply Ext.alloc | with_reducible apply Ext.drew | with_reducible apply Ext.drewN | with_reducible apply Ext.plus_ | with_reducible refine Ext.put ?_ (by omega))
              · repeat' (first | with_reducible assumption | with_reducible apply SrcAt.up | with_reducible apply SrcAt.drew_ | with_reducible apply SrcAt.drewN_ | with_reducible refine SrcAt.put ?_ (by omega))
              · repeat' (first | with_reducible assumption | ((with_reducible refine Box.fresh ?fb ?fn ?fr); (case fb => first | omega | (simp <;> omega)); (case fn => first | omega | (simp <;> omega)); (case fr => rfl)) | with_reducible apply Box.up | with_reducible apply Box.drew_ | with_reducible apply Box.drewN_ | with_reducible apply Box.plus_ | with_reducible apply Box.put | with_reducible refine Box.off ?_ (by omega))
                all_goals first | rfl | (simp; done)
              · repeat' (first | with_reducible assumption | ((with_reducible refine Box.fresh ?fb ?fn ?fr); (case fb => first | omega | (simp <;> omega)); (case fn => first | omega | (simp <;> omega)); (case fr => rfl)) | with_reducible apply Box.up | with_reducible apply Box.drew_ | with_reducible apply Box.drewN_ | with_reducible apply Box.plus_ | with_reducible apply Box.put | with_reducible refine Box.off ?_ (by omega))
                all_goals first | rfl | (simp; done)
              · repeat' (first | with_reducible exact U8.refl _ | with_reducible assumption | with_reducible apply U8.up | with_reducible apply U8.drew | ((with_reducible refine U8.putE ?_ ?_); rotate_left; (refine ⟨_, by assumption, ?_⟩); intro _ h; cases h) | ((with_reducible refine U8.new ?_ ?_); rotate_left; first | omega | (simp <;> omega)))
              · repeat' (first | with_reducible exact U8.refl _ | with_reducible assumption | with_reducible apply U8.up | with_reducible apply U8.drew | ((with_reducible refine U8.putE ?_ ?_); rotate_left; (refine ⟨_, by assumption, ?_⟩); intro _ h; cases h) | ((with_reducible refine U8.new ?_ ?_); rotate_left; first | omega | (simp <;> omega)))
          · go_wp2_with fail
            go_roundg (m - j2)
            case measure =>
              have := HG.out
              omega
            case rel => exact ⟨j2, _, _, _, A0, n0, c0, B0, m0, d0, rfl, hjm2, HT4, Lib.hid (HAR.out.mono (by omega))⟩
      · go_wp2_with fail
        go_region_with (first | (go_at_call 15; (refine calls_at fun W3 hW3 => ?_); (have hE3 : Ext w2 W3 := (by (rw [hW3]; (repeat' (first | with_reducible assumption | with_reducible exact Ext.refl _ | with_reducible apply Ext.alloc | with_reducible apply Ext.drew | with_reducible apply Ext.drewN | with_reducible apply Ext.plus_))))); (have hT3 := HT2.out.ext hE3); clear hW3 hE3; (refine (next_m 9 hT3 (by decide) (by decide)).mono ?_); (rintro e w3 ⟨g, j2, rfl, hg0, hg1, hjj, hjm2, -, -, hT⟩); (obtain ⟨x0, x1, x2, x3, x4, x5, x6, x7, x8⟩ := Box.cells9 hT.box); (have HT3 := Lib.hid (And.intro hT trivial)); clear hT hT3 q0 q1 q2 q3 q4 q5 q6 q7 q8) | (go_at_call 26; (refine calls_at fun W4 hW4 => ?_); (have hE4 : Ext w3 W4 := (by (rw [hW4]; (repeat' (first | with_reducible assumption | with_reducible exact Ext.refl _ | with_reducible apply Ext.alloc | with_reducible apply Ext.drew | with_reducible apply Ext.drewN | with_reducible apply Ext.plus_))))); clear hW4; (refine (refGrant_m ic A0 n0 c0 l oc B0 m0 d0 k bu g W4 (HT3.out.1.ra.lift hE4) (HT3.out.1.rb.lift hE4) (by have := HT3.out.1.rb.len; have := HA.out.2; omega)).mono ?_); (rintro e w4 ⟨A1, n1, c1, B1, m1, d1, A2, n2, c2, bq, rfl, hbq, h1, h2, hE5⟩); (have hT4 := HT3.out.1.ext (hE4.trans hE5)); (obtain ⟨y0, y1, y2, y3, y4, y5, y6, y7, y8⟩ := Box.cells9 (hT4.box)); (have yF := hT4.box.free); (have yL := hT4.box.lt); (have HT4 := Lib.hid (And.intro hT4 (And.intro h1 h2))); clear hT4 h1 h2 hE4 hE5 x0 x1 x2 x3 x4 x5 x6 x7 x8))
        all_goals
          go_wp2_with fail
          go_roundg (m - j2)
          case measure =>
            have := HG.out
            omega
          case rel =>
            obtain ⟨hT4, h1, h2⟩ := HT4.out
            have hE := hT4.e
            have hS := hT4.src
            have hBx := hT4.box
            have hR := hT4.res
            have hsp := hT4.sp
            have hws := hT4.ws
            have hwn := hT4.wn
            obtain ⟨y0, y1, y2, y3, y4, y5, y6, y7, y8⟩ := Box.cells9 hBx
            clear hT4 HT2 HT4
            (have hbd := addTo_bd 1000000 [bu, g] 2; rw [hbq.out])
            refine ⟨j2, _, _, _, A1, n1, c1, B1, m1, d1, rfl, hjm2, Lib.hid ⟨?_, hsp, hws, hwn, ?_, ?_, ?_, h1.u8 ?_, h2.u8 ?_⟩, Lib.hid (HAR.out.grant (by omega) hbd.1 (by have := hbd.2; omega))⟩
            · repeat' (first | with_reducible assumption | with_reducible exact Ext.refl _ | with_reducible apply Ext.alloc | with_reducible apply Ext.drew | with_reducible apply Ext.drewN | with_reducible apply Ext.plus_ | with_reducible refine Ext.put ?_ (by omega))
            · repeat' (first | with_reducible assumption | with_reducible apply SrcAt.up | with_reducible apply SrcAt.drew_ | with_reducible apply SrcAt.drewN_ | with_reducible refine SrcAt.put ?_ (by omega))
            · repeat' (first | with_reducible assumption | ((with_reducible refine Box.fresh ?fb ?fn ?fr); (case fb => first | omega | (simp <;> omega)); (case fn => first | omega | (simp <;> omega)); (case fr => rfl)) | with_reducible apply Box.up | with_reducible apply Box.drew_ | with_reducible apply Box.drewN_ | with_reducible apply Box.plus_ | with_reducible apply Box.put | with_reducible refine Box.off ?_ (by omega))
              all_goals first | rfl | (simp; done)
            · repeat' (first | with_reducible assumption | ((with_reducible refine Box.fresh ?fb ?fn ?fr); (case fb => first | omega | (simp <;> omega)); (case fn => first | omega | (simp <;> omega)); (case fr => rfl)) | with_reducible apply Box.up | with_reducible apply Box.drew_ | with_reducible apply Box.drewN_ | with_reducible apply Box.plus_ | with_reducible apply Box.put | with_reducible refine Box.off ?_ (by omega))
              all_goals first | rfl | (simp; done)
            · repeat' (first | with_reducible exact U8.refl _ | with_reducible assumption | with_reducible apply U8.up | with_reducible apply U8.drew | ((with_reducible refine U8.putE ?_ ?_); rotate_left; (refine ⟨_, by assumption, ?_⟩); intro _ h; cases h) | ((with_reducible refine U8.new ?_ ?_); rotate_left; first | omega | (simp <;> omega)))
            · repeat' (first | with_reducible exact U8.refl _ | with_reducible assumption | with_reducible apply U8.up | with_reducible apply U8.drew | ((with_reducible refine U8.putE ?_ ?_); rotate_left; (refine ⟨_, by assumption, ?_⟩); intro _ h; cases h) | ((with_reducible refine U8.new ?_ ?_); rotate_left; first | omega | (simp <;> omega)))
    · rw [decide_eq_false hlt]
      have hB := HT1.out.box
      have hR := HT1.out.res
      have hE := HT1.out.e
      have q0 := hB.cell 0 (by simp)
      have q1 := hB.cell 1 (by simp)
      have q2 := hB.cell 2 (by simp)
      have q3 := hB.cell 3 (by simp)
      have q4 := hB.cell 4 (by simp)
      have q5 := hB.cell 5 (by simp)
      have q6 := hB.cell 6 (by simp)
      have q7 := hB.cell 7 (by simp)
      have q8 := hB.cell 8 (by simp)
      simp only [List.getElem?_cons_zero, List.getElem?_cons_succ] at q0 q1 q2 q3 q4 q5 q6 q7 q8
      have qF := hB.free
      have qL := hB.lt
      have qB := hB.base
      have p0 := hR.cell 0 (by simp)
      have p1 := hR.cell 1 (by simp)
      have p2 := hR.cell 2 (by simp)
      have p3 := hR.cell 3 (by simp)
      have p4 := hR.cell 4 (by simp)
      have p5 := hR.cell 5 (by simp)
      have p6 := hR.cell 6 (by simp)
      have p7 := hR.cell 7 (by simp)
      have p8 := hR.cell 8 (by simp)
      simp only [List.getElem?_cons_zero, List.getElem?_cons_succ] at p0 p1 p2 p3 p4 p5 p6 p7 p8
      have pF := hR.free
      have pL := hR.lt
      have pB := hR.base
      have HE := Lib.hid hE
      clear hB hR hE
      go_wp2
      refine bodyPost_ret (v := (pv 7 1 ic A0 n0 c0 oc B0 m0 d0 bu false false)) (by simp [results, Try.results21, go_sem, p0, p1, p2, p3, p4, p5, p6, p7, p8]) rfl ?_
      have hE := HE.out
      refine ⟨_, l, k, bu, rfl, ⟨A0, n0, c0, B0, m0, d0, rfl, HT1.out.ra.u8 ?_, HT1.out.rb.u8 ?_⟩, by (have := HAR.out.hl; omega), by (have := HAR.out.hk; omega), HAR.out.b0, HAR.out.b1, ?_⟩
      · repeat' (first | with_reducible exact U8.refl _ | with_reducible assumption | with_reducible apply U8.up | with_reducible apply U8.drew | ((with_reducible refine U8.putE ?_ ?_); rotate_left; (refine ⟨_, by assumption, ?_⟩); intro _ h; cases h) | ((with_reducible refine U8.new ?_ ?_); rotate_left; first | omega | (simp <;> omega)))
      · repeat' (first | with_reducible exact U8.refl _ | with_reducible assumption | with_reducible apply U8.up | with_reducible apply U8.drew | ((with_reducible refine U8.putE ?_ ?_); rotate_left; (refine ⟨_, by assumption, ?_⟩); intro _ h; cases h) | ((with_reducible refine U8.new ?_ ?_); rotate_left; first | omega | (simp <;> omega)))
      · repeat' (first | with_reducible assumption | with_reducible exact Ext.refl _ | with_reducible apply Ext.alloc | with_reducible apply Ext.drew | with_reducible apply Ext.drewN | with_reducible apply Ext.plus_ | with_reducible refine Ext.put ?_ (by omega))
end Go.Proofs.Ytphbmibgnnobcaa
