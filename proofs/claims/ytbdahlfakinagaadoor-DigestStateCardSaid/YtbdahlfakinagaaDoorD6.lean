/- digest.mix. -/
import Derived.Test.YtbdahlfakinagaaDoorD4
import Derived.Test.YtbdahlfakinagaaDoorD5
import Derived.Deep.CutRange
set_option linter.unusedVariables false
namespace Go.Proofs.YtbdahlfakinagaaDoor
open Go.RowKit Go.Rg

theorem w_build8 {d : Option Tmp} {x0 x1 x2 x3 x4 x5 x6 x7 : Nat} {pos : String} {after : Array Edge} {guard : Option (Nat × Bool)} {F : Act} {W : World} {a0 a1 a2 a3 a4 a5 a6 a7 : W32}
    (h0 : F.tmps.getD x0 undef = bw a0) (h1 : F.tmps.getD x1 undef = bw a1) (h2 : F.tmps.getD x2 undef = bw a2) (h3 : F.tmps.getD x3 undef = bw a3) (h4 : F.tmps.getD x4 undef = bw a4) (h5 : F.tmps.getD x5 undef = bw a5) (h6 : F.tmps.getD x6 undef = bw a6) (h7 : F.tmps.getD x7 undef = bw a7) :
    comes Tryd.prog { dst := d, op := .build 32 #[(0, .tmp x0), (1, .tmp x1), (2, .tmp x2), (3, .tmp x3), (4, .tmp x4), (5, .tmp x5), (6, .tmp x6), (7, .tmp x7)], type := 32, pos := pos, after := after, guard := guard } F W (fun v w' => Ext W w' ∧ v = .agg #[bw a0, bw a1, bw a2, bw a3, bw a4, bw a5, bw a6, bw a7]) := by
  obtain ⟨u0, hu0⟩ : ∃ u, u = (a0.toNat : Int) := ⟨_, rfl⟩
  obtain ⟨u1, hu1⟩ : ∃ u, u = (a1.toNat : Int) := ⟨_, rfl⟩
  obtain ⟨u2, hu2⟩ : ∃ u, u = (a2.toNat : Int) := ⟨_, rfl⟩
  obtain ⟨u3, hu3⟩ : ∃ u, u = (a3.toNat : Int) := ⟨_, rfl⟩
  obtain ⟨u4, hu4⟩ : ∃ u, u = (a4.toNat : Int) := ⟨_, rfl⟩
  obtain ⟨u5, hu5⟩ : ∃ u, u = (a5.toNat : Int) := ⟨_, rfl⟩
  obtain ⟨u6, hu6⟩ : ∃ u, u = (a6.toNat : Int) := ⟨_, rfl⟩
  obtain ⟨u7, hu7⟩ : ∃ u, u = (a7.toNat : Int) := ⟨_, rfl⟩
  simp only [bw, ← hu0, ← hu1, ← hu2, ← hu3, ← hu4, ← hu5, ← hu6, ← hu7] at *
  clear hu0 hu1 hu2 hu3 hu4 hu5 hu6 hu7
  rw [Array.getD_eq_getD_getElem?] at h0 h1 h2 h3 h4 h5 h6 h7
  simp only [comes]
  go_simp
  first | exact ⟨Ext.refl _, rfl⟩ | exact Ext.refl _
/-- What lies in memory in the rounds. -/
structure MixR (w : World) (B R V S : Nat) (s0 ws st : List W32) (wr : World) : Prop where
  st : Box 0 (st.map bw) S wr
  ws : Box 0 (ws.map bw) V wr
  s0 : Box 0 (s0.map bw) B wr
  res : Box 0 (zero8.map bw) R wr
  ext : Ext w wr
  glob : Glob wr
theorem MixR.ext' {w : World} {B R V S : Nat} {s0 ws st : List W32} {wr w2 : World} (h : MixR w B R V S s0 ws st wr) (e : Ext wr w2) : MixR w B R V S s0 ws st w2 := ⟨h.st.ext e, h.ws.ext e, h.s0.ext e, h.res.ext e, h.ext.trans e, h.glob.ext e⟩
/-- The state's box alone changed. -/
theorem MixR.stb {w : World} {B R V S : Nat} {s0 ws st st' : List W32} {wr w2 : World} (h : MixR w B R V S s0 ws st wr) (k : StB S wr w2) (hb : Box 0 (st'.map bw) S w2) (h1 : B ≠ S) (h2 : R ≠ S) (h3 : V ≠ S) (hw : w.heap.size ≤ S) (hg : 2 ≤ S) : MixR w B R V S s0 ws st' w2 :=
  ⟨hb, k.box h.ws h3, k.box h.s0 h1, k.box h.res h2, k.ext _ h.ext hw, ⟨fun j hj => by rw [k.cell _ (by show (0 : Nat) ≠ S; omega)]; exact h.glob.ini j hj, fun j hj => by rw [k.cell _ (by show (1 : Nat) ≠ S; omega)]; exact h.glob.con j hj⟩⟩
theorem StB.one (w : World) (b k : Nat) (v : Value) : StB b w (w.setCell ⟨b, k, none⟩ v) :=
  ⟨fun w0 h hb => Ext.put h hb, fun h hne => Box.off h (Ne.symm hne), fun p hp => World.cell?_setCell_other _ _ _ _ (fun e => hp (by rw [← e])), fun p => World.frozen?_setCell _ _ _ _, by simp⟩
set_option maxRecDepth 100000 in
set_option maxHeartbeats 8000000 in
theorem mix_core (x0 x1 x2 x3 x4 x5 x6 x7 : W32) (b o c : Nat) (bs : List Int) (w : World) (h : BytesAt b o 64 bs w) (hbw : b < w.heap.size) (hg : Glob w) (hg2 : 2 ≤ w.heap.size) :
    Calls Tryd.prog 23 #[.agg #[bw x0, bw x1, bw x2, bw x3, bw x4, bw x5, bw x6, bw x7], .slice (some ⟨b, o, none⟩) 64 c] w fun e w' => e = .returned (wv (blk [x0, x1, x2, x3, x4, x5, x6, x7] bs)) ∧ Ext w w' := by
  have HBY := Lib.hid (And.intro h hg)
  clear h hg
  go_enter Tryd.func23, Tryd.ntmps23
  go_wp2_with fail
  refine calls_at fun Y hY => ?_
  obtain ⟨B, hB⟩ : ∃ B, B = w.heap.size := ⟨_, rfl⟩
  obtain ⟨R, hR⟩ : ∃ R, R = B + 1 := ⟨_, rfl⟩
  have hB1 : Box 0 ([x0, x1, x2, x3, x4, x5, x6, x7].map bw) B Y := by
    rw [hY, hB]
    repeat' (first | with_reducible assumption | ((with_reducible refine Box.fresh ?fb ?fn ?fr); (case fb => first | omega | (simp <;> omega)); (case fn => first | omega | (simp <;> omega)); (case fr => rfl)) | with_reducible apply Box.up | with_reducible apply Box.drew_ | with_reducible apply Box.drewN_ | with_reducible apply Box.plus_ | with_reducible apply Box.put | with_reducible refine Box.off ?_ (by omega))
    all_goals first | rfl | (simp; done)
  have hB2 : Box 0 (zero8.map bw) R Y := by
    rw [hY, hR, hB]
    repeat' (first | with_reducible assumption | ((with_reducible refine Box.fresh ?fb ?fn ?fr); (case fb => first | omega | (simp <;> omega)); (case fn => first | omega | (simp <;> omega)); (case fr => rfl)) | with_reducible apply Box.up | with_reducible apply Box.drew_ | with_reducible apply Box.drewN_ | with_reducible apply Box.plus_ | with_reducible apply Box.put | with_reducible refine Box.off ?_ (by omega))
    all_goals first | rfl | (simp; done)
  have hE : Ext w Y := by
    rw [hY]
    repeat' (first | with_reducible assumption | with_reducible exact Ext.refl _ | with_reducible apply Ext.alloc | with_reducible apply Ext.drew | with_reducible apply Ext.drewN | with_reducible apply Ext.plus_ | with_reducible refine Ext.put ?_ (by omega))
  rw [← hB, ← hR]
  have hRw : w.heap.size ≤ R := by omega
  have hBw : w.heap.size ≤ B := by omega
  have hYs : R + 1 ≤ Y.heap.size := hB2.lt
  have hbY : b < Y.heap.size := Nat.lt_of_lt_of_le hbw hE.size
  clear hY hB hR
  refine (schedule_core b o c bs Y (HBY.out.1.ext hE) hbY).mono ?_
  rintro e Y1 ⟨rfl, hE1⟩
  have H1 := Lib.hid (And.intro (hB1.ext hE1) (And.intro (hB2.ext hE1) (hE.trans hE1)))
  have hY1 : R + 1 ≤ Y1.heap.size := Nat.le_trans hYs hE1.size
  clear hB1 hB2 hE hE1 hYs hbY
  go_wp2_with (with_reducible show wpList _ _ _ (⟨none, _, _, _, _, _⟩ :: _) _ _; refine Lock.out ?_)
  refine ⟨?_, trivial⟩
  refine wl_at fun Z hZ => ?_
  obtain ⟨V, hV⟩ : ∃ V, V = Y1.heap.size := ⟨_, rfl⟩
  have hB0 : Box 0 (zero64.map bw) V Z := by
    rw [hZ, hV]
    repeat' (first | with_reducible assumption | ((with_reducible refine Box.fresh ?fb ?fn ?fr); (case fb => first | omega | (simp <;> omega)); (case fn => first | omega | (simp <;> omega)); (case fr => rfl)) | with_reducible apply Box.up | with_reducible apply Box.drew_ | with_reducible apply Box.drewN_ | with_reducible apply Box.plus_ | with_reducible apply Box.put | with_reducible refine Box.off ?_ (by omega))
    all_goals first | rfl | (simp; done)
  have hE1 : Ext Y1 Z := by
    rw [hZ]
    repeat' (first | with_reducible assumption | with_reducible exact Ext.refl _ | with_reducible apply Ext.alloc | with_reducible apply Ext.drew | with_reducible apply Ext.drewN | with_reducible apply Ext.plus_ | with_reducible refine Ext.put ?_ (by omega))
  have hVl : Y1.heap.size ≤ V := by omega
  rw [← hV]
  clear hZ hV
  refine wl_store rfl 47 (.tmp 5) (.tmp 15) rfl hB0 ((sched bs).map bw) rfl rfl (by rw [List.length_map, List.length_map, sched_len]; rfl) (by rw [List.length_map, sched_len]; kernel_rfl) (one_cells _) fun W1 hBV hx => ?_
  have hE2 := hx.ext _ hE1 hVl
  have H2 := Lib.hid (And.intro (H1.out.1.ext hE2) (And.intro (H1.out.2.1.ext hE2) (And.intro (H1.out.2.2.trans hE2) hBV)))
  clear hB0 hE1 hx hE2 hBV H1 Z
  go_wp2_with (with_reducible show wpList _ _ _ (⟨some 16, _, _, _, _, _⟩ :: _) _ _; refine Lock.out ?_)
  refine ⟨?_, trivial⟩
  refine wl_load rfl 32 (.tmp 2) rfl H2.out.1 rfl Tryd.underlying32 rfl (by kernel_rfl) ?_
  go_wp2_with (with_reducible show wpList _ _ _ (⟨none, _, _, _, _, _⟩ :: _) _ _; refine Lock.out ?_)
  refine ⟨?_, trivial⟩
  refine wl_at fun Z hZ => ?_
  obtain ⟨S, hS⟩ : ∃ S, S = W1.heap.size := ⟨_, rfl⟩
  have hB0 : Box 0 (zero8.map bw) S Z := by
    rw [hZ, hS]
    repeat' (first | with_reducible assumption | ((with_reducible refine Box.fresh ?fb ?fn ?fr); (case fb => first | omega | (simp <;> omega)); (case fn => first | omega | (simp <;> omega)); (case fr => rfl)) | with_reducible apply Box.up | with_reducible apply Box.drew_ | with_reducible apply Box.drewN_ | with_reducible apply Box.plus_ | with_reducible apply Box.put | with_reducible refine Box.off ?_ (by omega))
    all_goals first | rfl | (simp; done)
  have hE1 : Ext W1 Z := by
    rw [hZ]
    repeat' (first | with_reducible assumption | with_reducible exact Ext.refl _ | with_reducible apply Ext.alloc | with_reducible apply Ext.drew | with_reducible apply Ext.drewN | with_reducible apply Ext.plus_ | with_reducible refine Ext.put ?_ (by omega))
  have hSl : W1.heap.size ≤ S := by omega
  have hVS : V ≠ S := by
    have := H2.out.2.2.2.lt
    omega
  have hBS : B ≠ S := by
    have := H2.out.1.lt
    omega
  have hRS : R ≠ S := by
    have := H2.out.2.1.lt
    omega
  have hwS : w.heap.size ≤ S := Nat.le_trans H2.out.2.2.1.size hSl
  rw [← hS]
  clear hZ hS
  refine wl_store rfl 32 (.tmp 6) (.tmp 16) rfl hB0 ([x0, x1, x2, x3, x4, x5, x6, x7].map bw) rfl rfl rfl (by kernel_rfl) (one_cells _) fun W2 hBS2 hx => ?_
  have hE2 := hx.ext _ hE1 hSl
  obtain ⟨s0, hs0⟩ : ∃ s0, s0 = [x0, x1, x2, x3, x4, x5, x6, x7] := ⟨_, rfl⟩
  obtain ⟨ws, hws⟩ : ∃ ws, ws = sched bs := ⟨_, rfl⟩
  have hEw := H2.out.2.2.1.trans hE2
  have HS : Hid (MixR w B R V S s0 ws (rounds ws s0 0) W2) := Lib.hid (by
    rw [rounds, hs0, hws]
    exact ⟨hBS2, H2.out.2.2.2.ext hE2, H2.out.1.ext hE2, H2.out.2.1.ext hE2, hEw, HBY.out.2.ext hEw⟩)
  have HL := Lib.hid (And.intro hs0 (And.intro hws (And.intro (show s0.length = 8 by rw [hs0]; rfl) (show ws.length = 64 by rw [hws]; exact sched_len bs))))
  clear hs0 hws hB0 hE1 hx hE2 hBS2 hEw H2 Z HBY
  go_wp2
  go_loopw [17, 7, 8, 9, 10, 11, 12] (fun i _ _ _ _ _ _ wr => ∃ k : Nat, k ≤ 64 ∧ i = nw k ∧ Hid (MixR w B R V S s0 ws (rounds ws s0 k) wr)) (fun i _ _ _ _ _ _ _ => 64 - (intOf i).toNat)
  case atStart => exact ⟨0, Nat.zero_le _, rfl, HS⟩
  case round =>
    clear HS
    obtain ⟨k, hk, rfl, HS⟩ := hrel
    by_cases hlt : k < 64
    · have hli : (k : Int) < 64 := by omega
      obtain ⟨st, hst⟩ : ∃ st, st = rounds ws s0 k := ⟨_, rfl⟩
      rw [← hst] at HS
      obtain ⟨a0, a1, a2, a3, a4, a5, a6, a7, rfl⟩ := list8 (show st.length = 8 by rw [hst]; exact rounds_len HL.out.2.2.1 k)
      have HR := Lib.hid hst
      clear hst
      obtain ⟨b1, hb1⟩ : ∃ b, b = bg1 a4 := ⟨_, rfl⟩
      obtain ⟨b2, hb2⟩ : ∃ b, b = chF a4 a5 a6 := ⟨_, rfl⟩
      obtain ⟨b3, hb3⟩ : ∃ b, b = bg0 a0 := ⟨_, rfl⟩
      obtain ⟨b4, hb4⟩ : ∃ b, b = mjF a0 a1 a2 := ⟨_, rfl⟩
      obtain ⟨kk, hkk⟩ : ∃ b, b = KL.getD k 0 := ⟨_, rfl⟩
      obtain ⟨ww, hww⟩ : ∃ b, b = ws.getD k 0 := ⟨_, rfl⟩
      obtain ⟨tt, htt⟩ : ∃ b, b = a7 + b1 + b2 + kk + ww := ⟨_, rfl⟩
      have HQ := Lib.hid (And.intro hb1 (And.intro hb2 (And.intro hb3 (And.intro hb4 (And.intro hkk (And.intro hww htt))))))
      clear hb1 hb2 hb3 hb4 hkk hww htt
      go_upto_region 6 with fail
      refine wp_at fun Y1 hY1 => ?_
      replace HS := Lib.hid (show MixR w B R V S s0 ws [a0, a1, a2, a3, a4, a5, a6, a7] Y1 by
        rw [hY1]
        exact MixR.ext' HS.out (by repeat (first | exact Ext.refl _ | assumption | apply Ext.plus_ | apply Ext.alloc | apply Ext.drew)))
      clear hY1
      have c0 : Y1.cell? ⟨S, 0, none⟩ = some (bw a0) := wcell HS.out.st (k := 0) (by simp)
      have c1 : Y1.cell? ⟨S, 1, none⟩ = some (bw a1) := wcell HS.out.st (k := 1) (by simp)
      have c2 : Y1.cell? ⟨S, 2, none⟩ = some (bw a2) := wcell HS.out.st (k := 2) (by simp)
      have c3 : Y1.cell? ⟨S, 3, none⟩ = some (bw a3) := wcell HS.out.st (k := 3) (by simp)
      have c4 : Y1.cell? ⟨S, 4, none⟩ = some (bw a4) := wcell HS.out.st (k := 4) (by simp)
      have c5 : Y1.cell? ⟨S, 5, none⟩ = some (bw a5) := wcell HS.out.st (k := 5) (by simp)
      have c6 : Y1.cell? ⟨S, 6, none⟩ = some (bw a6) := wcell HS.out.st (k := 6) (by simp)
      have c7 : Y1.cell? ⟨S, 7, none⟩ = some (bw a7) := wcell HS.out.st (k := 7) (by simp)
      refine act_at fun A0 hAq => ?_
      have hsz : A0.tmps.size = 121 := by
        rw [hAq]
        rfl
      have hA6 : A0.tmps.getD 6 undef = .pointer (some ⟨S, 0, none⟩) := by
        rw [hAq]
        first | rfl | kernel_rfl
      have HAq := Lib.hid hAq
      clear hAq
      apply wp_region_ext 11 [is (.pointer (some ⟨S, 4, none⟩)), is (bw (a4)), is (bw (rr 6 a4)), is (.pointer (some ⟨S, 4, none⟩)), is (bw (a4)), is (bw (rr 11 a4)), is (bw ((rr 6 a4) ^^^ (rr 11 a4))), is (.pointer (some ⟨S, 4, none⟩)), is (bw (a4)), is (bw (rr 25 a4)), is (bw (((rr 6 a4) ^^^ (rr 11 a4)) ^^^ (rr 25 a4)))] (by kernel_rfl) (by kernel_rfl) rfl
      case hops =>
        simp only [List.take_succ_cons, List.take_zero]
        with_reducible refine xOps_cons ?_ ?_
        · with_reducible refine xop_un ?_ ?_
          · rfl
          · intro vs x F hF hd
            have e1 : F.tmps.getD 6 undef = .pointer (some ⟨S, 0, none⟩) := (hF.a 6 (by kernel_rfl) (by rw [hsz]; rfl)).trans hA6
            exact a_i8 (n := 4) e1 rfl (by omega)
        with_reducible refine xOps_cons ?_ ?_
        · with_reducible refine xop_un ?_ ?_
          · rfl
          · intro vs x F hF hd
            have e1 : F.tmps.getD 20 undef = .pointer (some ⟨S, 4, none⟩) := (hF.v 20 0 (by kernel_rfl) (by rw [hsz]; rfl)).trans (dep_at hd 0 0 (is (.pointer (some ⟨S, 4, none⟩))) (by kernel_rfl) (by kernel_rfl))
            exact l_w e1 (cell_plus x c4)
        with_reducible refine xOps_cons ?_ ?_
        · with_reducible refine xop_un ?_ ?_
          · rfl
          · intro vs x F hF hd
            have e21 : F.tmps.getD 21 undef = bw (a4) := (hF.v 21 1 (by kernel_rfl) (by rw [hsz]; rfl)).trans (dep_at hd 0 1 (is (bw (a4))) (by kernel_rfl) (by kernel_rfl))
            clear hF hd
            simp only [comes]
            go_simp
            refine (rot6 _ _).mono ?_
            rintro e w' ⟨rfl, hE⟩
            first | exact ⟨_, rfl, hE, rfl⟩ | exact ⟨_, rfl, hE⟩ | exact ⟨rfl, hE⟩ | exact ⟨_, hE⟩ | exact hE
        with_reducible refine xOps_cons ?_ ?_
        · with_reducible refine xop_un ?_ ?_
          · rfl
          · intro vs x F hF hd
            have e1 : F.tmps.getD 6 undef = .pointer (some ⟨S, 0, none⟩) := (hF.a 6 (by kernel_rfl) (by rw [hsz]; rfl)).trans hA6
            exact a_i8 (n := 4) e1 rfl (by omega)
        with_reducible refine xOps_cons ?_ ?_
        · with_reducible refine xop_un ?_ ?_
          · rfl
          · intro vs x F hF hd
            have e1 : F.tmps.getD 23 undef = .pointer (some ⟨S, 4, none⟩) := (hF.v 23 3 (by kernel_rfl) (by rw [hsz]; rfl)).trans (dep_at hd 0 3 (is (.pointer (some ⟨S, 4, none⟩))) (by kernel_rfl) (by kernel_rfl))
            exact l_w e1 (cell_plus x c4)
        with_reducible refine xOps_cons ?_ ?_
        · with_reducible refine xop_un ?_ ?_
          · rfl
          · intro vs x F hF hd
            have e24 : F.tmps.getD 24 undef = bw (a4) := (hF.v 24 4 (by kernel_rfl) (by rw [hsz]; rfl)).trans (dep_at hd 0 4 (is (bw (a4))) (by kernel_rfl) (by kernel_rfl))
            clear hF hd
            simp only [comes]
            go_simp
            refine (rot11 _ _).mono ?_
            rintro e w' ⟨rfl, hE⟩
            first | exact ⟨_, rfl, hE, rfl⟩ | exact ⟨_, rfl, hE⟩ | exact ⟨rfl, hE⟩ | exact ⟨_, hE⟩ | exact hE
        with_reducible refine xOps_cons ?_ ?_
        · with_reducible refine xop_un ?_ ?_
          · rfl
          · intro vs x F hF hd
            have e1 : F.tmps.getD 22 undef = bw (rr 6 a4) := (hF.v 22 2 (by kernel_rfl) (by rw [hsz]; rfl)).trans (dep_at hd 0 2 (is (bw (rr 6 a4))) (by kernel_rfl) (by kernel_rfl))
            have e2 : F.tmps.getD 25 undef = bw (rr 11 a4) := (hF.v 25 5 (by kernel_rfl) (by rw [hsz]; rfl)).trans (dep_at hd 1 5 (is (bw (rr 11 a4))) (by kernel_rfl) (by kernel_rfl))
            exact w_xor e1 e2
        with_reducible refine xOps_cons ?_ ?_
        · with_reducible refine xop_un ?_ ?_
          · rfl
          · intro vs x F hF hd
            have e1 : F.tmps.getD 6 undef = .pointer (some ⟨S, 0, none⟩) := (hF.a 6 (by kernel_rfl) (by rw [hsz]; rfl)).trans hA6
            exact a_i8 (n := 4) e1 rfl (by omega)
        with_reducible refine xOps_cons ?_ ?_
        · with_reducible refine xop_un ?_ ?_
          · rfl
          · intro vs x F hF hd
            have e1 : F.tmps.getD 27 undef = .pointer (some ⟨S, 4, none⟩) := (hF.v 27 7 (by kernel_rfl) (by rw [hsz]; rfl)).trans (dep_at hd 0 7 (is (.pointer (some ⟨S, 4, none⟩))) (by kernel_rfl) (by kernel_rfl))
            exact l_w e1 (cell_plus x c4)
        with_reducible refine xOps_cons ?_ ?_
        · with_reducible refine xop_un ?_ ?_
          · rfl
          · intro vs x F hF hd
            have e28 : F.tmps.getD 28 undef = bw (a4) := (hF.v 28 8 (by kernel_rfl) (by rw [hsz]; rfl)).trans (dep_at hd 0 8 (is (bw (a4))) (by kernel_rfl) (by kernel_rfl))
            clear hF hd
            simp only [comes]
            go_simp
            refine (rot25 _ _).mono ?_
            rintro e w' ⟨rfl, hE⟩
            first | exact ⟨_, rfl, hE, rfl⟩ | exact ⟨_, rfl, hE⟩ | exact ⟨rfl, hE⟩ | exact ⟨_, hE⟩ | exact hE
        with_reducible refine xOps_cons ?_ ?_
        · with_reducible refine xop_un ?_ ?_
          · rfl
          · intro vs x F hF hd
            have e1 : F.tmps.getD 26 undef = bw ((rr 6 a4) ^^^ (rr 11 a4)) := (hF.v 26 6 (by kernel_rfl) (by rw [hsz]; rfl)).trans (dep_at hd 0 6 (is (bw ((rr 6 a4) ^^^ (rr 11 a4)))) (by kernel_rfl) (by kernel_rfl))
            have e2 : F.tmps.getD 29 undef = bw (rr 25 a4) := (hF.v 29 9 (by kernel_rfl) (by rw [hsz]; rfl)).trans (dep_at hd 1 9 (is (bw (rr 25 a4))) (by kernel_rfl) (by kernel_rfl))
            exact w_xor e1 e2
        exact xOps_nil
      case hst => exact ⟨is.st _, is.st _, is.st _, is.st _, is.st _, is.st _, is.st _, is.st _, is.st _, is.st _, is.st _, trivial⟩
      case hfin =>
        intro vs x hf
        have f10 : vs 10 = bw b1 := (show vs 10 = bw (((rr 6 a4) ^^^ (rr 11 a4)) ^^^ (rr 25 a4)) from hf.2.2.2.2.2.2.2.2.2.2.1).trans (by rw [HQ.out.1]; rfl)
        clear hf
        have hAq := HAq.out
        subst hAq
        clear hsz hA6
        simp only [List.take_succ_cons, List.take_zero, List.drop_succ_cons, List.drop_zero, putAll, Act.put, List.setIfInBounds_toArray, List.set_cons_succ, List.set_cons_zero, Nat.zero_add, Nat.reduceAdd]
        clear HAq
        rw [f10]
        clear f10
        clear c0 c1 c2 c3 c4 c5 c6 c7
        go_upto_region 7 with fail
        refine wp_at fun Y2 hY2 => ?_
        replace HS := Lib.hid (show MixR w B R V S s0 ws [a0, a1, a2, a3, a4, a5, a6, a7] Y2 by
          rw [hY2]
          exact MixR.ext' HS.out (by repeat (first | exact Ext.refl _ | assumption | apply Ext.plus_ | apply Ext.alloc | apply Ext.drew)))
        clear hY2
        have c0 : Y2.cell? ⟨S, 0, none⟩ = some (bw a0) := wcell HS.out.st (k := 0) (by simp)
        have c1 : Y2.cell? ⟨S, 1, none⟩ = some (bw a1) := wcell HS.out.st (k := 1) (by simp)
        have c2 : Y2.cell? ⟨S, 2, none⟩ = some (bw a2) := wcell HS.out.st (k := 2) (by simp)
        have c3 : Y2.cell? ⟨S, 3, none⟩ = some (bw a3) := wcell HS.out.st (k := 3) (by simp)
        have c4 : Y2.cell? ⟨S, 4, none⟩ = some (bw a4) := wcell HS.out.st (k := 4) (by simp)
        have c5 : Y2.cell? ⟨S, 5, none⟩ = some (bw a5) := wcell HS.out.st (k := 5) (by simp)
        have c6 : Y2.cell? ⟨S, 6, none⟩ = some (bw a6) := wcell HS.out.st (k := 6) (by simp)
        have c7 : Y2.cell? ⟨S, 7, none⟩ = some (bw a7) := wcell HS.out.st (k := 7) (by simp)
        refine act_at fun A0 hAq => ?_
        have hsz : A0.tmps.size = 121 := by
          rw [hAq]
          rfl
        have hA6 : A0.tmps.getD 6 undef = .pointer (some ⟨S, 0, none⟩) := by
          rw [hAq]
          first | rfl | kernel_rfl
        have HAq := Lib.hid hAq
        clear hAq
        apply wp_region_seq 12 [is (.pointer (some ⟨S, 4, none⟩)), is (bw (a4)), is (.pointer (some ⟨S, 5, none⟩)), is (bw (a5)), is (bw ((a4) &&& (a5))), is (.pointer (some ⟨S, 4, none⟩)), is (bw (a4)), is (bw (~~~(a4))), is (.pointer (some ⟨S, 6, none⟩)), is (bw (a6)), is (bw ((~~~(a4)) &&& (a6))), is (bw (((a4) &&& (a5)) ^^^ ((~~~(a4)) &&& (a6))))] (by kernel_rfl) (by kernel_rfl) rfl
        case hops =>
          simp only [List.take_succ_cons, List.take_zero]
          with_reducible refine xOps_cons ?_ ?_
          · with_reducible refine xop_un ?_ ?_
            · rfl
            · intro vs x F hF hd
              have e1 : F.tmps.getD 6 undef = .pointer (some ⟨S, 0, none⟩) := (hF.a 6 (by kernel_rfl) (by rw [hsz]; rfl)).trans hA6
              exact a_i8 (n := 4) e1 rfl (by omega)
          with_reducible refine xOps_cons ?_ ?_
          · with_reducible refine xop_un ?_ ?_
            · rfl
            · intro vs x F hF hd
              have e1 : F.tmps.getD 31 undef = .pointer (some ⟨S, 4, none⟩) := (hF.v 31 0 (by kernel_rfl) (by rw [hsz]; rfl)).trans (dep_at hd 0 0 (is (.pointer (some ⟨S, 4, none⟩))) (by kernel_rfl) (by kernel_rfl))
              exact l_w e1 (cell_plus x c4)
          with_reducible refine xOps_cons ?_ ?_
          · with_reducible refine xop_un ?_ ?_
            · rfl
            · intro vs x F hF hd
              have e1 : F.tmps.getD 6 undef = .pointer (some ⟨S, 0, none⟩) := (hF.a 6 (by kernel_rfl) (by rw [hsz]; rfl)).trans hA6
              exact a_i8 (n := 5) e1 rfl (by omega)
          with_reducible refine xOps_cons ?_ ?_
          · with_reducible refine xop_un ?_ ?_
            · rfl
            · intro vs x F hF hd
              have e1 : F.tmps.getD 33 undef = .pointer (some ⟨S, 5, none⟩) := (hF.v 33 2 (by kernel_rfl) (by rw [hsz]; rfl)).trans (dep_at hd 0 2 (is (.pointer (some ⟨S, 5, none⟩))) (by kernel_rfl) (by kernel_rfl))
              exact l_w e1 (cell_plus x c5)
          with_reducible refine xOps_cons ?_ ?_
          · with_reducible refine xop_un ?_ ?_
            · rfl
            · intro vs x F hF hd
              have e1 : F.tmps.getD 32 undef = bw (a4) := (hF.v 32 1 (by kernel_rfl) (by rw [hsz]; rfl)).trans (dep_at hd 0 1 (is (bw (a4))) (by kernel_rfl) (by kernel_rfl))
              have e2 : F.tmps.getD 34 undef = bw (a5) := (hF.v 34 3 (by kernel_rfl) (by rw [hsz]; rfl)).trans (dep_at hd 1 3 (is (bw (a5))) (by kernel_rfl) (by kernel_rfl))
              exact w_and e1 e2
          with_reducible refine xOps_cons ?_ ?_
          · with_reducible refine xop_un ?_ ?_
            · rfl
            · intro vs x F hF hd
              have e1 : F.tmps.getD 6 undef = .pointer (some ⟨S, 0, none⟩) := (hF.a 6 (by kernel_rfl) (by rw [hsz]; rfl)).trans hA6
              exact a_i8 (n := 4) e1 rfl (by omega)
          with_reducible refine xOps_cons ?_ ?_
          · with_reducible refine xop_un ?_ ?_
            · rfl
            · intro vs x F hF hd
              have e1 : F.tmps.getD 36 undef = .pointer (some ⟨S, 4, none⟩) := (hF.v 36 5 (by kernel_rfl) (by rw [hsz]; rfl)).trans (dep_at hd 0 5 (is (.pointer (some ⟨S, 4, none⟩))) (by kernel_rfl) (by kernel_rfl))
              exact l_w e1 (cell_plus x c4)
          with_reducible refine xOps_cons ?_ ?_
          · with_reducible refine xop_un ?_ ?_
            · rfl
            · intro vs x F hF hd
              have e1 : F.tmps.getD 37 undef = bw (a4) := (hF.v 37 6 (by kernel_rfl) (by rw [hsz]; rfl)).trans (dep_at hd 0 6 (is (bw (a4))) (by kernel_rfl) (by kernel_rfl))
              exact w_not e1
          with_reducible refine xOps_cons ?_ ?_
          · with_reducible refine xop_un ?_ ?_
            · rfl
            · intro vs x F hF hd
              have e1 : F.tmps.getD 6 undef = .pointer (some ⟨S, 0, none⟩) := (hF.a 6 (by kernel_rfl) (by rw [hsz]; rfl)).trans hA6
              exact a_i8 (n := 6) e1 rfl (by omega)
          with_reducible refine xOps_cons ?_ ?_
          · with_reducible refine xop_un ?_ ?_
            · rfl
            · intro vs x F hF hd
              have e1 : F.tmps.getD 39 undef = .pointer (some ⟨S, 6, none⟩) := (hF.v 39 8 (by kernel_rfl) (by rw [hsz]; rfl)).trans (dep_at hd 0 8 (is (.pointer (some ⟨S, 6, none⟩))) (by kernel_rfl) (by kernel_rfl))
              exact l_w e1 (cell_plus x c6)
          with_reducible refine xOps_cons ?_ ?_
          · with_reducible refine xop_un ?_ ?_
            · rfl
            · intro vs x F hF hd
              have e1 : F.tmps.getD 38 undef = bw (~~~(a4)) := (hF.v 38 7 (by kernel_rfl) (by rw [hsz]; rfl)).trans (dep_at hd 0 7 (is (bw (~~~(a4)))) (by kernel_rfl) (by kernel_rfl))
              have e2 : F.tmps.getD 40 undef = bw (a6) := (hF.v 40 9 (by kernel_rfl) (by rw [hsz]; rfl)).trans (dep_at hd 1 9 (is (bw (a6))) (by kernel_rfl) (by kernel_rfl))
              exact w_and e1 e2
          with_reducible refine xOps_cons ?_ ?_
          · with_reducible refine xop_un ?_ ?_
            · rfl
            · intro vs x F hF hd
              have e1 : F.tmps.getD 35 undef = bw ((a4) &&& (a5)) := (hF.v 35 4 (by kernel_rfl) (by rw [hsz]; rfl)).trans (dep_at hd 0 4 (is (bw ((a4) &&& (a5)))) (by kernel_rfl) (by kernel_rfl))
              have e2 : F.tmps.getD 41 undef = bw ((~~~(a4)) &&& (a6)) := (hF.v 41 10 (by kernel_rfl) (by rw [hsz]; rfl)).trans (dep_at hd 1 10 (is (bw ((~~~(a4)) &&& (a6)))) (by kernel_rfl) (by kernel_rfl))
              exact w_xor e1 e2
          exact xOps_nil
        case hst => exact ⟨is.st _, is.st _, is.st _, is.st _, is.st _, is.st _, is.st _, is.st _, is.st _, is.st _, is.st _, is.st _, trivial⟩
        case hfin =>
          intro vs x hf
          have f11 : vs 11 = bw b2 := (show vs 11 = bw (((a4) &&& (a5)) ^^^ ((~~~(a4)) &&& (a6))) from hf.2.2.2.2.2.2.2.2.2.2.2.1).trans (by rw [HQ.out.2.1]; rfl)
          clear hf
          have hAq := HAq.out
          subst hAq
          clear hsz hA6
          simp only [List.take_succ_cons, List.take_zero, List.drop_succ_cons, List.drop_zero, putAll, Act.put, List.setIfInBounds_toArray, List.set_cons_succ, List.set_cons_zero, Nat.zero_add, Nat.reduceAdd]
          clear HAq
          rw [f11]
          clear f11
          clear c0 c1 c2 c3 c4 c5 c6 c7
          go_upto_region 8 with fail
          refine wp_at fun Y3 hY3 => ?_
          replace HS := Lib.hid (show MixR w B R V S s0 ws [a0, a1, a2, a3, a4, a5, a6, a7] Y3 by
            rw [hY3]
            exact MixR.ext' HS.out (by repeat (first | exact Ext.refl _ | assumption | apply Ext.plus_ | apply Ext.alloc | apply Ext.drew)))
          clear hY3
          have c0 : Y3.cell? ⟨S, 0, none⟩ = some (bw a0) := wcell HS.out.st (k := 0) (by simp)
          have c1 : Y3.cell? ⟨S, 1, none⟩ = some (bw a1) := wcell HS.out.st (k := 1) (by simp)
          have c2 : Y3.cell? ⟨S, 2, none⟩ = some (bw a2) := wcell HS.out.st (k := 2) (by simp)
          have c3 : Y3.cell? ⟨S, 3, none⟩ = some (bw a3) := wcell HS.out.st (k := 3) (by simp)
          have c4 : Y3.cell? ⟨S, 4, none⟩ = some (bw a4) := wcell HS.out.st (k := 4) (by simp)
          have c5 : Y3.cell? ⟨S, 5, none⟩ = some (bw a5) := wcell HS.out.st (k := 5) (by simp)
          have c6 : Y3.cell? ⟨S, 6, none⟩ = some (bw a6) := wcell HS.out.st (k := 6) (by simp)
          have c7 : Y3.cell? ⟨S, 7, none⟩ = some (bw a7) := wcell HS.out.st (k := 7) (by simp)
          have ck := HS.out.glob.con k hlt
          have cw := wcell HS.out.ws (show k < ws.length by rw [HL.out.2.2.2]; omega)
          rw [← HQ.out.2.2.2.2.1] at ck
          rw [← HQ.out.2.2.2.2.2.1] at cw
          refine act_at fun A0 hAq => ?_
          have hsz : A0.tmps.size = 121 := by
            rw [hAq]
            rfl
          have hA5 : A0.tmps.getD 5 undef = .pointer (some ⟨V, 0, none⟩) := by
            rw [hAq]
            first | rfl | kernel_rfl
          have hA6 : A0.tmps.getD 6 undef = .pointer (some ⟨S, 0, none⟩) := by
            rw [hAq]
            first | rfl | kernel_rfl
          have hA7 : A0.tmps.getD 7 undef = nw (k) := by
            rw [hAq]
            first | rfl | kernel_rfl
          have hA8 : A0.tmps.getD 8 undef = bw (b1) := by
            rw [hAq]
            first | rfl | kernel_rfl
          have hA9 : A0.tmps.getD 9 undef = bw (b2) := by
            rw [hAq]
            first | rfl | kernel_rfl
          have HAq := Lib.hid hAq
          clear hAq
          apply wp_region_ext 14 [is (.pointer (some ⟨S, 7, none⟩)), is (bw (a7)), is (bw (b1)), is (bw ((a7) + (b1))), is (bw (b2)), is (bw (((a7) + (b1)) + (b2))), is (nw (k)), is (.pointer (some ⟨1, k, none⟩)), is (bw (kk)), is (bw ((((a7) + (b1)) + (b2)) + (kk))), is (nw (k)), is (.pointer (some ⟨V, k, none⟩)), is (bw (ww)), is (bw (((((a7) + (b1)) + (b2)) + (kk)) + (ww)))] (by kernel_rfl) (by kernel_rfl) rfl
          case hops =>
            simp only [List.take_succ_cons, List.take_zero]
            with_reducible refine xOps_cons ?_ ?_
            · with_reducible refine xop_un ?_ ?_
              · rfl
              · intro vs x F hF hd
                have e1 : F.tmps.getD 6 undef = .pointer (some ⟨S, 0, none⟩) := (hF.a 6 (by kernel_rfl) (by rw [hsz]; rfl)).trans hA6
                exact a_i8 (n := 7) e1 rfl (by omega)
            with_reducible refine xOps_cons ?_ ?_
            · with_reducible refine xop_un ?_ ?_
              · rfl
              · intro vs x F hF hd
                have e1 : F.tmps.getD 43 undef = .pointer (some ⟨S, 7, none⟩) := (hF.v 43 0 (by kernel_rfl) (by rw [hsz]; rfl)).trans (dep_at hd 0 0 (is (.pointer (some ⟨S, 7, none⟩))) (by kernel_rfl) (by kernel_rfl))
                exact l_w e1 (cell_plus x c7)
            with_reducible refine xOps_cons ?_ ?_
            · with_reducible refine xop_un ?_ ?_
              · rfl
              · intro vs x F hF hd
                have e1 : F.tmps.getD 8 undef = bw (b1) := (hF.a 8 (by kernel_rfl) (by rw [hsz]; rfl)).trans hA8
                exact m_v e1
            with_reducible refine xOps_cons ?_ ?_
            · with_reducible refine xop_un ?_ ?_
              · rfl
              · intro vs x F hF hd
                have e1 : F.tmps.getD 44 undef = bw (a7) := (hF.v 44 1 (by kernel_rfl) (by rw [hsz]; rfl)).trans (dep_at hd 0 1 (is (bw (a7))) (by kernel_rfl) (by kernel_rfl))
                have e2 : F.tmps.getD 45 undef = bw (b1) := (hF.v 45 2 (by kernel_rfl) (by rw [hsz]; rfl)).trans (dep_at hd 1 2 (is (bw (b1))) (by kernel_rfl) (by kernel_rfl))
                exact w_add e1 e2
            with_reducible refine xOps_cons ?_ ?_
            · with_reducible refine xop_un ?_ ?_
              · rfl
              · intro vs x F hF hd
                have e1 : F.tmps.getD 9 undef = bw (b2) := (hF.a 9 (by kernel_rfl) (by rw [hsz]; rfl)).trans hA9
                exact m_v e1
            with_reducible refine xOps_cons ?_ ?_
            · with_reducible refine xop_un ?_ ?_
              · rfl
              · intro vs x F hF hd
                have e1 : F.tmps.getD 46 undef = bw ((a7) + (b1)) := (hF.v 46 3 (by kernel_rfl) (by rw [hsz]; rfl)).trans (dep_at hd 0 3 (is (bw ((a7) + (b1)))) (by kernel_rfl) (by kernel_rfl))
                have e2 : F.tmps.getD 47 undef = bw (b2) := (hF.v 47 4 (by kernel_rfl) (by rw [hsz]; rfl)).trans (dep_at hd 1 4 (is (bw (b2))) (by kernel_rfl) (by kernel_rfl))
                exact w_add e1 e2
            with_reducible refine xOps_cons ?_ ?_
            · with_reducible refine xop_un ?_ ?_
              · rfl
              · intro vs x F hF hd
                have e1 : F.tmps.getD 7 undef = nw (k) := (hF.a 7 (by kernel_rfl) (by rw [hsz]; rfl)).trans hA7
                exact m_v e1
            with_reducible refine xOps_cons ?_ ?_
            · with_reducible refine xop_un ?_ ?_
              · rfl
              · intro vs x F hF hd
                have e2 : F.tmps.getD 49 undef = nw (k) := (hF.v 49 6 (by kernel_rfl) (by rw [hsz]; rfl)).trans (dep_at hd 0 6 (is (nw (k))) (by kernel_rfl) (by kernel_rfl))
                exact a_i64 (n := k) rfl e2 (by omega)
            with_reducible refine xOps_cons ?_ ?_
            · with_reducible refine xop_un ?_ ?_
              · rfl
              · intro vs x F hF hd
                have e1 : F.tmps.getD 50 undef = .pointer (some ⟨1, k, none⟩) := (hF.v 50 7 (by kernel_rfl) (by rw [hsz]; rfl)).trans (dep_at hd 0 7 (is (.pointer (some ⟨1, k, none⟩))) (by kernel_rfl) (by kernel_rfl))
                exact l_w e1 (cell_plus x ck)
            with_reducible refine xOps_cons ?_ ?_
            · with_reducible refine xop_un ?_ ?_
              · rfl
              · intro vs x F hF hd
                have e1 : F.tmps.getD 48 undef = bw (((a7) + (b1)) + (b2)) := (hF.v 48 5 (by kernel_rfl) (by rw [hsz]; rfl)).trans (dep_at hd 0 5 (is (bw (((a7) + (b1)) + (b2)))) (by kernel_rfl) (by kernel_rfl))
                have e2 : F.tmps.getD 51 undef = bw (kk) := (hF.v 51 8 (by kernel_rfl) (by rw [hsz]; rfl)).trans (dep_at hd 1 8 (is (bw (kk))) (by kernel_rfl) (by kernel_rfl))
                exact w_add e1 e2
            with_reducible refine xOps_cons ?_ ?_
            · with_reducible refine xop_un ?_ ?_
              · rfl
              · intro vs x F hF hd
                have e1 : F.tmps.getD 7 undef = nw (k) := (hF.a 7 (by kernel_rfl) (by rw [hsz]; rfl)).trans hA7
                exact m_v e1
            with_reducible refine xOps_cons ?_ ?_
            · with_reducible refine xop_un ?_ ?_
              · rfl
              · intro vs x F hF hd
                have e1 : F.tmps.getD 5 undef = .pointer (some ⟨V, 0, none⟩) := (hF.a 5 (by kernel_rfl) (by rw [hsz]; rfl)).trans hA5
                have e2 : F.tmps.getD 53 undef = nw (k) := (hF.v 53 10 (by kernel_rfl) (by rw [hsz]; rfl)).trans (dep_at hd 0 10 (is (nw (k))) (by kernel_rfl) (by kernel_rfl))
                exact a_i64 (n := k) e1 e2 (by omega)
            with_reducible refine xOps_cons ?_ ?_
            · with_reducible refine xop_un ?_ ?_
              · rfl
              · intro vs x F hF hd
                have e1 : F.tmps.getD 54 undef = .pointer (some ⟨V, k, none⟩) := (hF.v 54 11 (by kernel_rfl) (by rw [hsz]; rfl)).trans (dep_at hd 0 11 (is (.pointer (some ⟨V, k, none⟩))) (by kernel_rfl) (by kernel_rfl))
                exact l_w e1 (cell_plus x cw)
            with_reducible refine xOps_cons ?_ ?_
            · with_reducible refine xop_un ?_ ?_
              · rfl
              · intro vs x F hF hd
                have e1 : F.tmps.getD 52 undef = bw ((((a7) + (b1)) + (b2)) + (kk)) := (hF.v 52 9 (by kernel_rfl) (by rw [hsz]; rfl)).trans (dep_at hd 0 9 (is (bw ((((a7) + (b1)) + (b2)) + (kk)))) (by kernel_rfl) (by kernel_rfl))
                have e2 : F.tmps.getD 55 undef = bw (ww) := (hF.v 55 12 (by kernel_rfl) (by rw [hsz]; rfl)).trans (dep_at hd 1 12 (is (bw (ww))) (by kernel_rfl) (by kernel_rfl))
                exact w_add e1 e2
            exact xOps_nil
          case hst => exact ⟨is.st _, is.st _, is.st _, is.st _, is.st _, is.st _, is.st _, is.st _, is.st _, is.st _, is.st _, is.st _, is.st _, is.st _, trivial⟩
          case hfin =>
            intro vs x hf
            have f13 : vs 13 = bw tt := (show vs 13 = bw (((((a7) + (b1)) + (b2)) + (kk)) + (ww)) from hf.2.2.2.2.2.2.2.2.2.2.2.2.2.1).trans (by rw [HQ.out.2.2.2.2.2.2])
            clear hf
            have hAq := HAq.out
            subst hAq
            clear hsz hA5 hA6 hA7 hA8 hA9
            simp only [List.take_succ_cons, List.take_zero, List.drop_succ_cons, List.drop_zero, putAll, Act.put, List.setIfInBounds_toArray, List.set_cons_succ, List.set_cons_zero, Nat.zero_add, Nat.reduceAdd]
            clear HAq
            rw [f13]
            clear f13
            clear c0 c1 c2 c3 c4 c5 c6 c7 ck cw
            go_upto_region 9 with fail
            refine wp_at fun Y4 hY4 => ?_
            replace HS := Lib.hid (show MixR w B R V S s0 ws [a0, a1, a2, a3, a4, a5, a6, a7] Y4 by
              rw [hY4]
              exact MixR.ext' HS.out (by repeat (first | exact Ext.refl _ | assumption | apply Ext.plus_ | apply Ext.alloc | apply Ext.drew)))
            clear hY4
            have c0 : Y4.cell? ⟨S, 0, none⟩ = some (bw a0) := wcell HS.out.st (k := 0) (by simp)
            have c1 : Y4.cell? ⟨S, 1, none⟩ = some (bw a1) := wcell HS.out.st (k := 1) (by simp)
            have c2 : Y4.cell? ⟨S, 2, none⟩ = some (bw a2) := wcell HS.out.st (k := 2) (by simp)
            have c3 : Y4.cell? ⟨S, 3, none⟩ = some (bw a3) := wcell HS.out.st (k := 3) (by simp)
            have c4 : Y4.cell? ⟨S, 4, none⟩ = some (bw a4) := wcell HS.out.st (k := 4) (by simp)
            have c5 : Y4.cell? ⟨S, 5, none⟩ = some (bw a5) := wcell HS.out.st (k := 5) (by simp)
            have c6 : Y4.cell? ⟨S, 6, none⟩ = some (bw a6) := wcell HS.out.st (k := 6) (by simp)
            have c7 : Y4.cell? ⟨S, 7, none⟩ = some (bw a7) := wcell HS.out.st (k := 7) (by simp)
            refine act_at fun A0 hAq => ?_
            have hsz : A0.tmps.size = 121 := by
              rw [hAq]
              rfl
            have hA6 : A0.tmps.getD 6 undef = .pointer (some ⟨S, 0, none⟩) := by
              rw [hAq]
              first | rfl | kernel_rfl
            have HAq := Lib.hid hAq
            clear hAq
            apply wp_region_ext 11 [is (.pointer (some ⟨S, 0, none⟩)), is (bw (a0)), is (bw (rr 2 a0)), is (.pointer (some ⟨S, 0, none⟩)), is (bw (a0)), is (bw (rr 13 a0)), is (bw ((rr 2 a0) ^^^ (rr 13 a0))), is (.pointer (some ⟨S, 0, none⟩)), is (bw (a0)), is (bw (rr 22 a0)), is (bw (((rr 2 a0) ^^^ (rr 13 a0)) ^^^ (rr 22 a0)))] (by kernel_rfl) (by kernel_rfl) rfl
            case hops =>
              simp only [List.take_succ_cons, List.take_zero]
              with_reducible refine xOps_cons ?_ ?_
              · with_reducible refine xop_un ?_ ?_
                · rfl
                · intro vs x F hF hd
                  have e1 : F.tmps.getD 6 undef = .pointer (some ⟨S, 0, none⟩) := (hF.a 6 (by kernel_rfl) (by rw [hsz]; rfl)).trans hA6
                  exact a_i8 (n := 0) e1 rfl (by omega)
              with_reducible refine xOps_cons ?_ ?_
              · with_reducible refine xop_un ?_ ?_
                · rfl
                · intro vs x F hF hd
                  have e1 : F.tmps.getD 57 undef = .pointer (some ⟨S, 0, none⟩) := (hF.v 57 0 (by kernel_rfl) (by rw [hsz]; rfl)).trans (dep_at hd 0 0 (is (.pointer (some ⟨S, 0, none⟩))) (by kernel_rfl) (by kernel_rfl))
                  exact l_w e1 (cell_plus x c0)
              with_reducible refine xOps_cons ?_ ?_
              · with_reducible refine xop_un ?_ ?_
                · rfl
                · intro vs x F hF hd
                  have e58 : F.tmps.getD 58 undef = bw (a0) := (hF.v 58 1 (by kernel_rfl) (by rw [hsz]; rfl)).trans (dep_at hd 0 1 (is (bw (a0))) (by kernel_rfl) (by kernel_rfl))
                  clear hF hd
                  simp only [comes]
                  go_simp
                  refine (rot2 _ _).mono ?_
                  rintro e w' ⟨rfl, hE⟩
                  first | exact ⟨_, rfl, hE, rfl⟩ | exact ⟨_, rfl, hE⟩ | exact ⟨rfl, hE⟩ | exact ⟨_, hE⟩ | exact hE
              with_reducible refine xOps_cons ?_ ?_
              · with_reducible refine xop_un ?_ ?_
                · rfl
                · intro vs x F hF hd
                  have e1 : F.tmps.getD 6 undef = .pointer (some ⟨S, 0, none⟩) := (hF.a 6 (by kernel_rfl) (by rw [hsz]; rfl)).trans hA6
                  exact a_i8 (n := 0) e1 rfl (by omega)
              with_reducible refine xOps_cons ?_ ?_
              · with_reducible refine xop_un ?_ ?_
                · rfl
                · intro vs x F hF hd
                  have e1 : F.tmps.getD 60 undef = .pointer (some ⟨S, 0, none⟩) := (hF.v 60 3 (by kernel_rfl) (by rw [hsz]; rfl)).trans (dep_at hd 0 3 (is (.pointer (some ⟨S, 0, none⟩))) (by kernel_rfl) (by kernel_rfl))
                  exact l_w e1 (cell_plus x c0)
              with_reducible refine xOps_cons ?_ ?_
              · with_reducible refine xop_un ?_ ?_
                · rfl
                · intro vs x F hF hd
                  have e61 : F.tmps.getD 61 undef = bw (a0) := (hF.v 61 4 (by kernel_rfl) (by rw [hsz]; rfl)).trans (dep_at hd 0 4 (is (bw (a0))) (by kernel_rfl) (by kernel_rfl))
                  clear hF hd
                  simp only [comes]
                  go_simp
                  refine (rot13 _ _).mono ?_
                  rintro e w' ⟨rfl, hE⟩
                  first | exact ⟨_, rfl, hE, rfl⟩ | exact ⟨_, rfl, hE⟩ | exact ⟨rfl, hE⟩ | exact ⟨_, hE⟩ | exact hE
              with_reducible refine xOps_cons ?_ ?_
              · with_reducible refine xop_un ?_ ?_
                · rfl
                · intro vs x F hF hd
                  have e1 : F.tmps.getD 59 undef = bw (rr 2 a0) := (hF.v 59 2 (by kernel_rfl) (by rw [hsz]; rfl)).trans (dep_at hd 0 2 (is (bw (rr 2 a0))) (by kernel_rfl) (by kernel_rfl))
                  have e2 : F.tmps.getD 62 undef = bw (rr 13 a0) := (hF.v 62 5 (by kernel_rfl) (by rw [hsz]; rfl)).trans (dep_at hd 1 5 (is (bw (rr 13 a0))) (by kernel_rfl) (by kernel_rfl))
                  exact w_xor e1 e2
              with_reducible refine xOps_cons ?_ ?_
              · with_reducible refine xop_un ?_ ?_
                · rfl
                · intro vs x F hF hd
                  have e1 : F.tmps.getD 6 undef = .pointer (some ⟨S, 0, none⟩) := (hF.a 6 (by kernel_rfl) (by rw [hsz]; rfl)).trans hA6
                  exact a_i8 (n := 0) e1 rfl (by omega)
              with_reducible refine xOps_cons ?_ ?_
              · with_reducible refine xop_un ?_ ?_
                · rfl
                · intro vs x F hF hd
                  have e1 : F.tmps.getD 64 undef = .pointer (some ⟨S, 0, none⟩) := (hF.v 64 7 (by kernel_rfl) (by rw [hsz]; rfl)).trans (dep_at hd 0 7 (is (.pointer (some ⟨S, 0, none⟩))) (by kernel_rfl) (by kernel_rfl))
                  exact l_w e1 (cell_plus x c0)
              with_reducible refine xOps_cons ?_ ?_
              · with_reducible refine xop_un ?_ ?_
                · rfl
                · intro vs x F hF hd
                  have e65 : F.tmps.getD 65 undef = bw (a0) := (hF.v 65 8 (by kernel_rfl) (by rw [hsz]; rfl)).trans (dep_at hd 0 8 (is (bw (a0))) (by kernel_rfl) (by kernel_rfl))
                  clear hF hd
                  simp only [comes]
                  go_simp
                  refine (rot22 _ _).mono ?_
                  rintro e w' ⟨rfl, hE⟩
                  first | exact ⟨_, rfl, hE, rfl⟩ | exact ⟨_, rfl, hE⟩ | exact ⟨rfl, hE⟩ | exact ⟨_, hE⟩ | exact hE
              with_reducible refine xOps_cons ?_ ?_
              · with_reducible refine xop_un ?_ ?_
                · rfl
                · intro vs x F hF hd
                  have e1 : F.tmps.getD 63 undef = bw ((rr 2 a0) ^^^ (rr 13 a0)) := (hF.v 63 6 (by kernel_rfl) (by rw [hsz]; rfl)).trans (dep_at hd 0 6 (is (bw ((rr 2 a0) ^^^ (rr 13 a0)))) (by kernel_rfl) (by kernel_rfl))
                  have e2 : F.tmps.getD 66 undef = bw (rr 22 a0) := (hF.v 66 9 (by kernel_rfl) (by rw [hsz]; rfl)).trans (dep_at hd 1 9 (is (bw (rr 22 a0))) (by kernel_rfl) (by kernel_rfl))
                  exact w_xor e1 e2
              exact xOps_nil
            case hst => exact ⟨is.st _, is.st _, is.st _, is.st _, is.st _, is.st _, is.st _, is.st _, is.st _, is.st _, is.st _, trivial⟩
            case hfin =>
              intro vs x hf
              have f10 : vs 10 = bw b3 := (show vs 10 = bw (((rr 2 a0) ^^^ (rr 13 a0)) ^^^ (rr 22 a0)) from hf.2.2.2.2.2.2.2.2.2.2.1).trans (by rw [HQ.out.2.2.1]; rfl)
              clear hf
              have hAq := HAq.out
              subst hAq
              clear hsz hA6
              simp only [List.take_succ_cons, List.take_zero, List.drop_succ_cons, List.drop_zero, putAll, Act.put, List.setIfInBounds_toArray, List.set_cons_succ, List.set_cons_zero, Nat.zero_add, Nat.reduceAdd]
              clear HAq
              rw [f10]
              clear f10
              clear c0 c1 c2 c3 c4 c5 c6 c7
              go_upto_region 10 with fail
              refine wp_at fun Y5 hY5 => ?_
              replace HS := Lib.hid (show MixR w B R V S s0 ws [a0, a1, a2, a3, a4, a5, a6, a7] Y5 by
                rw [hY5]
                exact MixR.ext' HS.out (by repeat (first | exact Ext.refl _ | assumption | apply Ext.plus_ | apply Ext.alloc | apply Ext.drew)))
              clear hY5
              have c0 : Y5.cell? ⟨S, 0, none⟩ = some (bw a0) := wcell HS.out.st (k := 0) (by simp)
              have c1 : Y5.cell? ⟨S, 1, none⟩ = some (bw a1) := wcell HS.out.st (k := 1) (by simp)
              have c2 : Y5.cell? ⟨S, 2, none⟩ = some (bw a2) := wcell HS.out.st (k := 2) (by simp)
              have c3 : Y5.cell? ⟨S, 3, none⟩ = some (bw a3) := wcell HS.out.st (k := 3) (by simp)
              have c4 : Y5.cell? ⟨S, 4, none⟩ = some (bw a4) := wcell HS.out.st (k := 4) (by simp)
              have c5 : Y5.cell? ⟨S, 5, none⟩ = some (bw a5) := wcell HS.out.st (k := 5) (by simp)
              have c6 : Y5.cell? ⟨S, 6, none⟩ = some (bw a6) := wcell HS.out.st (k := 6) (by simp)
              have c7 : Y5.cell? ⟨S, 7, none⟩ = some (bw a7) := wcell HS.out.st (k := 7) (by simp)
              refine act_at fun A0 hAq => ?_
              have hsz : A0.tmps.size = 121 := by
                rw [hAq]
                rfl
              have hA6 : A0.tmps.getD 6 undef = .pointer (some ⟨S, 0, none⟩) := by
                rw [hAq]
                first | rfl | kernel_rfl
              have HAq := Lib.hid hAq
              clear hAq
              apply wp_region_seq 17 [is (.pointer (some ⟨S, 0, none⟩)), is (bw (a0)), is (.pointer (some ⟨S, 1, none⟩)), is (bw (a1)), is (bw ((a0) &&& (a1))), is (.pointer (some ⟨S, 0, none⟩)), is (bw (a0)), is (.pointer (some ⟨S, 2, none⟩)), is (bw (a2)), is (bw ((a0) &&& (a2))), is (bw (((a0) &&& (a1)) ^^^ ((a0) &&& (a2)))), is (.pointer (some ⟨S, 1, none⟩)), is (bw (a1)), is (.pointer (some ⟨S, 2, none⟩)), is (bw (a2)), is (bw ((a1) &&& (a2))), is (bw ((((a0) &&& (a1)) ^^^ ((a0) &&& (a2))) ^^^ ((a1) &&& (a2))))] (by kernel_rfl) (by kernel_rfl) rfl
              case hops =>
                simp only [List.take_succ_cons, List.take_zero]
                with_reducible refine xOps_cons ?_ ?_
                · with_reducible refine xop_un ?_ ?_
                  · rfl
                  · intro vs x F hF hd
                    have e1 : F.tmps.getD 6 undef = .pointer (some ⟨S, 0, none⟩) := (hF.a 6 (by kernel_rfl) (by rw [hsz]; rfl)).trans hA6
                    exact a_i8 (n := 0) e1 rfl (by omega)
                with_reducible refine xOps_cons ?_ ?_
                · with_reducible refine xop_un ?_ ?_
                  · rfl
                  · intro vs x F hF hd
                    have e1 : F.tmps.getD 68 undef = .pointer (some ⟨S, 0, none⟩) := (hF.v 68 0 (by kernel_rfl) (by rw [hsz]; rfl)).trans (dep_at hd 0 0 (is (.pointer (some ⟨S, 0, none⟩))) (by kernel_rfl) (by kernel_rfl))
                    exact l_w e1 (cell_plus x c0)
                with_reducible refine xOps_cons ?_ ?_
                · with_reducible refine xop_un ?_ ?_
                  · rfl
                  · intro vs x F hF hd
                    have e1 : F.tmps.getD 6 undef = .pointer (some ⟨S, 0, none⟩) := (hF.a 6 (by kernel_rfl) (by rw [hsz]; rfl)).trans hA6
                    exact a_i8 (n := 1) e1 rfl (by omega)
                with_reducible refine xOps_cons ?_ ?_
                · with_reducible refine xop_un ?_ ?_
                  · rfl
                  · intro vs x F hF hd
                    have e1 : F.tmps.getD 70 undef = .pointer (some ⟨S, 1, none⟩) := (hF.v 70 2 (by kernel_rfl) (by rw [hsz]; rfl)).trans (dep_at hd 0 2 (is (.pointer (some ⟨S, 1, none⟩))) (by kernel_rfl) (by kernel_rfl))
                    exact l_w e1 (cell_plus x c1)
                with_reducible refine xOps_cons ?_ ?_
                · with_reducible refine xop_un ?_ ?_
                  · rfl
                  · intro vs x F hF hd
                    have e1 : F.tmps.getD 69 undef = bw (a0) := (hF.v 69 1 (by kernel_rfl) (by rw [hsz]; rfl)).trans (dep_at hd 0 1 (is (bw (a0))) (by kernel_rfl) (by kernel_rfl))
                    have e2 : F.tmps.getD 71 undef = bw (a1) := (hF.v 71 3 (by kernel_rfl) (by rw [hsz]; rfl)).trans (dep_at hd 1 3 (is (bw (a1))) (by kernel_rfl) (by kernel_rfl))
                    exact w_and e1 e2
                with_reducible refine xOps_cons ?_ ?_
                · with_reducible refine xop_un ?_ ?_
                  · rfl
                  · intro vs x F hF hd
                    have e1 : F.tmps.getD 6 undef = .pointer (some ⟨S, 0, none⟩) := (hF.a 6 (by kernel_rfl) (by rw [hsz]; rfl)).trans hA6
                    exact a_i8 (n := 0) e1 rfl (by omega)
                with_reducible refine xOps_cons ?_ ?_
                · with_reducible refine xop_un ?_ ?_
                  · rfl
                  · intro vs x F hF hd
                    have e1 : F.tmps.getD 73 undef = .pointer (some ⟨S, 0, none⟩) := (hF.v 73 5 (by kernel_rfl) (by rw [hsz]; rfl)).trans (dep_at hd 0 5 (is (.pointer (some ⟨S, 0, none⟩))) (by kernel_rfl) (by kernel_rfl))
                    exact l_w e1 (cell_plus x c0)
                with_reducible refine xOps_cons ?_ ?_
                · with_reducible refine xop_un ?_ ?_
                  · rfl
                  · intro vs x F hF hd
                    have e1 : F.tmps.getD 6 undef = .pointer (some ⟨S, 0, none⟩) := (hF.a 6 (by kernel_rfl) (by rw [hsz]; rfl)).trans hA6
                    exact a_i8 (n := 2) e1 rfl (by omega)
                with_reducible refine xOps_cons ?_ ?_
                · with_reducible refine xop_un ?_ ?_
                  · rfl
                  · intro vs x F hF hd
                    have e1 : F.tmps.getD 75 undef = .pointer (some ⟨S, 2, none⟩) := (hF.v 75 7 (by kernel_rfl) (by rw [hsz]; rfl)).trans (dep_at hd 0 7 (is (.pointer (some ⟨S, 2, none⟩))) (by kernel_rfl) (by kernel_rfl))
                    exact l_w e1 (cell_plus x c2)
                with_reducible refine xOps_cons ?_ ?_
                · with_reducible refine xop_un ?_ ?_
                  · rfl
                  · intro vs x F hF hd
                    have e1 : F.tmps.getD 74 undef = bw (a0) := (hF.v 74 6 (by kernel_rfl) (by rw [hsz]; rfl)).trans (dep_at hd 0 6 (is (bw (a0))) (by kernel_rfl) (by kernel_rfl))
                    have e2 : F.tmps.getD 76 undef = bw (a2) := (hF.v 76 8 (by kernel_rfl) (by rw [hsz]; rfl)).trans (dep_at hd 1 8 (is (bw (a2))) (by kernel_rfl) (by kernel_rfl))
                    exact w_and e1 e2
                with_reducible refine xOps_cons ?_ ?_
                · with_reducible refine xop_un ?_ ?_
                  · rfl
                  · intro vs x F hF hd
                    have e1 : F.tmps.getD 72 undef = bw ((a0) &&& (a1)) := (hF.v 72 4 (by kernel_rfl) (by rw [hsz]; rfl)).trans (dep_at hd 0 4 (is (bw ((a0) &&& (a1)))) (by kernel_rfl) (by kernel_rfl))
                    have e2 : F.tmps.getD 77 undef = bw ((a0) &&& (a2)) := (hF.v 77 9 (by kernel_rfl) (by rw [hsz]; rfl)).trans (dep_at hd 1 9 (is (bw ((a0) &&& (a2)))) (by kernel_rfl) (by kernel_rfl))
                    exact w_xor e1 e2
                with_reducible refine xOps_cons ?_ ?_
                · with_reducible refine xop_un ?_ ?_
                  · rfl
                  · intro vs x F hF hd
                    have e1 : F.tmps.getD 6 undef = .pointer (some ⟨S, 0, none⟩) := (hF.a 6 (by kernel_rfl) (by rw [hsz]; rfl)).trans hA6
                    exact a_i8 (n := 1) e1 rfl (by omega)
                with_reducible refine xOps_cons ?_ ?_
                · with_reducible refine xop_un ?_ ?_
                  · rfl
                  · intro vs x F hF hd
                    have e1 : F.tmps.getD 79 undef = .pointer (some ⟨S, 1, none⟩) := (hF.v 79 11 (by kernel_rfl) (by rw [hsz]; rfl)).trans (dep_at hd 0 11 (is (.pointer (some ⟨S, 1, none⟩))) (by kernel_rfl) (by kernel_rfl))
                    exact l_w e1 (cell_plus x c1)
                with_reducible refine xOps_cons ?_ ?_
                · with_reducible refine xop_un ?_ ?_
                  · rfl
                  · intro vs x F hF hd
                    have e1 : F.tmps.getD 6 undef = .pointer (some ⟨S, 0, none⟩) := (hF.a 6 (by kernel_rfl) (by rw [hsz]; rfl)).trans hA6
                    exact a_i8 (n := 2) e1 rfl (by omega)
                with_reducible refine xOps_cons ?_ ?_
                · with_reducible refine xop_un ?_ ?_
                  · rfl
                  · intro vs x F hF hd
                    have e1 : F.tmps.getD 81 undef = .pointer (some ⟨S, 2, none⟩) := (hF.v 81 13 (by kernel_rfl) (by rw [hsz]; rfl)).trans (dep_at hd 0 13 (is (.pointer (some ⟨S, 2, none⟩))) (by kernel_rfl) (by kernel_rfl))
                    exact l_w e1 (cell_plus x c2)
                with_reducible refine xOps_cons ?_ ?_
                · with_reducible refine xop_un ?_ ?_
                  · rfl
                  · intro vs x F hF hd
                    have e1 : F.tmps.getD 80 undef = bw (a1) := (hF.v 80 12 (by kernel_rfl) (by rw [hsz]; rfl)).trans (dep_at hd 0 12 (is (bw (a1))) (by kernel_rfl) (by kernel_rfl))
                    have e2 : F.tmps.getD 82 undef = bw (a2) := (hF.v 82 14 (by kernel_rfl) (by rw [hsz]; rfl)).trans (dep_at hd 1 14 (is (bw (a2))) (by kernel_rfl) (by kernel_rfl))
                    exact w_and e1 e2
                with_reducible refine xOps_cons ?_ ?_
                · with_reducible refine xop_un ?_ ?_
                  · rfl
                  · intro vs x F hF hd
                    have e1 : F.tmps.getD 78 undef = bw (((a0) &&& (a1)) ^^^ ((a0) &&& (a2))) := (hF.v 78 10 (by kernel_rfl) (by rw [hsz]; rfl)).trans (dep_at hd 0 10 (is (bw (((a0) &&& (a1)) ^^^ ((a0) &&& (a2))))) (by kernel_rfl) (by kernel_rfl))
                    have e2 : F.tmps.getD 83 undef = bw ((a1) &&& (a2)) := (hF.v 83 15 (by kernel_rfl) (by rw [hsz]; rfl)).trans (dep_at hd 1 15 (is (bw ((a1) &&& (a2)))) (by kernel_rfl) (by kernel_rfl))
                    exact w_xor e1 e2
                exact xOps_nil
              case hst => exact ⟨is.st _, is.st _, is.st _, is.st _, is.st _, is.st _, is.st _, is.st _, is.st _, is.st _, is.st _, is.st _, is.st _, is.st _, is.st _, is.st _, is.st _, trivial⟩
              case hfin =>
                intro vs x hf
                have f16 : vs 16 = bw b4 := (show vs 16 = bw ((((a0) &&& (a1)) ^^^ ((a0) &&& (a2))) ^^^ ((a1) &&& (a2))) from hf.2.2.2.2.2.2.2.2.2.2.2.2.2.2.2.2.1).trans (by rw [HQ.out.2.2.2.1]; rfl)
                clear hf
                have hAq := HAq.out
                subst hAq
                clear hsz hA6
                simp only [List.take_succ_cons, List.take_zero, List.drop_succ_cons, List.drop_zero, putAll, Act.put, List.setIfInBounds_toArray, List.set_cons_succ, List.set_cons_zero, Nat.zero_add, Nat.reduceAdd]
                clear HAq
                rw [f16]
                clear f16
                clear c0 c1 c2 c3 c4 c5 c6 c7
                go_upto_region 11 with fail
                refine wp_at fun Y6 hY6 => ?_
                replace HS := Lib.hid (show MixR w B R V S s0 ws [a0, a1, a2, a3, a4, a5, a6, a7] Y6 by
                  rw [hY6]
                  exact MixR.ext' HS.out (by repeat (first | exact Ext.refl _ | assumption | apply Ext.plus_ | apply Ext.alloc | apply Ext.drew)))
                clear hY6
                have c0 : Y6.cell? ⟨S, 0, none⟩ = some (bw a0) := wcell HS.out.st (k := 0) (by simp)
                have c1 : Y6.cell? ⟨S, 1, none⟩ = some (bw a1) := wcell HS.out.st (k := 1) (by simp)
                have c2 : Y6.cell? ⟨S, 2, none⟩ = some (bw a2) := wcell HS.out.st (k := 2) (by simp)
                have c3 : Y6.cell? ⟨S, 3, none⟩ = some (bw a3) := wcell HS.out.st (k := 3) (by simp)
                have c4 : Y6.cell? ⟨S, 4, none⟩ = some (bw a4) := wcell HS.out.st (k := 4) (by simp)
                have c5 : Y6.cell? ⟨S, 5, none⟩ = some (bw a5) := wcell HS.out.st (k := 5) (by simp)
                have c6 : Y6.cell? ⟨S, 6, none⟩ = some (bw a6) := wcell HS.out.st (k := 6) (by simp)
                have c7 : Y6.cell? ⟨S, 7, none⟩ = some (bw a7) := wcell HS.out.st (k := 7) (by simp)
                refine act_at fun A0 hAq => ?_
                have hsz : A0.tmps.size = 121 := by
                  rw [hAq]
                  rfl
                have hA6 : A0.tmps.getD 6 undef = .pointer (some ⟨S, 0, none⟩) := by
                  rw [hAq]
                  first | rfl | kernel_rfl
                have hA10 : A0.tmps.getD 10 undef = bw (tt) := by
                  rw [hAq]
                  first | rfl | kernel_rfl
                have hA11 : A0.tmps.getD 11 undef = bw (b3) := by
                  rw [hAq]
                  first | rfl | kernel_rfl
                have hA12 : A0.tmps.getD 12 undef = bw (b4) := by
                  rw [hAq]
                  first | rfl | kernel_rfl
                have HAq := Lib.hid hAq
                clear hAq
                apply wp_region_seq 22 [is (bw (tt)), is (bw (b3)), is (bw ((tt) + (b3))), is (bw (b4)), is (bw (((tt) + (b3)) + (b4))), is (.pointer (some ⟨S, 0, none⟩)), is (bw (a0)), is (.pointer (some ⟨S, 1, none⟩)), is (bw (a1)), is (.pointer (some ⟨S, 2, none⟩)), is (bw (a2)), is (.pointer (some ⟨S, 3, none⟩)), is (bw (a3)), is (bw (tt)), is (bw ((a3) + (tt))), is (.pointer (some ⟨S, 4, none⟩)), is (bw (a4)), is (.pointer (some ⟨S, 5, none⟩)), is (bw (a5)), is (.pointer (some ⟨S, 6, none⟩)), is (bw (a6)), is (.agg #[bw (((tt) + (b3)) + (b4)), bw (a0), bw (a1), bw (a2), bw ((a3) + (tt)), bw (a4), bw (a5), bw (a6)])] (by kernel_rfl) (by kernel_rfl) rfl
                case hops =>
                  simp only [List.take_succ_cons, List.take_zero]
                  with_reducible refine xOps_cons ?_ ?_
                  · with_reducible refine xop_un ?_ ?_
                    · rfl
                    · intro vs x F hF hd
                      have e1 : F.tmps.getD 10 undef = bw (tt) := (hF.a 10 (by kernel_rfl) (by rw [hsz]; rfl)).trans hA10
                      exact m_v e1
                  with_reducible refine xOps_cons ?_ ?_
                  · with_reducible refine xop_un ?_ ?_
                    · rfl
                    · intro vs x F hF hd
                      have e1 : F.tmps.getD 11 undef = bw (b3) := (hF.a 11 (by kernel_rfl) (by rw [hsz]; rfl)).trans hA11
                      exact m_v e1
                  with_reducible refine xOps_cons ?_ ?_
                  · with_reducible refine xop_un ?_ ?_
                    · rfl
                    · intro vs x F hF hd
                      have e1 : F.tmps.getD 85 undef = bw (tt) := (hF.v 85 0 (by kernel_rfl) (by rw [hsz]; rfl)).trans (dep_at hd 0 0 (is (bw (tt))) (by kernel_rfl) (by kernel_rfl))
                      have e2 : F.tmps.getD 86 undef = bw (b3) := (hF.v 86 1 (by kernel_rfl) (by rw [hsz]; rfl)).trans (dep_at hd 1 1 (is (bw (b3))) (by kernel_rfl) (by kernel_rfl))
                      exact w_add e1 e2
                  with_reducible refine xOps_cons ?_ ?_
                  · with_reducible refine xop_un ?_ ?_
                    · rfl
                    · intro vs x F hF hd
                      have e1 : F.tmps.getD 12 undef = bw (b4) := (hF.a 12 (by kernel_rfl) (by rw [hsz]; rfl)).trans hA12
                      exact m_v e1
                  with_reducible refine xOps_cons ?_ ?_
                  · with_reducible refine xop_un ?_ ?_
                    · rfl
                    · intro vs x F hF hd
                      have e1 : F.tmps.getD 87 undef = bw ((tt) + (b3)) := (hF.v 87 2 (by kernel_rfl) (by rw [hsz]; rfl)).trans (dep_at hd 0 2 (is (bw ((tt) + (b3)))) (by kernel_rfl) (by kernel_rfl))
                      have e2 : F.tmps.getD 88 undef = bw (b4) := (hF.v 88 3 (by kernel_rfl) (by rw [hsz]; rfl)).trans (dep_at hd 1 3 (is (bw (b4))) (by kernel_rfl) (by kernel_rfl))
                      exact w_add e1 e2
                  with_reducible refine xOps_cons ?_ ?_
                  · with_reducible refine xop_un ?_ ?_
                    · rfl
                    · intro vs x F hF hd
                      have e1 : F.tmps.getD 6 undef = .pointer (some ⟨S, 0, none⟩) := (hF.a 6 (by kernel_rfl) (by rw [hsz]; rfl)).trans hA6
                      exact a_i8 (n := 0) e1 rfl (by omega)
                  with_reducible refine xOps_cons ?_ ?_
                  · with_reducible refine xop_un ?_ ?_
                    · rfl
                    · intro vs x F hF hd
                      have e1 : F.tmps.getD 90 undef = .pointer (some ⟨S, 0, none⟩) := (hF.v 90 5 (by kernel_rfl) (by rw [hsz]; rfl)).trans (dep_at hd 0 5 (is (.pointer (some ⟨S, 0, none⟩))) (by kernel_rfl) (by kernel_rfl))
                      exact l_w e1 (cell_plus x c0)
                  with_reducible refine xOps_cons ?_ ?_
                  · with_reducible refine xop_un ?_ ?_
                    · rfl
                    · intro vs x F hF hd
                      have e1 : F.tmps.getD 6 undef = .pointer (some ⟨S, 0, none⟩) := (hF.a 6 (by kernel_rfl) (by rw [hsz]; rfl)).trans hA6
                      exact a_i8 (n := 1) e1 rfl (by omega)
                  with_reducible refine xOps_cons ?_ ?_
                  · with_reducible refine xop_un ?_ ?_
                    · rfl
                    · intro vs x F hF hd
                      have e1 : F.tmps.getD 92 undef = .pointer (some ⟨S, 1, none⟩) := (hF.v 92 7 (by kernel_rfl) (by rw [hsz]; rfl)).trans (dep_at hd 0 7 (is (.pointer (some ⟨S, 1, none⟩))) (by kernel_rfl) (by kernel_rfl))
                      exact l_w e1 (cell_plus x c1)
                  with_reducible refine xOps_cons ?_ ?_
                  · with_reducible refine xop_un ?_ ?_
                    · rfl
                    · intro vs x F hF hd
                      have e1 : F.tmps.getD 6 undef = .pointer (some ⟨S, 0, none⟩) := (hF.a 6 (by kernel_rfl) (by rw [hsz]; rfl)).trans hA6
                      exact a_i8 (n := 2) e1 rfl (by omega)
                  with_reducible refine xOps_cons ?_ ?_
                  · with_reducible refine xop_un ?_ ?_
                    · rfl
                    · intro vs x F hF hd
                      have e1 : F.tmps.getD 94 undef = .pointer (some ⟨S, 2, none⟩) := (hF.v 94 9 (by kernel_rfl) (by rw [hsz]; rfl)).trans (dep_at hd 0 9 (is (.pointer (some ⟨S, 2, none⟩))) (by kernel_rfl) (by kernel_rfl))
                      exact l_w e1 (cell_plus x c2)
                  with_reducible refine xOps_cons ?_ ?_
                  · with_reducible refine xop_un ?_ ?_
                    · rfl
                    · intro vs x F hF hd
                      have e1 : F.tmps.getD 6 undef = .pointer (some ⟨S, 0, none⟩) := (hF.a 6 (by kernel_rfl) (by rw [hsz]; rfl)).trans hA6
                      exact a_i8 (n := 3) e1 rfl (by omega)
                  with_reducible refine xOps_cons ?_ ?_
                  · with_reducible refine xop_un ?_ ?_
                    · rfl
                    · intro vs x F hF hd
                      have e1 : F.tmps.getD 96 undef = .pointer (some ⟨S, 3, none⟩) := (hF.v 96 11 (by kernel_rfl) (by rw [hsz]; rfl)).trans (dep_at hd 0 11 (is (.pointer (some ⟨S, 3, none⟩))) (by kernel_rfl) (by kernel_rfl))
                      exact l_w e1 (cell_plus x c3)
                  with_reducible refine xOps_cons ?_ ?_
                  · with_reducible refine xop_un ?_ ?_
                    · rfl
                    · intro vs x F hF hd
                      have e1 : F.tmps.getD 10 undef = bw (tt) := (hF.a 10 (by kernel_rfl) (by rw [hsz]; rfl)).trans hA10
                      exact m_v e1
                  with_reducible refine xOps_cons ?_ ?_
                  · with_reducible refine xop_un ?_ ?_
                    · rfl
                    · intro vs x F hF hd
                      have e1 : F.tmps.getD 97 undef = bw (a3) := (hF.v 97 12 (by kernel_rfl) (by rw [hsz]; rfl)).trans (dep_at hd 0 12 (is (bw (a3))) (by kernel_rfl) (by kernel_rfl))
                      have e2 : F.tmps.getD 98 undef = bw (tt) := (hF.v 98 13 (by kernel_rfl) (by rw [hsz]; rfl)).trans (dep_at hd 1 13 (is (bw (tt))) (by kernel_rfl) (by kernel_rfl))
                      exact w_add e1 e2
                  with_reducible refine xOps_cons ?_ ?_
                  · with_reducible refine xop_un ?_ ?_
                    · rfl
                    · intro vs x F hF hd
                      have e1 : F.tmps.getD 6 undef = .pointer (some ⟨S, 0, none⟩) := (hF.a 6 (by kernel_rfl) (by rw [hsz]; rfl)).trans hA6
                      exact a_i8 (n := 4) e1 rfl (by omega)
                  with_reducible refine xOps_cons ?_ ?_
                  · with_reducible refine xop_un ?_ ?_
                    · rfl
                    · intro vs x F hF hd
                      have e1 : F.tmps.getD 100 undef = .pointer (some ⟨S, 4, none⟩) := (hF.v 100 15 (by kernel_rfl) (by rw [hsz]; rfl)).trans (dep_at hd 0 15 (is (.pointer (some ⟨S, 4, none⟩))) (by kernel_rfl) (by kernel_rfl))
                      exact l_w e1 (cell_plus x c4)
                  with_reducible refine xOps_cons ?_ ?_
                  · with_reducible refine xop_un ?_ ?_
                    · rfl
                    · intro vs x F hF hd
                      have e1 : F.tmps.getD 6 undef = .pointer (some ⟨S, 0, none⟩) := (hF.a 6 (by kernel_rfl) (by rw [hsz]; rfl)).trans hA6
                      exact a_i8 (n := 5) e1 rfl (by omega)
                  with_reducible refine xOps_cons ?_ ?_
                  · with_reducible refine xop_un ?_ ?_
                    · rfl
                    · intro vs x F hF hd
                      have e1 : F.tmps.getD 102 undef = .pointer (some ⟨S, 5, none⟩) := (hF.v 102 17 (by kernel_rfl) (by rw [hsz]; rfl)).trans (dep_at hd 0 17 (is (.pointer (some ⟨S, 5, none⟩))) (by kernel_rfl) (by kernel_rfl))
                      exact l_w e1 (cell_plus x c5)
                  with_reducible refine xOps_cons ?_ ?_
                  · with_reducible refine xop_un ?_ ?_
                    · rfl
                    · intro vs x F hF hd
                      have e1 : F.tmps.getD 6 undef = .pointer (some ⟨S, 0, none⟩) := (hF.a 6 (by kernel_rfl) (by rw [hsz]; rfl)).trans hA6
                      exact a_i8 (n := 6) e1 rfl (by omega)
                  with_reducible refine xOps_cons ?_ ?_
                  · with_reducible refine xop_un ?_ ?_
                    · rfl
                    · intro vs x F hF hd
                      have e1 : F.tmps.getD 104 undef = .pointer (some ⟨S, 6, none⟩) := (hF.v 104 19 (by kernel_rfl) (by rw [hsz]; rfl)).trans (dep_at hd 0 19 (is (.pointer (some ⟨S, 6, none⟩))) (by kernel_rfl) (by kernel_rfl))
                      exact l_w e1 (cell_plus x c6)
                  with_reducible refine xOps_cons ?_ ?_
                  · with_reducible refine xop_un ?_ ?_
                    · rfl
                    · intro vs x F hF hd
                      have e89 : F.tmps.getD 89 undef = bw (((tt) + (b3)) + (b4)) := (hF.v 89 4 (by kernel_rfl) (by rw [hsz]; rfl)).trans (dep_at hd 0 4 (is (bw (((tt) + (b3)) + (b4)))) (by kernel_rfl) (by kernel_rfl))
                      have e91 : F.tmps.getD 91 undef = bw (a0) := (hF.v 91 6 (by kernel_rfl) (by rw [hsz]; rfl)).trans (dep_at hd 1 6 (is (bw (a0))) (by kernel_rfl) (by kernel_rfl))
                      have e93 : F.tmps.getD 93 undef = bw (a1) := (hF.v 93 8 (by kernel_rfl) (by rw [hsz]; rfl)).trans (dep_at hd 2 8 (is (bw (a1))) (by kernel_rfl) (by kernel_rfl))
                      have e95 : F.tmps.getD 95 undef = bw (a2) := (hF.v 95 10 (by kernel_rfl) (by rw [hsz]; rfl)).trans (dep_at hd 3 10 (is (bw (a2))) (by kernel_rfl) (by kernel_rfl))
                      have e99 : F.tmps.getD 99 undef = bw ((a3) + (tt)) := (hF.v 99 14 (by kernel_rfl) (by rw [hsz]; rfl)).trans (dep_at hd 4 14 (is (bw ((a3) + (tt)))) (by kernel_rfl) (by kernel_rfl))
                      have e101 : F.tmps.getD 101 undef = bw (a4) := (hF.v 101 16 (by kernel_rfl) (by rw [hsz]; rfl)).trans (dep_at hd 5 16 (is (bw (a4))) (by kernel_rfl) (by kernel_rfl))
                      have e103 : F.tmps.getD 103 undef = bw (a5) := (hF.v 103 18 (by kernel_rfl) (by rw [hsz]; rfl)).trans (dep_at hd 6 18 (is (bw (a5))) (by kernel_rfl) (by kernel_rfl))
                      have e105 : F.tmps.getD 105 undef = bw (a6) := (hF.v 105 20 (by kernel_rfl) (by rw [hsz]; rfl)).trans (dep_at hd 7 20 (is (bw (a6))) (by kernel_rfl) (by kernel_rfl))
                      exact w_build8 e89 e91 e93 e95 e99 e101 e103 e105
                  exact xOps_nil
                case hst => exact ⟨is.st _, is.st _, is.st _, is.st _, is.st _, is.st _, is.st _, is.st _, is.st _, is.st _, is.st _, is.st _, is.st _, is.st _, is.st _, is.st _, is.st _, is.st _, is.st _, is.st _, is.st _, is.st _, trivial⟩
                case hfin =>
                  intro vs x hf
                  have f21 : vs 21 = .agg #[bw (((tt) + (b3)) + (b4)), bw (a0), bw (a1), bw (a2), bw ((a3) + (tt)), bw (a4), bw (a5), bw (a6)] := hf.2.2.2.2.2.2.2.2.2.2.2.2.2.2.2.2.2.2.2.2.2.1
                  clear hf
                  have hAq := HAq.out
                  subst hAq
                  clear hsz hA6 hA10 hA11 hA12
                  simp only [List.take_succ_cons, List.take_zero, List.drop_succ_cons, List.drop_zero, putAll, Act.put, List.setIfInBounds_toArray, List.set_cons_succ, List.set_cons_zero, Nat.zero_add, Nat.reduceAdd]
                  clear HAq
                  rw [f21]
                  clear f21
                  clear c0 c1 c2 c3 c4 c5 c6 c7
                  have hs6 := MixR.ext' HS.out (show Ext Y6 (Y6.plus x) from (by repeat (first | exact Ext.refl _ | assumption | apply Ext.plus_ | apply Ext.alloc | apply Ext.drew)))
                  have h2S : 2 ≤ S := by omega
                  refine wl_store rfl 32 (.tmp 6) (.tmp 106) rfl hs6.st ([tt + b3 + b4, a0, a1, a2, a3 + tt, a4, a5, a6].map bw) rfl rfl rfl (by kernel_rfl) (one_cells _) fun W3 hB3 hx => ?_
                  have HS3 := Lib.hid (hs6.stb hx hB3 hBS hRS hVS hwS h2S)
                  clear hs6 hB3 hx HS
                  go_wp2
                  go_roundw
                  case rel =>
                    refine ⟨k + 1, by omega, by go_num, Lib.hid ?_⟩
                    have hs := HS3.out
                    obtain ⟨q1, q2, q3, q4, q5, q6, q7⟩ := HQ.out
                    have e : rounds ws s0 (k + 1) = [tt + b3 + b4, a0, a1, a2, a3 + tt, a4, a5, a6] := by
                      rw [rounds, ← HR.out, ← q5, ← q6, rnd, t1F, ← q1, ← q2, ← q3, ← q4, ← q7]
                    rw [e]
                    exact hs
                  case measure => simp [intOf]; omega
    · obtain rfl : k = 64 := by omega
      clear hlt hk
      obtain ⟨rs, hrs⟩ : ∃ rs, rs = rounds ws s0 64 := ⟨_, rfl⟩
      rw [← hrs] at HS
      have hrl : rs.length = 8 := by rw [hrs]; exact rounds_len HL.out.2.2.1 64
      have HRS := Lib.hid (And.intro hrs hrl)
      clear hrs hrl
      replace HS : Hid (MixR w B R V S s0 ws (fin rs s0 0) wr) := HS
      go_upto_region 13 with fail
      refine wp_at fun Z hZ => ?_
      rw [← hZ] at HS
      clear hZ
      go_wp2
      go_loopw [108, 13] (fun i _ wr => ∃ k : Nat, k ≤ 8 ∧ i = nw k ∧ Hid (MixR w B R V S s0 ws (fin rs s0 k) wr)) (fun i _ _ => 8 - (intOf i).toNat)
      case atStart => exact ⟨0, Nat.zero_le _, rfl, HS⟩
      case round =>
        clear HS
        obtain ⟨k, hk, rfl, HS⟩ := hrel
        by_cases hlt : k < 8
        · have hli : (k : Int) < 8 := by omega
          obtain ⟨st, hst⟩ : ∃ st, st = fin rs s0 k := ⟨_, rfl⟩
          have hsl : st.length = 8 := by rw [hst, fin_len]; exact HRS.out.2
          rw [← hst] at HS
          have HR := Lib.hid (And.intro hst hsl)
          clear hst hsl
          go_upto_region 16 with fail
          refine wp_at fun Y1 hY1 => ?_
          rw [← hY1] at HS
          clear hY1
          obtain ⟨y1, hy1⟩ : ∃ y, y = st.getD k 0 := ⟨_, rfl⟩
          obtain ⟨y2, hy2⟩ : ∃ y, y = s0.getD k 0 := ⟨_, rfl⟩
          have c1 := wcell HS.out.st (show k < st.length by rw [HR.out.2]; omega)
          have c2 := wcell HS.out.s0 (show k < s0.length by rw [HL.out.2.2.1]; omega)
          rw [← hy1] at c1
          rw [← hy2] at c2
          obtain ⟨vv, hvv⟩ : ∃ vv, vv = y1 + y2 := ⟨_, rfl⟩
          refine act_at fun A0 hAq => ?_
          have hsz : A0.tmps.size = 121 := by
            rw [hAq]
            rfl
          have hA2 : A0.tmps.getD 2 undef = .pointer (some ⟨B, 0, none⟩) := by
            rw [hAq]
            first | rfl | kernel_rfl
          have hA6 : A0.tmps.getD 6 undef = .pointer (some ⟨S, 0, none⟩) := by
            rw [hAq]
            first | rfl | kernel_rfl
          have hA13 : A0.tmps.getD 13 undef = nw (k) := by
            rw [hAq]
            first | rfl | kernel_rfl
          have HAq := Lib.hid hAq
          clear hAq
          apply wp_region_ext 8 [is (nw (k)), is (.pointer (some ⟨S, k, none⟩)), is (bw (y1)), is (nw (k)), is (.pointer (some ⟨B, k, none⟩)), is (bw (y2)), is (bw ((y1) + (y2))), is (.pointer (some ⟨S, k, none⟩))] (by kernel_rfl) (by kernel_rfl) rfl
          case hops =>
            simp only [List.take_succ_cons, List.take_zero]
            with_reducible refine xOps_cons ?_ ?_
            · with_reducible refine xop_un ?_ ?_
              · rfl
              · intro vs x F hF hd
                have e1 : F.tmps.getD 13 undef = nw (k) := (hF.a 13 (by kernel_rfl) (by rw [hsz]; rfl)).trans hA13
                exact m_v e1
            with_reducible refine xOps_cons ?_ ?_
            · with_reducible refine xop_un ?_ ?_
              · rfl
              · intro vs x F hF hd
                have e1 : F.tmps.getD 6 undef = .pointer (some ⟨S, 0, none⟩) := (hF.a 6 (by kernel_rfl) (by rw [hsz]; rfl)).trans hA6
                have e2 : F.tmps.getD 111 undef = nw (k) := (hF.v 111 0 (by kernel_rfl) (by rw [hsz]; rfl)).trans (dep_at hd 0 0 (is (nw (k))) (by kernel_rfl) (by kernel_rfl))
                exact a_i8 (n := k) e1 e2 (by omega)
            with_reducible refine xOps_cons ?_ ?_
            · with_reducible refine xop_un ?_ ?_
              · rfl
              · intro vs x F hF hd
                have e1 : F.tmps.getD 112 undef = .pointer (some ⟨S, k, none⟩) := (hF.v 112 1 (by kernel_rfl) (by rw [hsz]; rfl)).trans (dep_at hd 0 1 (is (.pointer (some ⟨S, k, none⟩))) (by kernel_rfl) (by kernel_rfl))
                exact l_w e1 (cell_plus x c1)
            with_reducible refine xOps_cons ?_ ?_
            · with_reducible refine xop_un ?_ ?_
              · rfl
              · intro vs x F hF hd
                have e1 : F.tmps.getD 13 undef = nw (k) := (hF.a 13 (by kernel_rfl) (by rw [hsz]; rfl)).trans hA13
                exact m_v e1
            with_reducible refine xOps_cons ?_ ?_
            · with_reducible refine xop_un ?_ ?_
              · rfl
              · intro vs x F hF hd
                have e1 : F.tmps.getD 2 undef = .pointer (some ⟨B, 0, none⟩) := (hF.a 2 (by kernel_rfl) (by rw [hsz]; rfl)).trans hA2
                have e2 : F.tmps.getD 114 undef = nw (k) := (hF.v 114 3 (by kernel_rfl) (by rw [hsz]; rfl)).trans (dep_at hd 0 3 (is (nw (k))) (by kernel_rfl) (by kernel_rfl))
                exact a_i8 (n := k) e1 e2 (by omega)
            with_reducible refine xOps_cons ?_ ?_
            · with_reducible refine xop_un ?_ ?_
              · rfl
              · intro vs x F hF hd
                have e1 : F.tmps.getD 115 undef = .pointer (some ⟨B, k, none⟩) := (hF.v 115 4 (by kernel_rfl) (by rw [hsz]; rfl)).trans (dep_at hd 0 4 (is (.pointer (some ⟨B, k, none⟩))) (by kernel_rfl) (by kernel_rfl))
                exact l_w e1 (cell_plus x c2)
            with_reducible refine xOps_cons ?_ ?_
            · with_reducible refine xop_un ?_ ?_
              · rfl
              · intro vs x F hF hd
                have e1 : F.tmps.getD 113 undef = bw (y1) := (hF.v 113 2 (by kernel_rfl) (by rw [hsz]; rfl)).trans (dep_at hd 0 2 (is (bw (y1))) (by kernel_rfl) (by kernel_rfl))
                have e2 : F.tmps.getD 116 undef = bw (y2) := (hF.v 116 5 (by kernel_rfl) (by rw [hsz]; rfl)).trans (dep_at hd 1 5 (is (bw (y2))) (by kernel_rfl) (by kernel_rfl))
                exact w_add e1 e2
            with_reducible refine xOps_cons ?_ ?_
            · with_reducible refine xop_un ?_ ?_
              · rfl
              · intro vs x F hF hd
                have e1 : F.tmps.getD 6 undef = .pointer (some ⟨S, 0, none⟩) := (hF.a 6 (by kernel_rfl) (by rw [hsz]; rfl)).trans hA6
                have e2 : F.tmps.getD 111 undef = nw (k) := (hF.v 111 0 (by kernel_rfl) (by rw [hsz]; rfl)).trans (dep_at hd 0 0 (is (nw (k))) (by kernel_rfl) (by kernel_rfl))
                exact a_i8 (n := k) e1 e2 (by omega)
            exact xOps_nil
          case hst => exact ⟨is.st _, is.st _, is.st _, is.st _, is.st _, is.st _, is.st _, is.st _, trivial⟩
          case hfin =>
            intro vs x hf
            have f6 : vs 6 = bw vv := (show vs 6 = bw ((y1) + (y2)) from hf.2.2.2.2.2.2.1).trans (by rw [hvv])
            have f7 : vs 7 = .pointer (some ⟨S, k, none⟩) := hf.2.2.2.2.2.2.2.1
            clear hf
            have hAq := HAq.out
            subst hAq
            clear hsz hA2 hA6 hA13
            simp only [List.take_succ_cons, List.take_zero, List.drop_succ_cons, List.drop_zero, putAll, Act.put, List.setIfInBounds_toArray, List.set_cons_succ, List.set_cons_zero, Nat.zero_add, Nat.reduceAdd]
            clear HAq
            rw [f6]
            rw [f7]
            clear f6 f7
            have HV := Lib.hid (And.intro hvv (And.intro hy1 hy2))
            have hf := HS.out.st.free
            clear c2 hvv hy1 hy2
            go_wp2
            go_roundw
            case rel =>
              refine ⟨k + 1, by omega, by go_num, Lib.hid ?_⟩
              have h2S : 2 ≤ S := by omega
              have hp := HS.out.stb (StB.one Y1 S k (bw vv)) (wput (v := vv) HS.out.st (show k < st.length by rw [HR.out.2]; omega)) hBS hRS hVS hwS h2S
              have e : fin rs s0 (k + 1) = st.set k vv := by
                rw [fin, ← HR.out.1, ← HV.out.2.1, ← HV.out.2.2, ← HV.out.1]
              rw [e]
              exact MixR.ext' hp (Ext.plus_ (Ext.refl _) x)
            case measure => simp [intOf]; omega
        · obtain rfl : k = 8 := by omega
          clear hlt hk
          have hbk : fin rs s0 8 = blk [x0, x1, x2, x3, x4, x5, x6, x7] bs := by
            rw [blk, HRS.out.1, HL.out.2.1, ← HL.out.1]
          have hbl : (fin rs s0 8).length = 8 := by
            rw [fin_len]
            exact HRS.out.2
          obtain ⟨fs, hfs⟩ : ∃ fs, fs = fin rs s0 8 := ⟨_, rfl⟩
          rw [← hfs] at HS hbl hbk
          clear hfs
          have HK := Lib.hid (And.intro hbk hbl)
          clear hbk hbl
          go_upto_region 18 with fail
          go_wp2_with (with_reducible show wpList _ _ _ (⟨some 120, _, _, _, _, _⟩ :: _) _ _; refine Lock.out ?_)
          refine ⟨?_, trivial⟩
          refine wl_at fun Z hZ => ?_
          rw [← hZ] at HS
          clear hZ
          refine wl_load rfl 32 (.tmp 6) rfl HS.out.st rfl Tryd.underlying32 rfl (by rw [List.length_map, HK.out.2]; kernel_rfl) ?_
          go_wp2_with (with_reducible show wpList _ _ _ (⟨none, _, _, _, _, _⟩ :: _) _ _; refine Lock.out ?_)
          refine ⟨?_, trivial⟩
          refine wl_store rfl 32 (.tmp 4) (.tmp 120) rfl HS.out.res (fs.map bw) rfl rfl (by rw [List.length_map, List.length_map, HK.out.2]; rfl) (by rw [List.length_map, HK.out.2]; kernel_rfl) (one_cells _) fun W hW hx => ?_
          have HX := Lib.hid (hx.ext _ HS.out.ext hRw)
          have HR := Lib.hid hW
          clear hW hx HS
          go_wp2
          refine bodyPost_ret (results_cell Tryd.results23 HR.out rfl Tryd.underlying32 rfl (by rw [List.length_map, HK.out.2]; kernel_rfl)) rfl ?_
          exact ⟨by rw [← HK.out.1], HX.out⟩
end Go.Proofs.YtbdahlfakinagaaDoor
