/- The reference's Block. -/
import Derived.Test.YtbdahlfakinagaaDoorD6
import Derived.Test.YtbdahlfakinagaaDoorD7
import Derived.Test.YtbdahlfakinagaaDoorRgD
import Derived.Test.YtbdahlfakinagaaDoorLoadBox
set_option linter.unusedVariables false
namespace Go.Proofs.YtbdahlfakinagaaDoor
open Go.RowKit Go.Rg

/-- What lies in memory while the words are made. -/
structure BlR (w : World) (V B R : Nat) (s0 : List W32) (b o : Nat) (bs : List Int) (ws : List W32) (wr : World) : Prop where
  ws : Box 0 (ws.map bw) V wr
  s0 : Box 0 (s0.map bw) B wr
  res : Box 0 (zero8.map bw) R wr
  ext : Ext w wr
  by_ : BytesAt b o 64 bs wr
theorem BlR.ext' {w : World} {V B R : Nat} {s0 : List W32} {b o : Nat} {bs : List Int} {ws : List W32} {wr w2 : World} (h : BlR w V B R s0 b o bs ws wr) (e : Ext wr w2) : BlR w V B R s0 b o bs ws w2 := ⟨h.ws.ext e, h.s0.ext e, h.res.ext e, h.ext.trans e, h.by_.ext e⟩
theorem BlR.put {w : World} {V B R : Nat} {s0 : List W32} {b o : Nat} {bs : List Int} {ws : List W32} {wr : World} (h : BlR w V B R s0 b o bs ws wr) (z : Array Obj × Nat) {k : Nat} (v : W32) (hk : k < ws.length) (h1 : B ≠ V) (h2 : R ≠ V) (hV : w.heap.size ≤ V) (hb : b < w.heap.size) :
    BlR w V B R s0 b o bs (ws.set k v) ((wr.setCell ⟨V, k, none⟩ (bw v)).plus z) := by
  have e : Ext (wr.setCell ⟨V, k, none⟩ (bw v)) ((wr.setCell ⟨V, k, none⟩ (bw v)).plus z) := Ext.plus_ (Ext.refl _) z
  refine ⟨(wput h.ws hk).ext e, (Box.off h.s0 (Ne.symm h1)).ext e, (Box.off h.res (Ne.symm h2)).ext e, (Ext.put h.ext hV).trans e, fun j hj => Ext.cell e ?_, h.by_.2⟩
  rw [World.cell?_setCell_other _ _ _ _ (fun q => by injection q with q; omega)]
  exact h.by_.1 j hj
/-- What lies in memory in the rounds. -/
structure RfR (w : World) (V B R S C : Nat) (s0 ws st : List W32) (wr : World) : Prop where
  st : Box 0 (st.map bw) S wr
  ws : Box 0 (ws.map bw) V wr
  s0 : Box 0 (s0.map bw) B wr
  res : Box 0 (zero8.map bw) R wr
  con : Box 0 (KL.map bw) C wr
  ext : Ext w wr
theorem RfR.ext' {w : World} {V B R S C : Nat} {s0 ws st : List W32} {wr w2 : World} (h : RfR w V B R S C s0 ws st wr) (e : Ext wr w2) : RfR w V B R S C s0 ws st w2 := ⟨h.st.ext e, h.ws.ext e, h.s0.ext e, h.res.ext e, h.con.ext e, h.ext.trans e⟩
theorem RfR.stb {w : World} {V B R S C : Nat} {s0 ws st st' : List W32} {wr w2 : World} (h : RfR w V B R S C s0 ws st wr) (k : StB S wr w2) (hb : Box 0 (st'.map bw) S w2) (h1 : B ≠ S) (h2 : R ≠ S) (h3 : V ≠ S) (h4 : C ≠ S) (hw : w.heap.size ≤ S) : RfR w V B R S C s0 ws st' w2 :=
  ⟨hb, k.box h.ws h3, k.box h.s0 h1, k.box h.res h2, k.box h.con h4, k.ext _ h.ext hw⟩
theorem RfR.stbB {w : World} {V B R S C : Nat} {s0 s0' ws st : List W32} {wr w2 : World} (h : RfR w V B R S C s0 ws st wr) (k : StB B wr w2) (hb : Box 0 (s0'.map bw) B w2) (h1 : S ≠ B) (h2 : R ≠ B) (h3 : V ≠ B) (h4 : C ≠ B) (hw : w.heap.size ≤ B) : RfR w V B R S C s0' ws st w2 :=
  ⟨k.box h.st h1, k.box h.ws h3, hb, k.box h.res h2, k.box h.con h4, k.ext _ h.ext hw⟩
theorem Box.zero {N b : Nat} {cs : List Value} {w : World} (h : Box N cs b w) : Box 0 cs b w := ⟨Nat.zero_le _, h.lt, h.cell, h.free⟩
theorem fin_comm {a b : List W32} (ha : a.length = 8) (hb : b.length = 8) : fin a b 8 = fin b a 8 := by
  obtain ⟨a0, a1, a2, a3, a4, a5, a6, a7, rfl⟩ := list8 ha
  obtain ⟨b0, b1, b2, b3, b4, b5, b6, b7, rfl⟩ := list8 hb
  simp [fin, BitVec.add_comm]
set_option maxRecDepth 100000 in
set_option maxHeartbeats 16000000 in
theorem refBlock_core (x0 x1 x2 x3 x4 x5 x6 x7 : W32) (b o c : Nat) (bs : List Int) (w : World) (h : BytesAt b o 64 bs w) (hbw : b < w.heap.size) :
    Calls Tryd.prog 21 #[.agg #[bw x0, bw x1, bw x2, bw x3, bw x4, bw x5, bw x6, bw x7], .slice (some ⟨b, o, none⟩) 64 c] w fun e w' => e = .returned (wv (blk [x0, x1, x2, x3, x4, x5, x6, x7] bs)) ∧ Ext w w' := by
  go_enter Tryd.func21, Tryd.ntmps21
  go_upto_region 2 with fail
  refine wp_at fun Y hY => ?_
  obtain ⟨B, hB⟩ : ∃ B, B = w.heap.size := ⟨_, rfl⟩
  obtain ⟨R, hR⟩ : ∃ R, R = B + 1 := ⟨_, rfl⟩
  obtain ⟨V, hV⟩ : ∃ V, V = R + 1 := ⟨_, rfl⟩
  have hB1 : Box 0 ([x0, x1, x2, x3, x4, x5, x6, x7].map bw) B Y := by
    rw [hY, hB]
    repeat' (first | with_reducible assumption | ((with_reducible refine Box.fresh ?fb ?fn ?fr); (case fb => first | omega | (simp <;> omega)); (case fn => first | omega | (simp <;> omega)); (case fr => rfl)) | with_reducible apply Box.up | with_reducible apply Box.drew_ | with_reducible apply Box.drewN_ | with_reducible apply Box.plus_ | with_reducible apply Box.put | with_reducible refine Box.off ?_ (by omega))
    all_goals first | rfl | (simp; done)
  have hB2 : Box 0 (zero8.map bw) R Y := by
    rw [hY, hR, hB]
    repeat' (first | with_reducible assumption | ((with_reducible refine Box.fresh ?fb ?fn ?fr); (case fb => first | omega | (simp <;> omega)); (case fn => first | omega | (simp <;> omega)); (case fr => rfl)) | with_reducible apply Box.up | with_reducible apply Box.drew_ | with_reducible apply Box.drewN_ | with_reducible apply Box.plus_ | with_reducible apply Box.put | with_reducible refine Box.off ?_ (by omega))
    all_goals first | rfl | (simp; done)
  have hB3 : Box 0 (zero64.map bw) V Y := by
    rw [hY, hV, hR, hB]
    repeat' (first | with_reducible assumption | ((with_reducible refine Box.fresh ?fb ?fn ?fr); (case fb => first | omega | (simp <;> omega)); (case fn => first | omega | (simp <;> omega)); (case fr => rfl)) | with_reducible apply Box.up | with_reducible apply Box.drew_ | with_reducible apply Box.drewN_ | with_reducible apply Box.plus_ | with_reducible apply Box.put | with_reducible refine Box.off ?_ (by omega))
    all_goals first | rfl | (simp; done)
  have hE : Ext w Y := by
    rw [hY]
    repeat' (first | with_reducible assumption | with_reducible exact Ext.refl _ | with_reducible apply Ext.alloc | with_reducible apply Ext.drew | with_reducible apply Ext.drewN | with_reducible apply Ext.plus_ | with_reducible refine Ext.put ?_ (by omega))
  rw [← hB, ← hR, ← hV]
  have hBw : w.heap.size ≤ B := by omega
  have hRw : w.heap.size ≤ R := by omega
  have hVw : w.heap.size ≤ V := by omega
  have hBV : B ≠ V := by omega
  have hRV : R ≠ V := by omega
  have hRB : R ≠ B := by omega
  obtain ⟨s0, hs0⟩ : ∃ s0, s0 = [x0, x1, x2, x3, x4, x5, x6, x7] := ⟨_, rfl⟩
  have HL := Lib.hid (And.intro hs0 (show s0.length = 8 by rw [hs0]; rfl))
  rw [← hs0] at hB1
  have HS : Hid (BlR w V B R s0 b o bs (fill1 bs 0) Y) := Lib.hid ⟨hB3, hB1, hB2, hE, h.ext hE⟩
  clear hY hB hR hV hB1 hB2 hB3 hE h hs0
  go_wp2
  go_loopw [6] (fun i wr => ∃ k : Nat, k ≤ 16 ∧ i = nw k ∧ Hid (BlR w V B R s0 b o bs (fill1 bs k) wr)) (fun i _ => 16 - (intOf i).toNat)
  case atStart => exact ⟨0, Nat.zero_le _, rfl, HS⟩
  case round =>
    clear HS
    obtain ⟨k, hk, rfl, HS⟩ := hrel
    by_cases hlt : k < 16
    · have hli : (k : Int) < 16 := by omega
      go_upto_region 5 with fail
      refine wp_at fun Y hY => ?_
      replace HS := Lib.hid (show BlR w V B R s0 b o bs (fill1 bs k) Y by
        rw [hY]
        exact BlR.ext' HS.out (by repeat (first | exact Ext.refl _ | assumption | apply Ext.plus_ | apply Ext.alloc | apply Ext.drew)))
      clear hY
      have HBY := Lib.hid HS.out.by_
      have hb0 := HBY.out.1 (4 * k) (by omega)
      have hq0 := HBY.out.2 (4 * k)
      have hb1 := HBY.out.1 ((4 * k) + 1) (by omega)
      have hq1 := HBY.out.2 ((4 * k) + 1)
      have hb2 := HBY.out.1 ((4 * k) + 2) (by omega)
      have hq2 := HBY.out.2 ((4 * k) + 2)
      have hb3 := HBY.out.1 ((4 * k) + 3) (by omega)
      have hq3 := HBY.out.2 ((4 * k) + 3)
      obtain ⟨vv, hvv⟩ : ∃ vv, vv = wordAt bs k := ⟨_, rfl⟩
      refine act_at fun A0 hAq => ?_
      have hsz : A0.tmps.size = 196 := by
        rw [hAq]
        rfl
      have hA1 : A0.tmps.getD 1 undef = .slice (some ⟨b, o, none⟩) 64 c := by
        rw [hAq]
        first | rfl | kernel_rfl
      have hA5 : A0.tmps.getD 5 undef = .pointer (some ⟨V, 0, none⟩) := by
        rw [hAq]
        first | rfl | kernel_rfl
      have hA6 : A0.tmps.getD 6 undef = nw (k) := by
        rw [hAq]
        first | rfl | kernel_rfl
      have HAq := Lib.hid hAq
      clear hAq
      apply wp_region_ext 35 [is (nw (k)), is (.slice (some ⟨b, o, none⟩) 64 c), is (nw (k)), is (nw (4 * k)), is (.pointer (some ⟨b, o + (4 * k), none⟩)), is (.int .u8 (bs.getD (4 * k) 0)), is (bw (BitVec.ofInt 32 (bs.getD (4 * k) 0))), is (bw ((BitVec.ofInt 32 (bs.getD (4 * k) 0)) <<< 24)), is (.slice (some ⟨b, o, none⟩) 64 c), is (nw (k)), is (nw (4 * k)), is (nw ((4 * k) + 1)), is (.pointer (some ⟨b, o + ((4 * k) + 1), none⟩)), is (.int .u8 (bs.getD ((4 * k) + 1) 0)), is (bw (BitVec.ofInt 32 (bs.getD ((4 * k) + 1) 0))), is (bw ((BitVec.ofInt 32 (bs.getD ((4 * k) + 1) 0)) <<< 16)), is (bw (((BitVec.ofInt 32 (bs.getD (4 * k) 0)) <<< 24) ||| ((BitVec.ofInt 32 (bs.getD ((4 * k) + 1) 0)) <<< 16))), is (.slice (some ⟨b, o, none⟩) 64 c), is (nw (k)), is (nw (4 * k)), is (nw ((4 * k) + 2)), is (.pointer (some ⟨b, o + ((4 * k) + 2), none⟩)), is (.int .u8 (bs.getD ((4 * k) + 2) 0)), is (bw (BitVec.ofInt 32 (bs.getD ((4 * k) + 2) 0))), is (bw ((BitVec.ofInt 32 (bs.getD ((4 * k) + 2) 0)) <<< 8)), is (bw ((((BitVec.ofInt 32 (bs.getD (4 * k) 0)) <<< 24) ||| ((BitVec.ofInt 32 (bs.getD ((4 * k) + 1) 0)) <<< 16)) ||| ((BitVec.ofInt 32 (bs.getD ((4 * k) + 2) 0)) <<< 8))), is (.slice (some ⟨b, o, none⟩) 64 c), is (nw (k)), is (nw (4 * k)), is (nw ((4 * k) + 3)), is (.pointer (some ⟨b, o + ((4 * k) + 3), none⟩)), is (.int .u8 (bs.getD ((4 * k) + 3) 0)), is (bw (BitVec.ofInt 32 (bs.getD ((4 * k) + 3) 0))), is (bw (((((BitVec.ofInt 32 (bs.getD (4 * k) 0)) <<< 24) ||| ((BitVec.ofInt 32 (bs.getD ((4 * k) + 1) 0)) <<< 16)) ||| ((BitVec.ofInt 32 (bs.getD ((4 * k) + 2) 0)) <<< 8)) ||| (BitVec.ofInt 32 (bs.getD ((4 * k) + 3) 0)))), is (.pointer (some ⟨V, k, none⟩))] (by kernel_rfl) (by kernel_rfl) rfl
      case hops =>
        simp only [List.take_succ_cons, List.take_zero]
        with_reducible refine xOps_cons ?_ ?_
        · with_reducible refine xop_un ?_ ?_
          · rfl
          · intro vs x F hF hd
            have e1 : F.tmps.getD 6 undef = nw (k) := (hF.a 6 (by kernel_rfl) (by rw [hsz]; rfl)).trans hA6
            exact m_v e1
        with_reducible refine xOps_cons ?_ ?_
        · with_reducible refine xop_un ?_ ?_
          · rfl
          · intro vs x F hF hd
            have e1 : F.tmps.getD 1 undef = .slice (some ⟨b, o, none⟩) 64 c := (hF.a 1 (by kernel_rfl) (by rw [hsz]; rfl)).trans hA1
            exact m_v e1
        with_reducible refine xOps_cons ?_ ?_
        · with_reducible refine xop_un ?_ ?_
          · rfl
          · intro vs x F hF hd
            have e1 : F.tmps.getD 6 undef = nw (k) := (hF.a 6 (by kernel_rfl) (by rw [hsz]; rfl)).trans hA6
            exact m_v e1
        with_reducible refine xOps_cons ?_ ?_
        · with_reducible refine xop_un ?_ ?_
          · rfl
          · intro vs x F hF hd
            have e2 : F.tmps.getD 24 undef = nw (k) := (hF.v 24 2 (by kernel_rfl) (by rw [hsz]; rfl)).trans (dep_at hd 0 2 (is (nw (k))) (by kernel_rfl) (by kernel_rfl))
            exact n_mul rfl e2 (by omega)
        with_reducible refine xOps_cons ?_ ?_
        · with_reducible refine xop_un ?_ ?_
          · rfl
          · intro vs x F hF hd
            have e1 : F.tmps.getD 23 undef = .slice (some ⟨b, o, none⟩) 64 c := (hF.v 23 1 (by kernel_rfl) (by rw [hsz]; rfl)).trans (dep_at hd 0 1 (is (.slice (some ⟨b, o, none⟩) 64 c)) (by kernel_rfl) (by kernel_rfl))
            have e2 : F.tmps.getD 25 undef = nw (4 * k) := (hF.v 25 3 (by kernel_rfl) (by rw [hsz]; rfl)).trans (dep_at hd 1 3 (is (nw (4 * k))) (by kernel_rfl) (by kernel_rfl))
            exact a_sl (n := 4 * k) e1 e2 (by omega)
        with_reducible refine xOps_cons ?_ ?_
        · with_reducible refine xop_un ?_ ?_
          · rfl
          · intro vs x F hF hd
            have e1 : F.tmps.getD 26 undef = .pointer (some ⟨b, o + (4 * k), none⟩) := (hF.v 26 4 (by kernel_rfl) (by rw [hsz]; rfl)).trans (dep_at hd 0 4 (is (.pointer (some ⟨b, o + (4 * k), none⟩))) (by kernel_rfl) (by kernel_rfl))
            exact l_b e1 (cell_plus x hb0)
        with_reducible refine xOps_cons ?_ ?_
        · with_reducible refine xop_un ?_ ?_
          · rfl
          · intro vs x F hF hd
            have e1 : F.tmps.getD 27 undef = .int .u8 (bs.getD (4 * k) 0) := (hF.v 27 5 (by kernel_rfl) (by rw [hsz]; rfl)).trans (dep_at hd 0 5 (is (.int .u8 (bs.getD (4 * k) 0))) (by kernel_rfl) (by kernel_rfl))
            exact w_conv e1 hq0.1 hq0.2
        with_reducible refine xOps_cons ?_ ?_
        · with_reducible refine xop_un ?_ ?_
          · rfl
          · intro vs x F hF hd
            have e1 : F.tmps.getD 28 undef = bw (BitVec.ofInt 32 (bs.getD (4 * k) 0)) := (hF.v 28 6 (by kernel_rfl) (by rw [hsz]; rfl)).trans (dep_at hd 0 6 (is (bw (BitVec.ofInt 32 (bs.getD (4 * k) 0)))) (by kernel_rfl) (by kernel_rfl))
            exact w_shl_u64 (n := 24) e1 rfl (by omega)
        with_reducible refine xOps_cons ?_ ?_
        · with_reducible refine xop_un ?_ ?_
          · rfl
          · intro vs x F hF hd
            have e1 : F.tmps.getD 1 undef = .slice (some ⟨b, o, none⟩) 64 c := (hF.a 1 (by kernel_rfl) (by rw [hsz]; rfl)).trans hA1
            exact m_v e1
        with_reducible refine xOps_cons ?_ ?_
        · with_reducible refine xop_un ?_ ?_
          · rfl
          · intro vs x F hF hd
            have e1 : F.tmps.getD 6 undef = nw (k) := (hF.a 6 (by kernel_rfl) (by rw [hsz]; rfl)).trans hA6
            exact m_v e1
        with_reducible refine xOps_cons ?_ ?_
        · with_reducible refine xop_un ?_ ?_
          · rfl
          · intro vs x F hF hd
            have e2 : F.tmps.getD 31 undef = nw (k) := (hF.v 31 9 (by kernel_rfl) (by rw [hsz]; rfl)).trans (dep_at hd 0 9 (is (nw (k))) (by kernel_rfl) (by kernel_rfl))
            exact n_mul rfl e2 (by omega)
        with_reducible refine xOps_cons ?_ ?_
        · with_reducible refine xop_un ?_ ?_
          · rfl
          · intro vs x F hF hd
            have e1 : F.tmps.getD 32 undef = nw (4 * k) := (hF.v 32 10 (by kernel_rfl) (by rw [hsz]; rfl)).trans (dep_at hd 0 10 (is (nw (4 * k))) (by kernel_rfl) (by kernel_rfl))
            exact n_add e1 rfl (by omega)
        with_reducible refine xOps_cons ?_ ?_
        · with_reducible refine xop_un ?_ ?_
          · rfl
          · intro vs x F hF hd
            have e1 : F.tmps.getD 30 undef = .slice (some ⟨b, o, none⟩) 64 c := (hF.v 30 8 (by kernel_rfl) (by rw [hsz]; rfl)).trans (dep_at hd 0 8 (is (.slice (some ⟨b, o, none⟩) 64 c)) (by kernel_rfl) (by kernel_rfl))
            have e2 : F.tmps.getD 33 undef = nw ((4 * k) + 1) := (hF.v 33 11 (by kernel_rfl) (by rw [hsz]; rfl)).trans (dep_at hd 1 11 (is (nw ((4 * k) + 1))) (by kernel_rfl) (by kernel_rfl))
            exact a_sl (n := (4 * k) + 1) e1 e2 (by omega)
        with_reducible refine xOps_cons ?_ ?_
        · with_reducible refine xop_un ?_ ?_
          · rfl
          · intro vs x F hF hd
            have e1 : F.tmps.getD 34 undef = .pointer (some ⟨b, o + ((4 * k) + 1), none⟩) := (hF.v 34 12 (by kernel_rfl) (by rw [hsz]; rfl)).trans (dep_at hd 0 12 (is (.pointer (some ⟨b, o + ((4 * k) + 1), none⟩))) (by kernel_rfl) (by kernel_rfl))
            exact l_b e1 (cell_plus x hb1)
        with_reducible refine xOps_cons ?_ ?_
        · with_reducible refine xop_un ?_ ?_
          · rfl
          · intro vs x F hF hd
            have e1 : F.tmps.getD 35 undef = .int .u8 (bs.getD ((4 * k) + 1) 0) := (hF.v 35 13 (by kernel_rfl) (by rw [hsz]; rfl)).trans (dep_at hd 0 13 (is (.int .u8 (bs.getD ((4 * k) + 1) 0))) (by kernel_rfl) (by kernel_rfl))
            exact w_conv e1 hq1.1 hq1.2
        with_reducible refine xOps_cons ?_ ?_
        · with_reducible refine xop_un ?_ ?_
          · rfl
          · intro vs x F hF hd
            have e1 : F.tmps.getD 36 undef = bw (BitVec.ofInt 32 (bs.getD ((4 * k) + 1) 0)) := (hF.v 36 14 (by kernel_rfl) (by rw [hsz]; rfl)).trans (dep_at hd 0 14 (is (bw (BitVec.ofInt 32 (bs.getD ((4 * k) + 1) 0)))) (by kernel_rfl) (by kernel_rfl))
            exact w_shl_u64 (n := 16) e1 rfl (by omega)
        with_reducible refine xOps_cons ?_ ?_
        · with_reducible refine xop_un ?_ ?_
          · rfl
          · intro vs x F hF hd
            have e1 : F.tmps.getD 29 undef = bw ((BitVec.ofInt 32 (bs.getD (4 * k) 0)) <<< 24) := (hF.v 29 7 (by kernel_rfl) (by rw [hsz]; rfl)).trans (dep_at hd 0 7 (is (bw ((BitVec.ofInt 32 (bs.getD (4 * k) 0)) <<< 24))) (by kernel_rfl) (by kernel_rfl))
            have e2 : F.tmps.getD 37 undef = bw ((BitVec.ofInt 32 (bs.getD ((4 * k) + 1) 0)) <<< 16) := (hF.v 37 15 (by kernel_rfl) (by rw [hsz]; rfl)).trans (dep_at hd 1 15 (is (bw ((BitVec.ofInt 32 (bs.getD ((4 * k) + 1) 0)) <<< 16))) (by kernel_rfl) (by kernel_rfl))
            exact w_or e1 e2
        with_reducible refine xOps_cons ?_ ?_
        · with_reducible refine xop_un ?_ ?_
          · rfl
          · intro vs x F hF hd
            have e1 : F.tmps.getD 1 undef = .slice (some ⟨b, o, none⟩) 64 c := (hF.a 1 (by kernel_rfl) (by rw [hsz]; rfl)).trans hA1
            exact m_v e1
        with_reducible refine xOps_cons ?_ ?_
        · with_reducible refine xop_un ?_ ?_
          · rfl
          · intro vs x F hF hd
            have e1 : F.tmps.getD 6 undef = nw (k) := (hF.a 6 (by kernel_rfl) (by rw [hsz]; rfl)).trans hA6
            exact m_v e1
        with_reducible refine xOps_cons ?_ ?_
        · with_reducible refine xop_un ?_ ?_
          · rfl
          · intro vs x F hF hd
            have e2 : F.tmps.getD 40 undef = nw (k) := (hF.v 40 18 (by kernel_rfl) (by rw [hsz]; rfl)).trans (dep_at hd 0 18 (is (nw (k))) (by kernel_rfl) (by kernel_rfl))
            exact n_mul rfl e2 (by omega)
        with_reducible refine xOps_cons ?_ ?_
        · with_reducible refine xop_un ?_ ?_
          · rfl
          · intro vs x F hF hd
            have e1 : F.tmps.getD 41 undef = nw (4 * k) := (hF.v 41 19 (by kernel_rfl) (by rw [hsz]; rfl)).trans (dep_at hd 0 19 (is (nw (4 * k))) (by kernel_rfl) (by kernel_rfl))
            exact n_add e1 rfl (by omega)
        with_reducible refine xOps_cons ?_ ?_
        · with_reducible refine xop_un ?_ ?_
          · rfl
          · intro vs x F hF hd
            have e1 : F.tmps.getD 39 undef = .slice (some ⟨b, o, none⟩) 64 c := (hF.v 39 17 (by kernel_rfl) (by rw [hsz]; rfl)).trans (dep_at hd 0 17 (is (.slice (some ⟨b, o, none⟩) 64 c)) (by kernel_rfl) (by kernel_rfl))
            have e2 : F.tmps.getD 42 undef = nw ((4 * k) + 2) := (hF.v 42 20 (by kernel_rfl) (by rw [hsz]; rfl)).trans (dep_at hd 1 20 (is (nw ((4 * k) + 2))) (by kernel_rfl) (by kernel_rfl))
            exact a_sl (n := (4 * k) + 2) e1 e2 (by omega)
        with_reducible refine xOps_cons ?_ ?_
        · with_reducible refine xop_un ?_ ?_
          · rfl
          · intro vs x F hF hd
            have e1 : F.tmps.getD 43 undef = .pointer (some ⟨b, o + ((4 * k) + 2), none⟩) := (hF.v 43 21 (by kernel_rfl) (by rw [hsz]; rfl)).trans (dep_at hd 0 21 (is (.pointer (some ⟨b, o + ((4 * k) + 2), none⟩))) (by kernel_rfl) (by kernel_rfl))
            exact l_b e1 (cell_plus x hb2)
        with_reducible refine xOps_cons ?_ ?_
        · with_reducible refine xop_un ?_ ?_
          · rfl
          · intro vs x F hF hd
            have e1 : F.tmps.getD 44 undef = .int .u8 (bs.getD ((4 * k) + 2) 0) := (hF.v 44 22 (by kernel_rfl) (by rw [hsz]; rfl)).trans (dep_at hd 0 22 (is (.int .u8 (bs.getD ((4 * k) + 2) 0))) (by kernel_rfl) (by kernel_rfl))
            exact w_conv e1 hq2.1 hq2.2
        with_reducible refine xOps_cons ?_ ?_
        · with_reducible refine xop_un ?_ ?_
          · rfl
          · intro vs x F hF hd
            have e1 : F.tmps.getD 45 undef = bw (BitVec.ofInt 32 (bs.getD ((4 * k) + 2) 0)) := (hF.v 45 23 (by kernel_rfl) (by rw [hsz]; rfl)).trans (dep_at hd 0 23 (is (bw (BitVec.ofInt 32 (bs.getD ((4 * k) + 2) 0)))) (by kernel_rfl) (by kernel_rfl))
            exact w_shl_u64 (n := 8) e1 rfl (by omega)
        with_reducible refine xOps_cons ?_ ?_
        · with_reducible refine xop_un ?_ ?_
          · rfl
          · intro vs x F hF hd
            have e1 : F.tmps.getD 38 undef = bw (((BitVec.ofInt 32 (bs.getD (4 * k) 0)) <<< 24) ||| ((BitVec.ofInt 32 (bs.getD ((4 * k) + 1) 0)) <<< 16)) := (hF.v 38 16 (by kernel_rfl) (by rw [hsz]; rfl)).trans (dep_at hd 0 16 (is (bw (((BitVec.ofInt 32 (bs.getD (4 * k) 0)) <<< 24) ||| ((BitVec.ofInt 32 (bs.getD ((4 * k) + 1) 0)) <<< 16)))) (by kernel_rfl) (by kernel_rfl))
            have e2 : F.tmps.getD 46 undef = bw ((BitVec.ofInt 32 (bs.getD ((4 * k) + 2) 0)) <<< 8) := (hF.v 46 24 (by kernel_rfl) (by rw [hsz]; rfl)).trans (dep_at hd 1 24 (is (bw ((BitVec.ofInt 32 (bs.getD ((4 * k) + 2) 0)) <<< 8))) (by kernel_rfl) (by kernel_rfl))
            exact w_or e1 e2
        with_reducible refine xOps_cons ?_ ?_
        · with_reducible refine xop_un ?_ ?_
          · rfl
          · intro vs x F hF hd
            have e1 : F.tmps.getD 1 undef = .slice (some ⟨b, o, none⟩) 64 c := (hF.a 1 (by kernel_rfl) (by rw [hsz]; rfl)).trans hA1
            exact m_v e1
        with_reducible refine xOps_cons ?_ ?_
        · with_reducible refine xop_un ?_ ?_
          · rfl
          · intro vs x F hF hd
            have e1 : F.tmps.getD 6 undef = nw (k) := (hF.a 6 (by kernel_rfl) (by rw [hsz]; rfl)).trans hA6
            exact m_v e1
        with_reducible refine xOps_cons ?_ ?_
        · with_reducible refine xop_un ?_ ?_
          · rfl
          · intro vs x F hF hd
            have e2 : F.tmps.getD 49 undef = nw (k) := (hF.v 49 27 (by kernel_rfl) (by rw [hsz]; rfl)).trans (dep_at hd 0 27 (is (nw (k))) (by kernel_rfl) (by kernel_rfl))
            exact n_mul rfl e2 (by omega)
        with_reducible refine xOps_cons ?_ ?_
        · with_reducible refine xop_un ?_ ?_
          · rfl
          · intro vs x F hF hd
            have e1 : F.tmps.getD 50 undef = nw (4 * k) := (hF.v 50 28 (by kernel_rfl) (by rw [hsz]; rfl)).trans (dep_at hd 0 28 (is (nw (4 * k))) (by kernel_rfl) (by kernel_rfl))
            exact n_add e1 rfl (by omega)
        with_reducible refine xOps_cons ?_ ?_
        · with_reducible refine xop_un ?_ ?_
          · rfl
          · intro vs x F hF hd
            have e1 : F.tmps.getD 48 undef = .slice (some ⟨b, o, none⟩) 64 c := (hF.v 48 26 (by kernel_rfl) (by rw [hsz]; rfl)).trans (dep_at hd 0 26 (is (.slice (some ⟨b, o, none⟩) 64 c)) (by kernel_rfl) (by kernel_rfl))
            have e2 : F.tmps.getD 51 undef = nw ((4 * k) + 3) := (hF.v 51 29 (by kernel_rfl) (by rw [hsz]; rfl)).trans (dep_at hd 1 29 (is (nw ((4 * k) + 3))) (by kernel_rfl) (by kernel_rfl))
            exact a_sl (n := (4 * k) + 3) e1 e2 (by omega)
        with_reducible refine xOps_cons ?_ ?_
        · with_reducible refine xop_un ?_ ?_
          · rfl
          · intro vs x F hF hd
            have e1 : F.tmps.getD 52 undef = .pointer (some ⟨b, o + ((4 * k) + 3), none⟩) := (hF.v 52 30 (by kernel_rfl) (by rw [hsz]; rfl)).trans (dep_at hd 0 30 (is (.pointer (some ⟨b, o + ((4 * k) + 3), none⟩))) (by kernel_rfl) (by kernel_rfl))
            exact l_b e1 (cell_plus x hb3)
        with_reducible refine xOps_cons ?_ ?_
        · with_reducible refine xop_un ?_ ?_
          · rfl
          · intro vs x F hF hd
            have e1 : F.tmps.getD 53 undef = .int .u8 (bs.getD ((4 * k) + 3) 0) := (hF.v 53 31 (by kernel_rfl) (by rw [hsz]; rfl)).trans (dep_at hd 0 31 (is (.int .u8 (bs.getD ((4 * k) + 3) 0))) (by kernel_rfl) (by kernel_rfl))
            exact w_conv e1 hq3.1 hq3.2
        with_reducible refine xOps_cons ?_ ?_
        · with_reducible refine xop_un ?_ ?_
          · rfl
          · intro vs x F hF hd
            have e1 : F.tmps.getD 47 undef = bw ((((BitVec.ofInt 32 (bs.getD (4 * k) 0)) <<< 24) ||| ((BitVec.ofInt 32 (bs.getD ((4 * k) + 1) 0)) <<< 16)) ||| ((BitVec.ofInt 32 (bs.getD ((4 * k) + 2) 0)) <<< 8)) := (hF.v 47 25 (by kernel_rfl) (by rw [hsz]; rfl)).trans (dep_at hd 0 25 (is (bw ((((BitVec.ofInt 32 (bs.getD (4 * k) 0)) <<< 24) ||| ((BitVec.ofInt 32 (bs.getD ((4 * k) + 1) 0)) <<< 16)) ||| ((BitVec.ofInt 32 (bs.getD ((4 * k) + 2) 0)) <<< 8)))) (by kernel_rfl) (by kernel_rfl))
            have e2 : F.tmps.getD 54 undef = bw (BitVec.ofInt 32 (bs.getD ((4 * k) + 3) 0)) := (hF.v 54 32 (by kernel_rfl) (by rw [hsz]; rfl)).trans (dep_at hd 1 32 (is (bw (BitVec.ofInt 32 (bs.getD ((4 * k) + 3) 0)))) (by kernel_rfl) (by kernel_rfl))
            exact w_or e1 e2
        with_reducible refine xOps_cons ?_ ?_
        · with_reducible refine xop_un ?_ ?_
          · rfl
          · intro vs x F hF hd
            have e1 : F.tmps.getD 5 undef = .pointer (some ⟨V, 0, none⟩) := (hF.a 5 (by kernel_rfl) (by rw [hsz]; rfl)).trans hA5
            have e2 : F.tmps.getD 22 undef = nw (k) := (hF.v 22 0 (by kernel_rfl) (by rw [hsz]; rfl)).trans (dep_at hd 0 0 (is (nw (k))) (by kernel_rfl) (by kernel_rfl))
            exact a_i64 (n := k) e1 e2 (by omega)
        exact xOps_nil
      case hst => exact ⟨is.st _, is.st _, is.st _, is.st _, is.st _, is.st _, is.st _, is.st _, is.st _, is.st _, is.st _, is.st _, is.st _, is.st _, is.st _, is.st _, is.st _, is.st _, is.st _, is.st _, is.st _, is.st _, is.st _, is.st _, is.st _, is.st _, is.st _, is.st _, is.st _, is.st _, is.st _, is.st _, is.st _, is.st _, is.st _, trivial⟩
      case hfin =>
        intro vs x hf
        have f33 : vs 33 = bw vv := (show vs 33 = bw (((((BitVec.ofInt 32 (bs.getD (4 * k) 0)) <<< 24) ||| ((BitVec.ofInt 32 (bs.getD ((4 * k) + 1) 0)) <<< 16)) ||| ((BitVec.ofInt 32 (bs.getD ((4 * k) + 2) 0)) <<< 8)) ||| (BitVec.ofInt 32 (bs.getD ((4 * k) + 3) 0))) from hf.2.2.2.2.2.2.2.2.2.2.2.2.2.2.2.2.2.2.2.2.2.2.2.2.2.2.2.2.2.2.2.2.2.1).trans (by rw [hvv]; rfl)
        have f34 : vs 34 = .pointer (some ⟨V, k, none⟩) := hf.2.2.2.2.2.2.2.2.2.2.2.2.2.2.2.2.2.2.2.2.2.2.2.2.2.2.2.2.2.2.2.2.2.2.1
        clear hf
        have hAq := HAq.out
        subst hAq
        clear hsz hA1 hA5 hA6
        simp only [List.take_succ_cons, List.take_zero, List.drop_succ_cons, List.drop_zero, putAll, Act.put, List.setIfInBounds_toArray, List.set_cons_succ, List.set_cons_zero, Nat.zero_add, Nat.reduceAdd]
        clear HAq
        rw [f33]
        rw [f34]
        clear f33 f34
        clear hb0 hb1 hb2 hb3 hq0 hq1 hq2 hq3
        have hf := HS.out.ws.free
        have hc := wcell HS.out.ws (show k < (fill1 bs k).length by rw [fill1_len]; omega)
        have HV := Lib.hid hvv
        clear HBY hvv
        go_wp2
        go_roundw
        case rel => exact ⟨k + 1, by omega, by go_num, Lib.hid (by rw [fill1, ← HV.out]; exact HS.out.put x vv (by rw [fill1_len]; omega) hBV hRV hVw hbw)⟩
        case measure => simp [intOf]; omega
    · obtain rfl : k = 16 := by omega
      clear hlt hk
      go_upto_region 6 with fail
      refine wp_at fun Z hZ => ?_
      rw [← hZ] at HS
      clear hZ
      go_wp2
      go_loopw [7, 8, 9] (fun i _ _ wr => ∃ j : Nat, 16 ≤ j ∧ j ≤ 64 ∧ i = nw j ∧ Hid (BlR w V B R s0 b o bs (fill2 bs (j - 16)) wr)) (fun i _ _ _ => 64 - (intOf i).toNat)
      case atStart => exact ⟨16, Nat.le_refl _, by omega, rfl, HS⟩
      case round =>
        clear HS
        obtain ⟨j, hj0, hj, rfl, HS⟩ := hrel
        by_cases hlt : j < 64
        · obtain ⟨ws, hws⟩ : ∃ ws, ws = fill2 bs (j - 16) := ⟨_, rfl⟩
          have hwl : ws.length = 64 := by rw [hws]; exact fill2_len _ _
          rw [← hws] at HS
          have HWS := Lib.hid (And.intro hws hwl)
          clear hws hwl
          have hli : (j : Int) < 64 := by omega
          go_upto_region 9 with fail
          refine wp_at fun Y hY => ?_
          replace HS := Lib.hid (show BlR w V B R s0 b o bs ws Y by
            rw [hY]
            exact BlR.ext' HS.out (by repeat (first | exact Ext.refl _ | assumption | apply Ext.plus_ | apply Ext.alloc | apply Ext.drew)))
          clear hY
          obtain ⟨a1, ha1⟩ : ∃ a, a = ws.getD (j - 15) 0 := ⟨_, rfl⟩
          obtain ⟨a2, ha2⟩ : ∃ a, a = ws.getD (j - 2) 0 := ⟨_, rfl⟩
          have c1 := wcell HS.out.ws (show j - 15 < ws.length by rw [HWS.out.2]; omega)
          have c2 := wcell HS.out.ws (show j - 2 < ws.length by rw [HWS.out.2]; omega)
          rw [← ha1] at c1
          rw [← ha2] at c2
          have HA := Lib.hid (And.intro ha1 ha2)
          clear ha1 ha2
          refine act_at fun A0 hAq => ?_
          have hsz : A0.tmps.size = 196 := by
            rw [hAq]
            rfl
          have hA5 : A0.tmps.getD 5 undef = .pointer (some ⟨V, 0, none⟩) := by
            rw [hAq]
            first | rfl | kernel_rfl
          have hA7 : A0.tmps.getD 7 undef = nw (j) := by
            rw [hAq]
            first | rfl | kernel_rfl
          have HAq := Lib.hid hAq
          clear hAq
          apply wp_region_ext 9 [is (nw (j)), is (nw (j - 15)), is (.pointer (some ⟨V, j - 15, none⟩)), is (bw (a1)), is (nw (j)), is (nw (j - 2)), is (.pointer (some ⟨V, j - 2, none⟩)), is (bw (a2)), is (bw (a1))] (by kernel_rfl) (by kernel_rfl) rfl
          case hops =>
            simp only [List.take_succ_cons, List.take_zero]
            with_reducible refine xOps_cons ?_ ?_
            · with_reducible refine xop_un ?_ ?_
              · rfl
              · intro vs x F hF hd
                have e1 : F.tmps.getD 7 undef = nw (j) := (hF.a 7 (by kernel_rfl) (by rw [hsz]; rfl)).trans hA7
                exact m_v e1
            with_reducible refine xOps_cons ?_ ?_
            · with_reducible refine xop_un ?_ ?_
              · rfl
              · intro vs x F hF hd
                have e1 : F.tmps.getD 61 undef = nw (j) := (hF.v 61 0 (by kernel_rfl) (by rw [hsz]; rfl)).trans (dep_at hd 0 0 (is (nw (j))) (by kernel_rfl) (by kernel_rfl))
                exact n_sub e1 rfl (by omega) (by omega)
            with_reducible refine xOps_cons ?_ ?_
            · with_reducible refine xop_un ?_ ?_
              · rfl
              · intro vs x F hF hd
                have e1 : F.tmps.getD 5 undef = .pointer (some ⟨V, 0, none⟩) := (hF.a 5 (by kernel_rfl) (by rw [hsz]; rfl)).trans hA5
                have e2 : F.tmps.getD 62 undef = nw (j - 15) := (hF.v 62 1 (by kernel_rfl) (by rw [hsz]; rfl)).trans (dep_at hd 0 1 (is (nw (j - 15))) (by kernel_rfl) (by kernel_rfl))
                exact a_i64 (n := j - 15) e1 e2 (by omega)
            with_reducible refine xOps_cons ?_ ?_
            · with_reducible refine xop_un ?_ ?_
              · rfl
              · intro vs x F hF hd
                have e1 : F.tmps.getD 63 undef = .pointer (some ⟨V, j - 15, none⟩) := (hF.v 63 2 (by kernel_rfl) (by rw [hsz]; rfl)).trans (dep_at hd 0 2 (is (.pointer (some ⟨V, j - 15, none⟩))) (by kernel_rfl) (by kernel_rfl))
                exact l_w e1 (cell_plus x c1)
            with_reducible refine xOps_cons ?_ ?_
            · with_reducible refine xop_un ?_ ?_
              · rfl
              · intro vs x F hF hd
                have e1 : F.tmps.getD 7 undef = nw (j) := (hF.a 7 (by kernel_rfl) (by rw [hsz]; rfl)).trans hA7
                exact m_v e1
            with_reducible refine xOps_cons ?_ ?_
            · with_reducible refine xop_un ?_ ?_
              · rfl
              · intro vs x F hF hd
                have e1 : F.tmps.getD 65 undef = nw (j) := (hF.v 65 4 (by kernel_rfl) (by rw [hsz]; rfl)).trans (dep_at hd 0 4 (is (nw (j))) (by kernel_rfl) (by kernel_rfl))
                exact n_sub e1 rfl (by omega) (by omega)
            with_reducible refine xOps_cons ?_ ?_
            · with_reducible refine xop_un ?_ ?_
              · rfl
              · intro vs x F hF hd
                have e1 : F.tmps.getD 5 undef = .pointer (some ⟨V, 0, none⟩) := (hF.a 5 (by kernel_rfl) (by rw [hsz]; rfl)).trans hA5
                have e2 : F.tmps.getD 66 undef = nw (j - 2) := (hF.v 66 5 (by kernel_rfl) (by rw [hsz]; rfl)).trans (dep_at hd 0 5 (is (nw (j - 2))) (by kernel_rfl) (by kernel_rfl))
                exact a_i64 (n := j - 2) e1 e2 (by omega)
            with_reducible refine xOps_cons ?_ ?_
            · with_reducible refine xop_un ?_ ?_
              · rfl
              · intro vs x F hF hd
                have e1 : F.tmps.getD 67 undef = .pointer (some ⟨V, j - 2, none⟩) := (hF.v 67 6 (by kernel_rfl) (by rw [hsz]; rfl)).trans (dep_at hd 0 6 (is (.pointer (some ⟨V, j - 2, none⟩))) (by kernel_rfl) (by kernel_rfl))
                exact l_w e1 (cell_plus x c2)
            with_reducible refine xOps_cons ?_ ?_
            · with_reducible refine xop_un ?_ ?_
              · rfl
              · intro vs x F hF hd
                have e1 : F.tmps.getD 64 undef = bw (a1) := (hF.v 64 3 (by kernel_rfl) (by rw [hsz]; rfl)).trans (dep_at hd 0 3 (is (bw (a1))) (by kernel_rfl) (by kernel_rfl))
                exact as_v e1
            exact xOps_nil
          case hst => exact ⟨is.st _, is.st _, is.st _, is.st _, is.st _, is.st _, is.st _, is.st _, is.st _, trivial⟩
          case hfin =>
            intro vs x hf
            have f3 : vs 3 = bw (a1) := hf.2.2.2.1
            have f7 : vs 7 = bw (a2) := hf.2.2.2.2.2.2.2.1
            have f8 : vs 8 = bw (a1) := hf.2.2.2.2.2.2.2.2.1
            clear hf
            have hAq := HAq.out
            subst hAq
            clear hsz hA5 hA7
            simp only [List.take_succ_cons, List.take_zero, List.drop_succ_cons, List.drop_zero, putAll, Act.put, List.setIfInBounds_toArray, List.set_cons_succ, List.set_cons_zero, Nat.zero_add, Nat.reduceAdd]
            clear HAq
            rw [f3]
            rw [f7]
            rw [f8]
            clear f3 f7 f8
            clear c1 c2
            go_upto_region 10 with fail
            refine wp_at fun Y2 hY2 => ?_
            replace HS := Lib.hid (show BlR w V B R s0 b o bs ws Y2 by
              rw [hY2]
              exact BlR.ext' HS.out (by repeat (first | exact Ext.refl _ | assumption | apply Ext.plus_ | apply Ext.alloc | apply Ext.drew)))
            clear hY2
            obtain ⟨a0, ha0⟩ : ∃ a, a = ws.getD (j - 16) 0 := ⟨_, rfl⟩
            obtain ⟨a7, ha7⟩ : ∃ a, a = ws.getD (j - 7) 0 := ⟨_, rfl⟩
            have c0 := wcell HS.out.ws (show j - 16 < ws.length by rw [HWS.out.2]; omega)
            have c7 := wcell HS.out.ws (show j - 7 < ws.length by rw [HWS.out.2]; omega)
            rw [← ha0] at c0
            rw [← ha7] at c7
            obtain ⟨vv, hvv⟩ : ∃ vv, vv = nextW ws j := ⟨_, rfl⟩
            have hv2 : a0 + sg0 a1 + a7 + sg1 a2 = vv := by rw [hvv, ha0, ha7, HA.out.1, HA.out.2]; rfl
            clear ha0 ha7
            refine act_at fun A0 hAq => ?_
            have hsz : A0.tmps.size = 196 := by
              rw [hAq]
              rfl
            have hA5 : A0.tmps.getD 5 undef = .pointer (some ⟨V, 0, none⟩) := by
              rw [hAq]
              first | rfl | kernel_rfl
            have hA7 : A0.tmps.getD 7 undef = nw (j) := by
              rw [hAq]
              first | rfl | kernel_rfl
            have hA8 : A0.tmps.getD 8 undef = bw (a1) := by
              rw [hAq]
              first | rfl | kernel_rfl
            have hA9 : A0.tmps.getD 9 undef = bw (a2) := by
              rw [hAq]
              first | rfl | kernel_rfl
            have HAq := Lib.hid hAq
            clear hAq
            apply wp_region_ext 29 [is (nw (j)), is (nw (j)), is (nw (j - 16)), is (.pointer (some ⟨V, j - 16, none⟩)), is (bw (a0)), is (bw (a1)), is (bw (rr 7 a1)), is (bw (a1)), is (bw (rr 18 a1)), is (bw ((rr 7 a1) ^^^ (rr 18 a1))), is (bw (a1)), is (bw ((a1) >>> 3)), is (bw (((rr 7 a1) ^^^ (rr 18 a1)) ^^^ ((a1) >>> 3))), is (bw ((a0) + (((rr 7 a1) ^^^ (rr 18 a1)) ^^^ ((a1) >>> 3)))), is (nw (j)), is (nw (j - 7)), is (.pointer (some ⟨V, j - 7, none⟩)), is (bw (a7)), is (bw (((a0) + (((rr 7 a1) ^^^ (rr 18 a1)) ^^^ ((a1) >>> 3))) + (a7))), is (bw (a2)), is (bw (rr 17 a2)), is (bw (a2)), is (bw (rr 19 a2)), is (bw ((rr 17 a2) ^^^ (rr 19 a2))), is (bw (a2)), is (bw ((a2) >>> 10)), is (bw (((rr 17 a2) ^^^ (rr 19 a2)) ^^^ ((a2) >>> 10))), is (bw ((((a0) + (((rr 7 a1) ^^^ (rr 18 a1)) ^^^ ((a1) >>> 3))) + (a7)) + (((rr 17 a2) ^^^ (rr 19 a2)) ^^^ ((a2) >>> 10)))), is (.pointer (some ⟨V, j, none⟩))] (by kernel_rfl) (by kernel_rfl) rfl
            case hops =>
              simp only [List.take_succ_cons, List.take_zero]
              with_reducible refine xOps_cons ?_ ?_
              · with_reducible refine xop_un ?_ ?_
                · rfl
                · intro vs x F hF hd
                  have e1 : F.tmps.getD 7 undef = nw (j) := (hF.a 7 (by kernel_rfl) (by rw [hsz]; rfl)).trans hA7
                  exact m_v e1
              with_reducible refine xOps_cons ?_ ?_
              · with_reducible refine xop_un ?_ ?_
                · rfl
                · intro vs x F hF hd
                  have e1 : F.tmps.getD 7 undef = nw (j) := (hF.a 7 (by kernel_rfl) (by rw [hsz]; rfl)).trans hA7
                  exact m_v e1
              with_reducible refine xOps_cons ?_ ?_
              · with_reducible refine xop_un ?_ ?_
                · rfl
                · intro vs x F hF hd
                  have e1 : F.tmps.getD 70 undef = nw (j) := (hF.v 70 1 (by kernel_rfl) (by rw [hsz]; rfl)).trans (dep_at hd 0 1 (is (nw (j))) (by kernel_rfl) (by kernel_rfl))
                  exact n_sub e1 rfl (by omega) (by omega)
              with_reducible refine xOps_cons ?_ ?_
              · with_reducible refine xop_un ?_ ?_
                · rfl
                · intro vs x F hF hd
                  have e1 : F.tmps.getD 5 undef = .pointer (some ⟨V, 0, none⟩) := (hF.a 5 (by kernel_rfl) (by rw [hsz]; rfl)).trans hA5
                  have e2 : F.tmps.getD 71 undef = nw (j - 16) := (hF.v 71 2 (by kernel_rfl) (by rw [hsz]; rfl)).trans (dep_at hd 0 2 (is (nw (j - 16))) (by kernel_rfl) (by kernel_rfl))
                  exact a_i64 (n := j - 16) e1 e2 (by omega)
              with_reducible refine xOps_cons ?_ ?_
              · with_reducible refine xop_un ?_ ?_
                · rfl
                · intro vs x F hF hd
                  have e1 : F.tmps.getD 72 undef = .pointer (some ⟨V, j - 16, none⟩) := (hF.v 72 3 (by kernel_rfl) (by rw [hsz]; rfl)).trans (dep_at hd 0 3 (is (.pointer (some ⟨V, j - 16, none⟩))) (by kernel_rfl) (by kernel_rfl))
                  exact l_w e1 (cell_plus x c0)
              with_reducible refine xOps_cons ?_ ?_
              · with_reducible refine xop_un ?_ ?_
                · rfl
                · intro vs x F hF hd
                  have e1 : F.tmps.getD 8 undef = bw (a1) := (hF.a 8 (by kernel_rfl) (by rw [hsz]; rfl)).trans hA8
                  exact m_v e1
              with_reducible refine xOps_cons ?_ ?_
              · with_reducible refine xop_un ?_ ?_
                · rfl
                · intro vs x F hF hd
                  have e74 : F.tmps.getD 74 undef = bw (a1) := (hF.v 74 5 (by kernel_rfl) (by rw [hsz]; rfl)).trans (dep_at hd 0 5 (is (bw (a1))) (by kernel_rfl) (by kernel_rfl))
                  clear hF hd
                  simp only [comes]
                  go_simp
                  refine (right7 _ _).mono ?_
                  rintro e w' ⟨rfl, hE⟩
                  first | exact ⟨_, rfl, hE, rfl⟩ | exact ⟨_, rfl, hE⟩ | exact ⟨rfl, hE⟩ | exact ⟨_, hE⟩ | exact hE
              with_reducible refine xOps_cons ?_ ?_
              · with_reducible refine xop_un ?_ ?_
                · rfl
                · intro vs x F hF hd
                  have e1 : F.tmps.getD 8 undef = bw (a1) := (hF.a 8 (by kernel_rfl) (by rw [hsz]; rfl)).trans hA8
                  exact m_v e1
              with_reducible refine xOps_cons ?_ ?_
              · with_reducible refine xop_un ?_ ?_
                · rfl
                · intro vs x F hF hd
                  have e76 : F.tmps.getD 76 undef = bw (a1) := (hF.v 76 7 (by kernel_rfl) (by rw [hsz]; rfl)).trans (dep_at hd 0 7 (is (bw (a1))) (by kernel_rfl) (by kernel_rfl))
                  clear hF hd
                  simp only [comes]
                  go_simp
                  refine (right18 _ _).mono ?_
                  rintro e w' ⟨rfl, hE⟩
                  first | exact ⟨_, rfl, hE, rfl⟩ | exact ⟨_, rfl, hE⟩ | exact ⟨rfl, hE⟩ | exact ⟨_, hE⟩ | exact hE
              with_reducible refine xOps_cons ?_ ?_
              · with_reducible refine xop_un ?_ ?_
                · rfl
                · intro vs x F hF hd
                  have e1 : F.tmps.getD 75 undef = bw (rr 7 a1) := (hF.v 75 6 (by kernel_rfl) (by rw [hsz]; rfl)).trans (dep_at hd 0 6 (is (bw (rr 7 a1))) (by kernel_rfl) (by kernel_rfl))
                  have e2 : F.tmps.getD 77 undef = bw (rr 18 a1) := (hF.v 77 8 (by kernel_rfl) (by rw [hsz]; rfl)).trans (dep_at hd 1 8 (is (bw (rr 18 a1))) (by kernel_rfl) (by kernel_rfl))
                  exact w_xor e1 e2
              with_reducible refine xOps_cons ?_ ?_
              · with_reducible refine xop_un ?_ ?_
                · rfl
                · intro vs x F hF hd
                  have e1 : F.tmps.getD 8 undef = bw (a1) := (hF.a 8 (by kernel_rfl) (by rw [hsz]; rfl)).trans hA8
                  exact m_v e1
              with_reducible refine xOps_cons ?_ ?_
              · with_reducible refine xop_un ?_ ?_
                · rfl
                · intro vs x F hF hd
                  have e1 : F.tmps.getD 79 undef = bw (a1) := (hF.v 79 10 (by kernel_rfl) (by rw [hsz]; rfl)).trans (dep_at hd 0 10 (is (bw (a1))) (by kernel_rfl) (by kernel_rfl))
                  exact w_shr_u64 (n := 3) e1 rfl (by omega)
              with_reducible refine xOps_cons ?_ ?_
              · with_reducible refine xop_un ?_ ?_
                · rfl
                · intro vs x F hF hd
                  have e1 : F.tmps.getD 78 undef = bw ((rr 7 a1) ^^^ (rr 18 a1)) := (hF.v 78 9 (by kernel_rfl) (by rw [hsz]; rfl)).trans (dep_at hd 0 9 (is (bw ((rr 7 a1) ^^^ (rr 18 a1)))) (by kernel_rfl) (by kernel_rfl))
                  have e2 : F.tmps.getD 80 undef = bw ((a1) >>> 3) := (hF.v 80 11 (by kernel_rfl) (by rw [hsz]; rfl)).trans (dep_at hd 1 11 (is (bw ((a1) >>> 3))) (by kernel_rfl) (by kernel_rfl))
                  exact w_xor e1 e2
              with_reducible refine xOps_cons ?_ ?_
              · with_reducible refine xop_un ?_ ?_
                · rfl
                · intro vs x F hF hd
                  have e1 : F.tmps.getD 73 undef = bw (a0) := (hF.v 73 4 (by kernel_rfl) (by rw [hsz]; rfl)).trans (dep_at hd 0 4 (is (bw (a0))) (by kernel_rfl) (by kernel_rfl))
                  have e2 : F.tmps.getD 81 undef = bw (((rr 7 a1) ^^^ (rr 18 a1)) ^^^ ((a1) >>> 3)) := (hF.v 81 12 (by kernel_rfl) (by rw [hsz]; rfl)).trans (dep_at hd 1 12 (is (bw (((rr 7 a1) ^^^ (rr 18 a1)) ^^^ ((a1) >>> 3)))) (by kernel_rfl) (by kernel_rfl))
                  exact w_add e1 e2
              with_reducible refine xOps_cons ?_ ?_
              · with_reducible refine xop_un ?_ ?_
                · rfl
                · intro vs x F hF hd
                  have e1 : F.tmps.getD 7 undef = nw (j) := (hF.a 7 (by kernel_rfl) (by rw [hsz]; rfl)).trans hA7
                  exact m_v e1
              with_reducible refine xOps_cons ?_ ?_
              · with_reducible refine xop_un ?_ ?_
                · rfl
                · intro vs x F hF hd
                  have e1 : F.tmps.getD 83 undef = nw (j) := (hF.v 83 14 (by kernel_rfl) (by rw [hsz]; rfl)).trans (dep_at hd 0 14 (is (nw (j))) (by kernel_rfl) (by kernel_rfl))
                  exact n_sub e1 rfl (by omega) (by omega)
              with_reducible refine xOps_cons ?_ ?_
              · with_reducible refine xop_un ?_ ?_
                · rfl
                · intro vs x F hF hd
                  have e1 : F.tmps.getD 5 undef = .pointer (some ⟨V, 0, none⟩) := (hF.a 5 (by kernel_rfl) (by rw [hsz]; rfl)).trans hA5
                  have e2 : F.tmps.getD 84 undef = nw (j - 7) := (hF.v 84 15 (by kernel_rfl) (by rw [hsz]; rfl)).trans (dep_at hd 0 15 (is (nw (j - 7))) (by kernel_rfl) (by kernel_rfl))
                  exact a_i64 (n := j - 7) e1 e2 (by omega)
              with_reducible refine xOps_cons ?_ ?_
              · with_reducible refine xop_un ?_ ?_
                · rfl
                · intro vs x F hF hd
                  have e1 : F.tmps.getD 85 undef = .pointer (some ⟨V, j - 7, none⟩) := (hF.v 85 16 (by kernel_rfl) (by rw [hsz]; rfl)).trans (dep_at hd 0 16 (is (.pointer (some ⟨V, j - 7, none⟩))) (by kernel_rfl) (by kernel_rfl))
                  exact l_w e1 (cell_plus x c7)
              with_reducible refine xOps_cons ?_ ?_
              · with_reducible refine xop_un ?_ ?_
                · rfl
                · intro vs x F hF hd
                  have e1 : F.tmps.getD 82 undef = bw ((a0) + (((rr 7 a1) ^^^ (rr 18 a1)) ^^^ ((a1) >>> 3))) := (hF.v 82 13 (by kernel_rfl) (by rw [hsz]; rfl)).trans (dep_at hd 0 13 (is (bw ((a0) + (((rr 7 a1) ^^^ (rr 18 a1)) ^^^ ((a1) >>> 3))))) (by kernel_rfl) (by kernel_rfl))
                  have e2 : F.tmps.getD 86 undef = bw (a7) := (hF.v 86 17 (by kernel_rfl) (by rw [hsz]; rfl)).trans (dep_at hd 1 17 (is (bw (a7))) (by kernel_rfl) (by kernel_rfl))
                  exact w_add e1 e2
              with_reducible refine xOps_cons ?_ ?_
              · with_reducible refine xop_un ?_ ?_
                · rfl
                · intro vs x F hF hd
                  have e1 : F.tmps.getD 9 undef = bw (a2) := (hF.a 9 (by kernel_rfl) (by rw [hsz]; rfl)).trans hA9
                  exact m_v e1
              with_reducible refine xOps_cons ?_ ?_
              · with_reducible refine xop_un ?_ ?_
                · rfl
                · intro vs x F hF hd
                  have e88 : F.tmps.getD 88 undef = bw (a2) := (hF.v 88 19 (by kernel_rfl) (by rw [hsz]; rfl)).trans (dep_at hd 0 19 (is (bw (a2))) (by kernel_rfl) (by kernel_rfl))
                  clear hF hd
                  simp only [comes]
                  go_simp
                  refine (right17 _ _).mono ?_
                  rintro e w' ⟨rfl, hE⟩
                  first | exact ⟨_, rfl, hE, rfl⟩ | exact ⟨_, rfl, hE⟩ | exact ⟨rfl, hE⟩ | exact ⟨_, hE⟩ | exact hE
              with_reducible refine xOps_cons ?_ ?_
              · with_reducible refine xop_un ?_ ?_
                · rfl
                · intro vs x F hF hd
                  have e1 : F.tmps.getD 9 undef = bw (a2) := (hF.a 9 (by kernel_rfl) (by rw [hsz]; rfl)).trans hA9
                  exact m_v e1
              with_reducible refine xOps_cons ?_ ?_
              · with_reducible refine xop_un ?_ ?_
                · rfl
                · intro vs x F hF hd
                  have e90 : F.tmps.getD 90 undef = bw (a2) := (hF.v 90 21 (by kernel_rfl) (by rw [hsz]; rfl)).trans (dep_at hd 0 21 (is (bw (a2))) (by kernel_rfl) (by kernel_rfl))
                  clear hF hd
                  simp only [comes]
                  go_simp
                  refine (right19 _ _).mono ?_
                  rintro e w' ⟨rfl, hE⟩
                  first | exact ⟨_, rfl, hE, rfl⟩ | exact ⟨_, rfl, hE⟩ | exact ⟨rfl, hE⟩ | exact ⟨_, hE⟩ | exact hE
              with_reducible refine xOps_cons ?_ ?_
              · with_reducible refine xop_un ?_ ?_
                · rfl
                · intro vs x F hF hd
                  have e1 : F.tmps.getD 89 undef = bw (rr 17 a2) := (hF.v 89 20 (by kernel_rfl) (by rw [hsz]; rfl)).trans (dep_at hd 0 20 (is (bw (rr 17 a2))) (by kernel_rfl) (by kernel_rfl))
                  have e2 : F.tmps.getD 91 undef = bw (rr 19 a2) := (hF.v 91 22 (by kernel_rfl) (by rw [hsz]; rfl)).trans (dep_at hd 1 22 (is (bw (rr 19 a2))) (by kernel_rfl) (by kernel_rfl))
                  exact w_xor e1 e2
              with_reducible refine xOps_cons ?_ ?_
              · with_reducible refine xop_un ?_ ?_
                · rfl
                · intro vs x F hF hd
                  have e1 : F.tmps.getD 9 undef = bw (a2) := (hF.a 9 (by kernel_rfl) (by rw [hsz]; rfl)).trans hA9
                  exact m_v e1
              with_reducible refine xOps_cons ?_ ?_
              · with_reducible refine xop_un ?_ ?_
                · rfl
                · intro vs x F hF hd
                  have e1 : F.tmps.getD 93 undef = bw (a2) := (hF.v 93 24 (by kernel_rfl) (by rw [hsz]; rfl)).trans (dep_at hd 0 24 (is (bw (a2))) (by kernel_rfl) (by kernel_rfl))
                  exact w_shr_u64 (n := 10) e1 rfl (by omega)
              with_reducible refine xOps_cons ?_ ?_
              · with_reducible refine xop_un ?_ ?_
                · rfl
                · intro vs x F hF hd
                  have e1 : F.tmps.getD 92 undef = bw ((rr 17 a2) ^^^ (rr 19 a2)) := (hF.v 92 23 (by kernel_rfl) (by rw [hsz]; rfl)).trans (dep_at hd 0 23 (is (bw ((rr 17 a2) ^^^ (rr 19 a2)))) (by kernel_rfl) (by kernel_rfl))
                  have e2 : F.tmps.getD 94 undef = bw ((a2) >>> 10) := (hF.v 94 25 (by kernel_rfl) (by rw [hsz]; rfl)).trans (dep_at hd 1 25 (is (bw ((a2) >>> 10))) (by kernel_rfl) (by kernel_rfl))
                  exact w_xor e1 e2
              with_reducible refine xOps_cons ?_ ?_
              · with_reducible refine xop_un ?_ ?_
                · rfl
                · intro vs x F hF hd
                  have e1 : F.tmps.getD 87 undef = bw (((a0) + (((rr 7 a1) ^^^ (rr 18 a1)) ^^^ ((a1) >>> 3))) + (a7)) := (hF.v 87 18 (by kernel_rfl) (by rw [hsz]; rfl)).trans (dep_at hd 0 18 (is (bw (((a0) + (((rr 7 a1) ^^^ (rr 18 a1)) ^^^ ((a1) >>> 3))) + (a7)))) (by kernel_rfl) (by kernel_rfl))
                  have e2 : F.tmps.getD 95 undef = bw (((rr 17 a2) ^^^ (rr 19 a2)) ^^^ ((a2) >>> 10)) := (hF.v 95 26 (by kernel_rfl) (by rw [hsz]; rfl)).trans (dep_at hd 1 26 (is (bw (((rr 17 a2) ^^^ (rr 19 a2)) ^^^ ((a2) >>> 10)))) (by kernel_rfl) (by kernel_rfl))
                  exact w_add e1 e2
              with_reducible refine xOps_cons ?_ ?_
              · with_reducible refine xop_un ?_ ?_
                · rfl
                · intro vs x F hF hd
                  have e1 : F.tmps.getD 5 undef = .pointer (some ⟨V, 0, none⟩) := (hF.a 5 (by kernel_rfl) (by rw [hsz]; rfl)).trans hA5
                  have e2 : F.tmps.getD 69 undef = nw (j) := (hF.v 69 0 (by kernel_rfl) (by rw [hsz]; rfl)).trans (dep_at hd 0 0 (is (nw (j))) (by kernel_rfl) (by kernel_rfl))
                  exact a_i64 (n := j) e1 e2 (by omega)
              exact xOps_nil
            case hst => exact ⟨is.st _, is.st _, is.st _, is.st _, is.st _, is.st _, is.st _, is.st _, is.st _, is.st _, is.st _, is.st _, is.st _, is.st _, is.st _, is.st _, is.st _, is.st _, is.st _, is.st _, is.st _, is.st _, is.st _, is.st _, is.st _, is.st _, is.st _, is.st _, is.st _, trivial⟩
            case hfin =>
              intro vs x hf
              have f27 : vs 27 = bw vv := (show vs 27 = bw ((((a0) + (((rr 7 a1) ^^^ (rr 18 a1)) ^^^ ((a1) >>> 3))) + (a7)) + (((rr 17 a2) ^^^ (rr 19 a2)) ^^^ ((a2) >>> 10))) from hf.2.2.2.2.2.2.2.2.2.2.2.2.2.2.2.2.2.2.2.2.2.2.2.2.2.2.2.1).trans (by rw [← hv2]; rfl)
              have f28 : vs 28 = .pointer (some ⟨V, j, none⟩) := hf.2.2.2.2.2.2.2.2.2.2.2.2.2.2.2.2.2.2.2.2.2.2.2.2.2.2.2.2.1
              clear hf
              have hAq := HAq.out
              subst hAq
              clear hsz hA5 hA7 hA8 hA9
              simp only [List.take_succ_cons, List.take_zero, List.drop_succ_cons, List.drop_zero, putAll, Act.put, List.setIfInBounds_toArray, List.set_cons_succ, List.set_cons_zero, Nat.zero_add, Nat.reduceAdd]
              clear HAq
              rw [f27]
              rw [f28]
              clear f27 f28
              have HV := Lib.hid hvv
              have hf := HS.out.ws.free
              have hc := wcell HS.out.ws (show j < ws.length by rw [HWS.out.2]; omega)
              clear c0 c7 hvv hv2
              go_wp2
              go_roundw
              case rel =>
                refine ⟨j + 1, by omega, by omega, by go_num, Lib.hid ?_⟩
                have e : j + 1 - 16 = (j - 16) + 1 := by omega
                have e2 : 16 + (j - 16) = j := by omega
                rw [e, fill2, e2, ← HWS.out.1, ← HV.out]
                exact HS.out.put x vv (by rw [HWS.out.2]; omega) hBV hRV hVw hbw
              case measure => simp [intOf]; omega
        · obtain rfl : j = 64 := by omega
          clear hlt hj hj0
          obtain ⟨ws, hws⟩ : ∃ ws, ws = sched bs := ⟨_, rfl⟩
          replace HS : Hid (BlR w V B R s0 b o bs ws wr) := by
            rw [hws]
            exact HS
          have HWS := Lib.hid (And.intro hws (show ws.length = 64 by rw [hws]; exact sched_len bs))
          clear hws
          go_upto_region 11 with fail
          refine wp_at fun Y hY => ?_
          replace HS := Lib.hid (show BlR w V B R s0 b o bs ws Y by
            rw [hY]
            exact BlR.ext' HS.out (by repeat (first | exact Ext.refl _ | assumption | apply Ext.plus_ | apply Ext.alloc | apply Ext.drew)))
          clear hY
          refine act_at fun A0 hAq => ?_
          have hsz : A0.tmps.size = 196 := by
            rw [hAq]
            rfl
          have hA2 : A0.tmps.getD 2 undef = .pointer (some ⟨B, 0, none⟩) := by
            rw [hAq]
            first | rfl | kernel_rfl
          have HAq := Lib.hid hAq
          clear hAq
          apply wp_region_extd 4 [is (wv s0), is (wv KL), isBox Y.heap.size (zero8.map bw), isBox Y.heap.size (zero64.map bw)] (fun i => i == 2 || i == 3) (by kernel_rfl) (by kernel_rfl) rfl
          case hops =>
            simp only [List.take_succ_cons, List.take_zero]
            with_reducible refine xOps_cons ?_ ?_
            · with_reducible refine xop_un ?_ ?_
              · rfl
              · intro vs x F hF hd
                have e1 : F.tmps.getD 2 undef = .pointer (some ⟨B, 0, none⟩) := (hF.a 2 (by kernel_rfl) (by rw [hsz]; rfl)).trans hA2
                exact comes_load_box 32 (.tmp 2) rfl (HS.out.s0.ext (by repeat (first | exact Ext.refl _ | assumption | apply Ext.plus_ | apply Ext.alloc | apply Ext.drew))) e1 Tryd.underlying32 rfl (by rw [List.length_map, HL.out.2]; kernel_rfl)
            with_reducible refine xOps_cons ?_ ?_
            · with_reducible refine xop_un ?_ ?_
              · rfl
              · intro vs x F hF hd
                clear hF hd
                simp only [comes]
                go_simp
                refine (constants_any _).mono ?_
                rintro e w' ⟨rfl, hE⟩
                first | exact ⟨_, rfl, hE, rfl⟩ | exact ⟨_, rfl, hE⟩ | exact ⟨rfl, hE⟩ | exact ⟨_, hE⟩ | exact hE
            with_reducible refine xOps_cons ?_ ?_
            · with_reducible refine xop_un ?_ ?_
              · rfl
              · intro vs x F hF hd
                clear hF hd
                simp only [comes]
                go_simp
                exact ⟨(Ext.refl _).alloc _, _, rfl, Box.new _ _ _ _ (show Ext Y (Y.plus x) from (by repeat (first | exact Ext.refl _ | assumption | apply Ext.plus_ | apply Ext.alloc | apply Ext.drew))).size rfl⟩
            with_reducible refine xOps_cons ?_ ?_
            · with_reducible refine xop_un ?_ ?_
              · rfl
              · intro vs x F hF hd
                clear hF hd
                simp only [comes]
                go_simp
                exact ⟨(Ext.refl _).alloc _, _, rfl, Box.new _ _ _ _ (show Ext Y (Y.plus x) from (by repeat (first | exact Ext.refl _ | assumption | apply Ext.plus_ | apply Ext.alloc | apply Ext.drew))).size rfl⟩
            exact xOps_nil
          case hst => exact ⟨is.st _, is.st _, isBox.st _ _, isBox.st _ _, trivial⟩
          case hDT =>
            intro i T di hT v w' hv
            have di' : i = 2 ∨ i = 3 := by simpa using di
            rcases di' with rfl | rfl
            · injection hT with hT
              subst hT
              exact isBox.old hv
            · injection hT with hT
              subst hT
              exact isBox.old hv
          case hD =>
            intro i o di ho
            have di' : i = 2 ∨ i = 3 := by simpa using di
            rcases di' with rfl | rfl
            · simp only [List.take_succ_cons, List.take_zero, List.getElem?_cons_succ, List.getElem?_cons_zero, Option.some.injEq] at ho
              subst ho
              refine ⟨rfl, fun vs x => ?_⟩
              simp only [comes]
              go_simp
              exact ⟨(Ext.refl _).alloc _, ⟨_, rfl, Box.new _ _ _ _ (show Ext Y (Y.plus x) from (by repeat (first | exact Ext.refl _ | assumption | apply Ext.plus_ | apply Ext.alloc | apply Ext.drew))).size rfl⟩, _, rfl, Nat.le_refl _⟩
            · simp only [List.take_succ_cons, List.take_zero, List.getElem?_cons_succ, List.getElem?_cons_zero, Option.some.injEq] at ho
              subst ho
              refine ⟨rfl, fun vs x => ?_⟩
              simp only [comes]
              go_simp
              exact ⟨(Ext.refl _).alloc _, ⟨_, rfl, Box.new _ _ _ _ (show Ext Y (Y.plus x) from (by repeat (first | exact Ext.refl _ | assumption | apply Ext.plus_ | apply Ext.alloc | apply Ext.drew))).size rfl⟩, _, rfl, Nat.le_refl _⟩
          case hfin =>
            intro vs x hf hap
            have f0 : vs 0 = wv s0 := hf.1
            have f1 : vs 1 = wv KL := hf.2.1
            obtain ⟨S, f2, h1⟩ := hf.2.2.1
            obtain ⟨C, f3, h2⟩ := hf.2.2.2.1
            have g2 : vs 2 = .pointer (some ⟨S, 0, none⟩) := f2
            have g3 : vs 3 = .pointer (some ⟨C, 0, none⟩) := f3
            have hne : S ≠ C := fun e => hap 2 3 (by decide) (by decide) (by decide) rfl rfl (by rw [g2, g3, e])
            clear hf hap
            have hAq := HAq.out
            subst hAq
            clear hsz hA2
            simp only [List.take_succ_cons, List.take_zero, List.drop_succ_cons, List.drop_zero, putAll, Act.put, List.setIfInBounds_toArray, List.set_cons_succ, List.set_cons_zero, Nat.zero_add, Nat.reduceAdd]
            clear HAq
            rw [f0, f1, g2, g3]
            clear f0 f1 f2 f3 g2 g3
            have hs := BlR.ext' HS.out (show Ext Y (Y.plus x) from (by repeat (first | exact Ext.refl _ | assumption | apply Ext.plus_ | apply Ext.alloc | apply Ext.drew)))
            have hBS : B ≠ S := by have := HS.out.s0.lt; have := h1.base; omega
            have hRS : R ≠ S := by have := HS.out.res.lt; have := h1.base; omega
            have hVS : V ≠ S := by have := HS.out.ws.lt; have := h1.base; omega
            have hBC : B ≠ C := by have := HS.out.s0.lt; have := h2.base; omega
            have hRC : R ≠ C := by have := HS.out.res.lt; have := h2.base; omega
            have hVC : V ≠ C := by have := HS.out.ws.lt; have := h2.base; omega
            have hwS : w.heap.size ≤ S := Nat.le_trans HS.out.ext.size h1.base
            have hwC : w.heap.size ≤ C := Nat.le_trans HS.out.ext.size h2.base
            refine wl_store rfl 32 (.tmp 10) (.tmp 98) rfl h1 (s0.map bw) rfl rfl (by rw [List.length_map, List.length_map, HL.out.2]; rfl) (by rw [List.length_map, HL.out.2]; kernel_rfl) (one_cells _) fun W3 hB3 hx => ?_
            refine wl_store rfl 47 (.tmp 11) (.tmp 99) rfl (hx.box h2 (Ne.symm hne)) (KL.map bw) rfl rfl rfl (by kernel_rfl) (one_cells _) fun W4 hB4 hy => ?_
            replace HS : Hid (RfR w V B R S C s0 ws (rounds ws s0 0) W4) := Lib.hid ⟨Box.zero (hy.box hB3 hne), hy.box (hx.box hs.ws hVS) hVC, hy.box (hx.box hs.s0 hBS) hBC, hy.box (hx.box hs.res hRS) hRC, Box.zero hB4, hy.ext _ (hx.ext _ hs.ext hwS) hwC⟩
            have hCS : C ≠ S := Ne.symm hne
            have hSB : S ≠ B := Ne.symm hBS
            have hCB : C ≠ B := Ne.symm hBC
            have hVB : V ≠ B := Ne.symm hBV
            clear hs hx hy hB3 hB4 h1 h2 hne hBC hRC hVC hwC
            go_wp2
            go_loopw [12, 13, 14, 15, 16] (fun i _ _ _ _ wr => ∃ k : Nat, k ≤ 64 ∧ i = nw k ∧ Hid (RfR w V B R S C s0 ws (rounds ws s0 k) wr)) (fun i _ _ _ _ _ => 64 - (intOf i).toNat)
            case atStart => exact ⟨0, Nat.zero_le _, rfl, HS⟩
            case round =>
              clear HS
              obtain ⟨k, hk, rfl, HS⟩ := hrel
              by_cases hlt : k < 64
              · have hli : (k : Int) < 64 := by omega
                obtain ⟨st, hst⟩ : ∃ st, st = rounds ws s0 k := ⟨_, rfl⟩
                rw [← hst] at HS
                obtain ⟨a0, a1, a2, a3, a4, a5, a6, a7, rfl⟩ := list8 (show st.length = 8 by rw [hst]; exact rounds_len HL.out.2 k)
                have HR := Lib.hid hst
                clear hst
                obtain ⟨kk, hkk⟩ : ∃ b, b = KL.getD k 0 := ⟨_, rfl⟩
                obtain ⟨ww, hww⟩ : ∃ b, b = ws.getD k 0 := ⟨_, rfl⟩
                obtain ⟨tt, htt⟩ : ∃ b, b = t1F a4 a5 a6 a7 kk ww := ⟨_, rfl⟩
                obtain ⟨uu, huu⟩ : ∃ b, b = bg0 a0 + mjF a0 a1 a2 := ⟨_, rfl⟩
                have HQ := Lib.hid (And.intro hkk (And.intro hww (And.intro htt huu)))
                clear hkk hww htt huu
                go_upto_region 15 with fail
                refine wp_at fun Y1 hY1 => ?_
                replace HS := Lib.hid (show RfR w V B R S C s0 ws [a0, a1, a2, a3, a4, a5, a6, a7] Y1 by
                  rw [hY1]
                  exact RfR.ext' HS.out (by repeat (first | exact Ext.refl _ | assumption | apply Ext.plus_ | apply Ext.alloc | apply Ext.drew)))
                clear hY1
                have c0 : Y1.cell? ⟨S, 0, none⟩ = some (bw a0) := wcell HS.out.st (k := 0) (by simp)
                have c1 : Y1.cell? ⟨S, 1, none⟩ = some (bw a1) := wcell HS.out.st (k := 1) (by simp)
                have c2 : Y1.cell? ⟨S, 2, none⟩ = some (bw a2) := wcell HS.out.st (k := 2) (by simp)
                have c3 : Y1.cell? ⟨S, 3, none⟩ = some (bw a3) := wcell HS.out.st (k := 3) (by simp)
                have c4 : Y1.cell? ⟨S, 4, none⟩ = some (bw a4) := wcell HS.out.st (k := 4) (by simp)
                have c5 : Y1.cell? ⟨S, 5, none⟩ = some (bw a5) := wcell HS.out.st (k := 5) (by simp)
                have c6 : Y1.cell? ⟨S, 6, none⟩ = some (bw a6) := wcell HS.out.st (k := 6) (by simp)
                have c7 : Y1.cell? ⟨S, 7, none⟩ = some (bw a7) := wcell HS.out.st (k := 7) (by simp)
                refine act_at fun A0 hAq => ?_
                have hsz : A0.tmps.size = 196 := by
                  rw [hAq]
                  rfl
                have hA10 : A0.tmps.getD 10 undef = .pointer (some ⟨S, 0, none⟩) := by
                  rw [hAq]
                  first | rfl | kernel_rfl
                have HAq := Lib.hid hAq
                clear hAq
                apply wp_region_ext 5 [is (.pointer (some ⟨S, 4, none⟩)), is (bw (a4)), is (.pointer (some ⟨S, 0, none⟩)), is (bw (a0)), is (bw (a4))] (by kernel_rfl) (by kernel_rfl) rfl
                case hops =>
                  simp only [List.take_succ_cons, List.take_zero]
                  with_reducible refine xOps_cons ?_ ?_
                  · with_reducible refine xop_un ?_ ?_
                    · rfl
                    · intro vs x F hF hd
                      have e1 : F.tmps.getD 10 undef = .pointer (some ⟨S, 0, none⟩) := (hF.a 10 (by kernel_rfl) (by rw [hsz]; rfl)).trans hA10
                      exact a_i8 (n := 4) e1 rfl (by omega)
                  with_reducible refine xOps_cons ?_ ?_
                  · with_reducible refine xop_un ?_ ?_
                    · rfl
                    · intro vs x F hF hd
                      have e1 : F.tmps.getD 104 undef = .pointer (some ⟨S, 4, none⟩) := (hF.v 104 0 (by kernel_rfl) (by rw [hsz]; rfl)).trans (dep_at hd 0 0 (is (.pointer (some ⟨S, 4, none⟩))) (by kernel_rfl) (by kernel_rfl))
                      exact l_w e1 (cell_plus x c4)
                  with_reducible refine xOps_cons ?_ ?_
                  · with_reducible refine xop_un ?_ ?_
                    · rfl
                    · intro vs x F hF hd
                      have e1 : F.tmps.getD 10 undef = .pointer (some ⟨S, 0, none⟩) := (hF.a 10 (by kernel_rfl) (by rw [hsz]; rfl)).trans hA10
                      exact a_i8 (n := 0) e1 rfl (by omega)
                  with_reducible refine xOps_cons ?_ ?_
                  · with_reducible refine xop_un ?_ ?_
                    · rfl
                    · intro vs x F hF hd
                      have e1 : F.tmps.getD 106 undef = .pointer (some ⟨S, 0, none⟩) := (hF.v 106 2 (by kernel_rfl) (by rw [hsz]; rfl)).trans (dep_at hd 0 2 (is (.pointer (some ⟨S, 0, none⟩))) (by kernel_rfl) (by kernel_rfl))
                      exact l_w e1 (cell_plus x c0)
                  with_reducible refine xOps_cons ?_ ?_
                  · with_reducible refine xop_un ?_ ?_
                    · rfl
                    · intro vs x F hF hd
                      have e1 : F.tmps.getD 105 undef = bw (a4) := (hF.v 105 1 (by kernel_rfl) (by rw [hsz]; rfl)).trans (dep_at hd 0 1 (is (bw (a4))) (by kernel_rfl) (by kernel_rfl))
                      exact as_v e1
                  exact xOps_nil
                case hst => exact ⟨is.st _, is.st _, is.st _, is.st _, is.st _, trivial⟩
                case hfin =>
                  intro vs x hf
                  have f1 : vs 1 = bw (a4) := hf.2.1
                  have f3 : vs 3 = bw (a0) := hf.2.2.2.1
                  have f4 : vs 4 = bw (a4) := hf.2.2.2.2.1
                  clear hf
                  have hAq := HAq.out
                  subst hAq
                  clear hsz hA10
                  simp only [List.take_succ_cons, List.take_zero, List.drop_succ_cons, List.drop_zero, putAll, Act.put, List.setIfInBounds_toArray, List.set_cons_succ, List.set_cons_zero, Nat.zero_add, Nat.reduceAdd]
                  clear HAq
                  rw [f1]
                  rw [f3]
                  rw [f4]
                  clear f1 f3 f4
                  clear c0 c1 c2 c3 c4 c5 c6 c7
                  go_upto_region 16 with fail
                  refine wp_at fun Y2 hY2 => ?_
                  replace HS := Lib.hid (show RfR w V B R S C s0 ws [a0, a1, a2, a3, a4, a5, a6, a7] Y2 by
                    rw [hY2]
                    exact RfR.ext' HS.out (by repeat (first | exact Ext.refl _ | assumption | apply Ext.plus_ | apply Ext.alloc | apply Ext.drew)))
                  clear hY2
                  have c0 : Y2.cell? ⟨S, 0, none⟩ = some (bw a0) := wcell HS.out.st (k := 0) (by simp)
                  have c1 : Y2.cell? ⟨S, 1, none⟩ = some (bw a1) := wcell HS.out.st (k := 1) (by simp)
                  have c2 : Y2.cell? ⟨S, 2, none⟩ = some (bw a2) := wcell HS.out.st (k := 2) (by simp)
                  have c3 : Y2.cell? ⟨S, 3, none⟩ = some (bw a3) := wcell HS.out.st (k := 3) (by simp)
                  have c4 : Y2.cell? ⟨S, 4, none⟩ = some (bw a4) := wcell HS.out.st (k := 4) (by simp)
                  have c5 : Y2.cell? ⟨S, 5, none⟩ = some (bw a5) := wcell HS.out.st (k := 5) (by simp)
                  have c6 : Y2.cell? ⟨S, 6, none⟩ = some (bw a6) := wcell HS.out.st (k := 6) (by simp)
                  have c7 : Y2.cell? ⟨S, 7, none⟩ = some (bw a7) := wcell HS.out.st (k := 7) (by simp)
                  have ck := wcell HS.out.con (show k < KL.length from hlt)
                  have cw := wcell HS.out.ws (show k < ws.length by rw [HWS.out.2]; omega)
                  rw [← HQ.out.1] at ck
                  rw [← HQ.out.2.1] at cw
                  refine act_at fun A0 hAq => ?_
                  have hsz : A0.tmps.size = 196 := by
                    rw [hAq]
                    rfl
                  have hA5 : A0.tmps.getD 5 undef = .pointer (some ⟨V, 0, none⟩) := by
                    rw [hAq]
                    first | rfl | kernel_rfl
                  have hA10 : A0.tmps.getD 10 undef = .pointer (some ⟨S, 0, none⟩) := by
                    rw [hAq]
                    first | rfl | kernel_rfl
                  have hA11 : A0.tmps.getD 11 undef = .pointer (some ⟨C, 0, none⟩) := by
                    rw [hAq]
                    first | rfl | kernel_rfl
                  have hA12 : A0.tmps.getD 12 undef = nw (k) := by
                    rw [hAq]
                    first | rfl | kernel_rfl
                  have hA13 : A0.tmps.getD 13 undef = bw (a4) := by
                    rw [hAq]
                    first | rfl | kernel_rfl
                  have HAq := Lib.hid hAq
                  clear hAq
                  apply wp_region_ext 30 [is (.pointer (some ⟨S, 7, none⟩)), is (bw (a7)), is (bw (a4)), is (bw (rr 6 a4)), is (bw (a4)), is (bw (rr 11 a4)), is (bw ((rr 6 a4) ^^^ (rr 11 a4))), is (bw (a4)), is (bw (rr 25 a4)), is (bw (((rr 6 a4) ^^^ (rr 11 a4)) ^^^ (rr 25 a4))), is (bw ((a7) + (((rr 6 a4) ^^^ (rr 11 a4)) ^^^ (rr 25 a4)))), is (bw (a4)), is (.pointer (some ⟨S, 5, none⟩)), is (bw (a5)), is (bw ((a4) &&& (a5))), is (bw (a4)), is (bw (~~~(a4))), is (.pointer (some ⟨S, 6, none⟩)), is (bw (a6)), is (bw ((~~~(a4)) &&& (a6))), is (bw (((a4) &&& (a5)) ^^^ ((~~~(a4)) &&& (a6)))), is (bw (((a7) + (((rr 6 a4) ^^^ (rr 11 a4)) ^^^ (rr 25 a4))) + (((a4) &&& (a5)) ^^^ ((~~~(a4)) &&& (a6))))), is (nw (k)), is (.pointer (some ⟨C, k, none⟩)), is (bw (kk)), is (bw ((((a7) + (((rr 6 a4) ^^^ (rr 11 a4)) ^^^ (rr 25 a4))) + (((a4) &&& (a5)) ^^^ ((~~~(a4)) &&& (a6)))) + (kk))), is (nw (k)), is (.pointer (some ⟨V, k, none⟩)), is (bw (ww)), is (bw (((((a7) + (((rr 6 a4) ^^^ (rr 11 a4)) ^^^ (rr 25 a4))) + (((a4) &&& (a5)) ^^^ ((~~~(a4)) &&& (a6)))) + (kk)) + (ww)))] (by kernel_rfl) (by kernel_rfl) rfl
                  case hops =>
                    simp only [List.take_succ_cons, List.take_zero]
                    with_reducible refine xOps_cons ?_ ?_
                    · with_reducible refine xop_un ?_ ?_
                      · rfl
                      · intro vs x F hF hd
                        have e1 : F.tmps.getD 10 undef = .pointer (some ⟨S, 0, none⟩) := (hF.a 10 (by kernel_rfl) (by rw [hsz]; rfl)).trans hA10
                        exact a_i8 (n := 7) e1 rfl (by omega)
                    with_reducible refine xOps_cons ?_ ?_
                    · with_reducible refine xop_un ?_ ?_
                      · rfl
                      · intro vs x F hF hd
                        have e1 : F.tmps.getD 108 undef = .pointer (some ⟨S, 7, none⟩) := (hF.v 108 0 (by kernel_rfl) (by rw [hsz]; rfl)).trans (dep_at hd 0 0 (is (.pointer (some ⟨S, 7, none⟩))) (by kernel_rfl) (by kernel_rfl))
                        exact l_w e1 (cell_plus x c7)
                    with_reducible refine xOps_cons ?_ ?_
                    · with_reducible refine xop_un ?_ ?_
                      · rfl
                      · intro vs x F hF hd
                        have e1 : F.tmps.getD 13 undef = bw (a4) := (hF.a 13 (by kernel_rfl) (by rw [hsz]; rfl)).trans hA13
                        exact m_v e1
                    with_reducible refine xOps_cons ?_ ?_
                    · with_reducible refine xop_un ?_ ?_
                      · rfl
                      · intro vs x F hF hd
                        have e110 : F.tmps.getD 110 undef = bw (a4) := (hF.v 110 2 (by kernel_rfl) (by rw [hsz]; rfl)).trans (dep_at hd 0 2 (is (bw (a4))) (by kernel_rfl) (by kernel_rfl))
                        clear hF hd
                        simp only [comes]
                        go_simp
                        refine (right6 _ _).mono ?_
                        rintro e w' ⟨rfl, hE⟩
                        first | exact ⟨_, rfl, hE, rfl⟩ | exact ⟨_, rfl, hE⟩ | exact ⟨rfl, hE⟩ | exact ⟨_, hE⟩ | exact hE
                    with_reducible refine xOps_cons ?_ ?_
                    · with_reducible refine xop_un ?_ ?_
                      · rfl
                      · intro vs x F hF hd
                        have e1 : F.tmps.getD 13 undef = bw (a4) := (hF.a 13 (by kernel_rfl) (by rw [hsz]; rfl)).trans hA13
                        exact m_v e1
                    with_reducible refine xOps_cons ?_ ?_
                    · with_reducible refine xop_un ?_ ?_
                      · rfl
                      · intro vs x F hF hd
                        have e112 : F.tmps.getD 112 undef = bw (a4) := (hF.v 112 4 (by kernel_rfl) (by rw [hsz]; rfl)).trans (dep_at hd 0 4 (is (bw (a4))) (by kernel_rfl) (by kernel_rfl))
                        clear hF hd
                        simp only [comes]
                        go_simp
                        refine (right11 _ _).mono ?_
                        rintro e w' ⟨rfl, hE⟩
                        first | exact ⟨_, rfl, hE, rfl⟩ | exact ⟨_, rfl, hE⟩ | exact ⟨rfl, hE⟩ | exact ⟨_, hE⟩ | exact hE
                    with_reducible refine xOps_cons ?_ ?_
                    · with_reducible refine xop_un ?_ ?_
                      · rfl
                      · intro vs x F hF hd
                        have e1 : F.tmps.getD 111 undef = bw (rr 6 a4) := (hF.v 111 3 (by kernel_rfl) (by rw [hsz]; rfl)).trans (dep_at hd 0 3 (is (bw (rr 6 a4))) (by kernel_rfl) (by kernel_rfl))
                        have e2 : F.tmps.getD 113 undef = bw (rr 11 a4) := (hF.v 113 5 (by kernel_rfl) (by rw [hsz]; rfl)).trans (dep_at hd 1 5 (is (bw (rr 11 a4))) (by kernel_rfl) (by kernel_rfl))
                        exact w_xor e1 e2
                    with_reducible refine xOps_cons ?_ ?_
                    · with_reducible refine xop_un ?_ ?_
                      · rfl
                      · intro vs x F hF hd
                        have e1 : F.tmps.getD 13 undef = bw (a4) := (hF.a 13 (by kernel_rfl) (by rw [hsz]; rfl)).trans hA13
                        exact m_v e1
                    with_reducible refine xOps_cons ?_ ?_
                    · with_reducible refine xop_un ?_ ?_
                      · rfl
                      · intro vs x F hF hd
                        have e115 : F.tmps.getD 115 undef = bw (a4) := (hF.v 115 7 (by kernel_rfl) (by rw [hsz]; rfl)).trans (dep_at hd 0 7 (is (bw (a4))) (by kernel_rfl) (by kernel_rfl))
                        clear hF hd
                        simp only [comes]
                        go_simp
                        refine (right25 _ _).mono ?_
                        rintro e w' ⟨rfl, hE⟩
                        first | exact ⟨_, rfl, hE, rfl⟩ | exact ⟨_, rfl, hE⟩ | exact ⟨rfl, hE⟩ | exact ⟨_, hE⟩ | exact hE
                    with_reducible refine xOps_cons ?_ ?_
                    · with_reducible refine xop_un ?_ ?_
                      · rfl
                      · intro vs x F hF hd
                        have e1 : F.tmps.getD 114 undef = bw ((rr 6 a4) ^^^ (rr 11 a4)) := (hF.v 114 6 (by kernel_rfl) (by rw [hsz]; rfl)).trans (dep_at hd 0 6 (is (bw ((rr 6 a4) ^^^ (rr 11 a4)))) (by kernel_rfl) (by kernel_rfl))
                        have e2 : F.tmps.getD 116 undef = bw (rr 25 a4) := (hF.v 116 8 (by kernel_rfl) (by rw [hsz]; rfl)).trans (dep_at hd 1 8 (is (bw (rr 25 a4))) (by kernel_rfl) (by kernel_rfl))
                        exact w_xor e1 e2
                    with_reducible refine xOps_cons ?_ ?_
                    · with_reducible refine xop_un ?_ ?_
                      · rfl
                      · intro vs x F hF hd
                        have e1 : F.tmps.getD 109 undef = bw (a7) := (hF.v 109 1 (by kernel_rfl) (by rw [hsz]; rfl)).trans (dep_at hd 0 1 (is (bw (a7))) (by kernel_rfl) (by kernel_rfl))
                        have e2 : F.tmps.getD 117 undef = bw (((rr 6 a4) ^^^ (rr 11 a4)) ^^^ (rr 25 a4)) := (hF.v 117 9 (by kernel_rfl) (by rw [hsz]; rfl)).trans (dep_at hd 1 9 (is (bw (((rr 6 a4) ^^^ (rr 11 a4)) ^^^ (rr 25 a4)))) (by kernel_rfl) (by kernel_rfl))
                        exact w_add e1 e2
                    with_reducible refine xOps_cons ?_ ?_
                    · with_reducible refine xop_un ?_ ?_
                      · rfl
                      · intro vs x F hF hd
                        have e1 : F.tmps.getD 13 undef = bw (a4) := (hF.a 13 (by kernel_rfl) (by rw [hsz]; rfl)).trans hA13
                        exact m_v e1
                    with_reducible refine xOps_cons ?_ ?_
                    · with_reducible refine xop_un ?_ ?_
                      · rfl
                      · intro vs x F hF hd
                        have e1 : F.tmps.getD 10 undef = .pointer (some ⟨S, 0, none⟩) := (hF.a 10 (by kernel_rfl) (by rw [hsz]; rfl)).trans hA10
                        exact a_i8 (n := 5) e1 rfl (by omega)
                    with_reducible refine xOps_cons ?_ ?_
                    · with_reducible refine xop_un ?_ ?_
                      · rfl
                      · intro vs x F hF hd
                        have e1 : F.tmps.getD 120 undef = .pointer (some ⟨S, 5, none⟩) := (hF.v 120 12 (by kernel_rfl) (by rw [hsz]; rfl)).trans (dep_at hd 0 12 (is (.pointer (some ⟨S, 5, none⟩))) (by kernel_rfl) (by kernel_rfl))
                        exact l_w e1 (cell_plus x c5)
                    with_reducible refine xOps_cons ?_ ?_
                    · with_reducible refine xop_un ?_ ?_
                      · rfl
                      · intro vs x F hF hd
                        have e1 : F.tmps.getD 119 undef = bw (a4) := (hF.v 119 11 (by kernel_rfl) (by rw [hsz]; rfl)).trans (dep_at hd 0 11 (is (bw (a4))) (by kernel_rfl) (by kernel_rfl))
                        have e2 : F.tmps.getD 121 undef = bw (a5) := (hF.v 121 13 (by kernel_rfl) (by rw [hsz]; rfl)).trans (dep_at hd 1 13 (is (bw (a5))) (by kernel_rfl) (by kernel_rfl))
                        exact w_and e1 e2
                    with_reducible refine xOps_cons ?_ ?_
                    · with_reducible refine xop_un ?_ ?_
                      · rfl
                      · intro vs x F hF hd
                        have e1 : F.tmps.getD 13 undef = bw (a4) := (hF.a 13 (by kernel_rfl) (by rw [hsz]; rfl)).trans hA13
                        exact m_v e1
                    with_reducible refine xOps_cons ?_ ?_
                    · with_reducible refine xop_un ?_ ?_
                      · rfl
                      · intro vs x F hF hd
                        have e1 : F.tmps.getD 123 undef = bw (a4) := (hF.v 123 15 (by kernel_rfl) (by rw [hsz]; rfl)).trans (dep_at hd 0 15 (is (bw (a4))) (by kernel_rfl) (by kernel_rfl))
                        exact w_not e1
                    with_reducible refine xOps_cons ?_ ?_
                    · with_reducible refine xop_un ?_ ?_
                      · rfl
                      · intro vs x F hF hd
                        have e1 : F.tmps.getD 10 undef = .pointer (some ⟨S, 0, none⟩) := (hF.a 10 (by kernel_rfl) (by rw [hsz]; rfl)).trans hA10
                        exact a_i8 (n := 6) e1 rfl (by omega)
                    with_reducible refine xOps_cons ?_ ?_
                    · with_reducible refine xop_un ?_ ?_
                      · rfl
                      · intro vs x F hF hd
                        have e1 : F.tmps.getD 125 undef = .pointer (some ⟨S, 6, none⟩) := (hF.v 125 17 (by kernel_rfl) (by rw [hsz]; rfl)).trans (dep_at hd 0 17 (is (.pointer (some ⟨S, 6, none⟩))) (by kernel_rfl) (by kernel_rfl))
                        exact l_w e1 (cell_plus x c6)
                    with_reducible refine xOps_cons ?_ ?_
                    · with_reducible refine xop_un ?_ ?_
                      · rfl
                      · intro vs x F hF hd
                        have e1 : F.tmps.getD 124 undef = bw (~~~(a4)) := (hF.v 124 16 (by kernel_rfl) (by rw [hsz]; rfl)).trans (dep_at hd 0 16 (is (bw (~~~(a4)))) (by kernel_rfl) (by kernel_rfl))
                        have e2 : F.tmps.getD 126 undef = bw (a6) := (hF.v 126 18 (by kernel_rfl) (by rw [hsz]; rfl)).trans (dep_at hd 1 18 (is (bw (a6))) (by kernel_rfl) (by kernel_rfl))
                        exact w_and e1 e2
                    with_reducible refine xOps_cons ?_ ?_
                    · with_reducible refine xop_un ?_ ?_
                      · rfl
                      · intro vs x F hF hd
                        have e1 : F.tmps.getD 122 undef = bw ((a4) &&& (a5)) := (hF.v 122 14 (by kernel_rfl) (by rw [hsz]; rfl)).trans (dep_at hd 0 14 (is (bw ((a4) &&& (a5)))) (by kernel_rfl) (by kernel_rfl))
                        have e2 : F.tmps.getD 127 undef = bw ((~~~(a4)) &&& (a6)) := (hF.v 127 19 (by kernel_rfl) (by rw [hsz]; rfl)).trans (dep_at hd 1 19 (is (bw ((~~~(a4)) &&& (a6)))) (by kernel_rfl) (by kernel_rfl))
                        exact w_xor e1 e2
                    with_reducible refine xOps_cons ?_ ?_
                    · with_reducible refine xop_un ?_ ?_
                      · rfl
                      · intro vs x F hF hd
                        have e1 : F.tmps.getD 118 undef = bw ((a7) + (((rr 6 a4) ^^^ (rr 11 a4)) ^^^ (rr 25 a4))) := (hF.v 118 10 (by kernel_rfl) (by rw [hsz]; rfl)).trans (dep_at hd 0 10 (is (bw ((a7) + (((rr 6 a4) ^^^ (rr 11 a4)) ^^^ (rr 25 a4))))) (by kernel_rfl) (by kernel_rfl))
                        have e2 : F.tmps.getD 128 undef = bw (((a4) &&& (a5)) ^^^ ((~~~(a4)) &&& (a6))) := (hF.v 128 20 (by kernel_rfl) (by rw [hsz]; rfl)).trans (dep_at hd 1 20 (is (bw (((a4) &&& (a5)) ^^^ ((~~~(a4)) &&& (a6))))) (by kernel_rfl) (by kernel_rfl))
                        exact w_add e1 e2
                    with_reducible refine xOps_cons ?_ ?_
                    · with_reducible refine xop_un ?_ ?_
                      · rfl
                      · intro vs x F hF hd
                        have e1 : F.tmps.getD 12 undef = nw (k) := (hF.a 12 (by kernel_rfl) (by rw [hsz]; rfl)).trans hA12
                        exact m_v e1
                    with_reducible refine xOps_cons ?_ ?_
                    · with_reducible refine xop_un ?_ ?_
                      · rfl
                      · intro vs x F hF hd
                        have e1 : F.tmps.getD 11 undef = .pointer (some ⟨C, 0, none⟩) := (hF.a 11 (by kernel_rfl) (by rw [hsz]; rfl)).trans hA11
                        have e2 : F.tmps.getD 130 undef = nw (k) := (hF.v 130 22 (by kernel_rfl) (by rw [hsz]; rfl)).trans (dep_at hd 0 22 (is (nw (k))) (by kernel_rfl) (by kernel_rfl))
                        exact a_i64 (n := k) e1 e2 (by omega)
                    with_reducible refine xOps_cons ?_ ?_
                    · with_reducible refine xop_un ?_ ?_
                      · rfl
                      · intro vs x F hF hd
                        have e1 : F.tmps.getD 131 undef = .pointer (some ⟨C, k, none⟩) := (hF.v 131 23 (by kernel_rfl) (by rw [hsz]; rfl)).trans (dep_at hd 0 23 (is (.pointer (some ⟨C, k, none⟩))) (by kernel_rfl) (by kernel_rfl))
                        exact l_w e1 (cell_plus x ck)
                    with_reducible refine xOps_cons ?_ ?_
                    · with_reducible refine xop_un ?_ ?_
                      · rfl
                      · intro vs x F hF hd
                        have e1 : F.tmps.getD 129 undef = bw (((a7) + (((rr 6 a4) ^^^ (rr 11 a4)) ^^^ (rr 25 a4))) + (((a4) &&& (a5)) ^^^ ((~~~(a4)) &&& (a6)))) := (hF.v 129 21 (by kernel_rfl) (by rw [hsz]; rfl)).trans (dep_at hd 0 21 (is (bw (((a7) + (((rr 6 a4) ^^^ (rr 11 a4)) ^^^ (rr 25 a4))) + (((a4) &&& (a5)) ^^^ ((~~~(a4)) &&& (a6)))))) (by kernel_rfl) (by kernel_rfl))
                        have e2 : F.tmps.getD 132 undef = bw (kk) := (hF.v 132 24 (by kernel_rfl) (by rw [hsz]; rfl)).trans (dep_at hd 1 24 (is (bw (kk))) (by kernel_rfl) (by kernel_rfl))
                        exact w_add e1 e2
                    with_reducible refine xOps_cons ?_ ?_
                    · with_reducible refine xop_un ?_ ?_
                      · rfl
                      · intro vs x F hF hd
                        have e1 : F.tmps.getD 12 undef = nw (k) := (hF.a 12 (by kernel_rfl) (by rw [hsz]; rfl)).trans hA12
                        exact m_v e1
                    with_reducible refine xOps_cons ?_ ?_
                    · with_reducible refine xop_un ?_ ?_
                      · rfl
                      · intro vs x F hF hd
                        have e1 : F.tmps.getD 5 undef = .pointer (some ⟨V, 0, none⟩) := (hF.a 5 (by kernel_rfl) (by rw [hsz]; rfl)).trans hA5
                        have e2 : F.tmps.getD 134 undef = nw (k) := (hF.v 134 26 (by kernel_rfl) (by rw [hsz]; rfl)).trans (dep_at hd 0 26 (is (nw (k))) (by kernel_rfl) (by kernel_rfl))
                        exact a_i64 (n := k) e1 e2 (by omega)
                    with_reducible refine xOps_cons ?_ ?_
                    · with_reducible refine xop_un ?_ ?_
                      · rfl
                      · intro vs x F hF hd
                        have e1 : F.tmps.getD 135 undef = .pointer (some ⟨V, k, none⟩) := (hF.v 135 27 (by kernel_rfl) (by rw [hsz]; rfl)).trans (dep_at hd 0 27 (is (.pointer (some ⟨V, k, none⟩))) (by kernel_rfl) (by kernel_rfl))
                        exact l_w e1 (cell_plus x cw)
                    with_reducible refine xOps_cons ?_ ?_
                    · with_reducible refine xop_un ?_ ?_
                      · rfl
                      · intro vs x F hF hd
                        have e1 : F.tmps.getD 133 undef = bw ((((a7) + (((rr 6 a4) ^^^ (rr 11 a4)) ^^^ (rr 25 a4))) + (((a4) &&& (a5)) ^^^ ((~~~(a4)) &&& (a6)))) + (kk)) := (hF.v 133 25 (by kernel_rfl) (by rw [hsz]; rfl)).trans (dep_at hd 0 25 (is (bw ((((a7) + (((rr 6 a4) ^^^ (rr 11 a4)) ^^^ (rr 25 a4))) + (((a4) &&& (a5)) ^^^ ((~~~(a4)) &&& (a6)))) + (kk)))) (by kernel_rfl) (by kernel_rfl))
                        have e2 : F.tmps.getD 136 undef = bw (ww) := (hF.v 136 28 (by kernel_rfl) (by rw [hsz]; rfl)).trans (dep_at hd 1 28 (is (bw (ww))) (by kernel_rfl) (by kernel_rfl))
                        exact w_add e1 e2
                    exact xOps_nil
                  case hst => exact ⟨is.st _, is.st _, is.st _, is.st _, is.st _, is.st _, is.st _, is.st _, is.st _, is.st _, is.st _, is.st _, is.st _, is.st _, is.st _, is.st _, is.st _, is.st _, is.st _, is.st _, is.st _, is.st _, is.st _, is.st _, is.st _, is.st _, is.st _, is.st _, is.st _, is.st _, trivial⟩
                  case hfin =>
                    intro vs x hf
                    have f29 : vs 29 = bw tt := (show vs 29 = bw (((((a7) + (((rr 6 a4) ^^^ (rr 11 a4)) ^^^ (rr 25 a4))) + (((a4) &&& (a5)) ^^^ ((~~~(a4)) &&& (a6)))) + (kk)) + (ww)) from hf.2.2.2.2.2.2.2.2.2.2.2.2.2.2.2.2.2.2.2.2.2.2.2.2.2.2.2.2.2.1).trans (by rw [HQ.out.2.2.1]; rfl)
                    clear hf
                    have hAq := HAq.out
                    subst hAq
                    clear hsz hA5 hA10 hA11 hA12 hA13
                    simp only [List.take_succ_cons, List.take_zero, List.drop_succ_cons, List.drop_zero, putAll, Act.put, List.setIfInBounds_toArray, List.set_cons_succ, List.set_cons_zero, Nat.zero_add, Nat.reduceAdd]
                    clear HAq
                    rw [f29]
                    clear f29
                    clear c0 c1 c2 c3 c4 c5 c6 c7 ck cw
                    go_upto_region 17 with fail
                    refine wp_at fun Y3 hY3 => ?_
                    replace HS := Lib.hid (show RfR w V B R S C s0 ws [a0, a1, a2, a3, a4, a5, a6, a7] Y3 by
                      rw [hY3]
                      exact RfR.ext' HS.out (by repeat (first | exact Ext.refl _ | assumption | apply Ext.plus_ | apply Ext.alloc | apply Ext.drew)))
                    clear hY3
                    have c0 : Y3.cell? ⟨S, 0, none⟩ = some (bw a0) := wcell HS.out.st (k := 0) (by simp)
                    have c1 : Y3.cell? ⟨S, 1, none⟩ = some (bw a1) := wcell HS.out.st (k := 1) (by simp)
                    have c2 : Y3.cell? ⟨S, 2, none⟩ = some (bw a2) := wcell HS.out.st (k := 2) (by simp)
                    have c3 : Y3.cell? ⟨S, 3, none⟩ = some (bw a3) := wcell HS.out.st (k := 3) (by simp)
                    have c4 : Y3.cell? ⟨S, 4, none⟩ = some (bw a4) := wcell HS.out.st (k := 4) (by simp)
                    have c5 : Y3.cell? ⟨S, 5, none⟩ = some (bw a5) := wcell HS.out.st (k := 5) (by simp)
                    have c6 : Y3.cell? ⟨S, 6, none⟩ = some (bw a6) := wcell HS.out.st (k := 6) (by simp)
                    have c7 : Y3.cell? ⟨S, 7, none⟩ = some (bw a7) := wcell HS.out.st (k := 7) (by simp)
                    refine act_at fun A0 hAq => ?_
                    have hsz : A0.tmps.size = 196 := by
                      rw [hAq]
                      rfl
                    have hA10 : A0.tmps.getD 10 undef = .pointer (some ⟨S, 0, none⟩) := by
                      rw [hAq]
                      first | rfl | kernel_rfl
                    have hA14 : A0.tmps.getD 14 undef = bw (a0) := by
                      rw [hAq]
                      first | rfl | kernel_rfl
                    have HAq := Lib.hid hAq
                    clear hAq
                    apply wp_region_ext 24 [is (bw (a0)), is (bw (rr 2 a0)), is (bw (a0)), is (bw (rr 13 a0)), is (bw ((rr 2 a0) ^^^ (rr 13 a0))), is (bw (a0)), is (bw (rr 22 a0)), is (bw (((rr 2 a0) ^^^ (rr 13 a0)) ^^^ (rr 22 a0))), is (bw (a0)), is (.pointer (some ⟨S, 1, none⟩)), is (bw (a1)), is (bw ((a0) &&& (a1))), is (bw (a0)), is (.pointer (some ⟨S, 2, none⟩)), is (bw (a2)), is (bw ((a0) &&& (a2))), is (bw (((a0) &&& (a1)) ^^^ ((a0) &&& (a2)))), is (.pointer (some ⟨S, 1, none⟩)), is (bw (a1)), is (.pointer (some ⟨S, 2, none⟩)), is (bw (a2)), is (bw ((a1) &&& (a2))), is (bw ((((a0) &&& (a1)) ^^^ ((a0) &&& (a2))) ^^^ ((a1) &&& (a2)))), is (bw ((((rr 2 a0) ^^^ (rr 13 a0)) ^^^ (rr 22 a0)) + ((((a0) &&& (a1)) ^^^ ((a0) &&& (a2))) ^^^ ((a1) &&& (a2)))))] (by kernel_rfl) (by kernel_rfl) rfl
                    case hops =>
                      simp only [List.take_succ_cons, List.take_zero]
                      with_reducible refine xOps_cons ?_ ?_
                      · with_reducible refine xop_un ?_ ?_
                        · rfl
                        · intro vs x F hF hd
                          have e1 : F.tmps.getD 14 undef = bw (a0) := (hF.a 14 (by kernel_rfl) (by rw [hsz]; rfl)).trans hA14
                          exact m_v e1
                      with_reducible refine xOps_cons ?_ ?_
                      · with_reducible refine xop_un ?_ ?_
                        · rfl
                        · intro vs x F hF hd
                          have e138 : F.tmps.getD 138 undef = bw (a0) := (hF.v 138 0 (by kernel_rfl) (by rw [hsz]; rfl)).trans (dep_at hd 0 0 (is (bw (a0))) (by kernel_rfl) (by kernel_rfl))
                          clear hF hd
                          simp only [comes]
                          go_simp
                          refine (right2 _ _).mono ?_
                          rintro e w' ⟨rfl, hE⟩
                          first | exact ⟨_, rfl, hE, rfl⟩ | exact ⟨_, rfl, hE⟩ | exact ⟨rfl, hE⟩ | exact ⟨_, hE⟩ | exact hE
                      with_reducible refine xOps_cons ?_ ?_
                      · with_reducible refine xop_un ?_ ?_
                        · rfl
                        · intro vs x F hF hd
                          have e1 : F.tmps.getD 14 undef = bw (a0) := (hF.a 14 (by kernel_rfl) (by rw [hsz]; rfl)).trans hA14
                          exact m_v e1
                      with_reducible refine xOps_cons ?_ ?_
                      · with_reducible refine xop_un ?_ ?_
                        · rfl
                        · intro vs x F hF hd
                          have e140 : F.tmps.getD 140 undef = bw (a0) := (hF.v 140 2 (by kernel_rfl) (by rw [hsz]; rfl)).trans (dep_at hd 0 2 (is (bw (a0))) (by kernel_rfl) (by kernel_rfl))
                          clear hF hd
                          simp only [comes]
                          go_simp
                          refine (right13 _ _).mono ?_
                          rintro e w' ⟨rfl, hE⟩
                          first | exact ⟨_, rfl, hE, rfl⟩ | exact ⟨_, rfl, hE⟩ | exact ⟨rfl, hE⟩ | exact ⟨_, hE⟩ | exact hE
                      with_reducible refine xOps_cons ?_ ?_
                      · with_reducible refine xop_un ?_ ?_
                        · rfl
                        · intro vs x F hF hd
                          have e1 : F.tmps.getD 139 undef = bw (rr 2 a0) := (hF.v 139 1 (by kernel_rfl) (by rw [hsz]; rfl)).trans (dep_at hd 0 1 (is (bw (rr 2 a0))) (by kernel_rfl) (by kernel_rfl))
                          have e2 : F.tmps.getD 141 undef = bw (rr 13 a0) := (hF.v 141 3 (by kernel_rfl) (by rw [hsz]; rfl)).trans (dep_at hd 1 3 (is (bw (rr 13 a0))) (by kernel_rfl) (by kernel_rfl))
                          exact w_xor e1 e2
                      with_reducible refine xOps_cons ?_ ?_
                      · with_reducible refine xop_un ?_ ?_
                        · rfl
                        · intro vs x F hF hd
                          have e1 : F.tmps.getD 14 undef = bw (a0) := (hF.a 14 (by kernel_rfl) (by rw [hsz]; rfl)).trans hA14
                          exact m_v e1
                      with_reducible refine xOps_cons ?_ ?_
                      · with_reducible refine xop_un ?_ ?_
                        · rfl
                        · intro vs x F hF hd
                          have e143 : F.tmps.getD 143 undef = bw (a0) := (hF.v 143 5 (by kernel_rfl) (by rw [hsz]; rfl)).trans (dep_at hd 0 5 (is (bw (a0))) (by kernel_rfl) (by kernel_rfl))
                          clear hF hd
                          simp only [comes]
                          go_simp
                          refine (right22 _ _).mono ?_
                          rintro e w' ⟨rfl, hE⟩
                          first | exact ⟨_, rfl, hE, rfl⟩ | exact ⟨_, rfl, hE⟩ | exact ⟨rfl, hE⟩ | exact ⟨_, hE⟩ | exact hE
                      with_reducible refine xOps_cons ?_ ?_
                      · with_reducible refine xop_un ?_ ?_
                        · rfl
                        · intro vs x F hF hd
                          have e1 : F.tmps.getD 142 undef = bw ((rr 2 a0) ^^^ (rr 13 a0)) := (hF.v 142 4 (by kernel_rfl) (by rw [hsz]; rfl)).trans (dep_at hd 0 4 (is (bw ((rr 2 a0) ^^^ (rr 13 a0)))) (by kernel_rfl) (by kernel_rfl))
                          have e2 : F.tmps.getD 144 undef = bw (rr 22 a0) := (hF.v 144 6 (by kernel_rfl) (by rw [hsz]; rfl)).trans (dep_at hd 1 6 (is (bw (rr 22 a0))) (by kernel_rfl) (by kernel_rfl))
                          exact w_xor e1 e2
                      with_reducible refine xOps_cons ?_ ?_
                      · with_reducible refine xop_un ?_ ?_
                        · rfl
                        · intro vs x F hF hd
                          have e1 : F.tmps.getD 14 undef = bw (a0) := (hF.a 14 (by kernel_rfl) (by rw [hsz]; rfl)).trans hA14
                          exact m_v e1
                      with_reducible refine xOps_cons ?_ ?_
                      · with_reducible refine xop_un ?_ ?_
                        · rfl
                        · intro vs x F hF hd
                          have e1 : F.tmps.getD 10 undef = .pointer (some ⟨S, 0, none⟩) := (hF.a 10 (by kernel_rfl) (by rw [hsz]; rfl)).trans hA10
                          exact a_i8 (n := 1) e1 rfl (by omega)
                      with_reducible refine xOps_cons ?_ ?_
                      · with_reducible refine xop_un ?_ ?_
                        · rfl
                        · intro vs x F hF hd
                          have e1 : F.tmps.getD 147 undef = .pointer (some ⟨S, 1, none⟩) := (hF.v 147 9 (by kernel_rfl) (by rw [hsz]; rfl)).trans (dep_at hd 0 9 (is (.pointer (some ⟨S, 1, none⟩))) (by kernel_rfl) (by kernel_rfl))
                          exact l_w e1 (cell_plus x c1)
                      with_reducible refine xOps_cons ?_ ?_
                      · with_reducible refine xop_un ?_ ?_
                        · rfl
                        · intro vs x F hF hd
                          have e1 : F.tmps.getD 146 undef = bw (a0) := (hF.v 146 8 (by kernel_rfl) (by rw [hsz]; rfl)).trans (dep_at hd 0 8 (is (bw (a0))) (by kernel_rfl) (by kernel_rfl))
                          have e2 : F.tmps.getD 148 undef = bw (a1) := (hF.v 148 10 (by kernel_rfl) (by rw [hsz]; rfl)).trans (dep_at hd 1 10 (is (bw (a1))) (by kernel_rfl) (by kernel_rfl))
                          exact w_and e1 e2
                      with_reducible refine xOps_cons ?_ ?_
                      · with_reducible refine xop_un ?_ ?_
                        · rfl
                        · intro vs x F hF hd
                          have e1 : F.tmps.getD 14 undef = bw (a0) := (hF.a 14 (by kernel_rfl) (by rw [hsz]; rfl)).trans hA14
                          exact m_v e1
                      with_reducible refine xOps_cons ?_ ?_
                      · with_reducible refine xop_un ?_ ?_
                        · rfl
                        · intro vs x F hF hd
                          have e1 : F.tmps.getD 10 undef = .pointer (some ⟨S, 0, none⟩) := (hF.a 10 (by kernel_rfl) (by rw [hsz]; rfl)).trans hA10
                          exact a_i8 (n := 2) e1 rfl (by omega)
                      with_reducible refine xOps_cons ?_ ?_
                      · with_reducible refine xop_un ?_ ?_
                        · rfl
                        · intro vs x F hF hd
                          have e1 : F.tmps.getD 151 undef = .pointer (some ⟨S, 2, none⟩) := (hF.v 151 13 (by kernel_rfl) (by rw [hsz]; rfl)).trans (dep_at hd 0 13 (is (.pointer (some ⟨S, 2, none⟩))) (by kernel_rfl) (by kernel_rfl))
                          exact l_w e1 (cell_plus x c2)
                      with_reducible refine xOps_cons ?_ ?_
                      · with_reducible refine xop_un ?_ ?_
                        · rfl
                        · intro vs x F hF hd
                          have e1 : F.tmps.getD 150 undef = bw (a0) := (hF.v 150 12 (by kernel_rfl) (by rw [hsz]; rfl)).trans (dep_at hd 0 12 (is (bw (a0))) (by kernel_rfl) (by kernel_rfl))
                          have e2 : F.tmps.getD 152 undef = bw (a2) := (hF.v 152 14 (by kernel_rfl) (by rw [hsz]; rfl)).trans (dep_at hd 1 14 (is (bw (a2))) (by kernel_rfl) (by kernel_rfl))
                          exact w_and e1 e2
                      with_reducible refine xOps_cons ?_ ?_
                      · with_reducible refine xop_un ?_ ?_
                        · rfl
                        · intro vs x F hF hd
                          have e1 : F.tmps.getD 149 undef = bw ((a0) &&& (a1)) := (hF.v 149 11 (by kernel_rfl) (by rw [hsz]; rfl)).trans (dep_at hd 0 11 (is (bw ((a0) &&& (a1)))) (by kernel_rfl) (by kernel_rfl))
                          have e2 : F.tmps.getD 153 undef = bw ((a0) &&& (a2)) := (hF.v 153 15 (by kernel_rfl) (by rw [hsz]; rfl)).trans (dep_at hd 1 15 (is (bw ((a0) &&& (a2)))) (by kernel_rfl) (by kernel_rfl))
                          exact w_xor e1 e2
                      with_reducible refine xOps_cons ?_ ?_
                      · with_reducible refine xop_un ?_ ?_
                        · rfl
                        · intro vs x F hF hd
                          have e1 : F.tmps.getD 10 undef = .pointer (some ⟨S, 0, none⟩) := (hF.a 10 (by kernel_rfl) (by rw [hsz]; rfl)).trans hA10
                          exact a_i8 (n := 1) e1 rfl (by omega)
                      with_reducible refine xOps_cons ?_ ?_
                      · with_reducible refine xop_un ?_ ?_
                        · rfl
                        · intro vs x F hF hd
                          have e1 : F.tmps.getD 155 undef = .pointer (some ⟨S, 1, none⟩) := (hF.v 155 17 (by kernel_rfl) (by rw [hsz]; rfl)).trans (dep_at hd 0 17 (is (.pointer (some ⟨S, 1, none⟩))) (by kernel_rfl) (by kernel_rfl))
                          exact l_w e1 (cell_plus x c1)
                      with_reducible refine xOps_cons ?_ ?_
                      · with_reducible refine xop_un ?_ ?_
                        · rfl
                        · intro vs x F hF hd
                          have e1 : F.tmps.getD 10 undef = .pointer (some ⟨S, 0, none⟩) := (hF.a 10 (by kernel_rfl) (by rw [hsz]; rfl)).trans hA10
                          exact a_i8 (n := 2) e1 rfl (by omega)
                      with_reducible refine xOps_cons ?_ ?_
                      · with_reducible refine xop_un ?_ ?_
                        · rfl
                        · intro vs x F hF hd
                          have e1 : F.tmps.getD 157 undef = .pointer (some ⟨S, 2, none⟩) := (hF.v 157 19 (by kernel_rfl) (by rw [hsz]; rfl)).trans (dep_at hd 0 19 (is (.pointer (some ⟨S, 2, none⟩))) (by kernel_rfl) (by kernel_rfl))
                          exact l_w e1 (cell_plus x c2)
                      with_reducible refine xOps_cons ?_ ?_
                      · with_reducible refine xop_un ?_ ?_
                        · rfl
                        · intro vs x F hF hd
                          have e1 : F.tmps.getD 156 undef = bw (a1) := (hF.v 156 18 (by kernel_rfl) (by rw [hsz]; rfl)).trans (dep_at hd 0 18 (is (bw (a1))) (by kernel_rfl) (by kernel_rfl))
                          have e2 : F.tmps.getD 158 undef = bw (a2) := (hF.v 158 20 (by kernel_rfl) (by rw [hsz]; rfl)).trans (dep_at hd 1 20 (is (bw (a2))) (by kernel_rfl) (by kernel_rfl))
                          exact w_and e1 e2
                      with_reducible refine xOps_cons ?_ ?_
                      · with_reducible refine xop_un ?_ ?_
                        · rfl
                        · intro vs x F hF hd
                          have e1 : F.tmps.getD 154 undef = bw (((a0) &&& (a1)) ^^^ ((a0) &&& (a2))) := (hF.v 154 16 (by kernel_rfl) (by rw [hsz]; rfl)).trans (dep_at hd 0 16 (is (bw (((a0) &&& (a1)) ^^^ ((a0) &&& (a2))))) (by kernel_rfl) (by kernel_rfl))
                          have e2 : F.tmps.getD 159 undef = bw ((a1) &&& (a2)) := (hF.v 159 21 (by kernel_rfl) (by rw [hsz]; rfl)).trans (dep_at hd 1 21 (is (bw ((a1) &&& (a2)))) (by kernel_rfl) (by kernel_rfl))
                          exact w_xor e1 e2
                      with_reducible refine xOps_cons ?_ ?_
                      · with_reducible refine xop_un ?_ ?_
                        · rfl
                        · intro vs x F hF hd
                          have e1 : F.tmps.getD 145 undef = bw (((rr 2 a0) ^^^ (rr 13 a0)) ^^^ (rr 22 a0)) := (hF.v 145 7 (by kernel_rfl) (by rw [hsz]; rfl)).trans (dep_at hd 0 7 (is (bw (((rr 2 a0) ^^^ (rr 13 a0)) ^^^ (rr 22 a0)))) (by kernel_rfl) (by kernel_rfl))
                          have e2 : F.tmps.getD 160 undef = bw ((((a0) &&& (a1)) ^^^ ((a0) &&& (a2))) ^^^ ((a1) &&& (a2))) := (hF.v 160 22 (by kernel_rfl) (by rw [hsz]; rfl)).trans (dep_at hd 1 22 (is (bw ((((a0) &&& (a1)) ^^^ ((a0) &&& (a2))) ^^^ ((a1) &&& (a2))))) (by kernel_rfl) (by kernel_rfl))
                          exact w_add e1 e2
                      exact xOps_nil
                    case hst => exact ⟨is.st _, is.st _, is.st _, is.st _, is.st _, is.st _, is.st _, is.st _, is.st _, is.st _, is.st _, is.st _, is.st _, is.st _, is.st _, is.st _, is.st _, is.st _, is.st _, is.st _, is.st _, is.st _, is.st _, is.st _, trivial⟩
                    case hfin =>
                      intro vs x hf
                      have f23 : vs 23 = bw uu := (show vs 23 = bw ((((rr 2 a0) ^^^ (rr 13 a0)) ^^^ (rr 22 a0)) + ((((a0) &&& (a1)) ^^^ ((a0) &&& (a2))) ^^^ ((a1) &&& (a2)))) from hf.2.2.2.2.2.2.2.2.2.2.2.2.2.2.2.2.2.2.2.2.2.2.2.1).trans (by rw [HQ.out.2.2.2]; rfl)
                      clear hf
                      have hAq := HAq.out
                      subst hAq
                      clear hsz hA10 hA14
                      simp only [List.take_succ_cons, List.take_zero, List.drop_succ_cons, List.drop_zero, putAll, Act.put, List.setIfInBounds_toArray, List.set_cons_succ, List.set_cons_zero, Nat.zero_add, Nat.reduceAdd]
                      clear HAq
                      rw [f23]
                      clear f23
                      clear c0 c1 c2 c3 c4 c5 c6 c7
                      go_upto_region 18 with fail
                      refine wp_at fun Y4 hY4 => ?_
                      replace HS := Lib.hid (show RfR w V B R S C s0 ws [a0, a1, a2, a3, a4, a5, a6, a7] Y4 by
                        rw [hY4]
                        exact RfR.ext' HS.out (by repeat (first | exact Ext.refl _ | assumption | apply Ext.plus_ | apply Ext.alloc | apply Ext.drew)))
                      clear hY4
                      have c0 : Y4.cell? ⟨S, 0, none⟩ = some (bw a0) := wcell HS.out.st (k := 0) (by simp)
                      have c1 : Y4.cell? ⟨S, 1, none⟩ = some (bw a1) := wcell HS.out.st (k := 1) (by simp)
                      have c2 : Y4.cell? ⟨S, 2, none⟩ = some (bw a2) := wcell HS.out.st (k := 2) (by simp)
                      have c3 : Y4.cell? ⟨S, 3, none⟩ = some (bw a3) := wcell HS.out.st (k := 3) (by simp)
                      have c4 : Y4.cell? ⟨S, 4, none⟩ = some (bw a4) := wcell HS.out.st (k := 4) (by simp)
                      have c5 : Y4.cell? ⟨S, 5, none⟩ = some (bw a5) := wcell HS.out.st (k := 5) (by simp)
                      have c6 : Y4.cell? ⟨S, 6, none⟩ = some (bw a6) := wcell HS.out.st (k := 6) (by simp)
                      have c7 : Y4.cell? ⟨S, 7, none⟩ = some (bw a7) := wcell HS.out.st (k := 7) (by simp)
                      refine act_at fun A0 hAq => ?_
                      have hsz : A0.tmps.size = 196 := by
                        rw [hAq]
                        rfl
                      have hA10 : A0.tmps.getD 10 undef = .pointer (some ⟨S, 0, none⟩) := by
                        rw [hAq]
                        first | rfl | kernel_rfl
                      have hA15 : A0.tmps.getD 15 undef = bw (tt) := by
                        rw [hAq]
                        first | rfl | kernel_rfl
                      have hA16 : A0.tmps.getD 16 undef = bw (uu) := by
                        rw [hAq]
                        first | rfl | kernel_rfl
                      have HAq := Lib.hid hAq
                      clear hAq
                      apply wp_region_seq 20 [is (bw (tt)), is (bw (uu)), is (bw ((tt) + (uu))), is (.pointer (some ⟨S, 0, none⟩)), is (bw (a0)), is (.pointer (some ⟨S, 1, none⟩)), is (bw (a1)), is (.pointer (some ⟨S, 2, none⟩)), is (bw (a2)), is (.pointer (some ⟨S, 3, none⟩)), is (bw (a3)), is (bw (tt)), is (bw ((a3) + (tt))), is (.pointer (some ⟨S, 4, none⟩)), is (bw (a4)), is (.pointer (some ⟨S, 5, none⟩)), is (bw (a5)), is (.pointer (some ⟨S, 6, none⟩)), is (bw (a6)), is (.agg #[bw ((tt) + (uu)), bw (a0), bw (a1), bw (a2), bw ((a3) + (tt)), bw (a4), bw (a5), bw (a6)])] (by kernel_rfl) (by kernel_rfl) rfl
                      case hops =>
                        simp only [List.take_succ_cons, List.take_zero]
                        with_reducible refine xOps_cons ?_ ?_
                        · with_reducible refine xop_un ?_ ?_
                          · rfl
                          · intro vs x F hF hd
                            have e1 : F.tmps.getD 15 undef = bw (tt) := (hF.a 15 (by kernel_rfl) (by rw [hsz]; rfl)).trans hA15
                            exact m_v e1
                        with_reducible refine xOps_cons ?_ ?_
                        · with_reducible refine xop_un ?_ ?_
                          · rfl
                          · intro vs x F hF hd
                            have e1 : F.tmps.getD 16 undef = bw (uu) := (hF.a 16 (by kernel_rfl) (by rw [hsz]; rfl)).trans hA16
                            exact m_v e1
                        with_reducible refine xOps_cons ?_ ?_
                        · with_reducible refine xop_un ?_ ?_
                          · rfl
                          · intro vs x F hF hd
                            have e1 : F.tmps.getD 162 undef = bw (tt) := (hF.v 162 0 (by kernel_rfl) (by rw [hsz]; rfl)).trans (dep_at hd 0 0 (is (bw (tt))) (by kernel_rfl) (by kernel_rfl))
                            have e2 : F.tmps.getD 163 undef = bw (uu) := (hF.v 163 1 (by kernel_rfl) (by rw [hsz]; rfl)).trans (dep_at hd 1 1 (is (bw (uu))) (by kernel_rfl) (by kernel_rfl))
                            exact w_add e1 e2
                        with_reducible refine xOps_cons ?_ ?_
                        · with_reducible refine xop_un ?_ ?_
                          · rfl
                          · intro vs x F hF hd
                            have e1 : F.tmps.getD 10 undef = .pointer (some ⟨S, 0, none⟩) := (hF.a 10 (by kernel_rfl) (by rw [hsz]; rfl)).trans hA10
                            exact a_i8 (n := 0) e1 rfl (by omega)
                        with_reducible refine xOps_cons ?_ ?_
                        · with_reducible refine xop_un ?_ ?_
                          · rfl
                          · intro vs x F hF hd
                            have e1 : F.tmps.getD 165 undef = .pointer (some ⟨S, 0, none⟩) := (hF.v 165 3 (by kernel_rfl) (by rw [hsz]; rfl)).trans (dep_at hd 0 3 (is (.pointer (some ⟨S, 0, none⟩))) (by kernel_rfl) (by kernel_rfl))
                            exact l_w e1 (cell_plus x c0)
                        with_reducible refine xOps_cons ?_ ?_
                        · with_reducible refine xop_un ?_ ?_
                          · rfl
                          · intro vs x F hF hd
                            have e1 : F.tmps.getD 10 undef = .pointer (some ⟨S, 0, none⟩) := (hF.a 10 (by kernel_rfl) (by rw [hsz]; rfl)).trans hA10
                            exact a_i8 (n := 1) e1 rfl (by omega)
                        with_reducible refine xOps_cons ?_ ?_
                        · with_reducible refine xop_un ?_ ?_
                          · rfl
                          · intro vs x F hF hd
                            have e1 : F.tmps.getD 167 undef = .pointer (some ⟨S, 1, none⟩) := (hF.v 167 5 (by kernel_rfl) (by rw [hsz]; rfl)).trans (dep_at hd 0 5 (is (.pointer (some ⟨S, 1, none⟩))) (by kernel_rfl) (by kernel_rfl))
                            exact l_w e1 (cell_plus x c1)
                        with_reducible refine xOps_cons ?_ ?_
                        · with_reducible refine xop_un ?_ ?_
                          · rfl
                          · intro vs x F hF hd
                            have e1 : F.tmps.getD 10 undef = .pointer (some ⟨S, 0, none⟩) := (hF.a 10 (by kernel_rfl) (by rw [hsz]; rfl)).trans hA10
                            exact a_i8 (n := 2) e1 rfl (by omega)
                        with_reducible refine xOps_cons ?_ ?_
                        · with_reducible refine xop_un ?_ ?_
                          · rfl
                          · intro vs x F hF hd
                            have e1 : F.tmps.getD 169 undef = .pointer (some ⟨S, 2, none⟩) := (hF.v 169 7 (by kernel_rfl) (by rw [hsz]; rfl)).trans (dep_at hd 0 7 (is (.pointer (some ⟨S, 2, none⟩))) (by kernel_rfl) (by kernel_rfl))
                            exact l_w e1 (cell_plus x c2)
                        with_reducible refine xOps_cons ?_ ?_
                        · with_reducible refine xop_un ?_ ?_
                          · rfl
                          · intro vs x F hF hd
                            have e1 : F.tmps.getD 10 undef = .pointer (some ⟨S, 0, none⟩) := (hF.a 10 (by kernel_rfl) (by rw [hsz]; rfl)).trans hA10
                            exact a_i8 (n := 3) e1 rfl (by omega)
                        with_reducible refine xOps_cons ?_ ?_
                        · with_reducible refine xop_un ?_ ?_
                          · rfl
                          · intro vs x F hF hd
                            have e1 : F.tmps.getD 171 undef = .pointer (some ⟨S, 3, none⟩) := (hF.v 171 9 (by kernel_rfl) (by rw [hsz]; rfl)).trans (dep_at hd 0 9 (is (.pointer (some ⟨S, 3, none⟩))) (by kernel_rfl) (by kernel_rfl))
                            exact l_w e1 (cell_plus x c3)
                        with_reducible refine xOps_cons ?_ ?_
                        · with_reducible refine xop_un ?_ ?_
                          · rfl
                          · intro vs x F hF hd
                            have e1 : F.tmps.getD 15 undef = bw (tt) := (hF.a 15 (by kernel_rfl) (by rw [hsz]; rfl)).trans hA15
                            exact m_v e1
                        with_reducible refine xOps_cons ?_ ?_
                        · with_reducible refine xop_un ?_ ?_
                          · rfl
                          · intro vs x F hF hd
                            have e1 : F.tmps.getD 172 undef = bw (a3) := (hF.v 172 10 (by kernel_rfl) (by rw [hsz]; rfl)).trans (dep_at hd 0 10 (is (bw (a3))) (by kernel_rfl) (by kernel_rfl))
                            have e2 : F.tmps.getD 173 undef = bw (tt) := (hF.v 173 11 (by kernel_rfl) (by rw [hsz]; rfl)).trans (dep_at hd 1 11 (is (bw (tt))) (by kernel_rfl) (by kernel_rfl))
                            exact w_add e1 e2
                        with_reducible refine xOps_cons ?_ ?_
                        · with_reducible refine xop_un ?_ ?_
                          · rfl
                          · intro vs x F hF hd
                            have e1 : F.tmps.getD 10 undef = .pointer (some ⟨S, 0, none⟩) := (hF.a 10 (by kernel_rfl) (by rw [hsz]; rfl)).trans hA10
                            exact a_i8 (n := 4) e1 rfl (by omega)
                        with_reducible refine xOps_cons ?_ ?_
                        · with_reducible refine xop_un ?_ ?_
                          · rfl
                          · intro vs x F hF hd
                            have e1 : F.tmps.getD 175 undef = .pointer (some ⟨S, 4, none⟩) := (hF.v 175 13 (by kernel_rfl) (by rw [hsz]; rfl)).trans (dep_at hd 0 13 (is (.pointer (some ⟨S, 4, none⟩))) (by kernel_rfl) (by kernel_rfl))
                            exact l_w e1 (cell_plus x c4)
                        with_reducible refine xOps_cons ?_ ?_
                        · with_reducible refine xop_un ?_ ?_
                          · rfl
                          · intro vs x F hF hd
                            have e1 : F.tmps.getD 10 undef = .pointer (some ⟨S, 0, none⟩) := (hF.a 10 (by kernel_rfl) (by rw [hsz]; rfl)).trans hA10
                            exact a_i8 (n := 5) e1 rfl (by omega)
                        with_reducible refine xOps_cons ?_ ?_
                        · with_reducible refine xop_un ?_ ?_
                          · rfl
                          · intro vs x F hF hd
                            have e1 : F.tmps.getD 177 undef = .pointer (some ⟨S, 5, none⟩) := (hF.v 177 15 (by kernel_rfl) (by rw [hsz]; rfl)).trans (dep_at hd 0 15 (is (.pointer (some ⟨S, 5, none⟩))) (by kernel_rfl) (by kernel_rfl))
                            exact l_w e1 (cell_plus x c5)
                        with_reducible refine xOps_cons ?_ ?_
                        · with_reducible refine xop_un ?_ ?_
                          · rfl
                          · intro vs x F hF hd
                            have e1 : F.tmps.getD 10 undef = .pointer (some ⟨S, 0, none⟩) := (hF.a 10 (by kernel_rfl) (by rw [hsz]; rfl)).trans hA10
                            exact a_i8 (n := 6) e1 rfl (by omega)
                        with_reducible refine xOps_cons ?_ ?_
                        · with_reducible refine xop_un ?_ ?_
                          · rfl
                          · intro vs x F hF hd
                            have e1 : F.tmps.getD 179 undef = .pointer (some ⟨S, 6, none⟩) := (hF.v 179 17 (by kernel_rfl) (by rw [hsz]; rfl)).trans (dep_at hd 0 17 (is (.pointer (some ⟨S, 6, none⟩))) (by kernel_rfl) (by kernel_rfl))
                            exact l_w e1 (cell_plus x c6)
                        with_reducible refine xOps_cons ?_ ?_
                        · with_reducible refine xop_un ?_ ?_
                          · rfl
                          · intro vs x F hF hd
                            have e164 : F.tmps.getD 164 undef = bw ((tt) + (uu)) := (hF.v 164 2 (by kernel_rfl) (by rw [hsz]; rfl)).trans (dep_at hd 0 2 (is (bw ((tt) + (uu)))) (by kernel_rfl) (by kernel_rfl))
                            have e166 : F.tmps.getD 166 undef = bw (a0) := (hF.v 166 4 (by kernel_rfl) (by rw [hsz]; rfl)).trans (dep_at hd 1 4 (is (bw (a0))) (by kernel_rfl) (by kernel_rfl))
                            have e168 : F.tmps.getD 168 undef = bw (a1) := (hF.v 168 6 (by kernel_rfl) (by rw [hsz]; rfl)).trans (dep_at hd 2 6 (is (bw (a1))) (by kernel_rfl) (by kernel_rfl))
                            have e170 : F.tmps.getD 170 undef = bw (a2) := (hF.v 170 8 (by kernel_rfl) (by rw [hsz]; rfl)).trans (dep_at hd 3 8 (is (bw (a2))) (by kernel_rfl) (by kernel_rfl))
                            have e174 : F.tmps.getD 174 undef = bw ((a3) + (tt)) := (hF.v 174 12 (by kernel_rfl) (by rw [hsz]; rfl)).trans (dep_at hd 4 12 (is (bw ((a3) + (tt)))) (by kernel_rfl) (by kernel_rfl))
                            have e176 : F.tmps.getD 176 undef = bw (a4) := (hF.v 176 14 (by kernel_rfl) (by rw [hsz]; rfl)).trans (dep_at hd 5 14 (is (bw (a4))) (by kernel_rfl) (by kernel_rfl))
                            have e178 : F.tmps.getD 178 undef = bw (a5) := (hF.v 178 16 (by kernel_rfl) (by rw [hsz]; rfl)).trans (dep_at hd 6 16 (is (bw (a5))) (by kernel_rfl) (by kernel_rfl))
                            have e180 : F.tmps.getD 180 undef = bw (a6) := (hF.v 180 18 (by kernel_rfl) (by rw [hsz]; rfl)).trans (dep_at hd 7 18 (is (bw (a6))) (by kernel_rfl) (by kernel_rfl))
                            exact w_build8 e164 e166 e168 e170 e174 e176 e178 e180
                        exact xOps_nil
                      case hst => exact ⟨is.st _, is.st _, is.st _, is.st _, is.st _, is.st _, is.st _, is.st _, is.st _, is.st _, is.st _, is.st _, is.st _, is.st _, is.st _, is.st _, is.st _, is.st _, is.st _, is.st _, trivial⟩
                      case hfin =>
                        intro vs x hf
                        have f19 : vs 19 = .agg #[bw ((tt) + (uu)), bw (a0), bw (a1), bw (a2), bw ((a3) + (tt)), bw (a4), bw (a5), bw (a6)] := hf.2.2.2.2.2.2.2.2.2.2.2.2.2.2.2.2.2.2.2.1
                        clear hf
                        have hAq := HAq.out
                        subst hAq
                        clear hsz hA10 hA15 hA16
                        simp only [List.take_succ_cons, List.take_zero, List.drop_succ_cons, List.drop_zero, putAll, Act.put, List.setIfInBounds_toArray, List.set_cons_succ, List.set_cons_zero, Nat.zero_add, Nat.reduceAdd]
                        clear HAq
                        rw [f19]
                        clear f19
                        clear c0 c1 c2 c3 c4 c5 c6 c7
                        have hs := RfR.ext' HS.out (show Ext Y4 (Y4.plus x) from (by repeat (first | exact Ext.refl _ | assumption | apply Ext.plus_ | apply Ext.alloc | apply Ext.drew)))
                        refine wl_store rfl 32 (.tmp 10) (.tmp 181) rfl hs.st ([tt + uu, a0, a1, a2, a3 + tt, a4, a5, a6].map bw) rfl rfl rfl (by kernel_rfl) (one_cells _) fun W3 hB3 hx => ?_
                        have HS3 := Lib.hid (hs.stb hx hB3 hBS hRS hVS hCS hwS)
                        clear hs hB3 hx HS
                        go_wp2
                        go_roundw
                        case rel =>
                          refine ⟨k + 1, by omega, by go_num, Lib.hid ?_⟩
                          have hs := HS3.out
                          obtain ⟨q1, q2, q3, q4⟩ := HQ.out
                          have e : rounds ws s0 (k + 1) = [tt + uu, a0, a1, a2, a3 + tt, a4, a5, a6] := by
                            rw [rounds, ← HR.out, ← q1, ← q2, rnd, ← q3, q4, BitVec.add_assoc]
                          rw [e]
                          exact hs
                        case measure => simp [intOf]; omega
              · obtain rfl : k = 64 := by omega
                clear hlt hk
                obtain ⟨rs, hrs⟩ : ∃ rs, rs = rounds ws s0 64 := ⟨_, rfl⟩
                rw [← hrs] at HS
                have hrl : rs.length = 8 := by rw [hrs]; exact rounds_len HL.out.2 64
                have HRS := Lib.hid (And.intro hrs hrl)
                clear hrs hrl
                replace HS : Hid (RfR w V B R S C (fin s0 rs 0) ws rs wr) := HS
                go_upto_region 19 with fail
                refine wp_at fun Z hZ => ?_
                rw [← hZ] at HS
                clear hZ
                go_wp2
                go_loopw [17] (fun i wr => ∃ k : Nat, k ≤ 8 ∧ i = nw k ∧ Hid (RfR w V B R S C (fin s0 rs k) ws rs wr)) (fun i _ => 8 - (intOf i).toNat)
                case atStart => exact ⟨0, Nat.zero_le _, rfl, HS⟩
                case round =>
                  clear HS
                  obtain ⟨k, hk, rfl, HS⟩ := hrel
                  by_cases hlt : k < 8
                  · have hli : (k : Int) < 8 := by omega
                    obtain ⟨st, hst⟩ : ∃ st, st = fin s0 rs k := ⟨_, rfl⟩
                    have hsl : st.length = 8 := by rw [hst, fin_len]; exact HL.out.2
                    rw [← hst] at HS
                    have HR := Lib.hid (And.intro hst hsl)
                    clear hst hsl
                    go_upto_region 22 with fail
                    refine wp_at fun Y1 hY1 => ?_
                    rw [← hY1] at HS
                    clear hY1
                    obtain ⟨y1, hy1⟩ : ∃ y, y = st.getD k 0 := ⟨_, rfl⟩
                    obtain ⟨y2, hy2⟩ : ∃ y, y = rs.getD k 0 := ⟨_, rfl⟩
                    have c1 := wcell HS.out.s0 (show k < st.length by rw [HR.out.2]; omega)
                    have c2 := wcell HS.out.st (show k < rs.length by rw [HRS.out.2]; omega)
                    rw [← hy1] at c1
                    rw [← hy2] at c2
                    obtain ⟨vv, hvv⟩ : ∃ vv, vv = y1 + y2 := ⟨_, rfl⟩
                    refine act_at fun A0 hAq => ?_
                    have hsz : A0.tmps.size = 196 := by
                      rw [hAq]
                      rfl
                    have hA2 : A0.tmps.getD 2 undef = .pointer (some ⟨B, 0, none⟩) := by
                      rw [hAq]
                      first | rfl | kernel_rfl
                    have hA10 : A0.tmps.getD 10 undef = .pointer (some ⟨S, 0, none⟩) := by
                      rw [hAq]
                      first | rfl | kernel_rfl
                    have hA17 : A0.tmps.getD 17 undef = nw (k) := by
                      rw [hAq]
                      first | rfl | kernel_rfl
                    have HAq := Lib.hid hAq
                    clear hAq
                    apply wp_region_ext 9 [is (nw (k)), is (nw (k)), is (.pointer (some ⟨B, k, none⟩)), is (bw (y1)), is (nw (k)), is (.pointer (some ⟨S, k, none⟩)), is (bw (y2)), is (bw ((y1) + (y2))), is (.pointer (some ⟨B, k, none⟩))] (by kernel_rfl) (by kernel_rfl) rfl
                    case hops =>
                      simp only [List.take_succ_cons, List.take_zero]
                      with_reducible refine xOps_cons ?_ ?_
                      · with_reducible refine xop_un ?_ ?_
                        · rfl
                        · intro vs x F hF hd
                          have e1 : F.tmps.getD 17 undef = nw (k) := (hF.a 17 (by kernel_rfl) (by rw [hsz]; rfl)).trans hA17
                          exact m_v e1
                      with_reducible refine xOps_cons ?_ ?_
                      · with_reducible refine xop_un ?_ ?_
                        · rfl
                        · intro vs x F hF hd
                          have e1 : F.tmps.getD 17 undef = nw (k) := (hF.a 17 (by kernel_rfl) (by rw [hsz]; rfl)).trans hA17
                          exact m_v e1
                      with_reducible refine xOps_cons ?_ ?_
                      · with_reducible refine xop_un ?_ ?_
                        · rfl
                        · intro vs x F hF hd
                          have e1 : F.tmps.getD 2 undef = .pointer (some ⟨B, 0, none⟩) := (hF.a 2 (by kernel_rfl) (by rw [hsz]; rfl)).trans hA2
                          have e2 : F.tmps.getD 187 undef = nw (k) := (hF.v 187 1 (by kernel_rfl) (by rw [hsz]; rfl)).trans (dep_at hd 0 1 (is (nw (k))) (by kernel_rfl) (by kernel_rfl))
                          exact a_i8 (n := k) e1 e2 (by omega)
                      with_reducible refine xOps_cons ?_ ?_
                      · with_reducible refine xop_un ?_ ?_
                        · rfl
                        · intro vs x F hF hd
                          have e1 : F.tmps.getD 188 undef = .pointer (some ⟨B, k, none⟩) := (hF.v 188 2 (by kernel_rfl) (by rw [hsz]; rfl)).trans (dep_at hd 0 2 (is (.pointer (some ⟨B, k, none⟩))) (by kernel_rfl) (by kernel_rfl))
                          exact l_w e1 (cell_plus x c1)
                      with_reducible refine xOps_cons ?_ ?_
                      · with_reducible refine xop_un ?_ ?_
                        · rfl
                        · intro vs x F hF hd
                          have e1 : F.tmps.getD 17 undef = nw (k) := (hF.a 17 (by kernel_rfl) (by rw [hsz]; rfl)).trans hA17
                          exact m_v e1
                      with_reducible refine xOps_cons ?_ ?_
                      · with_reducible refine xop_un ?_ ?_
                        · rfl
                        · intro vs x F hF hd
                          have e1 : F.tmps.getD 10 undef = .pointer (some ⟨S, 0, none⟩) := (hF.a 10 (by kernel_rfl) (by rw [hsz]; rfl)).trans hA10
                          have e2 : F.tmps.getD 190 undef = nw (k) := (hF.v 190 4 (by kernel_rfl) (by rw [hsz]; rfl)).trans (dep_at hd 0 4 (is (nw (k))) (by kernel_rfl) (by kernel_rfl))
                          exact a_i8 (n := k) e1 e2 (by omega)
                      with_reducible refine xOps_cons ?_ ?_
                      · with_reducible refine xop_un ?_ ?_
                        · rfl
                        · intro vs x F hF hd
                          have e1 : F.tmps.getD 191 undef = .pointer (some ⟨S, k, none⟩) := (hF.v 191 5 (by kernel_rfl) (by rw [hsz]; rfl)).trans (dep_at hd 0 5 (is (.pointer (some ⟨S, k, none⟩))) (by kernel_rfl) (by kernel_rfl))
                          exact l_w e1 (cell_plus x c2)
                      with_reducible refine xOps_cons ?_ ?_
                      · with_reducible refine xop_un ?_ ?_
                        · rfl
                        · intro vs x F hF hd
                          have e1 : F.tmps.getD 189 undef = bw (y1) := (hF.v 189 3 (by kernel_rfl) (by rw [hsz]; rfl)).trans (dep_at hd 0 3 (is (bw (y1))) (by kernel_rfl) (by kernel_rfl))
                          have e2 : F.tmps.getD 192 undef = bw (y2) := (hF.v 192 6 (by kernel_rfl) (by rw [hsz]; rfl)).trans (dep_at hd 1 6 (is (bw (y2))) (by kernel_rfl) (by kernel_rfl))
                          exact w_add e1 e2
                      with_reducible refine xOps_cons ?_ ?_
                      · with_reducible refine xop_un ?_ ?_
                        · rfl
                        · intro vs x F hF hd
                          have e1 : F.tmps.getD 2 undef = .pointer (some ⟨B, 0, none⟩) := (hF.a 2 (by kernel_rfl) (by rw [hsz]; rfl)).trans hA2
                          have e2 : F.tmps.getD 186 undef = nw (k) := (hF.v 186 0 (by kernel_rfl) (by rw [hsz]; rfl)).trans (dep_at hd 0 0 (is (nw (k))) (by kernel_rfl) (by kernel_rfl))
                          exact a_i8 (n := k) e1 e2 (by omega)
                      exact xOps_nil
                    case hst => exact ⟨is.st _, is.st _, is.st _, is.st _, is.st _, is.st _, is.st _, is.st _, is.st _, trivial⟩
                    case hfin =>
                      intro vs x hf
                      have f7 : vs 7 = bw vv := (show vs 7 = bw ((y1) + (y2)) from hf.2.2.2.2.2.2.2.1).trans (by rw [hvv])
                      have f8 : vs 8 = .pointer (some ⟨B, k, none⟩) := hf.2.2.2.2.2.2.2.2.1
                      clear hf
                      have hAq := HAq.out
                      subst hAq
                      clear hsz hA2 hA10 hA17
                      simp only [List.take_succ_cons, List.take_zero, List.drop_succ_cons, List.drop_zero, putAll, Act.put, List.setIfInBounds_toArray, List.set_cons_succ, List.set_cons_zero, Nat.zero_add, Nat.reduceAdd]
                      clear HAq
                      rw [f7]
                      rw [f8]
                      clear f7 f8
                      have HV := Lib.hid (And.intro hvv (And.intro hy1 hy2))
                      have hf := HS.out.s0.free
                      clear c2 hvv hy1 hy2
                      go_wp2
                      go_roundw
                      case rel =>
                        refine ⟨k + 1, by omega, by go_num, Lib.hid ?_⟩
                        have hp := HS.out.stbB (StB.one Y1 B k (bw vv)) (wput (v := vv) HS.out.s0 (show k < st.length by rw [HR.out.2]; omega)) hSB hRB hVB hCB hBw
                        have e : fin s0 rs (k + 1) = st.set k vv := by
                          rw [fin, ← HR.out.1, ← HV.out.2.1, ← HV.out.2.2, ← HV.out.1]
                        rw [e]
                        exact RfR.ext' hp (Ext.plus_ (Ext.refl _) x)
                      case measure => simp [intOf]; omega
                  · obtain rfl : k = 8 := by omega
                    clear hlt hk
                    have hbk : fin s0 rs 8 = blk [x0, x1, x2, x3, x4, x5, x6, x7] bs := by
                      rw [fin_comm HL.out.2 HRS.out.2, blk, HRS.out.1, HWS.out.1, ← HL.out.1]
                    have hbl : (fin s0 rs 8).length = 8 := by
                      rw [fin_len]
                      exact HL.out.2
                    obtain ⟨fs, hfs⟩ : ∃ fs, fs = fin s0 rs 8 := ⟨_, rfl⟩
                    rw [← hfs] at HS hbl hbk
                    clear hfs
                    have HK := Lib.hid (And.intro hbk hbl)
                    clear hbk hbl
                    go_upto_region 23 with fail
                    go_wp2_with (with_reducible show wpList _ _ _ (⟨some 195, _, _, _, _, _⟩ :: _) _ _; refine Lock.out ?_)
                    refine ⟨?_, trivial⟩
                    refine wl_at fun Z hZ => ?_
                    rw [← hZ] at HS
                    clear hZ
                    refine wl_load rfl 32 (.tmp 2) rfl HS.out.s0 rfl Tryd.underlying32 rfl (by rw [List.length_map, HK.out.2]; kernel_rfl) ?_
                    go_wp2_with (with_reducible show wpList _ _ _ (⟨none, _, _, _, _, _⟩ :: _) _ _; refine Lock.out ?_)
                    refine ⟨?_, trivial⟩
                    refine wl_store rfl 32 (.tmp 4) (.tmp 195) rfl HS.out.res (fs.map bw) rfl rfl (by rw [List.length_map, List.length_map, HK.out.2]; rfl) (by rw [List.length_map, HK.out.2]; kernel_rfl) (one_cells _) fun W hW hx => ?_
                    have HX := Lib.hid (hx.ext _ HS.out.ext hRw)
                    have HR := Lib.hid hW
                    clear hW hx HS
                    go_wp2
                    refine bodyPost_ret (results_cell Tryd.results21 HR.out rfl Tryd.underlying32 rfl (by rw [List.length_map, HK.out.2]; kernel_rfl)) rfl ?_
                    exact ⟨by rw [← HK.out.1], HX.out⟩
end Go.Proofs.YtbdahlfakinagaaDoor
