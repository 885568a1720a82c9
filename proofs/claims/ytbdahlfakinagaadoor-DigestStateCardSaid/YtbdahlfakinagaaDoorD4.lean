/- digest.schedule. -/
import Derived.Test.YtbdahlfakinagaaDoorD3
import Derived.Deep.CutRange
set_option linter.unusedVariables false
namespace Go.Proofs.YtbdahlfakinagaaDoor
open Go.RowKit Go.Rg

/-- What lies in memory in the loops: the words, the result's box. -/
def SchR (w : World) (N R : Nat) (b o : Nat) (bs : List Int) (ws : List W32) (wr : World) : Prop := Box 0 (ws.map bw) N wr ∧ Box 0 (zero64.map bw) R wr ∧ Ext w wr ∧ BytesAt b o 64 bs wr
theorem SchR.ext {w : World} {N R b o : Nat} {bs : List Int} {ws : List W32} {wr w2 : World} (h : SchR w N R b o bs ws wr) (e : Ext wr w2) : SchR w N R b o bs ws w2 := ⟨h.1.ext e, h.2.1.ext e, h.2.2.1.trans e, h.2.2.2.ext e⟩
theorem SchR.put {w : World} {N R b o : Nat} {bs : List Int} {ws : List W32} {wr : World} (h : SchR w N R b o bs ws wr) (z : Array Obj × Nat) {k : Nat} (v : W32) (hk : k < ws.length) (hne : R ≠ N) (hN : w.heap.size ≤ N) (hb : b < w.heap.size) : SchR w N R b o bs (ws.set k v) ((wr.setCell ⟨N, k, none⟩ (bw v)).plus z) := by
  have e : Ext (wr.setCell ⟨N, k, none⟩ (bw v)) ((wr.setCell ⟨N, k, none⟩ (bw v)).plus z) := Ext.plus_ (Ext.refl _) z
  refine ⟨(wput h.1 hk).ext e, (Box.off h.2.1 (Ne.symm hne)).ext e, (Ext.put h.2.2.1 hN).trans e, fun j hj => Ext.cell e ?_, h.2.2.2.2⟩
  rw [World.cell?_setCell_other _ _ _ _ (fun q => by injection q with q; omega)]
  exact h.2.2.2.1 j hj
set_option maxRecDepth 100000 in
set_option maxHeartbeats 8000000 in
theorem schedule_core (b o c : Nat) (bs : List Int) (w : World) (h : BytesAt b o 64 bs w) (hbw : b < w.heap.size) :
    Calls Tryd.prog 28 #[.slice (some ⟨b, o, none⟩) 64 c] w fun e w' => e = .returned (wv (sched bs)) ∧ Ext w w' := by
  have HBY := Lib.hid h
  clear h
  go_enter Tryd.func28, Tryd.ntmps28
  go_upto_region 2 with fail
  refine wp_at fun Y hY => ?_
  obtain ⟨R, hR⟩ : ∃ R, R = w.heap.size := ⟨_, rfl⟩
  obtain ⟨N, hN⟩ : ∃ N, N = R + 1 := ⟨_, rfl⟩
  have hne : R ≠ N := by omega
  have hRw : w.heap.size ≤ R := by omega
  have hNw : w.heap.size ≤ N := by omega
  have hB1 : Box 0 (zero64.map bw) R Y := by
    rw [hY, hR]
    repeat' (first | with_reducible assumption | ((with_reducible refine Box.fresh ?fb ?fn ?fr); (case fb => first | omega | (simp <;> omega)); (case fn => first | omega | (simp <;> omega)); (case fr => rfl)) | with_reducible apply Box.up | with_reducible apply Box.drew_ | with_reducible apply Box.drewN_ | with_reducible apply Box.plus_ | with_reducible apply Box.put | with_reducible refine Box.off ?_ (by omega))
    all_goals first | rfl | (simp; done)
  have hB2 : Box 0 (zero64.map bw) N Y := by
    rw [hY, hN, hR]
    repeat' (first | with_reducible assumption | ((with_reducible refine Box.fresh ?fb ?fn ?fr); (case fb => first | omega | (simp <;> omega)); (case fn => first | omega | (simp <;> omega)); (case fr => rfl)) | with_reducible apply Box.up | with_reducible apply Box.drew_ | with_reducible apply Box.drewN_ | with_reducible apply Box.plus_ | with_reducible apply Box.put | with_reducible refine Box.off ?_ (by omega))
    all_goals first | rfl | (simp; done)
  have hE : Ext w Y := by
    rw [hY]
    repeat' (first | with_reducible assumption | with_reducible exact Ext.refl _ | with_reducible apply Ext.alloc | with_reducible apply Ext.drew | with_reducible apply Ext.drewN | with_reducible apply Ext.plus_ | with_reducible refine Ext.put ?_ (by omega))
  rw [← hR, ← hN]
  have HS := Lib.hid (show SchR w N R b o bs (fill1 bs 0) Y from ⟨hB2, hB1, hE, HBY.out.ext hE⟩)
  clear hY hR hN hB1 hB2 hE HBY
  go_wp2
  go_loopw [10, 4] (fun i s4 wr => ∃ k : Nat, k ≤ 16 ∧ i = nw k ∧ Hid (SchR w N R b o bs (fill1 bs k) wr)) (fun i _ _ => 16 - (intOf i).toNat)
  case atStart => exact ⟨0, Nat.zero_le _, rfl, HS⟩
  case round =>
    clear HS
    obtain ⟨k, hk, rfl, HS⟩ := hrel
    by_cases hlt : k < 16
    · have hli : (k : Int) < 16 := by omega
      go_upto_region 5 with fail
      refine wp_at fun Y hY => ?_
      rw [← hY] at HS
      clear hY
      have HBY := Lib.hid HS.out.2.2.2
      have hb0 := HBY.out.1 (4 * k) (by omega)
      have hq0 := HBY.out.2 (4 * k)
      have hb1 := HBY.out.1 ((4 * k) + 1) (by omega)
      have hq1 := HBY.out.2 ((4 * k) + 1)
      have hb2 := HBY.out.1 ((4 * k) + 2) (by omega)
      have hq2 := HBY.out.2 ((4 * k) + 2)
      have hb3 := HBY.out.1 ((4 * k) + 3) (by omega)
      have hq3 := HBY.out.2 ((4 * k) + 3)
      obtain ⟨vv, hvv⟩ : ∃ vv, vv = wordAt bs k := ⟨_, rfl⟩
      refine act_at fun A0 hAq => ?_
      have hsz : A0.tmps.size = 93 := by
        rw [hAq]
        rfl
      have hA0 : A0.tmps.getD 0 undef = .slice (some ⟨b, o, none⟩) 64 c := by
        rw [hAq]
        first | rfl | kernel_rfl
      have hA3 : A0.tmps.getD 3 undef = .pointer (some ⟨N, 0, none⟩) := by
        rw [hAq]
        first | rfl | kernel_rfl
      have hA4 : A0.tmps.getD 4 undef = nw (k) := by
        rw [hAq]
        first | rfl | kernel_rfl
      have HAq := Lib.hid hAq
      clear hAq
      apply wp_region_ext 35 [is (nw (k)), is (.slice (some ⟨b, o, none⟩) 64 c), is (nw (k)), is (nw (4 * k)), is (.pointer (some ⟨b, o + (4 * k), none⟩)), is (.int .u8 (bs.getD (4 * k) 0)), is (bw (BitVec.ofInt 32 (bs.getD (4 * k) 0))), is (bw ((BitVec.ofInt 32 (bs.getD (4 * k) 0)) <<< 24)), is (.slice (some ⟨b, o, none⟩) 64 c), is (nw (k)), is (nw (4 * k)), is (nw ((4 * k) + 1)), is (.pointer (some ⟨b, o + ((4 * k) + 1), none⟩)), is (.int .u8 (bs.getD ((4 * k) + 1) 0)), is (bw (BitVec.ofInt 32 (bs.getD ((4 * k) + 1) 0))), is (bw ((BitVec.ofInt 32 (bs.getD ((4 * k) + 1) 0)) <<< 16)), is (bw (((BitVec.ofInt 32 (bs.getD (4 * k) 0)) <<< 24) ||| ((BitVec.ofInt 32 (bs.getD ((4 * k) + 1) 0)) <<< 16))), is (.slice (some ⟨b, o, none⟩) 64 c), is (nw (k)), is (nw (4 * k)), is (nw ((4 * k) + 2)), is (.pointer (some ⟨b, o + ((4 * k) + 2), none⟩)), is (.int .u8 (bs.getD ((4 * k) + 2) 0)), is (bw (BitVec.ofInt 32 (bs.getD ((4 * k) + 2) 0))), is (bw ((BitVec.ofInt 32 (bs.getD ((4 * k) + 2) 0)) <<< 8)), is (bw ((((BitVec.ofInt 32 (bs.getD (4 * k) 0)) <<< 24) ||| ((BitVec.ofInt 32 (bs.getD ((4 * k) + 1) 0)) <<< 16)) ||| ((BitVec.ofInt 32 (bs.getD ((4 * k) + 2) 0)) <<< 8))), is (.slice (some ⟨b, o, none⟩) 64 c), is (nw (k)), is (nw (4 * k)), is (nw ((4 * k) + 3)), is (.pointer (some ⟨b, o + ((4 * k) + 3), none⟩)), is (.int .u8 (bs.getD ((4 * k) + 3) 0)), is (bw (BitVec.ofInt 32 (bs.getD ((4 * k) + 3) 0))), is (bw (((((BitVec.ofInt 32 (bs.getD (4 * k) 0)) <<< 24) ||| ((BitVec.ofInt 32 (bs.getD ((4 * k) + 1) 0)) <<< 16)) ||| ((BitVec.ofInt 32 (bs.getD ((4 * k) + 2) 0)) <<< 8)) ||| (BitVec.ofInt 32 (bs.getD ((4 * k) + 3) 0)))), is (.pointer (some ⟨N, k, none⟩))] (by kernel_rfl) (by kernel_rfl) rfl
      case hops =>
        simp only [List.take_succ_cons, List.take_zero]
        with_reducible refine xOps_cons ?_ ?_
        · with_reducible refine xop_un ?_ ?_
          · rfl
          · intro vs x F hF hd
            have e1 : F.tmps.getD 4 undef = nw (k) := (hF.a 4 (by kernel_rfl) (by rw [hsz]; rfl)).trans hA4
            exact m_v e1
        with_reducible refine xOps_cons ?_ ?_
        · with_reducible refine xop_un ?_ ?_
          · rfl
          · intro vs x F hF hd
            have e1 : F.tmps.getD 0 undef = .slice (some ⟨b, o, none⟩) 64 c := (hF.a 0 (by kernel_rfl) (by rw [hsz]; rfl)).trans hA0
            exact m_v e1
        with_reducible refine xOps_cons ?_ ?_
        · with_reducible refine xop_un ?_ ?_
          · rfl
          · intro vs x F hF hd
            have e1 : F.tmps.getD 4 undef = nw (k) := (hF.a 4 (by kernel_rfl) (by rw [hsz]; rfl)).trans hA4
            exact m_v e1
        with_reducible refine xOps_cons ?_ ?_
        · with_reducible refine xop_un ?_ ?_
          · rfl
          · intro vs x F hF hd
            have e2 : F.tmps.getD 15 undef = nw (k) := (hF.v 15 2 (by kernel_rfl) (by rw [hsz]; rfl)).trans (dep_at hd 0 2 (is (nw (k))) (by kernel_rfl) (by kernel_rfl))
            exact n_mul rfl e2 (by omega)
        with_reducible refine xOps_cons ?_ ?_
        · with_reducible refine xop_un ?_ ?_
          · rfl
          · intro vs x F hF hd
            have e1 : F.tmps.getD 14 undef = .slice (some ⟨b, o, none⟩) 64 c := (hF.v 14 1 (by kernel_rfl) (by rw [hsz]; rfl)).trans (dep_at hd 0 1 (is (.slice (some ⟨b, o, none⟩) 64 c)) (by kernel_rfl) (by kernel_rfl))
            have e2 : F.tmps.getD 16 undef = nw (4 * k) := (hF.v 16 3 (by kernel_rfl) (by rw [hsz]; rfl)).trans (dep_at hd 1 3 (is (nw (4 * k))) (by kernel_rfl) (by kernel_rfl))
            exact a_sl (n := 4 * k) e1 e2 (by omega)
        with_reducible refine xOps_cons ?_ ?_
        · with_reducible refine xop_un ?_ ?_
          · rfl
          · intro vs x F hF hd
            have e1 : F.tmps.getD 17 undef = .pointer (some ⟨b, o + (4 * k), none⟩) := (hF.v 17 4 (by kernel_rfl) (by rw [hsz]; rfl)).trans (dep_at hd 0 4 (is (.pointer (some ⟨b, o + (4 * k), none⟩))) (by kernel_rfl) (by kernel_rfl))
            exact l_b e1 (cell_plus x hb0)
        with_reducible refine xOps_cons ?_ ?_
        · with_reducible refine xop_un ?_ ?_
          · rfl
          · intro vs x F hF hd
            have e1 : F.tmps.getD 18 undef = .int .u8 (bs.getD (4 * k) 0) := (hF.v 18 5 (by kernel_rfl) (by rw [hsz]; rfl)).trans (dep_at hd 0 5 (is (.int .u8 (bs.getD (4 * k) 0))) (by kernel_rfl) (by kernel_rfl))
            exact w_conv e1 hq0.1 hq0.2
        with_reducible refine xOps_cons ?_ ?_
        · with_reducible refine xop_un ?_ ?_
          · rfl
          · intro vs x F hF hd
            have e1 : F.tmps.getD 19 undef = bw (BitVec.ofInt 32 (bs.getD (4 * k) 0)) := (hF.v 19 6 (by kernel_rfl) (by rw [hsz]; rfl)).trans (dep_at hd 0 6 (is (bw (BitVec.ofInt 32 (bs.getD (4 * k) 0)))) (by kernel_rfl) (by kernel_rfl))
            exact w_shl_u64 (n := 24) e1 rfl (by omega)
        with_reducible refine xOps_cons ?_ ?_
        · with_reducible refine xop_un ?_ ?_
          · rfl
          · intro vs x F hF hd
            have e1 : F.tmps.getD 0 undef = .slice (some ⟨b, o, none⟩) 64 c := (hF.a 0 (by kernel_rfl) (by rw [hsz]; rfl)).trans hA0
            exact m_v e1
        with_reducible refine xOps_cons ?_ ?_
        · with_reducible refine xop_un ?_ ?_
          · rfl
          · intro vs x F hF hd
            have e1 : F.tmps.getD 4 undef = nw (k) := (hF.a 4 (by kernel_rfl) (by rw [hsz]; rfl)).trans hA4
            exact m_v e1
        with_reducible refine xOps_cons ?_ ?_
        · with_reducible refine xop_un ?_ ?_
          · rfl
          · intro vs x F hF hd
            have e2 : F.tmps.getD 22 undef = nw (k) := (hF.v 22 9 (by kernel_rfl) (by rw [hsz]; rfl)).trans (dep_at hd 0 9 (is (nw (k))) (by kernel_rfl) (by kernel_rfl))
            exact n_mul rfl e2 (by omega)
        with_reducible refine xOps_cons ?_ ?_
        · with_reducible refine xop_un ?_ ?_
          · rfl
          · intro vs x F hF hd
            have e1 : F.tmps.getD 23 undef = nw (4 * k) := (hF.v 23 10 (by kernel_rfl) (by rw [hsz]; rfl)).trans (dep_at hd 0 10 (is (nw (4 * k))) (by kernel_rfl) (by kernel_rfl))
            exact n_add e1 rfl (by omega)
        with_reducible refine xOps_cons ?_ ?_
        · with_reducible refine xop_un ?_ ?_
          · rfl
          · intro vs x F hF hd
            have e1 : F.tmps.getD 21 undef = .slice (some ⟨b, o, none⟩) 64 c := (hF.v 21 8 (by kernel_rfl) (by rw [hsz]; rfl)).trans (dep_at hd 0 8 (is (.slice (some ⟨b, o, none⟩) 64 c)) (by kernel_rfl) (by kernel_rfl))
            have e2 : F.tmps.getD 24 undef = nw ((4 * k) + 1) := (hF.v 24 11 (by kernel_rfl) (by rw [hsz]; rfl)).trans (dep_at hd 1 11 (is (nw ((4 * k) + 1))) (by kernel_rfl) (by kernel_rfl))
            exact a_sl (n := (4 * k) + 1) e1 e2 (by omega)
        with_reducible refine xOps_cons ?_ ?_
        · with_reducible refine xop_un ?_ ?_
          · rfl
          · intro vs x F hF hd
            have e1 : F.tmps.getD 25 undef = .pointer (some ⟨b, o + ((4 * k) + 1), none⟩) := (hF.v 25 12 (by kernel_rfl) (by rw [hsz]; rfl)).trans (dep_at hd 0 12 (is (.pointer (some ⟨b, o + ((4 * k) + 1), none⟩))) (by kernel_rfl) (by kernel_rfl))
            exact l_b e1 (cell_plus x hb1)
        with_reducible refine xOps_cons ?_ ?_
        · with_reducible refine xop_un ?_ ?_
          · rfl
          · intro vs x F hF hd
            have e1 : F.tmps.getD 26 undef = .int .u8 (bs.getD ((4 * k) + 1) 0) := (hF.v 26 13 (by kernel_rfl) (by rw [hsz]; rfl)).trans (dep_at hd 0 13 (is (.int .u8 (bs.getD ((4 * k) + 1) 0))) (by kernel_rfl) (by kernel_rfl))
            exact w_conv e1 hq1.1 hq1.2
        with_reducible refine xOps_cons ?_ ?_
        · with_reducible refine xop_un ?_ ?_
          · rfl
          · intro vs x F hF hd
            have e1 : F.tmps.getD 27 undef = bw (BitVec.ofInt 32 (bs.getD ((4 * k) + 1) 0)) := (hF.v 27 14 (by kernel_rfl) (by rw [hsz]; rfl)).trans (dep_at hd 0 14 (is (bw (BitVec.ofInt 32 (bs.getD ((4 * k) + 1) 0)))) (by kernel_rfl) (by kernel_rfl))
            exact w_shl_u64 (n := 16) e1 rfl (by omega)
        with_reducible refine xOps_cons ?_ ?_
        · with_reducible refine xop_un ?_ ?_
          · rfl
          · intro vs x F hF hd
            have e1 : F.tmps.getD 20 undef = bw ((BitVec.ofInt 32 (bs.getD (4 * k) 0)) <<< 24) := (hF.v 20 7 (by kernel_rfl) (by rw [hsz]; rfl)).trans (dep_at hd 0 7 (is (bw ((BitVec.ofInt 32 (bs.getD (4 * k) 0)) <<< 24))) (by kernel_rfl) (by kernel_rfl))
            have e2 : F.tmps.getD 28 undef = bw ((BitVec.ofInt 32 (bs.getD ((4 * k) + 1) 0)) <<< 16) := (hF.v 28 15 (by kernel_rfl) (by rw [hsz]; rfl)).trans (dep_at hd 1 15 (is (bw ((BitVec.ofInt 32 (bs.getD ((4 * k) + 1) 0)) <<< 16))) (by kernel_rfl) (by kernel_rfl))
            exact w_or e1 e2
        with_reducible refine xOps_cons ?_ ?_
        · with_reducible refine xop_un ?_ ?_
          · rfl
          · intro vs x F hF hd
            have e1 : F.tmps.getD 0 undef = .slice (some ⟨b, o, none⟩) 64 c := (hF.a 0 (by kernel_rfl) (by rw [hsz]; rfl)).trans hA0
            exact m_v e1
        with_reducible refine xOps_cons ?_ ?_
        · with_reducible refine xop_un ?_ ?_
          · rfl
          · intro vs x F hF hd
            have e1 : F.tmps.getD 4 undef = nw (k) := (hF.a 4 (by kernel_rfl) (by rw [hsz]; rfl)).trans hA4
            exact m_v e1
        with_reducible refine xOps_cons ?_ ?_
        · with_reducible refine xop_un ?_ ?_
          · rfl
          · intro vs x F hF hd
            have e2 : F.tmps.getD 31 undef = nw (k) := (hF.v 31 18 (by kernel_rfl) (by rw [hsz]; rfl)).trans (dep_at hd 0 18 (is (nw (k))) (by kernel_rfl) (by kernel_rfl))
            exact n_mul rfl e2 (by omega)
        with_reducible refine xOps_cons ?_ ?_
        · with_reducible refine xop_un ?_ ?_
          · rfl
          · intro vs x F hF hd
            have e1 : F.tmps.getD 32 undef = nw (4 * k) := (hF.v 32 19 (by kernel_rfl) (by rw [hsz]; rfl)).trans (dep_at hd 0 19 (is (nw (4 * k))) (by kernel_rfl) (by kernel_rfl))
            exact n_add e1 rfl (by omega)
        with_reducible refine xOps_cons ?_ ?_
        · with_reducible refine xop_un ?_ ?_
          · rfl
          · intro vs x F hF hd
            have e1 : F.tmps.getD 30 undef = .slice (some ⟨b, o, none⟩) 64 c := (hF.v 30 17 (by kernel_rfl) (by rw [hsz]; rfl)).trans (dep_at hd 0 17 (is (.slice (some ⟨b, o, none⟩) 64 c)) (by kernel_rfl) (by kernel_rfl))
            have e2 : F.tmps.getD 33 undef = nw ((4 * k) + 2) := (hF.v 33 20 (by kernel_rfl) (by rw [hsz]; rfl)).trans (dep_at hd 1 20 (is (nw ((4 * k) + 2))) (by kernel_rfl) (by kernel_rfl))
            exact a_sl (n := (4 * k) + 2) e1 e2 (by omega)
        with_reducible refine xOps_cons ?_ ?_
        · with_reducible refine xop_un ?_ ?_
          · rfl
          · intro vs x F hF hd
            have e1 : F.tmps.getD 34 undef = .pointer (some ⟨b, o + ((4 * k) + 2), none⟩) := (hF.v 34 21 (by kernel_rfl) (by rw [hsz]; rfl)).trans (dep_at hd 0 21 (is (.pointer (some ⟨b, o + ((4 * k) + 2), none⟩))) (by kernel_rfl) (by kernel_rfl))
            exact l_b e1 (cell_plus x hb2)
        with_reducible refine xOps_cons ?_ ?_
        · with_reducible refine xop_un ?_ ?_
          · rfl
          · intro vs x F hF hd
            have e1 : F.tmps.getD 35 undef = .int .u8 (bs.getD ((4 * k) + 2) 0) := (hF.v 35 22 (by kernel_rfl) (by rw [hsz]; rfl)).trans (dep_at hd 0 22 (is (.int .u8 (bs.getD ((4 * k) + 2) 0))) (by kernel_rfl) (by kernel_rfl))
            exact w_conv e1 hq2.1 hq2.2
        with_reducible refine xOps_cons ?_ ?_
        · with_reducible refine xop_un ?_ ?_
          · rfl
          · intro vs x F hF hd
            have e1 : F.tmps.getD 36 undef = bw (BitVec.ofInt 32 (bs.getD ((4 * k) + 2) 0)) := (hF.v 36 23 (by kernel_rfl) (by rw [hsz]; rfl)).trans (dep_at hd 0 23 (is (bw (BitVec.ofInt 32 (bs.getD ((4 * k) + 2) 0)))) (by kernel_rfl) (by kernel_rfl))
            exact w_shl_u64 (n := 8) e1 rfl (by omega)
        with_reducible refine xOps_cons ?_ ?_
        · with_reducible refine xop_un ?_ ?_
          · rfl
          · intro vs x F hF hd
            have e1 : F.tmps.getD 29 undef = bw (((BitVec.ofInt 32 (bs.getD (4 * k) 0)) <<< 24) ||| ((BitVec.ofInt 32 (bs.getD ((4 * k) + 1) 0)) <<< 16)) := (hF.v 29 16 (by kernel_rfl) (by rw [hsz]; rfl)).trans (dep_at hd 0 16 (is (bw (((BitVec.ofInt 32 (bs.getD (4 * k) 0)) <<< 24) ||| ((BitVec.ofInt 32 (bs.getD ((4 * k) + 1) 0)) <<< 16)))) (by kernel_rfl) (by kernel_rfl))
            have e2 : F.tmps.getD 37 undef = bw ((BitVec.ofInt 32 (bs.getD ((4 * k) + 2) 0)) <<< 8) := (hF.v 37 24 (by kernel_rfl) (by rw [hsz]; rfl)).trans (dep_at hd 1 24 (is (bw ((BitVec.ofInt 32 (bs.getD ((4 * k) + 2) 0)) <<< 8))) (by kernel_rfl) (by kernel_rfl))
            exact w_or e1 e2
        with_reducible refine xOps_cons ?_ ?_
        · with_reducible refine xop_un ?_ ?_
          · rfl
          · intro vs x F hF hd
            have e1 : F.tmps.getD 0 undef = .slice (some ⟨b, o, none⟩) 64 c := (hF.a 0 (by kernel_rfl) (by rw [hsz]; rfl)).trans hA0
            exact m_v e1
        with_reducible refine xOps_cons ?_ ?_
        · with_reducible refine xop_un ?_ ?_
          · rfl
          · intro vs x F hF hd
            have e1 : F.tmps.getD 4 undef = nw (k) := (hF.a 4 (by kernel_rfl) (by rw [hsz]; rfl)).trans hA4
            exact m_v e1
        with_reducible refine xOps_cons ?_ ?_
        · with_reducible refine xop_un ?_ ?_
          · rfl
          · intro vs x F hF hd
            have e2 : F.tmps.getD 40 undef = nw (k) := (hF.v 40 27 (by kernel_rfl) (by rw [hsz]; rfl)).trans (dep_at hd 0 27 (is (nw (k))) (by kernel_rfl) (by kernel_rfl))
            exact n_mul rfl e2 (by omega)
        with_reducible refine xOps_cons ?_ ?_
        · with_reducible refine xop_un ?_ ?_
          · rfl
          · intro vs x F hF hd
            have e1 : F.tmps.getD 41 undef = nw (4 * k) := (hF.v 41 28 (by kernel_rfl) (by rw [hsz]; rfl)).trans (dep_at hd 0 28 (is (nw (4 * k))) (by kernel_rfl) (by kernel_rfl))
            exact n_add e1 rfl (by omega)
        with_reducible refine xOps_cons ?_ ?_
        · with_reducible refine xop_un ?_ ?_
          · rfl
          · intro vs x F hF hd
            have e1 : F.tmps.getD 39 undef = .slice (some ⟨b, o, none⟩) 64 c := (hF.v 39 26 (by kernel_rfl) (by rw [hsz]; rfl)).trans (dep_at hd 0 26 (is (.slice (some ⟨b, o, none⟩) 64 c)) (by kernel_rfl) (by kernel_rfl))
            have e2 : F.tmps.getD 42 undef = nw ((4 * k) + 3) := (hF.v 42 29 (by kernel_rfl) (by rw [hsz]; rfl)).trans (dep_at hd 1 29 (is (nw ((4 * k) + 3))) (by kernel_rfl) (by kernel_rfl))
            exact a_sl (n := (4 * k) + 3) e1 e2 (by omega)
        with_reducible refine xOps_cons ?_ ?_
        · with_reducible refine xop_un ?_ ?_
          · rfl
          · intro vs x F hF hd
            have e1 : F.tmps.getD 43 undef = .pointer (some ⟨b, o + ((4 * k) + 3), none⟩) := (hF.v 43 30 (by kernel_rfl) (by rw [hsz]; rfl)).trans (dep_at hd 0 30 (is (.pointer (some ⟨b, o + ((4 * k) + 3), none⟩))) (by kernel_rfl) (by kernel_rfl))
            exact l_b e1 (cell_plus x hb3)
        with_reducible refine xOps_cons ?_ ?_
        · with_reducible refine xop_un ?_ ?_
          · rfl
          · intro vs x F hF hd
            have e1 : F.tmps.getD 44 undef = .int .u8 (bs.getD ((4 * k) + 3) 0) := (hF.v 44 31 (by kernel_rfl) (by rw [hsz]; rfl)).trans (dep_at hd 0 31 (is (.int .u8 (bs.getD ((4 * k) + 3) 0))) (by kernel_rfl) (by kernel_rfl))
            exact w_conv e1 hq3.1 hq3.2
        with_reducible refine xOps_cons ?_ ?_
        · with_reducible refine xop_un ?_ ?_
          · rfl
          · intro vs x F hF hd
            have e1 : F.tmps.getD 38 undef = bw ((((BitVec.ofInt 32 (bs.getD (4 * k) 0)) <<< 24) ||| ((BitVec.ofInt 32 (bs.getD ((4 * k) + 1) 0)) <<< 16)) ||| ((BitVec.ofInt 32 (bs.getD ((4 * k) + 2) 0)) <<< 8)) := (hF.v 38 25 (by kernel_rfl) (by rw [hsz]; rfl)).trans (dep_at hd 0 25 (is (bw ((((BitVec.ofInt 32 (bs.getD (4 * k) 0)) <<< 24) ||| ((BitVec.ofInt 32 (bs.getD ((4 * k) + 1) 0)) <<< 16)) ||| ((BitVec.ofInt 32 (bs.getD ((4 * k) + 2) 0)) <<< 8)))) (by kernel_rfl) (by kernel_rfl))
            have e2 : F.tmps.getD 45 undef = bw (BitVec.ofInt 32 (bs.getD ((4 * k) + 3) 0)) := (hF.v 45 32 (by kernel_rfl) (by rw [hsz]; rfl)).trans (dep_at hd 1 32 (is (bw (BitVec.ofInt 32 (bs.getD ((4 * k) + 3) 0)))) (by kernel_rfl) (by kernel_rfl))
            exact w_or e1 e2
        with_reducible refine xOps_cons ?_ ?_
        · with_reducible refine xop_un ?_ ?_
          · rfl
          · intro vs x F hF hd
            have e1 : F.tmps.getD 3 undef = .pointer (some ⟨N, 0, none⟩) := (hF.a 3 (by kernel_rfl) (by rw [hsz]; rfl)).trans hA3
            have e2 : F.tmps.getD 13 undef = nw (k) := (hF.v 13 0 (by kernel_rfl) (by rw [hsz]; rfl)).trans (dep_at hd 0 0 (is (nw (k))) (by kernel_rfl) (by kernel_rfl))
            exact a_i64 (n := k) e1 e2 (by omega)
        exact xOps_nil
      case hst => exact ⟨is.st _, is.st _, is.st _, is.st _, is.st _, is.st _, is.st _, is.st _, is.st _, is.st _, is.st _, is.st _, is.st _, is.st _, is.st _, is.st _, is.st _, is.st _, is.st _, is.st _, is.st _, is.st _, is.st _, is.st _, is.st _, is.st _, is.st _, is.st _, is.st _, is.st _, is.st _, is.st _, is.st _, is.st _, is.st _, trivial⟩
      case hfin =>
        intro vs x hf
        have f33 : vs 33 = bw vv := (show vs 33 = bw (((((BitVec.ofInt 32 (bs.getD (4 * k) 0)) <<< 24) ||| ((BitVec.ofInt 32 (bs.getD ((4 * k) + 1) 0)) <<< 16)) ||| ((BitVec.ofInt 32 (bs.getD ((4 * k) + 2) 0)) <<< 8)) ||| (BitVec.ofInt 32 (bs.getD ((4 * k) + 3) 0))) from hf.2.2.2.2.2.2.2.2.2.2.2.2.2.2.2.2.2.2.2.2.2.2.2.2.2.2.2.2.2.2.2.2.2.1).trans (by rw [hvv]; rfl)
        have f34 : vs 34 = .pointer (some ⟨N, k, none⟩) := hf.2.2.2.2.2.2.2.2.2.2.2.2.2.2.2.2.2.2.2.2.2.2.2.2.2.2.2.2.2.2.2.2.2.2.1
        clear hf
        have hAq := HAq.out
        subst hAq
        clear hsz hA0 hA3 hA4
        simp only [List.take_succ_cons, List.take_zero, List.drop_succ_cons, List.drop_zero, putAll, Act.put, List.setIfInBounds_toArray, List.set_cons_succ, List.set_cons_zero, Nat.zero_add, Nat.reduceAdd]
        clear HAq
        rw [f33]
        rw [f34]
        clear f33 f34
        clear hb0 hb1 hb2 hb3 hq0 hq1 hq2 hq3
        have hf := HS.out.1.free
        have hc := wcell HS.out.1 (show k < (fill1 bs k).length by rw [fill1_len]; omega)
        have HV := Lib.hid hvv
        clear HBY hvv
        go_wp2
        go_roundw
        case rel => exact ⟨k + 1, by omega, by go_num, Lib.hid (by rw [fill1, ← HV.out]; exact HS.out.put x vv (by rw [fill1_len]; omega) hne hNw hbw)⟩
        case measure => simp [intOf]; omega
    · obtain rfl : k = 16 := by omega
      clear hlt hk
      go_upto_region 7 with fail
      refine wp_at fun Z hZ => ?_
      rw [← hZ] at HS
      clear hZ
      go_wp2
      go_loopw [5, 6, 7, 8, 9] (fun i _ _ _ _ wr => ∃ j : Nat, 16 ≤ j ∧ j ≤ 64 ∧ i = nw j ∧ Hid (SchR w N R b o bs (fill2 bs (j - 16)) wr)) (fun i _ _ _ _ _ => 64 - (intOf i).toNat)
      case atStart => exact ⟨16, Nat.le_refl _, by omega, rfl, HS⟩
      case round =>
        clear HS
        obtain ⟨j, hj0, hj, rfl, HS⟩ := hrel
        by_cases hlt : j < 64
        · obtain ⟨ws, hws⟩ : ∃ ws, ws = fill2 bs (j - 16) := ⟨_, rfl⟩
          have hwl : ws.length = 64 := by rw [hws]; exact fill2_len _ _
          rw [← hws] at HS
          have HWS := Lib.hid (And.intro hws hwl)
          clear hws hwl
          have hli : (j : Int) < 64 := by omega
          go_upto_region 10 with fail
          refine wp_at fun Y hY => ?_
          replace HS := Lib.hid (show SchR w N R b o bs ws Y by
            rw [hY]
            exact SchR.ext HS.out (by repeat (first | exact Ext.refl _ | assumption | apply Ext.plus_ | apply Ext.alloc | apply Ext.drew)))
          clear hY
          obtain ⟨a1, ha1⟩ : ∃ a, a = ws.getD (j - 15) 0 := ⟨_, rfl⟩
          obtain ⟨a2, ha2⟩ : ∃ a, a = ws.getD (j - 2) 0 := ⟨_, rfl⟩
          have c1 := wcell HS.out.1 (show j - 15 < ws.length by rw [HWS.out.2]; omega)
          have c2 := wcell HS.out.1 (show j - 2 < ws.length by rw [HWS.out.2]; omega)
          rw [← ha1] at c1
          rw [← ha2] at c2
          have HA := Lib.hid (And.intro ha1 ha2)
          clear ha1 ha2
          refine act_at fun A0 hAq => ?_
          have hsz : A0.tmps.size = 93 := by
            rw [hAq]
            rfl
          have hA3 : A0.tmps.getD 3 undef = .pointer (some ⟨N, 0, none⟩) := by
            rw [hAq]
            first | rfl | kernel_rfl
          have hA5 : A0.tmps.getD 5 undef = nw (j) := by
            rw [hAq]
            first | rfl | kernel_rfl
          have HAq := Lib.hid hAq
          clear hAq
          apply wp_region_ext 9 [is (nw (j)), is (nw (j - 15)), is (.pointer (some ⟨N, j - 15, none⟩)), is (bw (a1)), is (nw (j)), is (nw (j - 2)), is (.pointer (some ⟨N, j - 2, none⟩)), is (bw (a2)), is (bw (a1))] (by kernel_rfl) (by kernel_rfl) rfl
          case hops =>
            simp only [List.take_succ_cons, List.take_zero]
            with_reducible refine xOps_cons ?_ ?_
            · with_reducible refine xop_un ?_ ?_
              · rfl
              · intro vs x F hF hd
                have e1 : F.tmps.getD 5 undef = nw (j) := (hF.a 5 (by kernel_rfl) (by rw [hsz]; rfl)).trans hA5
                exact m_v e1
            with_reducible refine xOps_cons ?_ ?_
            · with_reducible refine xop_un ?_ ?_
              · rfl
              · intro vs x F hF hd
                have e1 : F.tmps.getD 53 undef = nw (j) := (hF.v 53 0 (by kernel_rfl) (by rw [hsz]; rfl)).trans (dep_at hd 0 0 (is (nw (j))) (by kernel_rfl) (by kernel_rfl))
                exact n_sub e1 rfl (by omega) (by omega)
            with_reducible refine xOps_cons ?_ ?_
            · with_reducible refine xop_un ?_ ?_
              · rfl
              · intro vs x F hF hd
                have e1 : F.tmps.getD 3 undef = .pointer (some ⟨N, 0, none⟩) := (hF.a 3 (by kernel_rfl) (by rw [hsz]; rfl)).trans hA3
                have e2 : F.tmps.getD 54 undef = nw (j - 15) := (hF.v 54 1 (by kernel_rfl) (by rw [hsz]; rfl)).trans (dep_at hd 0 1 (is (nw (j - 15))) (by kernel_rfl) (by kernel_rfl))
                exact a_i64 (n := j - 15) e1 e2 (by omega)
            with_reducible refine xOps_cons ?_ ?_
            · with_reducible refine xop_un ?_ ?_
              · rfl
              · intro vs x F hF hd
                have e1 : F.tmps.getD 55 undef = .pointer (some ⟨N, j - 15, none⟩) := (hF.v 55 2 (by kernel_rfl) (by rw [hsz]; rfl)).trans (dep_at hd 0 2 (is (.pointer (some ⟨N, j - 15, none⟩))) (by kernel_rfl) (by kernel_rfl))
                exact l_w e1 (cell_plus x c1)
            with_reducible refine xOps_cons ?_ ?_
            · with_reducible refine xop_un ?_ ?_
              · rfl
              · intro vs x F hF hd
                have e1 : F.tmps.getD 5 undef = nw (j) := (hF.a 5 (by kernel_rfl) (by rw [hsz]; rfl)).trans hA5
                exact m_v e1
            with_reducible refine xOps_cons ?_ ?_
            · with_reducible refine xop_un ?_ ?_
              · rfl
              · intro vs x F hF hd
                have e1 : F.tmps.getD 57 undef = nw (j) := (hF.v 57 4 (by kernel_rfl) (by rw [hsz]; rfl)).trans (dep_at hd 0 4 (is (nw (j))) (by kernel_rfl) (by kernel_rfl))
                exact n_sub e1 rfl (by omega) (by omega)
            with_reducible refine xOps_cons ?_ ?_
            · with_reducible refine xop_un ?_ ?_
              · rfl
              · intro vs x F hF hd
                have e1 : F.tmps.getD 3 undef = .pointer (some ⟨N, 0, none⟩) := (hF.a 3 (by kernel_rfl) (by rw [hsz]; rfl)).trans hA3
                have e2 : F.tmps.getD 58 undef = nw (j - 2) := (hF.v 58 5 (by kernel_rfl) (by rw [hsz]; rfl)).trans (dep_at hd 0 5 (is (nw (j - 2))) (by kernel_rfl) (by kernel_rfl))
                exact a_i64 (n := j - 2) e1 e2 (by omega)
            with_reducible refine xOps_cons ?_ ?_
            · with_reducible refine xop_un ?_ ?_
              · rfl
              · intro vs x F hF hd
                have e1 : F.tmps.getD 59 undef = .pointer (some ⟨N, j - 2, none⟩) := (hF.v 59 6 (by kernel_rfl) (by rw [hsz]; rfl)).trans (dep_at hd 0 6 (is (.pointer (some ⟨N, j - 2, none⟩))) (by kernel_rfl) (by kernel_rfl))
                exact l_w e1 (cell_plus x c2)
            with_reducible refine xOps_cons ?_ ?_
            · with_reducible refine xop_un ?_ ?_
              · rfl
              · intro vs x F hF hd
                have e1 : F.tmps.getD 56 undef = bw (a1) := (hF.v 56 3 (by kernel_rfl) (by rw [hsz]; rfl)).trans (dep_at hd 0 3 (is (bw (a1))) (by kernel_rfl) (by kernel_rfl))
                exact as_v e1
            exact xOps_nil
          case hst => exact ⟨is.st _, is.st _, is.st _, is.st _, is.st _, is.st _, is.st _, is.st _, is.st _, trivial⟩
          case hfin =>
            intro vs x hf
            have f3 : vs 3 = bw (a1) := hf.2.2.2.1
            have f7 : vs 7 = bw (a2) := hf.2.2.2.2.2.2.2.1
            have f8 : vs 8 = bw (a1) := hf.2.2.2.2.2.2.2.2.1
            clear hf
            have hAq := HAq.out
            subst hAq
            clear hsz hA3 hA5
            simp only [List.take_succ_cons, List.take_zero, List.drop_succ_cons, List.drop_zero, putAll, Act.put, List.setIfInBounds_toArray, List.set_cons_succ, List.set_cons_zero, Nat.zero_add, Nat.reduceAdd]
            clear HAq
            rw [f3]
            rw [f7]
            rw [f8]
            clear f3 f7 f8
            clear c1 c2
            go_upto_region 11 with fail
            refine wp_at fun Y2 hY2 => ?_
            replace HS := Lib.hid (show SchR w N R b o bs ws Y2 by
              rw [hY2]
              exact SchR.ext HS.out (by repeat (first | exact Ext.refl _ | assumption | apply Ext.plus_ | apply Ext.alloc | apply Ext.drew)))
            clear hY2
            obtain ⟨b1, hb1⟩ : ∃ b, b = sg0 a1 := ⟨_, rfl⟩
            obtain ⟨b2, hb2⟩ : ∃ b, b = sg1 a2 := ⟨_, rfl⟩
            refine act_at fun A0 hAq => ?_
            have hsz : A0.tmps.size = 93 := by
              rw [hAq]
              rfl
            have hA6 : A0.tmps.getD 6 undef = bw (a1) := by
              rw [hAq]
              first | rfl | kernel_rfl
            have HAq := Lib.hid hAq
            clear hAq
            apply wp_region_seq 8 [is (bw (a1)), is (bw (rr 7 a1)), is (bw (a1)), is (bw (rr 18 a1)), is (bw ((rr 7 a1) ^^^ (rr 18 a1))), is (bw (a1)), is (bw ((a1) >>> 3)), is (bw (((rr 7 a1) ^^^ (rr 18 a1)) ^^^ ((a1) >>> 3)))] (by kernel_rfl) (by kernel_rfl) rfl
            case hops =>
              simp only [List.take_succ_cons, List.take_zero]
              with_reducible refine xOps_cons ?_ ?_
              · with_reducible refine xop_un ?_ ?_
                · rfl
                · intro vs x F hF hd
                  have e1 : F.tmps.getD 6 undef = bw (a1) := (hF.a 6 (by kernel_rfl) (by rw [hsz]; rfl)).trans hA6
                  exact m_v e1
              with_reducible refine xOps_cons ?_ ?_
              · with_reducible refine xop_un ?_ ?_
                · rfl
                · intro vs x F hF hd
                  have e61 : F.tmps.getD 61 undef = bw (a1) := (hF.v 61 0 (by kernel_rfl) (by rw [hsz]; rfl)).trans (dep_at hd 0 0 (is (bw (a1))) (by kernel_rfl) (by kernel_rfl))
                  clear hF hd
                  simp only [comes]
                  go_simp
                  refine (rot7 _ _).mono ?_
                  rintro e w' ⟨rfl, hE⟩
                  first | exact ⟨_, rfl, hE, rfl⟩ | exact ⟨_, rfl, hE⟩ | exact ⟨rfl, hE⟩ | exact ⟨_, hE⟩ | exact hE
              with_reducible refine xOps_cons ?_ ?_
              · with_reducible refine xop_un ?_ ?_
                · rfl
                · intro vs x F hF hd
                  have e1 : F.tmps.getD 6 undef = bw (a1) := (hF.a 6 (by kernel_rfl) (by rw [hsz]; rfl)).trans hA6
                  exact m_v e1
              with_reducible refine xOps_cons ?_ ?_
              · with_reducible refine xop_un ?_ ?_
                · rfl
                · intro vs x F hF hd
                  have e63 : F.tmps.getD 63 undef = bw (a1) := (hF.v 63 2 (by kernel_rfl) (by rw [hsz]; rfl)).trans (dep_at hd 0 2 (is (bw (a1))) (by kernel_rfl) (by kernel_rfl))
                  clear hF hd
                  simp only [comes]
                  go_simp
                  refine (rot18 _ _).mono ?_
                  rintro e w' ⟨rfl, hE⟩
                  first | exact ⟨_, rfl, hE, rfl⟩ | exact ⟨_, rfl, hE⟩ | exact ⟨rfl, hE⟩ | exact ⟨_, hE⟩ | exact hE
              with_reducible refine xOps_cons ?_ ?_
              · with_reducible refine xop_un ?_ ?_
                · rfl
                · intro vs x F hF hd
                  have e1 : F.tmps.getD 62 undef = bw (rr 7 a1) := (hF.v 62 1 (by kernel_rfl) (by rw [hsz]; rfl)).trans (dep_at hd 0 1 (is (bw (rr 7 a1))) (by kernel_rfl) (by kernel_rfl))
                  have e2 : F.tmps.getD 64 undef = bw (rr 18 a1) := (hF.v 64 3 (by kernel_rfl) (by rw [hsz]; rfl)).trans (dep_at hd 1 3 (is (bw (rr 18 a1))) (by kernel_rfl) (by kernel_rfl))
                  exact w_xor e1 e2
              with_reducible refine xOps_cons ?_ ?_
              · with_reducible refine xop_un ?_ ?_
                · rfl
                · intro vs x F hF hd
                  have e1 : F.tmps.getD 6 undef = bw (a1) := (hF.a 6 (by kernel_rfl) (by rw [hsz]; rfl)).trans hA6
                  exact m_v e1
              with_reducible refine xOps_cons ?_ ?_
              · with_reducible refine xop_un ?_ ?_
                · rfl
                · intro vs x F hF hd
                  have e1 : F.tmps.getD 66 undef = bw (a1) := (hF.v 66 5 (by kernel_rfl) (by rw [hsz]; rfl)).trans (dep_at hd 0 5 (is (bw (a1))) (by kernel_rfl) (by kernel_rfl))
                  exact w_shr_u64 (n := 3) e1 rfl (by omega)
              with_reducible refine xOps_cons ?_ ?_
              · with_reducible refine xop_un ?_ ?_
                · rfl
                · intro vs x F hF hd
                  have e1 : F.tmps.getD 65 undef = bw ((rr 7 a1) ^^^ (rr 18 a1)) := (hF.v 65 4 (by kernel_rfl) (by rw [hsz]; rfl)).trans (dep_at hd 0 4 (is (bw ((rr 7 a1) ^^^ (rr 18 a1)))) (by kernel_rfl) (by kernel_rfl))
                  have e2 : F.tmps.getD 67 undef = bw ((a1) >>> 3) := (hF.v 67 6 (by kernel_rfl) (by rw [hsz]; rfl)).trans (dep_at hd 1 6 (is (bw ((a1) >>> 3))) (by kernel_rfl) (by kernel_rfl))
                  exact w_xor e1 e2
              exact xOps_nil
            case hst => exact ⟨is.st _, is.st _, is.st _, is.st _, is.st _, is.st _, is.st _, is.st _, trivial⟩
            case hfin =>
              intro vs x hf
              have f7 : vs 7 = bw b1 := (show vs 7 = bw (((rr 7 a1) ^^^ (rr 18 a1)) ^^^ ((a1) >>> 3)) from hf.2.2.2.2.2.2.2.1).trans (by rw [hb1]; rfl)
              clear hf
              have hAq := HAq.out
              subst hAq
              clear hsz hA6
              simp only [List.take_succ_cons, List.take_zero, List.drop_succ_cons, List.drop_zero, putAll, Act.put, List.setIfInBounds_toArray, List.set_cons_succ, List.set_cons_zero, Nat.zero_add, Nat.reduceAdd]
              clear HAq
              rw [f7]
              clear f7
              go_upto_region 12 with fail
              refine wp_at fun Y3 hY3 => ?_
              replace HS := Lib.hid (show SchR w N R b o bs ws Y3 by
                rw [hY3]
                exact SchR.ext HS.out (by repeat (first | exact Ext.refl _ | assumption | apply Ext.plus_ | apply Ext.alloc | apply Ext.drew)))
              clear hY3
              refine act_at fun A0 hAq => ?_
              have hsz : A0.tmps.size = 93 := by
                rw [hAq]
                rfl
              have hA7 : A0.tmps.getD 7 undef = bw (a2) := by
                rw [hAq]
                first | rfl | kernel_rfl
              have HAq := Lib.hid hAq
              clear hAq
              apply wp_region_seq 8 [is (bw (a2)), is (bw (rr 17 a2)), is (bw (a2)), is (bw (rr 19 a2)), is (bw ((rr 17 a2) ^^^ (rr 19 a2))), is (bw (a2)), is (bw ((a2) >>> 10)), is (bw (((rr 17 a2) ^^^ (rr 19 a2)) ^^^ ((a2) >>> 10)))] (by kernel_rfl) (by kernel_rfl) rfl
              case hops =>
                simp only [List.take_succ_cons, List.take_zero]
                with_reducible refine xOps_cons ?_ ?_
                · with_reducible refine xop_un ?_ ?_
                  · rfl
                  · intro vs x F hF hd
                    have e1 : F.tmps.getD 7 undef = bw (a2) := (hF.a 7 (by kernel_rfl) (by rw [hsz]; rfl)).trans hA7
                    exact m_v e1
                with_reducible refine xOps_cons ?_ ?_
                · with_reducible refine xop_un ?_ ?_
                  · rfl
                  · intro vs x F hF hd
                    have e69 : F.tmps.getD 69 undef = bw (a2) := (hF.v 69 0 (by kernel_rfl) (by rw [hsz]; rfl)).trans (dep_at hd 0 0 (is (bw (a2))) (by kernel_rfl) (by kernel_rfl))
                    clear hF hd
                    simp only [comes]
                    go_simp
                    refine (rot17 _ _).mono ?_
                    rintro e w' ⟨rfl, hE⟩
                    first | exact ⟨_, rfl, hE, rfl⟩ | exact ⟨_, rfl, hE⟩ | exact ⟨rfl, hE⟩ | exact ⟨_, hE⟩ | exact hE
                with_reducible refine xOps_cons ?_ ?_
                · with_reducible refine xop_un ?_ ?_
                  · rfl
                  · intro vs x F hF hd
                    have e1 : F.tmps.getD 7 undef = bw (a2) := (hF.a 7 (by kernel_rfl) (by rw [hsz]; rfl)).trans hA7
                    exact m_v e1
                with_reducible refine xOps_cons ?_ ?_
                · with_reducible refine xop_un ?_ ?_
                  · rfl
                  · intro vs x F hF hd
                    have e71 : F.tmps.getD 71 undef = bw (a2) := (hF.v 71 2 (by kernel_rfl) (by rw [hsz]; rfl)).trans (dep_at hd 0 2 (is (bw (a2))) (by kernel_rfl) (by kernel_rfl))
                    clear hF hd
                    simp only [comes]
                    go_simp
                    refine (rot19 _ _).mono ?_
                    rintro e w' ⟨rfl, hE⟩
                    first | exact ⟨_, rfl, hE, rfl⟩ | exact ⟨_, rfl, hE⟩ | exact ⟨rfl, hE⟩ | exact ⟨_, hE⟩ | exact hE
                with_reducible refine xOps_cons ?_ ?_
                · with_reducible refine xop_un ?_ ?_
                  · rfl
                  · intro vs x F hF hd
                    have e1 : F.tmps.getD 70 undef = bw (rr 17 a2) := (hF.v 70 1 (by kernel_rfl) (by rw [hsz]; rfl)).trans (dep_at hd 0 1 (is (bw (rr 17 a2))) (by kernel_rfl) (by kernel_rfl))
                    have e2 : F.tmps.getD 72 undef = bw (rr 19 a2) := (hF.v 72 3 (by kernel_rfl) (by rw [hsz]; rfl)).trans (dep_at hd 1 3 (is (bw (rr 19 a2))) (by kernel_rfl) (by kernel_rfl))
                    exact w_xor e1 e2
                with_reducible refine xOps_cons ?_ ?_
                · with_reducible refine xop_un ?_ ?_
                  · rfl
                  · intro vs x F hF hd
                    have e1 : F.tmps.getD 7 undef = bw (a2) := (hF.a 7 (by kernel_rfl) (by rw [hsz]; rfl)).trans hA7
                    exact m_v e1
                with_reducible refine xOps_cons ?_ ?_
                · with_reducible refine xop_un ?_ ?_
                  · rfl
                  · intro vs x F hF hd
                    have e1 : F.tmps.getD 74 undef = bw (a2) := (hF.v 74 5 (by kernel_rfl) (by rw [hsz]; rfl)).trans (dep_at hd 0 5 (is (bw (a2))) (by kernel_rfl) (by kernel_rfl))
                    exact w_shr_u64 (n := 10) e1 rfl (by omega)
                with_reducible refine xOps_cons ?_ ?_
                · with_reducible refine xop_un ?_ ?_
                  · rfl
                  · intro vs x F hF hd
                    have e1 : F.tmps.getD 73 undef = bw ((rr 17 a2) ^^^ (rr 19 a2)) := (hF.v 73 4 (by kernel_rfl) (by rw [hsz]; rfl)).trans (dep_at hd 0 4 (is (bw ((rr 17 a2) ^^^ (rr 19 a2)))) (by kernel_rfl) (by kernel_rfl))
                    have e2 : F.tmps.getD 75 undef = bw ((a2) >>> 10) := (hF.v 75 6 (by kernel_rfl) (by rw [hsz]; rfl)).trans (dep_at hd 1 6 (is (bw ((a2) >>> 10))) (by kernel_rfl) (by kernel_rfl))
                    exact w_xor e1 e2
                exact xOps_nil
              case hst => exact ⟨is.st _, is.st _, is.st _, is.st _, is.st _, is.st _, is.st _, is.st _, trivial⟩
              case hfin =>
                intro vs x hf
                have f7 : vs 7 = bw b2 := (show vs 7 = bw (((rr 17 a2) ^^^ (rr 19 a2)) ^^^ ((a2) >>> 10)) from hf.2.2.2.2.2.2.2.1).trans (by rw [hb2]; rfl)
                clear hf
                have hAq := HAq.out
                subst hAq
                clear hsz hA7
                simp only [List.take_succ_cons, List.take_zero, List.drop_succ_cons, List.drop_zero, putAll, Act.put, List.setIfInBounds_toArray, List.set_cons_succ, List.set_cons_zero, Nat.zero_add, Nat.reduceAdd]
                clear HAq
                rw [f7]
                clear f7
                go_upto_region 13 with fail
                refine wp_at fun Y4 hY4 => ?_
                replace HS := Lib.hid (show SchR w N R b o bs ws Y4 by
                  rw [hY4]
                  exact SchR.ext HS.out (by repeat (first | exact Ext.refl _ | assumption | apply Ext.plus_ | apply Ext.alloc | apply Ext.drew)))
                clear hY4
                obtain ⟨a0, ha0⟩ : ∃ a, a = ws.getD (j - 16) 0 := ⟨_, rfl⟩
                obtain ⟨a7, ha7⟩ : ∃ a, a = ws.getD (j - 7) 0 := ⟨_, rfl⟩
                have c0 := wcell HS.out.1 (show j - 16 < ws.length by rw [HWS.out.2]; omega)
                have c7 := wcell HS.out.1 (show j - 7 < ws.length by rw [HWS.out.2]; omega)
                rw [← ha0] at c0
                rw [← ha7] at c7
                obtain ⟨vv, hvv⟩ : ∃ vv, vv = nextW ws j := ⟨_, rfl⟩
                have hv2 : a0 + b1 + a7 + b2 = vv := by rw [hvv, ha0, hb1, hb2, ha7, HA.out.1, HA.out.2]; rfl
                clear hb1 hb2 ha0 ha7
                refine act_at fun A0 hAq => ?_
                have hsz : A0.tmps.size = 93 := by
                  rw [hAq]
                  rfl
                have hA3 : A0.tmps.getD 3 undef = .pointer (some ⟨N, 0, none⟩) := by
                  rw [hAq]
                  first | rfl | kernel_rfl
                have hA5 : A0.tmps.getD 5 undef = nw (j) := by
                  rw [hAq]
                  first | rfl | kernel_rfl
                have hA8 : A0.tmps.getD 8 undef = bw (b1) := by
                  rw [hAq]
                  first | rfl | kernel_rfl
                have hA9 : A0.tmps.getD 9 undef = bw (b2) := by
                  rw [hAq]
                  first | rfl | kernel_rfl
                have HAq := Lib.hid hAq
                clear hAq
                apply wp_region_ext 15 [is (nw (j)), is (nw (j)), is (nw (j - 16)), is (.pointer (some ⟨N, j - 16, none⟩)), is (bw (a0)), is (bw (b1)), is (bw ((a0) + (b1))), is (nw (j)), is (nw (j - 7)), is (.pointer (some ⟨N, j - 7, none⟩)), is (bw (a7)), is (bw (((a0) + (b1)) + (a7))), is (bw (b2)), is (bw ((((a0) + (b1)) + (a7)) + (b2))), is (.pointer (some ⟨N, j, none⟩))] (by kernel_rfl) (by kernel_rfl) rfl
                case hops =>
                  simp only [List.take_succ_cons, List.take_zero]
                  with_reducible refine xOps_cons ?_ ?_
                  · with_reducible refine xop_un ?_ ?_
                    · rfl
                    · intro vs x F hF hd
                      have e1 : F.tmps.getD 5 undef = nw (j) := (hF.a 5 (by kernel_rfl) (by rw [hsz]; rfl)).trans hA5
                      exact m_v e1
                  with_reducible refine xOps_cons ?_ ?_
                  · with_reducible refine xop_un ?_ ?_
                    · rfl
                    · intro vs x F hF hd
                      have e1 : F.tmps.getD 5 undef = nw (j) := (hF.a 5 (by kernel_rfl) (by rw [hsz]; rfl)).trans hA5
                      exact m_v e1
                  with_reducible refine xOps_cons ?_ ?_
                  · with_reducible refine xop_un ?_ ?_
                    · rfl
                    · intro vs x F hF hd
                      have e1 : F.tmps.getD 78 undef = nw (j) := (hF.v 78 1 (by kernel_rfl) (by rw [hsz]; rfl)).trans (dep_at hd 0 1 (is (nw (j))) (by kernel_rfl) (by kernel_rfl))
                      exact n_sub e1 rfl (by omega) (by omega)
                  with_reducible refine xOps_cons ?_ ?_
                  · with_reducible refine xop_un ?_ ?_
                    · rfl
                    · intro vs x F hF hd
                      have e1 : F.tmps.getD 3 undef = .pointer (some ⟨N, 0, none⟩) := (hF.a 3 (by kernel_rfl) (by rw [hsz]; rfl)).trans hA3
                      have e2 : F.tmps.getD 79 undef = nw (j - 16) := (hF.v 79 2 (by kernel_rfl) (by rw [hsz]; rfl)).trans (dep_at hd 0 2 (is (nw (j - 16))) (by kernel_rfl) (by kernel_rfl))
                      exact a_i64 (n := j - 16) e1 e2 (by omega)
                  with_reducible refine xOps_cons ?_ ?_
                  · with_reducible refine xop_un ?_ ?_
                    · rfl
                    · intro vs x F hF hd
                      have e1 : F.tmps.getD 80 undef = .pointer (some ⟨N, j - 16, none⟩) := (hF.v 80 3 (by kernel_rfl) (by rw [hsz]; rfl)).trans (dep_at hd 0 3 (is (.pointer (some ⟨N, j - 16, none⟩))) (by kernel_rfl) (by kernel_rfl))
                      exact l_w e1 (cell_plus x c0)
                  with_reducible refine xOps_cons ?_ ?_
                  · with_reducible refine xop_un ?_ ?_
                    · rfl
                    · intro vs x F hF hd
                      have e1 : F.tmps.getD 8 undef = bw (b1) := (hF.a 8 (by kernel_rfl) (by rw [hsz]; rfl)).trans hA8
                      exact m_v e1
                  with_reducible refine xOps_cons ?_ ?_
                  · with_reducible refine xop_un ?_ ?_
                    · rfl
                    · intro vs x F hF hd
                      have e1 : F.tmps.getD 81 undef = bw (a0) := (hF.v 81 4 (by kernel_rfl) (by rw [hsz]; rfl)).trans (dep_at hd 0 4 (is (bw (a0))) (by kernel_rfl) (by kernel_rfl))
                      have e2 : F.tmps.getD 82 undef = bw (b1) := (hF.v 82 5 (by kernel_rfl) (by rw [hsz]; rfl)).trans (dep_at hd 1 5 (is (bw (b1))) (by kernel_rfl) (by kernel_rfl))
                      exact w_add e1 e2
                  with_reducible refine xOps_cons ?_ ?_
                  · with_reducible refine xop_un ?_ ?_
                    · rfl
                    · intro vs x F hF hd
                      have e1 : F.tmps.getD 5 undef = nw (j) := (hF.a 5 (by kernel_rfl) (by rw [hsz]; rfl)).trans hA5
                      exact m_v e1
                  with_reducible refine xOps_cons ?_ ?_
                  · with_reducible refine xop_un ?_ ?_
                    · rfl
                    · intro vs x F hF hd
                      have e1 : F.tmps.getD 84 undef = nw (j) := (hF.v 84 7 (by kernel_rfl) (by rw [hsz]; rfl)).trans (dep_at hd 0 7 (is (nw (j))) (by kernel_rfl) (by kernel_rfl))
                      exact n_sub e1 rfl (by omega) (by omega)
                  with_reducible refine xOps_cons ?_ ?_
                  · with_reducible refine xop_un ?_ ?_
                    · rfl
                    · intro vs x F hF hd
                      have e1 : F.tmps.getD 3 undef = .pointer (some ⟨N, 0, none⟩) := (hF.a 3 (by kernel_rfl) (by rw [hsz]; rfl)).trans hA3
                      have e2 : F.tmps.getD 85 undef = nw (j - 7) := (hF.v 85 8 (by kernel_rfl) (by rw [hsz]; rfl)).trans (dep_at hd 0 8 (is (nw (j - 7))) (by kernel_rfl) (by kernel_rfl))
                      exact a_i64 (n := j - 7) e1 e2 (by omega)
                  with_reducible refine xOps_cons ?_ ?_
                  · with_reducible refine xop_un ?_ ?_
                    · rfl
                    · intro vs x F hF hd
                      have e1 : F.tmps.getD 86 undef = .pointer (some ⟨N, j - 7, none⟩) := (hF.v 86 9 (by kernel_rfl) (by rw [hsz]; rfl)).trans (dep_at hd 0 9 (is (.pointer (some ⟨N, j - 7, none⟩))) (by kernel_rfl) (by kernel_rfl))
                      exact l_w e1 (cell_plus x c7)
                  with_reducible refine xOps_cons ?_ ?_
                  · with_reducible refine xop_un ?_ ?_
                    · rfl
                    · intro vs x F hF hd
                      have e1 : F.tmps.getD 83 undef = bw ((a0) + (b1)) := (hF.v 83 6 (by kernel_rfl) (by rw [hsz]; rfl)).trans (dep_at hd 0 6 (is (bw ((a0) + (b1)))) (by kernel_rfl) (by kernel_rfl))
                      have e2 : F.tmps.getD 87 undef = bw (a7) := (hF.v 87 10 (by kernel_rfl) (by rw [hsz]; rfl)).trans (dep_at hd 1 10 (is (bw (a7))) (by kernel_rfl) (by kernel_rfl))
                      exact w_add e1 e2
                  with_reducible refine xOps_cons ?_ ?_
                  · with_reducible refine xop_un ?_ ?_
                    · rfl
                    · intro vs x F hF hd
                      have e1 : F.tmps.getD 9 undef = bw (b2) := (hF.a 9 (by kernel_rfl) (by rw [hsz]; rfl)).trans hA9
                      exact m_v e1
                  with_reducible refine xOps_cons ?_ ?_
                  · with_reducible refine xop_un ?_ ?_
                    · rfl
                    · intro vs x F hF hd
                      have e1 : F.tmps.getD 88 undef = bw (((a0) + (b1)) + (a7)) := (hF.v 88 11 (by kernel_rfl) (by rw [hsz]; rfl)).trans (dep_at hd 0 11 (is (bw (((a0) + (b1)) + (a7)))) (by kernel_rfl) (by kernel_rfl))
                      have e2 : F.tmps.getD 89 undef = bw (b2) := (hF.v 89 12 (by kernel_rfl) (by rw [hsz]; rfl)).trans (dep_at hd 1 12 (is (bw (b2))) (by kernel_rfl) (by kernel_rfl))
                      exact w_add e1 e2
                  with_reducible refine xOps_cons ?_ ?_
                  · with_reducible refine xop_un ?_ ?_
                    · rfl
                    · intro vs x F hF hd
                      have e1 : F.tmps.getD 3 undef = .pointer (some ⟨N, 0, none⟩) := (hF.a 3 (by kernel_rfl) (by rw [hsz]; rfl)).trans hA3
                      have e2 : F.tmps.getD 77 undef = nw (j) := (hF.v 77 0 (by kernel_rfl) (by rw [hsz]; rfl)).trans (dep_at hd 0 0 (is (nw (j))) (by kernel_rfl) (by kernel_rfl))
                      exact a_i64 (n := j) e1 e2 (by omega)
                  exact xOps_nil
                case hst => exact ⟨is.st _, is.st _, is.st _, is.st _, is.st _, is.st _, is.st _, is.st _, is.st _, is.st _, is.st _, is.st _, is.st _, is.st _, is.st _, trivial⟩
                case hfin =>
                  intro vs x hf
                  have f13 : vs 13 = bw vv := (show vs 13 = bw ((((a0) + (b1)) + (a7)) + (b2)) from hf.2.2.2.2.2.2.2.2.2.2.2.2.2.1).trans (by rw [hv2])
                  have f14 : vs 14 = .pointer (some ⟨N, j, none⟩) := hf.2.2.2.2.2.2.2.2.2.2.2.2.2.2.1
                  clear hf
                  have hAq := HAq.out
                  subst hAq
                  clear hsz hA3 hA5 hA8 hA9
                  simp only [List.take_succ_cons, List.take_zero, List.drop_succ_cons, List.drop_zero, putAll, Act.put, List.setIfInBounds_toArray, List.set_cons_succ, List.set_cons_zero, Nat.zero_add, Nat.reduceAdd]
                  clear HAq
                  rw [f13]
                  rw [f14]
                  clear f13 f14
                  have HV := Lib.hid hvv
                  have hf := HS.out.1.free
                  have hc := wcell HS.out.1 (show j < ws.length by rw [HWS.out.2]; omega)
                  clear c0 c7 hvv hv2
                  go_wp2
                  go_roundw
                  case rel =>
                    refine ⟨j + 1, by omega, by omega, by go_num, Lib.hid ?_⟩
                    have e : j + 1 - 16 = (j - 16) + 1 := by omega
                    have e2 : 16 + (j - 16) = j := by omega
                    rw [e, fill2, e2, ← HWS.out.1, ← HV.out]
                    exact HS.out.put x vv (by rw [HWS.out.2]; omega) hne hNw hbw
                  case measure => simp [intOf]; omega
        · obtain rfl : j = 64 := by omega
          replace HS : Hid (SchR w N R b o bs (sched bs) wr) := HS
          clear hlt hj hj0
          go_upto_region 14 with fail
          go_wp2_with (with_reducible show wpList _ _ _ (⟨some 92, _, _, _, _, _⟩ :: _) _ _; refine Lock.out ?_)
          refine ⟨?_, trivial⟩
          refine wl_at fun Z hZ => ?_
          rw [← hZ] at HS
          clear hZ
          refine wl_load rfl 47 (.tmp 3) rfl HS.out.1 rfl Tryd.underlying47 rfl (by rw [List.length_map, sched_len]; kernel_rfl) ?_
          go_wp2_with (with_reducible show wpList _ _ _ (⟨none, _, _, _, _, _⟩ :: _) _ _; refine Lock.out ?_)
          refine ⟨?_, trivial⟩
          refine wl_store rfl 47 (.tmp 2) (.tmp 92) rfl HS.out.2.1 ((sched bs).map bw) rfl rfl (by rw [List.length_map, List.length_map, sched_len]; rfl) (by rw [List.length_map, sched_len]; kernel_rfl) (one_cells _) fun W hW hx => ?_
          have HX := Lib.hid (hx.ext _ HS.out.2.2.1 hRw)
          have HR := Lib.hid hW
          clear hW hx HS
          go_wp2
          refine bodyPost_ret (results_cell Tryd.results28 HR.out rfl Tryd.underlying47 rfl (by rw [List.length_map, sched_len]; kernel_rfl)) rfl ?_
          exact ⟨rfl, HX.out⟩
end Go.Proofs.YtbdahlfakinagaaDoor
