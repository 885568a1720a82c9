/- The reference's State. -/
import Derived.Test.YtbdahlfakinagaaDoorDgW
set_option linter.unusedVariables false
namespace Go.Proofs.YtbdahlfakinagaaDoor
open Go.RowKit Go.Rg

theorem comes_mid {P : Program} {op : Oper} {F : Act} {W : World} (x lo hi' : Operand) {t e : TypeId} {i : TypeInfo} (ho : op.op = .slice t x (some lo) (some hi') none) (ht : P.underlying t = some (.slice e)) (hi : P.info? e = some i) (hs : i.size = 1) {g o n c p q : Nat}
    (hx : F.eval x = .slice (some ⟨g, o, none⟩) n c) (hlo : F.eval lo = nw p) (hhi : F.eval hi' = nw (p + q)) (h1 : p + q ≤ c) (h2 : p < c) : comes P op F W (fun v w' => Ext W w' ∧ v = .slice (some ⟨g, o + p, none⟩) q (c - p)) := by
  have hr : (Instr.slice t (.slice (some ⟨g, o, none⟩) n c) (some (.int .i64 (p : Int))) (some (.int .i64 ((p + q : Nat) : Int))) none).run P W = .ok (.slice (some ⟨g, o + p, none⟩) q (c - p)) W := by
    have a1 : ¬ c < p + q := by omega
    have a2 : ¬ p + q < p := by omega
    have a3 : ¬ c = p := by omega
    have a4 : p + q - p = q := by omega
    have a5 : ((Addr.mk g o none).add (p * 1)) = ⟨g, o + p, none⟩ := by
      unfold Addr.add
      split <;> simp_all
    simp [Instr.slice, run_underlying ht, Instr.sliceBounds, Instr.sliceBound, asIntOf, a1, a2, a3, a4, sizeOf, typeInfo, hi, hs]
    have a6 : (Addr.mk g o none).add p = ⟨g, o + p, none⟩ := by simpa using a5
    rw [if_pos ⟨by omega, by omega⟩, if_pos (by omega), a6]
    have a7 : ((p : Int) + (q : Int)).toNat - p = q := by omega
    rw [a7]
  have hsa : (Instr.sliceAt t (.slice (some ⟨g, o, none⟩) n c) (some (.int .i64 (p : Int))) (some (.int .i64 ((p + q : Nat) : Int))) none).run P W = .ok (.slice (some ⟨g, o + p, none⟩) q (c - p)) W := by rw [← hr]; simp [Instr.sliceAt, run_underlying ht]
  unfold comes execOp
  simp only [ho, Option.map_some, Option.map_none, hx, hlo, hhi, Sem.run_bind, hsa, Result.andThen_ok, Sem.run_pure]
  exact ⟨Ext.refl _, rfl⟩
/-- What lies in memory in State's loop. -/
structure StR (w : World) (B R : Nat) (s : List W32) (n : Nat) (wr : World) : Prop where
  box : Box 0 (dcs s n none 0 0) B wr
  res : Box 0 zeroD R wr
  ext : Ext w wr
theorem StR.ext' {w : World} {B R : Nat} {s : List W32} {n : Nat} {wr w2 : World} (h : StR w B R s n wr) (e : Ext wr w2) : StR w B R s n w2 := ⟨h.box.ext e, h.res.ext e, h.ext.trans e⟩
theorem StR.stb {w : World} {B R : Nat} {s s' : List W32} {n : Nat} {wr w2 : World} (h : StR w B R s n wr) (k : StB B wr w2) (hb : Box 0 (dcs s' n none 0 0) B w2) (hBR : R ≠ B) (hw : w.heap.size ≤ B) : StR w B R s' n w2 := ⟨hb, k.box h.res hBR, k.ext _ h.ext hw⟩
/-- An empty slice of the call's own. -/
def isE (base : Nat) : Value → World → Prop := fun v w => ∃ b, v = .slice (some ⟨b, 0, none⟩) 0 0 ∧ w.ownsRow base 5 1 v 0 []
theorem isE.st (base : Nat) : Stable (isE base) := fun _ _ _ e ⟨b, h1, h2⟩ => ⟨b, h1, own_ext h2 e⟩
theorem bytes_one (l : List Int) : ∀ u ∈ bytes l, u.oneCell' = true := by
  intro u hu
  simp at hu
  obtain ⟨z, _, rfl⟩ := hu
  rfl
set_option maxRecDepth 100000 in
set_option maxHeartbeats 8000000 in
theorem refState_core (D : Option Addr) (k d : Nat) (bl : List Int) (w : World) (hB : BS w (.slice D k d) bl) (hb : By bl) (hl : bl.length ≤ 1099511627776) :
    Calls Tryd.prog 19 #[.slice D k d] w fun e w' => ∃ v, e = .returned v ∧ IsD w.heap.size w' v (stOf bl) bl.length (tlOf bl) ∧ Ext w w' := by
  obtain ⟨hrow, hkd, hdm, hnil, hkl⟩ := hB.at_
  obtain ⟨i0, hi, hz0, hz1, hz2⟩ := info_parts Tryd.infoByte
  have HA := Lib.hid (And.intro hrow (And.intro hb hkl))
  have HN := Lib.hid hnil
  have hkb : k ≤ 1099511627776 := by omega
  clear hrow hb hkl hl hB hnil
  obtain ⟨z0, z1, z2, z3, z4, z5, z6, z7, hIL⟩ := list8 (show IL.length = 8 from rfl)
  go_enter Tryd.func19, Tryd.ntmps19
  go_wp2_with fail
  refine calls_at fun Y hY => ?_
  obtain ⟨R, hRe⟩ : ∃ R, R = w.heap.size := ⟨_, rfl⟩
  have hRes : Box 0 zeroD R Y := by
    rw [hY, hRe]
    repeat' (first | with_reducible assumption | ((with_reducible refine Box.fresh ?fb ?fn ?fr); (case fb => first | omega | (simp <;> omega)); (case fn => first | omega | (simp <;> omega)); (case fr => rfl)) | with_reducible apply Box.up | with_reducible apply Box.drew_ | with_reducible apply Box.drewN_ | with_reducible apply Box.plus_ | with_reducible apply Box.put | with_reducible refine Box.off ?_ (by omega))
    all_goals first | rfl | (simp; done)
  have hE : Ext w Y := by
    rw [hY]
    repeat' (first | with_reducible assumption | with_reducible exact Ext.refl _ | with_reducible apply Ext.alloc | with_reducible apply Ext.drew | with_reducible apply Ext.drewN | with_reducible apply Ext.plus_ | with_reducible refine Ext.put ?_ (by omega))
  rw [← hRe]
  have hRw : w.heap.size ≤ R := by omega
  clear hY hRe
  refine (initial_any Y).mono ?_
  rintro e Y1 ⟨rfl, hE1⟩
  rw [hIL]
  have hv : wv [z0, z1, z2, z3, z4, z5, z6, z7] = .agg #[bw z0, bw z1, bw z2, bw z3, bw z4, bw z5, bw z6, bw z7] := rfl
  rw [hv]
  have H1 := Lib.hid (And.intro (hRes.ext hE1) (hE.trans hE1))
  clear hRes hE hE1 hv
  go_wp2_with (with_reducible show wpList _ _ _ (⟨none, _, _, _, _, _⟩ :: _) _ _; refine Lock.out ?_)
  refine ⟨?_, trivial⟩
  refine wl_at fun Z hZ => ?_
  obtain ⟨B, hBe⟩ : ∃ B, B = Y1.heap.size := ⟨_, rfl⟩
  have hB0 : Box 0 zeroD B Z := by
    rw [hZ, hBe]
    repeat' (first | with_reducible assumption | ((with_reducible refine Box.fresh ?fb ?fn ?fr); (case fb => first | omega | (simp <;> omega)); (case fn => first | omega | (simp <;> omega)); (case fr => rfl)) | with_reducible apply Box.up | with_reducible apply Box.drew_ | with_reducible apply Box.drewN_ | with_reducible apply Box.plus_ | with_reducible apply Box.put | with_reducible refine Box.off ?_ (by omega))
    all_goals first | rfl | (simp; done)
  have hE1 : Ext Y1 Z := by
    rw [hZ]
    repeat' (first | with_reducible assumption | with_reducible exact Ext.refl _ | with_reducible apply Ext.alloc | with_reducible apply Ext.drew | with_reducible apply Ext.drewN | with_reducible apply Ext.plus_ | with_reducible refine Ext.put ?_ (by omega))
  have hBl : Y1.heap.size ≤ B := by omega
  have hRB : R ≠ B := by
    have := H1.out.1.lt
    omega
  rw [← hBe]
  clear hZ hBe
  refine wl_store rfl 34 (.tmp 3) (.tmp 8) rfl hB0 (dcs [z0, z1, z2, z3, z4, z5, z6, z7] k none 0 0) rfl rfl rfl (by kernel_rfl) rfl fun W1 hBW hx => ?_
  have hwB : w.heap.size ≤ B := Nat.le_trans H1.out.2.size hBl
  have hE2 := hx.ext _ hE1 hBl
  have HS : Hid (StR w B R (run IL bl 0) k W1) := Lib.hid (by
    rw [run, hIL]
    exact ⟨hBW, H1.out.1.ext hE2, H1.out.2.trans hE2⟩)
  clear hB0 hE1 hBl hx hE2 hBW H1 Z hIL
  go_wp2
  go_loopw [4] (fun v4 wr => ∃ q j : Nat, j ≤ k ∧ v4 = nw j ∧ Hid (j = 64 * q ∧ StR w B R (run IL bl q) k wr)) (fun v4 _ => k - (intOf v4).toNat)
  case atStart => exact ⟨0, 0, Nat.zero_le _, rfl, Lib.hid ⟨rfl, HS.out⟩⟩
  case round =>
    clear HS
    obtain ⟨q, j, hj, rfl, HS0⟩ := hrel
    obtain ⟨hjq, hs0⟩ := HS0.out
    have HJ := Lib.hid hjq
    obtain ⟨st, hst⟩ : ∃ st, st = run IL bl q := ⟨_, rfl⟩
    rw [← hst] at hs0
    obtain ⟨y0, y1, y2, y3, y4, y5, y6, y7, rfl⟩ := list8 (show st.length = 8 by rw [hst]; exact run_len bl rfl q)
    have HS := Lib.hid hs0
    have HST := Lib.hid hst
    clear HS0 hjq hs0 hst
    by_cases h64 : j + 64 ≤ k
    · have h64i : (j : Int) + 64 ≤ (k : Int) := by omega
      obtain ⟨g, o, rfl, hgw, hcell⟩ := HA.out.1.2 (by omega)
      obtain ⟨bb, hbb⟩ : ∃ bb, bb = (bl.drop j).take 64 := ⟨_, rfl⟩
      have hby : By bb := fun x hx => HA.out.2.1 x (by rw [hbb] at hx; exact List.mem_of_mem_drop (List.mem_of_mem_take hx))
      have hbl : bb.length = 64 := by rw [hbb, List.length_take, List.length_drop, HA.out.2.2]; omega
      have hba : BytesAt g (o + j) 64 bb w := bytesAt_of (fun i u hu => by
        rw [hbb, bytes, List.map_take, List.map_drop, List.getElem?_take] at hu
        split at hu
        · rw [List.getElem?_drop] at hu
          have := hcell (j + i) u hu
          rw [Nat.add_assoc]
          exact this
        · cases hu) hbl hby
      have HC := Lib.hid (And.intro hbb hba)
      have hqd : j + 64 ≤ d := by omega
      have hqd2 : j < d := by omega
      clear hcell hbb hby hbl hba
      go_upto_region 4 with fail
      refine wp_at fun Y hY => ?_
      rw [← hY] at HS
      have hgl : g < Y.heap.size := Nat.lt_of_lt_of_le hgw HS.out.ext.size
      have HBA := Lib.hid (HC.out.2.ext HS.out.ext)
      clear hY
      refine act_at fun A0 hAq => ?_
      have hsz : A0.tmps.size = 32 := by
        rw [hAq]
        rfl
      have hA0 : A0.tmps.getD 0 undef = .slice (some ⟨g, o, none⟩) k d := by
        rw [hAq]
        first | rfl | kernel_rfl
      have hA3 : A0.tmps.getD 3 undef = .pointer (some ⟨B, 0, none⟩) := by
        rw [hAq]
        first | rfl | kernel_rfl
      have hA4 : A0.tmps.getD 4 undef = nw (j) := by
        rw [hAq]
        first | rfl | kernel_rfl
      have HAq := Lib.hid hAq
      clear hAq
      apply wp_region_ext 9 [is (.pointer (some ⟨B, 0, none⟩)), is (.agg #[bw y0, bw y1, bw y2, bw y3, bw y4, bw y5, bw y6, bw y7]), is (.slice (some ⟨g, o, none⟩) k d), is (nw (j)), is (nw (j)), is (nw (j + 64)), is (.slice (some ⟨g, o + j, none⟩) 64 (d - j)), is (wv (blk [y0, y1, y2, y3, y4, y5, y6, y7] bb)), is (.pointer (some ⟨B, 0, none⟩))] (by kernel_rfl) (by kernel_rfl) rfl
      case hops =>
        simp only [List.take_succ_cons, List.take_zero]
        with_reducible refine xOps_cons ?_ ?_
        · with_reducible refine xop_un ?_ ?_
          · rfl
          · intro vs x F hF hd
            have e1 : F.tmps.getD 3 undef = .pointer (some ⟨B, 0, none⟩) := (hF.a 3 (by kernel_rfl) (by rw [hsz]; rfl)).trans hA3
            clear hF hd
            simp only [comes]
            go_simp
            first | exact ⟨Ext.refl _, rfl⟩ | exact Ext.refl _
        with_reducible refine xOps_cons ?_ ?_
        · with_reducible refine xop_un ?_ ?_
          · rfl
          · intro vs x F hF hd
            have e1 : F.tmps.getD 14 undef = .pointer (some ⟨B, 0, none⟩) := (hF.v 14 0 (by kernel_rfl) (by rw [hsz]; rfl)).trans (dep_at hd 0 0 (is (.pointer (some ⟨B, 0, none⟩))) (by kernel_rfl) (by kernel_rfl))
            exact comes_load_at 32 (.tmp 14) rfl (Box.preRange (cs := [y0, y1, y2, y3, y4, y5, y6, y7].map bw) (HS.out.box.ext (by repeat (first | exact Ext.refl _ | assumption | apply Ext.plus_ | apply Ext.alloc | apply Ext.drew)))) e1 Tryd.underlying32 rfl (by kernel_rfl)
        with_reducible refine xOps_cons ?_ ?_
        · with_reducible refine xop_un ?_ ?_
          · rfl
          · intro vs x F hF hd
            have e1 : F.tmps.getD 0 undef = .slice (some ⟨g, o, none⟩) k d := (hF.a 0 (by kernel_rfl) (by rw [hsz]; rfl)).trans hA0
            exact m_v e1
        with_reducible refine xOps_cons ?_ ?_
        · with_reducible refine xop_un ?_ ?_
          · rfl
          · intro vs x F hF hd
            have e1 : F.tmps.getD 4 undef = nw (j) := (hF.a 4 (by kernel_rfl) (by rw [hsz]; rfl)).trans hA4
            exact m_v e1
        with_reducible refine xOps_cons ?_ ?_
        · with_reducible refine xop_un ?_ ?_
          · rfl
          · intro vs x F hF hd
            have e1 : F.tmps.getD 4 undef = nw (j) := (hF.a 4 (by kernel_rfl) (by rw [hsz]; rfl)).trans hA4
            exact m_v e1
        with_reducible refine xOps_cons ?_ ?_
        · with_reducible refine xop_un ?_ ?_
          · rfl
          · intro vs x F hF hd
            have e1 : F.tmps.getD 18 undef = nw (j) := (hF.v 18 4 (by kernel_rfl) (by rw [hsz]; rfl)).trans (dep_at hd 0 4 (is (nw (j))) (by kernel_rfl) (by kernel_rfl))
            exact n_add e1 rfl (by omega)
        with_reducible refine xOps_cons ?_ ?_
        · with_reducible refine xop_un ?_ ?_
          · rfl
          · intro vs x F hF hd
            have e1 : F.tmps.getD 16 undef = .slice (some ⟨g, o, none⟩) k d := (hF.v 16 2 (by kernel_rfl) (by rw [hsz]; rfl)).trans (dep_at hd 0 2 (is (.slice (some ⟨g, o, none⟩) k d)) (by kernel_rfl) (by kernel_rfl))
            have e2 : F.tmps.getD 17 undef = nw (j) := (hF.v 17 3 (by kernel_rfl) (by rw [hsz]; rfl)).trans (dep_at hd 1 3 (is (nw (j))) (by kernel_rfl) (by kernel_rfl))
            have e3 : F.tmps.getD 19 undef = nw (j + 64) := (hF.v 19 5 (by kernel_rfl) (by rw [hsz]; rfl)).trans (dep_at hd 2 5 (is (nw (j + 64))) (by kernel_rfl) (by kernel_rfl))
            exact comes_mid (p := j) (q := 64) (.tmp 16) (.tmp 17) (.tmp 19) rfl Tryd.underlying22 hi hz1 e1 e2 e3 hqd hqd2
        with_reducible refine xOps_cons ?_ ?_
        · with_reducible refine xop_un ?_ ?_
          · rfl
          · intro vs x F hF hd
            have e15 : F.tmps.getD 15 undef = .agg #[bw y0, bw y1, bw y2, bw y3, bw y4, bw y5, bw y6, bw y7] := (hF.v 15 1 (by kernel_rfl) (by rw [hsz]; rfl)).trans (dep_at hd 0 1 (is (.agg #[bw y0, bw y1, bw y2, bw y3, bw y4, bw y5, bw y6, bw y7])) (by kernel_rfl) (by kernel_rfl))
            have e20 : F.tmps.getD 20 undef = .slice (some ⟨g, o + j, none⟩) 64 (d - j) := (hF.v 20 6 (by kernel_rfl) (by rw [hsz]; rfl)).trans (dep_at hd 1 6 (is (.slice (some ⟨g, o + j, none⟩) 64 (d - j))) (by kernel_rfl) (by kernel_rfl))
            clear hF hd
            simp only [comes]
            go_simp
            refine (refBlock_core y0 y1 y2 y3 y4 y5 y6 y7 g (o + j) (d - j) bb _ (HBA.out.ext (by repeat (first | exact Ext.refl _ | assumption | apply Ext.plus_ | apply Ext.alloc | apply Ext.drew))) (Nat.lt_of_lt_of_le hgl (show Ext Y (Y.plus x) from (by repeat (first | exact Ext.refl _ | assumption | apply Ext.plus_ | apply Ext.alloc | apply Ext.drew))).size)).mono ?_
            rintro e w' ⟨rfl, hE⟩
            first | exact ⟨_, rfl, hE, rfl⟩ | exact ⟨_, rfl, hE⟩ | exact ⟨rfl, hE⟩ | exact ⟨_, hE⟩ | exact hE
        with_reducible refine xOps_cons ?_ ?_
        · with_reducible refine xop_un ?_ ?_
          · rfl
          · intro vs x F hF hd
            have e1 : F.tmps.getD 3 undef = .pointer (some ⟨B, 0, none⟩) := (hF.a 3 (by kernel_rfl) (by rw [hsz]; rfl)).trans hA3
            clear hF hd
            simp only [comes]
            go_simp
            first | exact ⟨Ext.refl _, rfl⟩ | exact Ext.refl _
        exact xOps_nil
      case hst => exact ⟨is.st _, is.st _, is.st _, is.st _, is.st _, is.st _, is.st _, is.st _, is.st _, trivial⟩
      case hfin =>
        intro vs x hf
        have f7 : vs 7 = wv (blk [y0, y1, y2, y3, y4, y5, y6, y7] bb) := hf.2.2.2.2.2.2.2.1
        have f8 : vs 8 = .pointer (some ⟨B, 0, none⟩) := hf.2.2.2.2.2.2.2.2.1
        clear hf
        have hAq := HAq.out
        subst hAq
        clear hsz hA0 hA3 hA4
        simp only [List.take_succ_cons, List.take_zero, List.drop_succ_cons, List.drop_zero, putAll, Act.put, List.setIfInBounds_toArray, List.set_cons_succ, List.set_cons_zero, Nat.zero_add, Nat.reduceAdd]
        clear HAq
        rw [f7]
        rw [f8]
        clear f7 f8
        have hbox := HS.out.box.ext (show Ext Y (Y.plus x) from (by repeat (first | exact Ext.refl _ | assumption | apply Ext.plus_ | apply Ext.alloc | apply Ext.drew)))
        have hbl : (blk [y0, y1, y2, y3, y4, y5, y6, y7] bb).length = 8 := blk_len _ rfl
        refine wl_store_pre rfl 32 (.tmp 22) (.tmp 21) rfl hbox ((blk [y0, y1, y2, y3, y4, y5, y6, y7] bb).map bw) rfl rfl (by rw [List.length_map, List.length_map, hbl]; rfl) (by rw [List.length_map, hbl]; kernel_rfl) (one_cells _) fun W3 hB3 hx => ?_
        have HS3 := Lib.hid ((StR.ext' HS.out (show Ext Y (Y.plus x) from (by repeat (first | exact Ext.refl _ | assumption | apply Ext.plus_ | apply Ext.alloc | apply Ext.drew)))).stb hx hB3 hRB hwB)
        clear hbox hbl hB3 hx HS HBA
        go_wp2
        go_roundw
        case rel =>
          refine ⟨q + 1, j + 64, by omega, by go_num, Lib.hid ⟨by have := HJ.out; omega, ?_⟩⟩
          rw [run, ← HST.out, ← HJ.out, ← HC.out.1]
          exact HS3.out
        case measure => simp [intOf]; omega
    · have h64i : ¬ (j : Int) + 64 ≤ (k : Int) := by omega
      have hji : (j : Int) ≤ (k : Int) := by omega
      go_upto_region 6 with fail
      refine wp_at fun Y hY => ?_
      rw [← hY] at HS
      clear hY
      refine act_at fun A0 hAq => ?_
      have hsz : A0.tmps.size = 32 := by
        rw [hAq]
        rfl
      have hA0 : A0.tmps.getD 0 undef = .slice D k d := by
        rw [hAq]
        first | rfl | kernel_rfl
      have hA4 : A0.tmps.getD 4 undef = nw (j) := by
        rw [hAq]
        first | rfl | kernel_rfl
      have HAq := Lib.hid hAq
      clear hAq
      apply wp_region_seq 4 [isE Y.heap.size, is (.slice D k d), is (nw (j)), is (.slice (fromAddr D d j) (k - j) (d - j))] (by kernel_rfl) (by kernel_rfl) rfl
      case hops =>
        simp only [List.take_succ_cons, List.take_zero]
        with_reducible refine xOps_cons ?_ ?_
        · with_reducible refine xop_un ?_ ?_
          · rfl
          · intro vs x F hF hd
            clear hF hd
            simp only [comes]
            go_simp
            exact ⟨(Ext.refl _).alloc _, _, rfl, own_empty _ _ _ (show Ext Y (Y.plus x) from (by repeat (first | exact Ext.refl _ | assumption | apply Ext.plus_ | apply Ext.alloc | apply Ext.drew))).size⟩
        with_reducible refine xOps_cons ?_ ?_
        · with_reducible refine xop_un ?_ ?_
          · rfl
          · intro vs x F hF hd
            have e1 : F.tmps.getD 0 undef = .slice D k d := (hF.a 0 (by kernel_rfl) (by rw [hsz]; rfl)).trans hA0
            exact m_v e1
        with_reducible refine xOps_cons ?_ ?_
        · with_reducible refine xop_un ?_ ?_
          · rfl
          · intro vs x F hF hd
            have e1 : F.tmps.getD 4 undef = nw (j) := (hF.a 4 (by kernel_rfl) (by rw [hsz]; rfl)).trans hA4
            exact m_v e1
        with_reducible refine xOps_cons ?_ ?_
        · with_reducible refine xop_un ?_ ?_
          · rfl
          · intro vs x F hF hd
            have e1 : F.tmps.getD 26 undef = .slice D k d := (hF.v 26 1 (by kernel_rfl) (by rw [hsz]; rfl)).trans (dep_at hd 0 1 (is (.slice D k d)) (by kernel_rfl) (by kernel_rfl))
            have e2 : F.tmps.getD 27 undef = nw (j) := (hF.v 27 2 (by kernel_rfl) (by rw [hsz]; rfl)).trans (dep_at hd 1 2 (is (nw (j))) (by kernel_rfl) (by kernel_rfl))
            exact comes_from (.tmp 26) (.tmp 27) 22 5 i0 rfl Tryd.underlying22 hi hz1 D k d j e1 e2 hj ⟨Ext.refl _, rfl⟩
        exact xOps_nil
      case hst => exact ⟨isE.st _, is.st _, is.st _, is.st _, trivial⟩
      case hfin =>
        intro vs x hf
        have f3 : vs 3 = .slice (fromAddr D d j) (k - j) (d - j) := hf.2.2.2.1
        obtain ⟨E, f0, hE0⟩ := hf.1
        have g0 : vs 0 = .slice (some ⟨E, 0, none⟩) 0 0 := f0
        rw [g0] at hE0
        clear hf f0
        have hAq := HAq.out
        subst hAq
        clear hsz hA0 hA4
        simp only [List.take_succ_cons, List.take_zero, List.drop_succ_cons, List.drop_zero, putAll, Act.put, List.setIfInBounds_toArray, List.set_cons_succ, List.set_cons_zero, Nat.zero_add, Nat.reduceAdd]
        clear HAq
        rw [f3]
        clear f3
        rw [g0]
        clear g0
        obtain ⟨tb, htb⟩ : ∃ tb, tb = bl.drop j := ⟨_, rfl⟩
        obtain ⟨nt, hnt⟩ : ∃ nt, nt = k - j := ⟨_, rfl⟩
        have htl : tb.length = nt := by rw [htb, List.length_drop, HA.out.2.2, hnt]
        have hrow2 := Row.from_ (HA.out.1.lift (HS.out.ext.trans (show Ext Y (Y.plus x) from (by repeat (first | exact Ext.refl _ | assumption | apply Ext.plus_ | apply Ext.alloc | apply Ext.drew))))) hj hkd
        rw [← List.map_drop, ← htb, ← hnt] at hrow2
        have HT := Lib.hid (And.intro htb htl)
        have hntb : nt ≤ 1099511627776 := by omega
        rw [← hnt]
        have hq64 : q = k / 64 := by have := HJ.out; omega
        clear htb htl hnt
        refine wpList_app _ rfl (.tmp 25) (.tmp 28) 22 rfl _ _ rfl rfl (app_empty _ Y.heap.size 22 _ 5 i0 (.int .u8 0) 1 Tryd.underlying22 hi hz0 hz1 hz2 rfl _ hE0 _ _ _ _ (bytes tb) hrow2 (bytes_one _) (by unfold maxLen; omega) (by omega) (show Ext Y (Y.plus x) from (by repeat (first | exact Ext.refl _ | assumption | apply Ext.plus_ | apply Ext.alloc | apply Ext.drew))).size) ?_
        rintro v' W2 ⟨hown, hE⟩
        obtain ⟨A6, c6, rfl, hle6, hm6⟩ := own_form hown
        have hYB : B < Y.heap.size := HS.out.box.lt
        have hYR : R < Y.heap.size := HS.out.res.lt
        replace HS := Lib.hid (StR.ext' HS.out ((show Ext Y (Y.plus x) from (by repeat (first | exact Ext.refl _ | assumption | apply Ext.plus_ | apply Ext.alloc | apply Ext.drew))).trans hE))
        have HO := Lib.hid (And.intro hown (And.intro hYB (And.intro hYR hq64)))
        have c9 := HS.out.box.cell 9 (by simp)
        simp only [dcs, List.map_cons, List.map_nil, List.cons_append, List.nil_append, List.getElem?_cons_zero, List.getElem?_cons_succ] at c9
        have hf := HS.out.box.free
        clear hown hE hYB hYR hE0 hrow2 hq64
        go_wp2_with (with_reducible show wpList _ _ _ (⟨some 31, _, _, _, _, _⟩ :: _) _ _; refine Lock.out ?_)
        refine ⟨?_, trivial⟩
        refine wl_at fun Z hZ => ?_
        have hZb : Box 0 (dcs [y0, y1, y2, y3, y4, y5, y6, y7] k A6 nt c6) B Z := by
          rw [hZ]
          exact Box.put HS.out.box rfl (by simp)
        have hZo : Z.ownsRow Y.heap.size 5 1 (.slice A6 nt c6) nt (bytes tb) := by
          rw [hZ]
          exact own_setCell HO.out.1 (p := ⟨B, 9, none⟩) HO.out.2.1 _
        have hZr : Box 0 zeroD R Z := by
          rw [hZ]
          exact Box.off HS.out.res (Ne.symm hRB)
        have hZe : Ext w Z := by
          rw [hZ]
          exact Ext.put HS.out.ext hwB
        clear hZ c9 hf
        refine wl_load rfl 34 (.tmp 3) rfl hZb rfl Tryd.underlying34 rfl (by kernel_rfl) ?_
        have HZ := Lib.hid (And.intro hZo (And.intro hZr hZe))
        have hwY : w.heap.size ≤ Y.heap.size := by have := HO.out.2.2.1; omega
        clear hZb hZo hZr hZe HS
        go_wp2_with (with_reducible show wpList _ _ _ (⟨none, _, _, _, _, _⟩ :: _) _ _; refine Lock.out ?_)
        refine ⟨?_, trivial⟩
        refine wl_storeO rfl 34 (.tmp 2) (.tmp 31) rfl HZ.out.2.1 (dcs [y0, y1, y2, y3, y4, y5, y6, y7] k A6 nt c6) rfl rfl rfl (by kernel_rfl) rfl fun W hW hx ho => ?_
        have HX := Lib.hid (And.intro (hx.ext _ HZ.out.2.2 hRw) (ho HO.out.2.2.1 HZ.out.1))
        have HR := Lib.hid hW
        clear hW hx ho HZ
        go_wp2
        refine bodyPost_ret (results_cell Tryd.results19 HR.out rfl Tryd.underlying34 rfl (by kernel_rfl)) rfl ?_
        have h1 := HST.out
        have h3 := HO.out.2.2.2
        have hk := HA.out.2.2
        have hj2 := HJ.out
        have e1 : tlOf bl = tb := by rw [tlOf, HT.out.1, hk, ← h3, ← hj2]
        refine ⟨_, rfl, ⟨A6, c6, ?_, ?_⟩, HX.out.1⟩
        · rw [e1, stOf, hk, ← h3, ← h1, HT.out.2]
        · rw [e1, HT.out.2]
          exact own_lower HX.out.2 hwY
end Go.Proofs.YtbdahlfakinagaaDoor
