/- Text and its reference. -/
import Derived.Test.YtbdahlfakinagaaDoorDgT0
set_option linter.unusedVariables false
namespace Go.Proofs.YtbdahlfakinagaaDoor
open Go.RowKit Go.Rg

theorem hexI_len (l : List Int) : (hexI l).length = 2 * l.length := by
  induction l with
  | nil => rfl
  | cons a l ih =>
    rw [hexI, List.flatMap_cons, List.length_append, ← hexI, ih]
    simp
    omega
theorem hexI_succ (l : List Int) (k : Nat) (c : Int) (h : l[k]? = some c) : hexI (l.take k) ++ [dig (c / 16), dig (c % 16)] = hexI (l.take (k + 1)) := by
  rw [List.take_add_one, h]
  simp [hexI]
theorem byte_at_ {l : List Int} (h : By l) {k : Nat} {c : Int} (e : l[k]? = some c) : 0 ≤ c ∧ c ≤ 255 := h c (List.mem_of_getElem? e)
set_option maxRecDepth 100000 in
set_option maxHeartbeats 8000000 in
theorem text_core (A : Option Addr) (m c : Nat) (l : List Int) (w : World) (hB : BS w (.slice A m c) l) (hb : By l) (hl : l.length ≤ 549755813888) :
    Calls Tryd.prog 12 #[.slice A m c] w fun e w' => e = .returned (.string (strOfNums (hexI l))) ∧ Ext w w' := by
  obtain ⟨hrow, hmc, hcm, hnil, hml⟩ := hB.at_
  obtain ⟨i0, hi, hz0, hz1, hz2⟩ := info_parts Tryd.infoByte
  have HA := Lib.hid (And.intro hrow (And.intro hb hml))
  have hmb : m ≤ 549755813888 := by omega
  have HS : Hid (SmR w w.heap.size (.slice none 0 0) (hexI (l.take 0)) w) := Lib.hid ⟨⟨rfl, .inl ⟨rfl, rfl⟩⟩, Ext.refl _, Nat.le_refl _⟩
  clear hrow hb hml hl hB hnil
  go_enter Tryd.func12, Tryd.ntmps12
  go_wp2
  go_loopw [8, 5, 3] (fun v8 _ v3 wr => ∃ k : Nat, k ≤ m ∧ v8 = nw k ∧ Hid (SmR w w.heap.size v3 (hexI (l.take k)) wr)) (fun v8 _ _ _ => m - (intOf v8).toNat)
  case atStart => exact ⟨0, Nat.zero_le _, rfl, HS⟩
  case round =>
    clear HS
    obtain ⟨k, hk, rfl, HS⟩ := hrel
    obtain ⟨A3, c3, hv3, hle3, hm3⟩ := own_form HS.out.own
    have hl3 : (hexI (l.take k)).length = 2 * k := by rw [hexI_len, List.length_take, HA.out.2.2]; omega
    rw [hl3] at hv3 hle3
    subst hv3
    by_cases hlt : k < m
    · have hki : (k : Int) < (m : Int) := by omega
      obtain ⟨ck, hck⟩ : ∃ ck, l[k]? = some ck := ⟨_, List.getElem?_eq_getElem (by rw [HA.out.2.2]; exact hlt)⟩
      obtain ⟨hk0, hk1⟩ := byte_at_ HA.out.2.1 hck
      obtain ⟨b, o, rfl, hbw, hcell⟩ := (HA.out.1.lift HS.out.ext).2 (by omega)
      have hcl := hcell k (.int .u8 ck) (by rw [bytes, List.getElem?_map, hck]; rfl)
      have HCK := Lib.hid hck
      have hq0 : 0 ≤ ck / 16 := by omega
      have hq1 : ck / 16 < 16 := by omega
      have hr0 : 0 ≤ ck % 16 := by omega
      have hr1 : ck % 16 < 16 := by omega
      clear hck hcell
      go_upto_region 5 with fail
      refine wp_at fun Y hY => ?_
      rw [← hY] at HS
      clear hY hcl hbw
      refine act_at fun A0 hAq => ?_
      have hsz : A0.tmps.size = 24 := by
        rw [hAq]
        rfl
      have hA3 : A0.tmps.getD 3 undef = .slice A3 (2 * k) c3 := by
        rw [hAq]
        first | rfl | kernel_rfl
      have hA5 : A0.tmps.getD 5 undef = .int .u8 ck := by
        rw [hAq]
        first | rfl | kernel_rfl
      have HAq := Lib.hid hAq
      clear hAq
      apply wp_region_ext 8 [is (.slice A3 (2 * k) c3), is (.int .u8 ck), is (.int .u8 (ck / 16)), is (.int .u8 (dig (ck / 16))), is (.int .u8 ck), is (.int .u8 (ck % 16)), is (.int .u8 (dig (ck % 16))), isRow [.int .u8 (dig (ck / 16)), .int .u8 (dig (ck % 16))]] (by kernel_rfl) (by kernel_rfl) rfl
      case hops =>
        simp only [List.take_succ_cons, List.take_zero]
        with_reducible refine xOps_cons ?_ ?_
        · with_reducible refine xop_un ?_ ?_
          · rfl
          · intro vs x F hF hd
            have e1 : F.tmps.getD 3 undef = .slice A3 (2 * k) c3 := (hF.a 3 (by kernel_rfl) (by rw [hsz]; rfl)).trans hA3
            exact m_v e1
        with_reducible refine xOps_cons ?_ ?_
        · with_reducible refine xop_un ?_ ?_
          · rfl
          · intro vs x F hF hd
            have e1 : F.tmps.getD 5 undef = .int .u8 ck := (hF.a 5 (by kernel_rfl) (by rw [hsz]; rfl)).trans hA5
            exact m_v e1
        with_reducible refine xOps_cons ?_ ?_
        · with_reducible refine xop_un ?_ ?_
          · rfl
          · intro vs x F hF hd
            have e1 : F.tmps.getD 13 undef = .int .u8 ck := (hF.v 13 1 (by kernel_rfl) (by rw [hsz]; rfl)).trans (dep_at hd 0 1 (is (.int .u8 ck)) (by kernel_rfl) (by kernel_rfl))
            exact s_shr4 e1
        with_reducible refine xOps_cons ?_ ?_
        · with_reducible refine xop_un ?_ ?_
          · rfl
          · intro vs x F hF hd
            have e1 : F.tmps.getD 14 undef = .int .u8 (ck / 16) := (hF.v 14 2 (by kernel_rfl) (by rw [hsz]; rfl)).trans (dep_at hd 0 2 (is (.int .u8 (ck / 16))) (by kernel_rfl) (by kernel_rfl))
            exact s_dig e1 hq0 hq1
        with_reducible refine xOps_cons ?_ ?_
        · with_reducible refine xop_un ?_ ?_
          · rfl
          · intro vs x F hF hd
            have e1 : F.tmps.getD 5 undef = .int .u8 ck := (hF.a 5 (by kernel_rfl) (by rw [hsz]; rfl)).trans hA5
            exact m_v e1
        with_reducible refine xOps_cons ?_ ?_
        · with_reducible refine xop_un ?_ ?_
          · rfl
          · intro vs x F hF hd
            have e1 : F.tmps.getD 16 undef = .int .u8 ck := (hF.v 16 4 (by kernel_rfl) (by rw [hsz]; rfl)).trans (dep_at hd 0 4 (is (.int .u8 ck)) (by kernel_rfl) (by kernel_rfl))
            exact s_and15 e1 hk0 hk1
        with_reducible refine xOps_cons ?_ ?_
        · with_reducible refine xop_un ?_ ?_
          · rfl
          · intro vs x F hF hd
            have e1 : F.tmps.getD 17 undef = .int .u8 (ck % 16) := (hF.v 17 5 (by kernel_rfl) (by rw [hsz]; rfl)).trans (dep_at hd 0 5 (is (.int .u8 (ck % 16))) (by kernel_rfl) (by kernel_rfl))
            exact s_dig e1 hr0 hr1
        with_reducible refine xOps_cons ?_ ?_
        · with_reducible refine xop_un ?_ ?_
          · rfl
          · intro vs x F hF hd
            have e15 : F.tmps.getD 15 undef = .int .u8 (dig (ck / 16)) := (hF.v 15 3 (by kernel_rfl) (by rw [hsz]; rfl)).trans (dep_at hd 0 3 (is (.int .u8 (dig (ck / 16)))) (by kernel_rfl) (by kernel_rfl))
            have e18 : F.tmps.getD 18 undef = .int .u8 (dig (ck % 16)) := (hF.v 18 6 (by kernel_rfl) (by rw [hsz]; rfl)).trans (dep_at hd 1 6 (is (.int .u8 (dig (ck % 16)))) (by kernel_rfl) (by kernel_rfl))
            rw [Array.getD_eq_getD_getElem?] at e15 e18
            clear hF hd
            simp only [comes]
            go_simp
            exact ⟨(Ext.refl _).alloc _, _, rfl, Cells.new _ _ _ _ rfl⟩
        exact xOps_nil
      case hst => exact ⟨is.st _, is.st _, is.st _, is.st _, is.st _, is.st _, is.st _, isRow.st _, trivial⟩
      case hfin =>
        intro vs x hf
        have f0 : vs 0 = .slice A3 (2 * k) c3 := hf.1
        obtain ⟨E, f7, hC⟩ := hf.2.2.2.2.2.2.2.1
        have g7 : vs 7 = .slice (some ⟨E, 0, none⟩) 2 2 := f7
        clear hf f7
        have hAq := HAq.out
        subst hAq
        clear hsz hA3 hA5
        simp only [List.take_succ_cons, List.take_zero, List.drop_succ_cons, List.drop_zero, putAll, Act.put, List.setIfInBounds_toArray, List.set_cons_succ, List.set_cons_zero, Nat.zero_add, Nat.reduceAdd]
        clear HAq
        rw [f0]
        clear f0
        rw [g7]
        clear g7
        have hs := SmR.ext' HS.out (show Ext Y (Y.plus x) from (by repeat (first | exact Ext.refl _ | assumption | apply Ext.plus_ | apply Ext.alloc | apply Ext.drew)))
        have hrw := Row.ofCells hC
        refine wpList_app _ rfl (.tmp 12) (.tmp 19) 22 rfl (.slice A3 (2 * k) c3) _ rfl rfl (app_own _ w.heap.size 22 _ 5 i0 (.int .u8 0) 1 Tryd.underlying22 hi hz0 hz1 hz2 rfl _ _ _ hs.own _ _ _ _ (bytes [dig (ck / 16), dig (ck % 16)]) hrw (bytes_one _) (by unfold maxLen; rw [hl3]; omega) (by rw [hl3]; omega) hs.size) ?_
        rintro v' W2 ha
        have hsm := hs.apped (nw' := [dig (ck / 16), dig (ck % 16)]) rfl ha (Nat.le_refl _)
        rw [hexI_succ l k ck HCK.out] at hsm
        have HS2 := Lib.hid hsm
        clear hs hrw ha hC hsm HS
        go_wp2
        go_roundw
        case rel => exact ⟨k + 1, by omega, by go_num, HS2⟩
        case measure => simp [intOf]; omega
    · have hkm : k = m := by omega
      have hki : ¬ (k : Int) < (m : Int) := by omega
      have e : l.take k = l := List.take_of_length_le (by rw [HA.out.2.2]; omega)
      rw [e] at HS
      have hbs := BS.of_own HS.out.own
      clear e hlt hk hkm
      go_upto_region 7 with fail
      refine wp_at fun Y hY => ?_
      rw [← hY] at HS hbs
      have HBS := Lib.hid hbs
      have HE := Lib.hid HS.out.ext
      clear hY hbs HS
      refine act_at fun A0 hAq => ?_
      have hsz : A0.tmps.size = 24 := by
        rw [hAq]
        rfl
      have hA3 : A0.tmps.getD 3 undef = .slice A3 (2 * k) c3 := by
        rw [hAq]
        first | rfl | kernel_rfl
      have HAq := Lib.hid hAq
      clear hAq
      apply wp_region_seq 2 [is (.slice A3 (2 * k) c3), is (.string (strOfNums (hexI l)))] (by kernel_rfl) (by kernel_rfl) rfl
      case hops =>
        simp only [List.take_succ_cons, List.take_zero]
        with_reducible refine xOps_cons ?_ ?_
        · with_reducible refine xop_un ?_ ?_
          · rfl
          · intro vs x F hF hd
            have e1 : F.tmps.getD 3 undef = .slice A3 (2 * k) c3 := (hF.a 3 (by kernel_rfl) (by rw [hsz]; rfl)).trans hA3
            exact m_v e1
        with_reducible refine xOps_cons ?_ ?_
        · with_reducible refine xop_un ?_ ?_
          · rfl
          · intro vs x F hF hd
            have e1 : F.tmps.getD 22 undef = .slice A3 (2 * k) c3 := (hF.v 22 0 (by kernel_rfl) (by rw [hsz]; rfl)).trans (dep_at hd 0 0 (is (.slice A3 (2 * k) c3)) (by kernel_rfl) (by kernel_rfl))
            exact comes_str (.tmp 22) rfl _ e1 (hexI l) (BS.lift HBS.out (show Ext Y (Y.plus x) from (by repeat (first | exact Ext.refl _ | assumption | apply Ext.plus_ | apply Ext.alloc | apply Ext.drew)))) ⟨Ext.refl _, rfl⟩
        exact xOps_nil
      case hst => exact ⟨is.st _, is.st _, trivial⟩
      case hfin =>
        intro vs x hf
        have f1 : vs 1 = .string (strOfNums (hexI l)) := hf.2.1
        clear hf
        have hAq := HAq.out
        subst hAq
        clear hsz hA3
        simp only [List.take_succ_cons, List.take_zero, List.drop_succ_cons, List.drop_zero, putAll, Act.put, List.setIfInBounds_toArray, List.set_cons_succ, List.set_cons_zero, Nat.zero_add, Nat.reduceAdd]
        clear HAq
        rw [f1]
        clear f1
        go_wp2
        go_ret
        exact ⟨rfl, HE.out.trans (by repeat (first | exact Ext.refl _ | assumption | apply Ext.plus_ | apply Ext.alloc | apply Ext.drew))⟩
set_option maxRecDepth 100000 in
set_option maxHeartbeats 8000000 in
theorem refText_core (A : Option Addr) (m c : Nat) (l : List Int) (w : World) (hB : BS w (.slice A m c) l) (hb : By l) (hl : l.length ≤ 549755813888) :
    Calls Tryd.prog 13 #[.slice A m c] w fun e w' => e = .returned (.string (strOfNums (hexI l))) ∧ Ext w w' := by
  obtain ⟨hrow, hmc, hcm, hnil, hml⟩ := hB.at_
  have HA := Lib.hid (And.intro hrow (And.intro hb hml))
  have hmb : m ≤ 549755813888 := by omega
  clear hrow hb hml hl hB hnil
  go_enter Tryd.func13, Tryd.ntmps13
  go_upto_region 2 with fail
  refine wp_at fun Y hY => ?_
  have hE : Ext w Y := by
    rw [hY]
    exact (by repeat (first | exact Ext.refl _ | assumption | apply Ext.plus_ | apply Ext.alloc | apply Ext.drew))
  have HE := Lib.hid hE
  clear hY hE
  go_wp2
  go_loopw [3, 4] (fun v3 v4 wr => ∃ (k : Nat) (st : ByteArray), k ≤ m ∧ v3 = .string st ∧ v4 = nw k ∧ Hid (st = strOfNums (hexI (l.take k)) ∧ Ext w wr)) (fun _ v4 _ => m - (intOf v4).toNat)
  case atStart => exact ⟨0, _, Nat.zero_le _, rfl, rfl, Lib.hid ⟨rfl, HE.out⟩⟩
  case round =>
    clear HE
    obtain ⟨k, st, hk, rfl, rfl, HS⟩ := hrel
    by_cases hlt : k < m
    · have hki : (k : Int) < (m : Int) := by omega
      obtain ⟨ck, hck⟩ : ∃ ck, l[k]? = some ck := ⟨_, List.getElem?_eq_getElem (by rw [HA.out.2.2]; exact hlt)⟩
      obtain ⟨hk0, hk1⟩ := byte_at_ HA.out.2.1 hck
      obtain ⟨b, o, rfl, hbw, hcell⟩ := (HA.out.1.lift HS.out.2).2 (by omega)
      have hcl0 := hcell k (.int .u8 ck) (by rw [bytes, List.getElem?_map, hck]; rfl)
      have hq0 : 0 ≤ ck / 16 := by omega
      have hq1 : ck / 16 < 16 := by omega
      have hr0 : 0 ≤ ck % 16 := by omega
      have hr1 : ck % 16 < 16 := by omega
      have hz0 : st.size + (strOfNums [dig (ck / 16)]).size ≤ 140737488355328 := by
        rw [HS.out.1, strOfNums_size, strOfNums_size, hexI_len, List.length_take]
        simp only [List.length_cons, List.length_nil]
        omega
      have hz1 : (st ++ strOfNums [dig (ck / 16)]).size + (strOfNums [dig (ck % 16)]).size ≤ 140737488355328 := by
        rw [ByteArray.size_append, HS.out.1, strOfNums_size, strOfNums_size, strOfNums_size, hexI_len, List.length_take]
        simp only [List.length_cons, List.length_nil]
        omega
      obtain ⟨s2, hs2⟩ : ∃ s2, s2 = st ++ strOfNums [dig (ck / 16)] ++ strOfNums [dig (ck % 16)] := ⟨_, rfl⟩
      have hs3 : s2 = strOfNums (hexI (l.take (k + 1))) := by
        rw [hs2, HS.out.1, strOfNums_append, strOfNums_append, List.append_assoc, ← hexI_succ l k ck hck]
        rfl
      have H3 := Lib.hid hs3
      clear hck hcell hs3
      go_upto_region 5 with fail
      refine wp_at fun Y hY => ?_
      rw [← hY] at HS
      have hcl : Y.cell? ⟨b, o + k, none⟩ = some (.int .u8 ck) := by
        rw [hY]
        exact hcl0
      have HE := Lib.hid HS.out.2
      clear hY hcl0 hbw HS
      refine act_at fun A0 hAq => ?_
      have hsz : A0.tmps.size = 39 := by
        rw [hAq]
        rfl
      have hA0 : A0.tmps.getD 0 undef = .slice (some ⟨b, o, none⟩) m c := by
        rw [hAq]
        first | rfl | kernel_rfl
      have hA3 : A0.tmps.getD 3 undef = .string st := by
        rw [hAq]
        first | rfl | kernel_rfl
      have hA4 : A0.tmps.getD 4 undef = nw (k) := by
        rw [hAq]
        first | rfl | kernel_rfl
      have HAq := Lib.hid hAq
      clear hAq
      apply wp_region_ext 27 [is (.string st), is (.slice (some ⟨b, o, none⟩) m c), is (nw (k)), is (.pointer (some ⟨b, o + k, none⟩)), is (.int .u8 ck), is (.int .u8 (ck / 16)), is (.slice (some ⟨b, o, none⟩) m c), is (nw (k)), is (.pointer (some ⟨b, o + k, none⟩)), is (.int .u8 ck), is (.int .u8 (ck / 16)), is (.int .u8 ((ck / 16) + 1)), is (.string (strOfNums [dig (ck / 16)])), is (.string (st ++ (strOfNums [dig (ck / 16)]))), is (.slice (some ⟨b, o, none⟩) m c), is (nw (k)), is (.pointer (some ⟨b, o + k, none⟩)), is (.int .u8 ck), is (.int .u8 (ck % 16)), is (.slice (some ⟨b, o, none⟩) m c), is (nw (k)), is (.pointer (some ⟨b, o + k, none⟩)), is (.int .u8 ck), is (.int .u8 (ck % 16)), is (.int .u8 ((ck % 16) + 1)), is (.string (strOfNums [dig (ck % 16)])), is (.string ((st ++ (strOfNums [dig (ck / 16)])) ++ (strOfNums [dig (ck % 16)])))] (by kernel_rfl) (by kernel_rfl) rfl
      case hops =>
        simp only [List.take_succ_cons, List.take_zero]
        with_reducible refine xOps_cons ?_ ?_
        · with_reducible refine xop_un ?_ ?_
          · rfl
          · intro vs x F hF hd
            have e1 : F.tmps.getD 3 undef = .string st := (hF.a 3 (by kernel_rfl) (by rw [hsz]; rfl)).trans hA3
            exact m_v e1
        with_reducible refine xOps_cons ?_ ?_
        · with_reducible refine xop_un ?_ ?_
          · rfl
          · intro vs x F hF hd
            have e1 : F.tmps.getD 0 undef = .slice (some ⟨b, o, none⟩) m c := (hF.a 0 (by kernel_rfl) (by rw [hsz]; rfl)).trans hA0
            exact m_v e1
        with_reducible refine xOps_cons ?_ ?_
        · with_reducible refine xop_un ?_ ?_
          · rfl
          · intro vs x F hF hd
            have e1 : F.tmps.getD 4 undef = nw (k) := (hF.a 4 (by kernel_rfl) (by rw [hsz]; rfl)).trans hA4
            exact m_v e1
        with_reducible refine xOps_cons ?_ ?_
        · with_reducible refine xop_un ?_ ?_
          · rfl
          · intro vs x F hF hd
            have e1 : F.tmps.getD 12 undef = .slice (some ⟨b, o, none⟩) m c := (hF.v 12 1 (by kernel_rfl) (by rw [hsz]; rfl)).trans (dep_at hd 0 1 (is (.slice (some ⟨b, o, none⟩) m c)) (by kernel_rfl) (by kernel_rfl))
            have e2 : F.tmps.getD 13 undef = nw (k) := (hF.v 13 2 (by kernel_rfl) (by rw [hsz]; rfl)).trans (dep_at hd 1 2 (is (nw (k))) (by kernel_rfl) (by kernel_rfl))
            exact a_sl (n := k) e1 e2 (by omega)
        with_reducible refine xOps_cons ?_ ?_
        · with_reducible refine xop_un ?_ ?_
          · rfl
          · intro vs x F hF hd
            have e1 : F.tmps.getD 14 undef = .pointer (some ⟨b, o + k, none⟩) := (hF.v 14 3 (by kernel_rfl) (by rw [hsz]; rfl)).trans (dep_at hd 0 3 (is (.pointer (some ⟨b, o + k, none⟩))) (by kernel_rfl) (by kernel_rfl))
            exact l_b e1 (cell_plus x hcl)
        with_reducible refine xOps_cons ?_ ?_
        · with_reducible refine xop_un ?_ ?_
          · rfl
          · intro vs x F hF hd
            have e1 : F.tmps.getD 15 undef = .int .u8 ck := (hF.v 15 4 (by kernel_rfl) (by rw [hsz]; rfl)).trans (dep_at hd 0 4 (is (.int .u8 ck)) (by kernel_rfl) (by kernel_rfl))
            exact r_quo e1 hk0 hk1
        with_reducible refine xOps_cons ?_ ?_
        · with_reducible refine xop_un ?_ ?_
          · rfl
          · intro vs x F hF hd
            have e1 : F.tmps.getD 0 undef = .slice (some ⟨b, o, none⟩) m c := (hF.a 0 (by kernel_rfl) (by rw [hsz]; rfl)).trans hA0
            exact m_v e1
        with_reducible refine xOps_cons ?_ ?_
        · with_reducible refine xop_un ?_ ?_
          · rfl
          · intro vs x F hF hd
            have e1 : F.tmps.getD 4 undef = nw (k) := (hF.a 4 (by kernel_rfl) (by rw [hsz]; rfl)).trans hA4
            exact m_v e1
        with_reducible refine xOps_cons ?_ ?_
        · with_reducible refine xop_un ?_ ?_
          · rfl
          · intro vs x F hF hd
            have e1 : F.tmps.getD 17 undef = .slice (some ⟨b, o, none⟩) m c := (hF.v 17 6 (by kernel_rfl) (by rw [hsz]; rfl)).trans (dep_at hd 0 6 (is (.slice (some ⟨b, o, none⟩) m c)) (by kernel_rfl) (by kernel_rfl))
            have e2 : F.tmps.getD 18 undef = nw (k) := (hF.v 18 7 (by kernel_rfl) (by rw [hsz]; rfl)).trans (dep_at hd 1 7 (is (nw (k))) (by kernel_rfl) (by kernel_rfl))
            exact a_sl (n := k) e1 e2 (by omega)
        with_reducible refine xOps_cons ?_ ?_
        · with_reducible refine xop_un ?_ ?_
          · rfl
          · intro vs x F hF hd
            have e1 : F.tmps.getD 19 undef = .pointer (some ⟨b, o + k, none⟩) := (hF.v 19 8 (by kernel_rfl) (by rw [hsz]; rfl)).trans (dep_at hd 0 8 (is (.pointer (some ⟨b, o + k, none⟩))) (by kernel_rfl) (by kernel_rfl))
            exact l_b e1 (cell_plus x hcl)
        with_reducible refine xOps_cons ?_ ?_
        · with_reducible refine xop_un ?_ ?_
          · rfl
          · intro vs x F hF hd
            have e1 : F.tmps.getD 20 undef = .int .u8 ck := (hF.v 20 9 (by kernel_rfl) (by rw [hsz]; rfl)).trans (dep_at hd 0 9 (is (.int .u8 ck)) (by kernel_rfl) (by kernel_rfl))
            exact r_quo e1 hk0 hk1
        with_reducible refine xOps_cons ?_ ?_
        · with_reducible refine xop_un ?_ ?_
          · rfl
          · intro vs x F hF hd
            have e1 : F.tmps.getD 21 undef = .int .u8 (ck / 16) := (hF.v 21 10 (by kernel_rfl) (by rw [hsz]; rfl)).trans (dep_at hd 0 10 (is (.int .u8 (ck / 16))) (by kernel_rfl) (by kernel_rfl))
            exact r_add1 e1 hq0 hq1
        with_reducible refine xOps_cons ?_ ?_
        · with_reducible refine xop_un ?_ ?_
          · rfl
          · intro vs x F hF hd
            have e1 : F.tmps.getD 16 undef = .int .u8 (ck / 16) := (hF.v 16 5 (by kernel_rfl) (by rw [hsz]; rfl)).trans (dep_at hd 0 5 (is (.int .u8 (ck / 16))) (by kernel_rfl) (by kernel_rfl))
            have e2 : F.tmps.getD 22 undef = .int .u8 ((ck / 16) + 1) := (hF.v 22 11 (by kernel_rfl) (by rw [hsz]; rfl)).trans (dep_at hd 1 11 (is (.int .u8 ((ck / 16) + 1))) (by kernel_rfl) (by kernel_rfl))
            exact r_sl e1 e2 hq0 hq1
        with_reducible refine xOps_cons ?_ ?_
        · with_reducible refine xop_un ?_ ?_
          · rfl
          · intro vs x F hF hd
            have e1 : F.tmps.getD 11 undef = .string st := (hF.v 11 0 (by kernel_rfl) (by rw [hsz]; rfl)).trans (dep_at hd 0 0 (is (.string st)) (by kernel_rfl) (by kernel_rfl))
            have e2 : F.tmps.getD 23 undef = .string (strOfNums [dig (ck / 16)]) := (hF.v 23 12 (by kernel_rfl) (by rw [hsz]; rfl)).trans (dep_at hd 1 12 (is (.string (strOfNums [dig (ck / 16)]))) (by kernel_rfl) (by kernel_rfl))
            exact r_cat e1 e2 hz0
        with_reducible refine xOps_cons ?_ ?_
        · with_reducible refine xop_un ?_ ?_
          · rfl
          · intro vs x F hF hd
            have e1 : F.tmps.getD 0 undef = .slice (some ⟨b, o, none⟩) m c := (hF.a 0 (by kernel_rfl) (by rw [hsz]; rfl)).trans hA0
            exact m_v e1
        with_reducible refine xOps_cons ?_ ?_
        · with_reducible refine xop_un ?_ ?_
          · rfl
          · intro vs x F hF hd
            have e1 : F.tmps.getD 4 undef = nw (k) := (hF.a 4 (by kernel_rfl) (by rw [hsz]; rfl)).trans hA4
            exact m_v e1
        with_reducible refine xOps_cons ?_ ?_
        · with_reducible refine xop_un ?_ ?_
          · rfl
          · intro vs x F hF hd
            have e1 : F.tmps.getD 25 undef = .slice (some ⟨b, o, none⟩) m c := (hF.v 25 14 (by kernel_rfl) (by rw [hsz]; rfl)).trans (dep_at hd 0 14 (is (.slice (some ⟨b, o, none⟩) m c)) (by kernel_rfl) (by kernel_rfl))
            have e2 : F.tmps.getD 26 undef = nw (k) := (hF.v 26 15 (by kernel_rfl) (by rw [hsz]; rfl)).trans (dep_at hd 1 15 (is (nw (k))) (by kernel_rfl) (by kernel_rfl))
            exact a_sl (n := k) e1 e2 (by omega)
        with_reducible refine xOps_cons ?_ ?_
        · with_reducible refine xop_un ?_ ?_
          · rfl
          · intro vs x F hF hd
            have e1 : F.tmps.getD 27 undef = .pointer (some ⟨b, o + k, none⟩) := (hF.v 27 16 (by kernel_rfl) (by rw [hsz]; rfl)).trans (dep_at hd 0 16 (is (.pointer (some ⟨b, o + k, none⟩))) (by kernel_rfl) (by kernel_rfl))
            exact l_b e1 (cell_plus x hcl)
        with_reducible refine xOps_cons ?_ ?_
        · with_reducible refine xop_un ?_ ?_
          · rfl
          · intro vs x F hF hd
            have e1 : F.tmps.getD 28 undef = .int .u8 ck := (hF.v 28 17 (by kernel_rfl) (by rw [hsz]; rfl)).trans (dep_at hd 0 17 (is (.int .u8 ck)) (by kernel_rfl) (by kernel_rfl))
            exact r_rem e1 hk0 hk1
        with_reducible refine xOps_cons ?_ ?_
        · with_reducible refine xop_un ?_ ?_
          · rfl
          · intro vs x F hF hd
            have e1 : F.tmps.getD 0 undef = .slice (some ⟨b, o, none⟩) m c := (hF.a 0 (by kernel_rfl) (by rw [hsz]; rfl)).trans hA0
            exact m_v e1
        with_reducible refine xOps_cons ?_ ?_
        · with_reducible refine xop_un ?_ ?_
          · rfl
          · intro vs x F hF hd
            have e1 : F.tmps.getD 4 undef = nw (k) := (hF.a 4 (by kernel_rfl) (by rw [hsz]; rfl)).trans hA4
            exact m_v e1
        with_reducible refine xOps_cons ?_ ?_
        · with_reducible refine xop_un ?_ ?_
          · rfl
          · intro vs x F hF hd
            have e1 : F.tmps.getD 30 undef = .slice (some ⟨b, o, none⟩) m c := (hF.v 30 19 (by kernel_rfl) (by rw [hsz]; rfl)).trans (dep_at hd 0 19 (is (.slice (some ⟨b, o, none⟩) m c)) (by kernel_rfl) (by kernel_rfl))
            have e2 : F.tmps.getD 31 undef = nw (k) := (hF.v 31 20 (by kernel_rfl) (by rw [hsz]; rfl)).trans (dep_at hd 1 20 (is (nw (k))) (by kernel_rfl) (by kernel_rfl))
            exact a_sl (n := k) e1 e2 (by omega)
        with_reducible refine xOps_cons ?_ ?_
        · with_reducible refine xop_un ?_ ?_
          · rfl
          · intro vs x F hF hd
            have e1 : F.tmps.getD 32 undef = .pointer (some ⟨b, o + k, none⟩) := (hF.v 32 21 (by kernel_rfl) (by rw [hsz]; rfl)).trans (dep_at hd 0 21 (is (.pointer (some ⟨b, o + k, none⟩))) (by kernel_rfl) (by kernel_rfl))
            exact l_b e1 (cell_plus x hcl)
        with_reducible refine xOps_cons ?_ ?_
        · with_reducible refine xop_un ?_ ?_
          · rfl
          · intro vs x F hF hd
            have e1 : F.tmps.getD 33 undef = .int .u8 ck := (hF.v 33 22 (by kernel_rfl) (by rw [hsz]; rfl)).trans (dep_at hd 0 22 (is (.int .u8 ck)) (by kernel_rfl) (by kernel_rfl))
            exact r_rem e1 hk0 hk1
        with_reducible refine xOps_cons ?_ ?_
        · with_reducible refine xop_un ?_ ?_
          · rfl
          · intro vs x F hF hd
            have e1 : F.tmps.getD 34 undef = .int .u8 (ck % 16) := (hF.v 34 23 (by kernel_rfl) (by rw [hsz]; rfl)).trans (dep_at hd 0 23 (is (.int .u8 (ck % 16))) (by kernel_rfl) (by kernel_rfl))
            exact r_add1 e1 hr0 hr1
        with_reducible refine xOps_cons ?_ ?_
        · with_reducible refine xop_un ?_ ?_
          · rfl
          · intro vs x F hF hd
            have e1 : F.tmps.getD 29 undef = .int .u8 (ck % 16) := (hF.v 29 18 (by kernel_rfl) (by rw [hsz]; rfl)).trans (dep_at hd 0 18 (is (.int .u8 (ck % 16))) (by kernel_rfl) (by kernel_rfl))
            have e2 : F.tmps.getD 35 undef = .int .u8 ((ck % 16) + 1) := (hF.v 35 24 (by kernel_rfl) (by rw [hsz]; rfl)).trans (dep_at hd 1 24 (is (.int .u8 ((ck % 16) + 1))) (by kernel_rfl) (by kernel_rfl))
            exact r_sl e1 e2 hr0 hr1
        with_reducible refine xOps_cons ?_ ?_
        · with_reducible refine xop_un ?_ ?_
          · rfl
          · intro vs x F hF hd
            have e1 : F.tmps.getD 24 undef = .string (st ++ (strOfNums [dig (ck / 16)])) := (hF.v 24 13 (by kernel_rfl) (by rw [hsz]; rfl)).trans (dep_at hd 0 13 (is (.string (st ++ (strOfNums [dig (ck / 16)])))) (by kernel_rfl) (by kernel_rfl))
            have e2 : F.tmps.getD 36 undef = .string (strOfNums [dig (ck % 16)]) := (hF.v 36 25 (by kernel_rfl) (by rw [hsz]; rfl)).trans (dep_at hd 1 25 (is (.string (strOfNums [dig (ck % 16)]))) (by kernel_rfl) (by kernel_rfl))
            exact r_cat e1 e2 hz1
        exact xOps_nil
      case hst => exact ⟨is.st _, is.st _, is.st _, is.st _, is.st _, is.st _, is.st _, is.st _, is.st _, is.st _, is.st _, is.st _, is.st _, is.st _, is.st _, is.st _, is.st _, is.st _, is.st _, is.st _, is.st _, is.st _, is.st _, is.st _, is.st _, is.st _, is.st _, trivial⟩
      case hfin =>
        intro vs x hf
        have f26 : vs 26 = .string s2 := (show vs 26 = .string ((st ++ (strOfNums [dig (ck / 16)])) ++ (strOfNums [dig (ck % 16)])) from hf.2.2.2.2.2.2.2.2.2.2.2.2.2.2.2.2.2.2.2.2.2.2.2.2.2.2.1).trans (by rw [hs2])
        clear hf
        have hAq := HAq.out
        subst hAq
        clear hsz hA0 hA3 hA4
        simp only [List.take_succ_cons, List.take_zero, List.drop_succ_cons, List.drop_zero, putAll, Act.put, List.setIfInBounds_toArray, List.set_cons_succ, List.set_cons_zero, Nat.zero_add, Nat.reduceAdd]
        clear HAq
        rw [f26]
        clear f26
        clear hs2
        go_wp2
        go_roundw
        case rel => exact ⟨k + 1, s2, by omega, rfl, by go_num, Lib.hid ⟨H3.out, HE.out.trans (by repeat (first | exact Ext.refl _ | assumption | apply Ext.plus_ | apply Ext.alloc | apply Ext.drew))⟩⟩
        case measure => simp [intOf]; omega
    · have hkm : k = m := by omega
      have hki : ¬ (k : Int) < (m : Int) := by omega
      have e : l.take k = l := List.take_of_length_le (by rw [HA.out.2.2]; omega)
      have hst := HS.out.1
      rw [e] at hst
      have H3 := Lib.hid (And.intro hst HS.out.2)
      clear e hlt hk hkm hst HS
      go_wp2
      go_ret
      exact ⟨by rw [← H3.out.1]; rfl, H3.out.2.trans (by repeat (first | exact Ext.refl _ | assumption | apply Ext.plus_ | apply Ext.alloc | apply Ext.drew))⟩
end Go.Proofs.YtbdahlfakinagaaDoor
